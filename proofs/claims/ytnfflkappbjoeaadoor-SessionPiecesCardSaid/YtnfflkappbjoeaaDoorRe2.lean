/- The contract of resp.number; resp.Read of no bytes. -/
import Derived.Test.YtnfflkappbjoeaaDoorRe1
namespace Go.Proofs.YtnfflkappbjoeaaDoor
open Go.ChangeShapes Go.WideShapes Go.ChangeAt Go.RowKit Go.Resp

theorem number_any (blk off : Nat) (l : List UInt8) (cap at_ : Nat) (hmaxl : l.length ≤ maxLen) (ai m least most : Int) (hmost : 0 ≤ most) (hmost' : most ≤ 1000000) (ha : ai = (at_ : Int)) (hle : at_ ≤ l.length)
    (w : World) (hB : Bytes w blk off l) :
    Calls Tryd.prog 25 #[.slice (some ⟨blk, off, none⟩) l.length cap, .int .i64 ai, .int .u8 m, .int .i64 least, .int .i64 most] w fun e w' => e = .returned (num3 (numL l at_ m least most)) ∧ w = w' := by
  by_cases hlt : at_ < l.length
  · obtain ⟨c, hc⟩ : ∃ c, l[at_]? = some c := ⟨_, List.getElem?_eq_getElem hlt⟩
    have hd := drop_at hc
    by_cases hm : (c.toNat : Int) = m
    · have e : numL l at_ m least most = numS least most (l.drop (at_ + 1)) (at_ + 1) 0 0 := by unfold numL; rw [hd]; simp only; rw [if_pos hm]
      rw [e]
      exact number_some blk off l cap at_ hmaxl ai m least most hmost hmost' ha hlt c hc hm w hB
    · have e : numL l at_ m least most = (0, at_, 2) := by unfold numL; rw [hd]; simp only; rw [if_neg hm]
      rw [e]
      exact number_mark blk off l cap at_ hmaxl ai m least most ha hlt c hc hm w hB
  · have e : at_ = l.length := by omega
    subst e
    have e : numL l l.length m least most = (0, l.length, 1) := by unfold numL; rw [List.drop_length]
    rw [e]
    exact number_none _ _ cap ai m least most ha w
theorem numS_bd (least most : Int) (hm : 0 ≤ most) (l : List UInt8) : ∀ (r : List UInt8) (at_ : Nat) (n : Int) (d : Nat), r = l.drop at_ → at_ ≤ l.length → 0 ≤ n → n ≤ most →
    0 ≤ (numS least most r at_ n d).1 ∧ (numS least most r at_ n d).1 ≤ most ∧ (numS least most r at_ n d).2.1 ≤ l.length ∧ (numS least most r at_ n d).2.2 ≤ 2 := by
  intro r
  induction r with
  | nil => intro at_ n d _ h _ _; simp only [numS]; omega
  | cons c r ih =>
    intro at_ n d hr hat h0 h1
    have hlt : at_ < l.length := by
      rcases Nat.lt_or_ge at_ l.length with h | h
      · exact h
      · rw [List.drop_of_length_le h] at hr; cases hr
    have hr' : r = l.drop (at_ + 1) := by
      rw [List.drop_eq_getElem_cons hlt] at hr
      injection hr
    unfold numS
    split
    · split
      · exact ⟨Int.le_refl _, hm, hat, by simp⟩
      · exact ih _ _ _ hr' hlt (by omega) (by omega)
    · split
      · split
        · exact ⟨Int.le_refl _, hm, hat, by simp⟩
        · have hlen := congrArg List.length hr'
          split
          · refine ⟨h0, h1, ?_, by simp⟩
            have this := hlen
            rw [List.length_cons, List.length_drop] at this
            show at_ + 2 ≤ _
            omega
          · exact ⟨Int.le_refl _, hm, hat, by simp⟩
      · exact ⟨Int.le_refl _, hm, hat, by simp⟩
theorem numL_bd (l : List UInt8) (at_ : Nat) (h : at_ ≤ l.length) (m least most : Int) (hm : 0 ≤ most) :
    0 ≤ (numL l at_ m least most).1 ∧ (numL l at_ m least most).1 ≤ most ∧ (numL l at_ m least most).2.1 ≤ l.length ∧ (numL l at_ m least most).2.2 ≤ 2 := by
  unfold numL
  split
  · exact ⟨Int.le_refl _, hm, h, by simp⟩
  · rename_i c r hd
    have hlt : at_ < l.length := by
      rcases Nat.lt_or_ge at_ l.length with h | h
      · exact h
      · rw [List.drop_of_length_le h] at hd; cases hd
    have hr' : r = l.drop (at_ + 1) := by
      rw [List.drop_eq_getElem_cons hlt] at hd
      injection hd with _ hd; exact hd.symm
    split
    · exact numS_bd least most hm l r _ _ _ hr' hlt (Int.le_refl _) hm
    · exact ⟨Int.le_refl _, hm, h, by simp⟩
/-- A text's value. -/
def strV (l : List UInt8) : Value := .string ⟨l.toArray⟩
theorem Bytes.below {B : Nat} {w w' : World} {blk off : Nat} {l : List UInt8} (h : Bytes w blk off l) (hb : Below B w w') (hlt : blk < B) : Bytes w' blk off l :=
  fun i c hc => (hb.cell (p := ⟨blk, off + i, none⟩) hlt).trans (h i c hc)

theorem tmps_fn (t : Array Value) (n : Nat) (h : t.size = n) : t = (Array.range n).map (fun i => t.getD i undef) := by
  apply Array.ext
  · simp [h]
  · intro i h1 h2
    simp [Array.getD, h1]
theorem tmps87 (f : Nat → Value) : (Array.range 87).map f = #[f 0, f 1, f 2, f 3, f 4, f 5, f 6, f 7, f 8, f 9, f 10, f 11, f 12, f 13, f 14, f 15, f 16, f 17, f 18, f 19, f 20, f 21, f 22, f 23, f 24, f 25, f 26, f 27, f 28, f 29, f 30, f 31, f 32, f 33, f 34, f 35, f 36, f 37, f 38, f 39, f 40, f 41, f 42, f 43, f 44, f 45, f 46, f 47, f 48, f 49, f 50, f 51, f 52, f 53, f 54, f 55, f 56, f 57, f 58, f 59, f 60, f 61, f 62, f 63, f 64, f 65, f 66, f 67, f 68, f 69, f 70, f 71, f 72, f 73, f 74, f 75, f 76, f 77, f 78, f 79, f 80, f 81, f 82, f 83, f 84, f 85, f 86] := by kernel_rfl
/-- Read's label: nothing is handed back; how it stands is told. -/
def AtEnd (sl : Value) (B : Nat) (w0 : World) (l : List UInt8) (a' : Act) (w' : World) : Prop := ∃ st : Nat, (st = 1 ∨ st = 2) ∧ readT l = ([], 0, st) ∧ Below B w0 w' ∧
  a'.defers = [] ∧ a'.tmps.size = 87 ∧ a'.tmps.getD 0 undef = sl ∧ a'.tmps.getD 1 undef = undef ∧ a'.tmps.getD 2 undef = .slice none 0 0 ∧ a'.tmps.getD 3 undef = .int .i64 0 ∧ a'.tmps.getD 4 undef = .int .i64 0 ∧ a'.tmps.getD 9 undef = .int .i64 (st : Int)
theorem AtEnd.open_ {sl : Value} {B : Nat} {w0 : World} {l : List UInt8} {a' : Act} {w' : World} (h : AtEnd sl B w0 l a' w') : ∃ (st : Nat) (f : Nat → Value), (st = 1 ∨ st = 2) ∧ readT l = ([], 0, st) ∧ Below B w0 w' ∧
    a' = { tmps := #[sl, undef, .slice none 0 0, .int .i64 0, .int .i64 0, f 5, f 6, f 7, f 8, .int .i64 (st : Int), f 10, f 11, f 12, f 13, f 14, f 15, f 16, f 17, f 18, f 19, f 20, f 21, f 22, f 23, f 24, f 25, f 26, f 27, f 28, f 29, f 30, f 31, f 32, f 33, f 34, f 35, f 36, f 37, f 38, f 39, f 40, f 41, f 42, f 43, f 44, f 45, f 46, f 47, f 48, f 49, f 50, f 51, f 52, f 53, f 54, f 55, f 56, f 57, f 58, f 59, f 60, f 61, f 62, f 63, f 64, f 65, f 66, f 67, f 68, f 69, f 70, f 71, f 72, f 73, f 74, f 75, f 76, f 77, f 78, f 79, f 80, f 81, f 82, f 83, f 84, f 85, f 86], defers := [] } := by
  obtain ⟨st, h1, h2, h3, hd, hs, e0, e1, e2, e3, e4, e9⟩ := h
  refine ⟨st, fun i => a'.tmps.getD i undef, h1, h2, h3, ?_⟩
  have ht := tmps_fn a'.tmps 87 hs
  rw [tmps87] at ht
  obtain ⟨t, d⟩ := a'
  simp only at *
  subst hd
  congr 1
  rw [e0, e1, e2, e3, e4, e9] at ht
  exact ht
/-- What Read hands back. -/
def Back (B : Nat) (w0 : World) (l : List UInt8) (e : Ending) (w' : World) : Prop := ∃ (v : Value) (xs : List (List UInt8)) (p st : Nat),
  readT l = (xs, p, st) ∧ e = .returned (.tuple #[v, .int .i64 (p : Int), .int .i64 (codeOf st)]) ∧ w'.ownsRow B 9 1 v xs.length (xs.map strV) ∧ Below B w0 w'
theorem back_none {B : Nat} {w0 w' : World} {l : List UInt8} {st : Nat} (h : readT l = ([], 0, st)) (hb : Below B w0 w') : Back B w0 l (.returned (.tuple #[.slice none 0 0, .int .i64 0, .int .i64 (codeOf st)])) w' :=
  ⟨_, [], 0, st, h, rfl, World.ownsRow_nil _ _ _ _, hb⟩
theorem readT_nil : readT [] = ([], 0, 1) := rfl
theorem read_nil (A : Option Addr) (cap : Nat) (w : World) : Calls Tryd.prog 18 #[.slice A 0 cap] w (Back w.heap.size w []) := by
  have C := number_none A 0 cap 0 42 1 1024 rfl
  rw [show num3 (0, 0, 1) = .tuple #[.int .i64 0, .int .i64 0, .int .i64 1] from rfl] at C
  have C' := Lib.hid C
  clear C
  have hb := Below.refl w.heap.size w
  go_enter Tryd.func18, Tryd.ntmps18
  go_wp2
  refine wp_scope_jumps 0 (AtEnd (.slice A 0 cap) w.heap.size w []) (fun _ _ => 0) rfl ?_ ?_
  · go_wp2_with (go_at_call 25; refine (C'.out _).mono ?_; rintro e w' ⟨rfl, rfl⟩)
    go_step3
    exact ⟨rfl, 1, .inl rfl, rfl, hb, rfl, rfl, rfl, rfl, rfl, rfl, rfl, rfl⟩
  · intro a' w' hJ
    obtain ⟨st, f, hst, hr, hb', rfl⟩ := hJ.open_
    clear hJ
    have HR := Lib.hid hr
    have HB := Lib.hid hb'
    clear hr hb' hb
    rcases hst with rfl | rfl
    · go_wp2_with fail
      simp only [Exit.jump]
      go_ret3
      exact back_none HR.out HB.out
    · go_wp2_with fail
      simp only [Exit.jump]
      go_ret3
      exact back_none HR.out HB.out
end Go.Proofs.YtnfflkappbjoeaaDoor
