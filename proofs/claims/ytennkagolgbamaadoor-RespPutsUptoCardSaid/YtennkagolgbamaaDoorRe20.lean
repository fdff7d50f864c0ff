/- What a reply reads as; the law's deep and size. -/
import Derived.Test.YtennkagolgbamaaDoorRe14
import Derived.Deep.MidRow
import Derived.Lib.ItoaLen
import Derived.Lib.SmallJoins
namespace Go.Proofs.YtennkagolgbamaaDoor
open Go.ChangeShapes Go.WideShapes Go.ChangeAt Go.RowKit Go.Resp

def Fits (n : Int) : Prop := -9223372036854775808 ≤ n ∧ n ≤ 9223372036854775807
/-- A reply's text. -/
def putL (k n : Int) (s : ByteArray) (m : Nat) (outs : Nat → List UInt8) : List UInt8 :=
  if k = 1 then lineL (43 :: s.data.toList)
  else if k = 2 then lineL (45 :: 69 :: 82 :: 82 :: 32 :: Lib.itoa n)
  else if k = 3 then lineL (58 :: Lib.itoa n)
  else if k = 4 then lineL (36 :: Lib.decDigits s.size) ++ lineL s.data.toList
  else if k = 5 then lineL [36, 45, 49]
  else if k = 7 then lineL [42, 45, 49]
  else if k = 6 then lineL (42 :: Lib.decDigits m) ++ (List.range m).flatMap outs
  else []
def repC (k n : Int) (s : ByteArray) (l : Value) : List Value := [.int .i64 k, .int .i64 n, .string s, l]
/-- What a reply in memory reads as: its bulk, its text. -/
inductive RV (w : World) : Int → Int → ByteArray → Value → Nat → List UInt8 → Prop
  | mk (k n : Int) (s : ByteArray) (A : Option Addr) (m cap blk off : Nat) (ks ns : Nat → Int) (ss : Nat → ByteArray) (ls : Nat → Value) (bs : Nat → Nat) (outs : Nat → List UInt8) (b : Nat)
      (hk : Fits k) (hn : Fits n) (hm : m ≤ cap) (hc : cap ≤ maxLen) (hA : 0 < m → A = some ⟨blk, off, none⟩ ∧ blk < w.heap.size)
      (hcell : ∀ i, i < m → w.rangeAt blk (off + i * 4) (repC (ks i) (ns i) (ss i) (ls i)))
      (hv : ∀ i, i < m → RV w (ks i) (ns i) (ss i) (ls i) (bs i) (outs i))
      (hb : 1 + s.size + ((List.range m).map bs).sum ≤ b) : RV w k n s (.slice A m cap) b (putL k n s m outs)
theorem Tryd.size24 : (Tryd.prog.info? 24).map (·.size) = some 4 := by kernel_rfl
theorem rangeAt_below {w w' : World} {b o : Nat} {cs : List Value} (h : w.rangeAt b o cs) (hb : Below w.heap.size w w') (hl : b < w.heap.size) : w'.rangeAt b o cs := fun j v hv => (hb.cell (p := ⟨b, o + j, none⟩) hl).trans (h j v hv)
theorem range_cells {w : World} {b o : Nat} {k n : Int} {s : ByteArray} {l : Value} (h : w.rangeAt b o (repC k n s l)) : w.cell? ⟨b, o, none⟩ = some (.int .i64 k) ∧ w.cell? ⟨b, o + 1, none⟩ = some (.int .i64 n) ∧ w.cell? ⟨b, o + 2, none⟩ = some (.string s) ∧ w.cell? ⟨b, o + 3, none⟩ = some l :=
  ⟨h 0 _ rfl, h 1 _ rfl, h 2 _ rfl, h 3 _ rfl⟩

theorem box_at (w : World) (k n : Int) (s : ByteArray) (l : Value) (t : TypeId) (fr : Nat × Nat) : (w.alloc (.cells #[.int .i64 k, .int .i64 n, .string s, l] t fr)).rangeAt w.heap.size 0 (repC k n s l) := by
  intro j v hv
  rw [Nat.zero_add, World.cell?_alloc_mark]
  match j, hv with
  | 0, hv => exact hv
  | 1, hv => exact hv
  | 2, hv => exact hv
  | 3, hv => exact hv
theorem itoaB_len (n : Int) (hn : Fits n) : (Lib.itoa n).length ≤ 21 := Lib.itoa_length_le n hn.1 hn.2
theorem dec_len (n : Nat) (hn : n ≤ 9223372036854775807) : (Lib.decDigits n).length ≤ 21 := by
  have := Lib.itoa_length_le (n : Int) (by omega) (by omega)
  rwa [Lib.itoa_nonneg] at this
theorem flat_sum (outs : Nat → List UInt8) (bs : Nat → Nat) (m : Nat) (h : ∀ i, i < m → (outs i).length ≤ 40 * bs i) : ((List.range m).flatMap outs).length ≤ 40 * ((List.range m).map bs).sum := by
  induction m with
  | zero => simp
  | succ m ih =>
    have h1 := ih (fun i hi => h i (by omega))
    have h2 := h m (by omega)
    rw [List.range_succ, List.flatMap_append, List.map_append, List.sum_append, List.length_append]
    simp only [List.flatMap_cons, List.flatMap_nil, List.append_nil, List.map_cons, List.map_nil, List.sum_cons, List.sum_nil]
    omega
theorem sum_ge (bs : Nat → Nat) (m : Nat) (h : ∀ i, i < m → 1 ≤ bs i) : m ≤ ((List.range m).map bs).sum := by
  induction m with
  | zero => simp
  | succ m ih =>
    have h1 := ih (fun i hi => h i (by omega))
    have h2 := h m (by omega)
    rw [List.range_succ, List.map_append, List.sum_append]
    simp
    omega
theorem le_sum (bs : Nat → Nat) (m i : Nat) (hi : i < m) : bs i ≤ ((List.range m).map bs).sum := by
  induction m with
  | zero => omega
  | succ m ih =>
    rw [List.range_succ, List.map_append, List.sum_append]
    simp only [List.map_cons, List.map_nil, List.sum_cons, List.sum_nil]
    by_cases h : i = m
    · subst h; omega
    · have := ih (by omega); omega
theorem RV.pos {w : World} {k n : Int} {s : ByteArray} {l : Value} {b : Nat} {out : List UInt8} (h : RV w k n s l b out) : 1 ≤ b := by
  cases h
  omega
theorem RV.len {w : World} {k n : Int} {s : ByteArray} {l : Value} {b : Nat} {out : List UInt8} (h : RV w k n s l b out) (hb1 : b ≤ 1048576) : out.length ≤ 40 * b := by
  induction h with
  | mk k n s A m cap blk off ks ns ss ls bs outs b hk hn hm hc hA hcell hv hb ih =>
    have hle : ∀ i, i < m → bs i ≤ ((List.range m).map bs).sum := fun i hi => le_sum bs m i hi
    have h1 := flat_sum outs bs m (fun i hi => ih i hi (by have := hle i hi; omega))
    have h2 := sum_ge bs m (fun i hi => (hv i hi).pos)
    have h3 := itoaB_len n hn
    have h4 := dec_len m (by omega)
    have h5 := dec_len s.size (by omega)
    have h6 : s.data.toList.length = s.size := by simp
    unfold putL lineL
    split
    · simp; omega
    split
    · simp; omega
    split
    · simp; omega
    split
    · simp; omega
    split
    · simp; omega
    split
    · simp; omega
    split
    · simp only [List.length_append, List.length_cons, List.length_nil]; omega
    · simp
set_option maxHeartbeats 2000000 in
theorem deep8 {w0 : World} {k n : Int} {s : ByteArray} {l : Value} {b : Nat} {out : List UInt8} (h : RV w0 k n s l b out) : ∀ w, Inv w0 w →
    Calls Tryd.prog 8 #[.agg #[.int .i64 k, .int .i64 n, .string s, l]] w fun e w' => (∃ z, e = .returned (.int .i64 z)) ∧ Below w.heap.size w w' := by
  induction h with
  | mk k n s A m cap blk off ks ns ss ls bs outs b hk hn hm hc hA hcell hv hb ih =>
    intro w hi
    have HI := Lib.hid hi
    have IH := Lib.hid ih
    have HA := Lib.hid (And.intro hA (And.intro hcell hc))
    clear hv hb ih hA hcell hi hc
    go_enter Tryd.func8, Tryd.ntmps8
    go_wp2
    go_loopw [3, 4] (fun z i wr => ∃ (x : Int) (j : Nat), z = .int .i64 x ∧ i = .int .i64 j ∧ j ≤ m ∧ Hid (Below w.heap.size w wr ∧ wr.rangeAt w.heap.size 0 (repC k n s (.slice A m cap)) ∧ w.heap.size < wr.heap.size)) (fun _ i _ => m - (intOf i).toNat)
    case atStart => exact ⟨_, 0, rfl, rfl, Nat.zero_le _, Lib.hid ⟨(Below.refl _ _).alloc (Nat.le_refl _) _, box_at w k n s _ _ _, by simp⟩⟩
    case round =>
      obtain ⟨x, j, rfl, rfl, hj, HR⟩ := hrel
      obtain ⟨c0, c1, c2, c3⟩ := range_cells HR.out.2.1
      rw [Nat.zero_add] at c3
      have hm64 : (m : Int) ≤ 9223372036854775807 := by have := HA.out.2.2; unfold maxLen at this; omega
      by_cases hlt : j < m
      · have hjm : ((j : Int) < (m : Int)) := by omega
        have IW : Inv w0 wr := HI.out.on HR.out.1
        obtain ⟨rfl, hblk⟩ := HA.out.1 (by omega)
        obtain ⟨d0, d1, d2, d3⟩ := range_cells (rangeAt_below (HA.out.2.1 j hlt) IW hblk)
        have IW := Lib.hid IW
        by_cases hx : x < 9
        · go_wp2_with (go_at_call 8; (with_reducible refine (IH.out j hlt _ IW.out).mono ?_); rintro e w2 ⟨⟨x2, rfl⟩, hb2⟩)
          exact ⟨⟨_, j + 1, rfl, by go_num, by omega, Lib.hid ⟨HR.out.1.trans (hb2.mono (Below.size HR.out.1)), rangeAt_below HR.out.2.1 hb2 HR.out.2.2, Nat.lt_of_lt_of_le HR.out.2.2 (Below.size hb2)⟩⟩, by simp [intOf]; omega⟩
        · go_wp2
          go_ret
          exact ⟨⟨_, rfl⟩, HR.out.1⟩
      · have hjm : ¬ ((j : Int) < (m : Int)) := by omega
        go_wp2
        go_ret
        exact ⟨⟨_, rfl⟩, HR.out.1⟩
set_option maxHeartbeats 2000000 in
theorem size9 {w0 : World} {k n : Int} {s : ByteArray} {l : Value} {b : Nat} {out : List UInt8} (h : RV w0 k n s l b out) : ∀ w, Inv w0 w →
    Calls Tryd.prog 9 #[.agg #[.int .i64 k, .int .i64 n, .string s, l]] w fun e w' => (∃ z, e = .returned (.int .i64 z)) ∧ Below w.heap.size w w' := by
  induction h with
  | mk k n s A m cap blk off ks ns ss ls bs outs b hk hn hm hc hA hcell hv hb ih =>
    intro w hi
    have HI := Lib.hid hi
    have IH := Lib.hid ih
    have HA := Lib.hid (And.intro hA (And.intro hcell hc))
    clear hv hb ih hA hcell hi hc
    go_enter Tryd.func9, Tryd.ntmps9
    go_wp2
    go_loopw [3, 4] (fun z i wr => ∃ (x : Int) (j : Nat), z = .int .i64 x ∧ i = .int .i64 j ∧ j ≤ m ∧ Hid (Below w.heap.size w wr ∧ wr.rangeAt w.heap.size 0 (repC k n s (.slice A m cap)) ∧ w.heap.size < wr.heap.size)) (fun _ i _ => m - (intOf i).toNat)
    case atStart => exact ⟨_, 0, rfl, rfl, Nat.zero_le _, Lib.hid ⟨(Below.refl _ _).alloc (Nat.le_refl _) _, box_at w k n s _ _ _, by simp⟩⟩
    case round =>
      obtain ⟨x, j, rfl, rfl, hj, HR⟩ := hrel
      obtain ⟨c0, c1, c2, c3⟩ := range_cells HR.out.2.1
      rw [Nat.zero_add] at c3
      have hm64 : (m : Int) ≤ 9223372036854775807 := by have := HA.out.2.2; unfold maxLen at this; omega
      by_cases hlt : j < m
      · have hjm : ((j : Int) < (m : Int)) := by omega
        have IW : Inv w0 wr := HI.out.on HR.out.1
        obtain ⟨rfl, hblk⟩ := HA.out.1 (by omega)
        obtain ⟨d0, d1, d2, d3⟩ := range_cells (rangeAt_below (HA.out.2.1 j hlt) IW hblk)
        have IW := Lib.hid IW
        go_wp2_with (go_at_call 9; (with_reducible refine (IH.out j hlt _ IW.out).mono ?_); rintro e w2 ⟨⟨x2, rfl⟩, hb2⟩)
        exact ⟨⟨_, j + 1, rfl, by go_num, by omega, Lib.hid ⟨HR.out.1.trans (hb2.mono (Below.size HR.out.1)), rangeAt_below HR.out.2.1 hb2 HR.out.2.2, Nat.lt_of_lt_of_le HR.out.2.2 (Below.size hb2)⟩⟩, by simp [intOf]; omega⟩
      · have hjm : ¬ ((j : Int) < (m : Int)) := by omega
        go_wp2
        go_ret
        exact ⟨⟨_, rfl⟩, HR.out.1⟩
end Go.Proofs.YtennkagolgbamaaDoor
