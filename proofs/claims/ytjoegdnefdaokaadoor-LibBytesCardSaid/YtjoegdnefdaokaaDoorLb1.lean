/- Numbers' texts; values without tables (api.Plain), rows of them. -/
import Derived.Test.YtjoegdnefdaokaaDoorIn4
import Derived.Test.YtjoegdnefdaokaaDoorShelf
import Derived.Lib.AppendIntMem
import Derived.Lib.ItoaLen
import Derived.WalkSmall
import Derived.Deep.MidRow
import Derived.Below
import Derived.Deep.QuietTactic
import Derived.BigQuiet
namespace Go.Proofs.YtjoegdnefdaokaaDoor
open Go.ChangeShapes Go.WideShapes Go.ChangeAt Go.RowKit

theorem below_drewN {B : Nat} {a w : World} (h : Below B a w) (n : Nat) : Below B a (w.drewN n) := by
  induction n with
  | zero => exact h
  | succ n ih => exact Below.drew ih
theorem val_dec (u : Nat) : val (Lib.decDigits u) = u ∧ (Lib.decDigits u).all dig = true := by
  induction u using Nat.strongRecOn with
  | _ u ih =>
    rw [Lib.decDigits]
    split
    · rename_i h
      have hc : (UInt8.ofNat (48 + u)).toNat = 48 + u := by rw [UInt8.toNat_ofNat']; omega
      refine ⟨by simp [val]; omega, ?_⟩
      simp only [List.all_cons, List.all_nil, Bool.and_true, dig, hc]
      exact decide_eq_true (by omega)
    · rename_i h
      have hc : (UInt8.ofNat (48 + u % 10)).toNat = 48 + u % 10 := by rw [UInt8.toNat_ofNat']; omega
      obtain ⟨h1, h2⟩ := ih (u / 10) (by omega)
      refine ⟨by rw [val_snoc, h1, hc]; omega, ?_⟩
      rw [List.all_append, h2]
      simp only [List.all_cons, List.all_nil, Bool.and_true, dig, hc]
      exact decide_eq_true (by omega)
theorem dec_head (u : Nat) : ∃ c r, Lib.decDigits u = c :: r ∧ (c.toNat = 48 → u = 0 ∧ r = []) ∧ 48 ≤ c.toNat ∧ c.toNat ≤ 57 := by
  induction u using Nat.strongRecOn with
  | _ u ih =>
    rw [Lib.decDigits]
    split
    · rename_i h
      have hc : (UInt8.ofNat (48 + u)).toNat = 48 + u := by rw [UInt8.toNat_ofNat']; omega
      exact ⟨_, _, rfl, fun g => ⟨by omega, rfl⟩, by omega, by omega⟩
    · rename_i h
      obtain ⟨c, r, h1, h2, h3⟩ := ih (u / 10) (by omega)
      rw [h1]
      refine ⟨c, r ++ [UInt8.ofNat (48 + u % 10)], by simp, fun g => ?_, h3⟩
      have := h2 g
      omega
theorem parse_itoa (n : Int) (h0 : -9223372036854775808 ≤ n) (h1 : n ≤ 9223372036854775807) : parseI (Lib.itoa n) = some n := by
  unfold Lib.itoa
  split
  · rename_i hn
    obtain ⟨c, r, e, hz, hc⟩ := dec_head n.natAbs
    obtain ⟨hv, ha⟩ := val_dec n.natAbs
    have hneg : isNeg (45 :: Lib.decDigits n.natAbs) = true := rfl
    have hb : body (45 :: Lib.decDigits n.natAbs) = Lib.decDigits n.natAbs := rfl
    have hac : acc true (val (Lib.decDigits n.natAbs)) = n := by rw [hv]; simp [acc]; omega
    have hp := parse_ok (45 :: Lib.decDigits n.natAbs) (by rw [hb, e]; simp) (by
      rw [hb, e]
      simp only [List.head?_cons, Option.some.injEq]
      rintro ⟨g, _⟩
      have := hz (by rw [g]; rfl)
      omega) (by rw [hb]; exact ha) (by rw [hneg, hb, hac]; exact rng_yes h0 h1)
    rw [hp, hneg, hb, hac]
  · rename_i hn
    obtain ⟨c, r, e, hz, hc⟩ := dec_head n.toNat
    obtain ⟨hv, ha⟩ := val_dec n.toNat
    have hneg : isNeg (Lib.decDigits n.toNat) = false := by
      rw [e]; unfold isNeg
      simp only [List.head?_cons]
      rw [beq_eq_false_iff_ne]
      intro g
      injection g with g
      rw [g] at hc
      have : (45 : UInt8).toNat = 45 := rfl
      omega
    have hb : body (Lib.decDigits n.toNat) = Lib.decDigits n.toNat := by unfold body; rw [hneg]; rfl
    have hac : acc false (val (Lib.decDigits n.toNat)) = n := by rw [hv]; simp [acc]; omega
    have hp := parse_ok (Lib.decDigits n.toNat) (by rw [hb, e]; simp) (by
      rw [hb, e]
      simp only [List.head?_cons, Option.some.injEq]
      rintro ⟨g, hl⟩
      have := hz (by rw [g]; rfl)
      rw [this.2] at hl
      simp at hl) (by rw [hb]; exact ha) (by rw [hneg, hb, hac]; exact rng_yes h0 h1)
    rw [hp, hneg, hb, hac]

/-- What a call leaves: nothing that was there at the beginning has turned. -/
def Inv (w0 w : World) : Prop := Below w0.heap.size w0 w
theorem Inv.drewN {w0 w : World} (h : Inv w0 w) (n : Nat) : Inv w0 (w.drewN n) := below_drewN h n
theorem Inv.size {w0 w : World} (h : Inv w0 w) : w0.heap.size ≤ w.heap.size := Below.size h
def Tab (w0 : World) : Prop := Lib.TabIs Tryd.prog w0 "internal/strconv.uint64pow10" .u64 Lib.pow10Tab
theorem Tab.at_ {w0 w : World} (h : Tab w0) (hi : Inv w0 w) : Lib.TabIs Tryd.prog w "internal/strconv.uint64pow10" .u64 Lib.pow10Tab := Lib.tabBelow_of_tabIs h w hi

def I64 (n : Int) : Prop := -9223372036854775808 ≤ n ∧ n ≤ 9223372036854775807
theorem PrintG (k : Nat) (hk : k = 20 ∨ k = 21) (w0 : World) (hT : Tab w0) (n : Int) (hn : I64 n) (w : World) (hi : Inv w0 w) :
    Calls Tryd.prog k #[.int .i64 n] w fun e w' => e = .returned (.string ⟨(Lib.itoa n).toArray⟩) ∧ Below w.heap.size w w' := by
  obtain ⟨h0, h1⟩ := hn
  have C := Lib.hid (show Calls Tryd.prog 33 #[.int .i64 n, .int .i64 10] w fun e w' => e = .returned (.string ⟨(Lib.itoa n).toArray⟩) ∧ Below w.heap.size w w' from by
    refine (Tryd.strconv_FormatInt_10 n (by omega) (by omega) w (hT.at_ hi)).mono ?_
    rintro e w' ⟨rfl, k, os, rfl⟩
    exact ⟨rfl, Lib.below_grow _ w (Nat.le_refl _) k os⟩)
  clear hT hi
  rcases hk with rfl | rfl
  · go_enter Tryd.func20, Tryd.ntmps20
    go_wp2_with (go_at_call 33; refine (C.out).mono ?_; rintro e w' ⟨rfl, hi'⟩)
    go_ret
    exact ⟨by simp, by assumption⟩
  · go_enter Tryd.func21, Tryd.ntmps21
    go_wp2_with (go_at_call 33; refine (C.out).mono ?_; rintro e w' ⟨rfl, hi'⟩)
    go_ret
    exact ⟨by simp, by assumption⟩

/-- A value's four cells. -/
def plC (p : Int × Int × ByteArray) : List Value := [.int .i64 p.1, .int .i64 p.2.1, .string p.2.2, .slice none 0 0]
def plV (p : Int × Int × ByteArray) : Value := .agg #[.int .i64 p.1, .int .i64 p.2.1, .string p.2.2, .slice none 0 0]
def nilP : Int × Int × ByteArray := (0, 0, ⟨#[]⟩)
/-- A row of values. -/
def ASl (w : World) (v : Value) (ps : List (Int × Int × ByteArray)) : Prop := ∃ A cap, v = .slice A ps.length cap ∧ ps.length ≤ cap ∧ cap ≤ maxLen ∧
  (ps ≠ [] → ∃ blk, A = some ⟨blk, 0, none⟩ ∧ blk < w.heap.size ∧ ∀ (i : Nat) p, ps[i]? = some p → ∀ (j : Nat) v, (plC p)[j]? = some v → w.cell? ⟨blk, i * 4 + j, none⟩ = some v)
theorem ASl.below {w w' : World} {v : Value} {xs : List (Int × Int × ByteArray)} (h : ASl w v xs) (hb : Below w.heap.size w w') : ASl w' v xs := by
  obtain ⟨A, cap, h1, h2, h3, h4⟩ := h
  refine ⟨A, cap, h1, h2, h3, fun hne => ?_⟩
  obtain ⟨blk, h5, h6, h7⟩ := h4 hne
  have := Below.size hb
  exact ⟨blk, h5, by omega, fun i p hp j v hv => (hb.cell (p := ⟨blk, i * 4 + j, none⟩) h6).trans (h7 i p hp j v hv)⟩
def cellsA (ps : List (Int × Int × ByteArray)) : List Value := ps.flatMap plC
theorem cellsA_at (ps : List (Int × Int × ByteArray)) (i j : Nat) (p : Int × Int × ByteArray) (v : Value) (hi : ps[i]? = some p) (hv : (plC p)[j]? = some v) : (cellsA ps)[i * 4 + j]? = some v := by
  induction ps generalizing i with
  | nil => cases hi
  | cons q r ih =>
    unfold cellsA at ih ⊢
    rw [List.flatMap_cons]
    have hj : j < 4 := (List.getElem?_eq_some_iff.1 hv).1
    cases i with
    | zero =>
      cases hi
      rw [List.getElem?_append_left (by show 0 * 4 + j < 4; omega), Nat.zero_mul, Nat.zero_add]
      exact hv
    | succ i =>
      have hl : (plC q).length = 4 := rfl
      rw [List.getElem?_append_right (by rw [hl]; omega), hl, show (i + 1) * 4 + j - 4 = i * 4 + j by omega]
      exact ih i hi
/-- A row that the text writes out. -/
theorem ASl.lit (w : World) (ps : List (Int × Int × ByteArray)) (hl : ps.length ≤ 100) : ASl (w.alloc (.cells (cellsA ps).toArray 28)) (.slice (some ⟨w.heap.size, 0, none⟩) ps.length ps.length) ps := by
  refine ⟨_, _, rfl, Nat.le_refl _, by unfold maxLen; omega, fun _ => ⟨_, rfl, by simp, fun i p hp j v hv => ?_⟩⟩
  have := cellsA_at ps i j p v hp hv
  unfold World.cell?
  rw [heap_alloc_new]
  simpa using this
theorem ASl.none (w : World) : ASl w (.slice none 0 0) [] := ⟨_, _, rfl, Nat.le_refl _, Nat.zero_le _, fun h => absurd rfl h⟩
theorem arg14 (v : Value) (ps : List (Int × Int × ByteArray)) (w : World) (h : ASl w v ps) (i : Nat) : Calls Tryd.prog 14 #[v, .int .i64 i] w fun e w' => e = .returned (plV (ps.getD i nilP)) ∧ Below w.heap.size w w' := by
  obtain ⟨A, cap, rfl, h1, h2, h3⟩ := h
  unfold maxLen at h2
  have HB := Lib.hid (Below.refl w.heap.size w)
  by_cases hlt : i < ps.length
  · obtain ⟨blk, rfl, hb, hc⟩ := h3 (by intro e; rw [e] at hlt; simp at hlt)
    obtain ⟨⟨k, n, s⟩, hp⟩ : ∃ p, ps[i]? = some p := ⟨_, List.getElem?_eq_getElem hlt⟩
    have d0 := hc i _ hp 0 _ rfl
    have d1 := hc i _ hp 1 _ rfl
    have d2 := hc i _ hp 2 _ rfl
    have d3 := hc i _ hp 3 _ rfl
    have e : ps.getD i nilP = (k, n, s) := by rw [List.getD, hp]; rfl
    rw [e]
    rw [Nat.add_zero] at d0
    clear hc hp h3 e
    have i1 : (i : Int) < (ps.length : Int) := by omega
    go_enter Tryd.func14, Tryd.ntmps14
    go_wp2
    exact bodyPost_ret (v := .agg #[.int .i64 k, .int .i64 n, .string s, .slice none 0 0]) (by simp [results, Tryd.results14, go_sem]) rfl ⟨rfl, (Below.refl _ _).alloc (Nat.le_refl _) _⟩
  · have i1 : ¬ (i : Int) < (ps.length : Int) := by omega
    have e : ps.getD i nilP = nilP := by rw [List.getD, List.getElem?_eq_none (by omega)]; rfl
    rw [e]
    clear h3 e
    go_enter Tryd.func14, Tryd.ntmps14
    go_wp2
    exact bodyPost_ret (v := .agg #[.int .i64 0, .int .i64 0, .string ⟨#[]⟩, .slice none 0 0]) (by simp [results, Tryd.results14, go_sem]) rfl ⟨rfl, (Below.refl _ _).alloc (Nat.le_refl _) _⟩
theorem text15 (s : ByteArray) (w : World) : Calls Tryd.prog 15 #[.string s] w fun e w' => e = .returned (.agg #[.int .i64 3, .int .i64 0, .string s, .slice none 0 0]) ∧ Below w.heap.size w w' := by
  go_enter Tryd.func15, Tryd.ntmps15
  go_wp2
  exact bodyPost_ret (v := .agg #[.int .i64 3, .int .i64 0, .string s, .slice none 0 0]) (by simp [results, Tryd.results15, go_sem]) rfl ⟨rfl, (Below.refl _ _).alloc (Nat.le_refl _) _⟩
theorem str8 (s : ByteArray) (w : World) : Calls Tryd.prog 8 #[.string s] w fun e w' => e = .returned (.agg #[.int .i64 3, .int .i64 0, .string s, .slice none 0 0]) ∧ Below w.heap.size w w' := by
  go_enter Tryd.func8, Tryd.ntmps8
  go_wp2
  exact bodyPost_ret (v := .agg #[.int .i64 3, .int .i64 0, .string s, .slice none 0 0]) (by simp [results, Tryd.results8, go_sem]) rfl ⟨rfl, (Below.refl _ _).alloc (Nat.le_refl _) _⟩
theorem whole18 (n : Int) (w : World) : Calls Tryd.prog 18 #[.int .i64 n] w fun e w' => e = .returned (.agg #[.int .i64 2, .int .i64 n, .string ⟨#[]⟩, .slice none 0 0]) ∧ Below w.heap.size w w' := by
  go_enter Tryd.func18, Tryd.ntmps18
  go_wp2
  exact bodyPost_ret (v := .agg #[.int .i64 2, .int .i64 n, .string ⟨#[]⟩, .slice none 0 0]) (by simp [results, Tryd.results18, go_sem]) rfl ⟨rfl, (Below.refl _ _).alloc (Nat.le_refl _) _⟩
theorem num9 (n : Int) (hn : I64 n) (w : World) : Calls Tryd.prog 9 #[.int .i64 n] w fun e w' => e = .returned (.agg #[.int .i64 2, .int .i64 n, .string ⟨#[]⟩, .slice none 0 0]) ∧ Below w.heap.size w w' := by
  obtain ⟨h0, h1⟩ := hn
  go_enter Tryd.func9, Tryd.ntmps9
  go_wp2
  exact bodyPost_ret (v := .agg #[.int .i64 2, .int .i64 n, .string ⟨#[]⟩, .slice none 0 0]) (by simp [results, Tryd.results9, go_sem]) rfl ⟨rfl, (Below.refl _ _).alloc (Nat.le_refl _) _⟩
theorem kind_nil (n : Int) (s : ByteArray) (w : World) : Calls Tryd.prog 16 #[.agg #[.int .i64 0, .int .i64 n, .string s, .slice none 0 0]] w fun e w' => e = .returned (.string ⟨#[110, 105, 108]⟩) ∧ Below w.heap.size w w' := by
  go_enter Tryd.func16, Tryd.ntmps16
  go_wp2
  go_ret
  exact ⟨rfl, (Below.refl _ _).alloc (Nat.le_refl _) _⟩
theorem Out_nil (w : World) : Calls Tryd.prog 13 #[.agg #[.int .i64 0, .int .i64 0, .string ⟨#[]⟩, .slice none 0 0]] w fun e w' => e = .returned (.string ⟨#[110, 105, 108]⟩) ∧ Below w.heap.size w w' := by
  go_enter Tryd.func13, Tryd.ntmps13
  go_wp2
  go_ret
  exact ⟨rfl, (Below.refl _ _).alloc (Nat.le_refl _) _⟩
theorem Out_int (w0 : World) (hT : Tab w0) (n : Int) (hn : I64 n) (w : World) (hi : Inv w0 w) : Calls Tryd.prog 13 #[.agg #[.int .i64 2, .int .i64 n, .string ⟨#[]⟩, .slice none 0 0]] w fun e w' => e = .returned (.string ⟨(Lib.itoa n).toArray⟩) ∧ Below w.heap.size w w' := by
  have P := Lib.hid (fun o => PrintG 21 (.inr rfl) w0 hT n hn (w.alloc o) (Below.alloc hi (Inv.size hi) o))
  clear hT hi hn
  go_enter Tryd.func13, Tryd.ntmps13
  go_wp2_with (go_at_call 21; (with_reducible refine (P.out _).mono ?_); rintro e w' ⟨rfl, hb⟩)
  go_ret
  exact ⟨by simp, ((Below.refl _ _).alloc (Nat.le_refl _) _).trans (Below.mono (by assumption) (by simp))⟩
theorem Out_text (s : ByteArray) (w : World) : Calls Tryd.prog 13 #[.agg #[.int .i64 3, .int .i64 0, .string s, .slice none 0 0]] w fun e w' => e = .returned (.string s) ∧ Below w.heap.size w w' := by
  go_enter Tryd.func13, Tryd.ntmps13
  go_wp2
  go_ret
  exact ⟨rfl, (Below.refl _ _).alloc (Nat.le_refl _) _⟩
theorem RefOut_text (s : ByteArray) (w : World) : Calls Tryd.prog 12 #[.agg #[.int .i64 3, .int .i64 0, .string s, .slice none 0 0]] w fun e w' => e = .returned (.string s) ∧ Below w.heap.size w w' := by
  go_enter Tryd.func12, Tryd.ntmps12
  go_wp2
  go_ret
  exact ⟨rfl, (Below.refl _ _).alloc (Nat.le_refl _) _⟩
theorem number_nil (l : Int) (w : World) : Calls Tryd.prog 31 #[.agg #[.int .i64 0, .int .i64 0, .string ⟨#[]⟩, .slice none 0 0], .int .i64 l] w fun e w' => e = .returned (.tuple #[.int .i64 l, .bool true]) ∧ Below w.heap.size w w' := by
  go_enter Tryd.func31, Tryd.ntmps31
  go_wp2
  go_ret2
  exact ⟨rfl, (Below.refl _ _).alloc (Nat.le_refl _) _⟩
theorem number_int (n l : Int) (w : World) : Calls Tryd.prog 31 #[.agg #[.int .i64 2, .int .i64 n, .string ⟨#[]⟩, .slice none 0 0], .int .i64 l] w fun e w' => e = .returned (.tuple #[.int .i64 n, .bool true]) ∧ Below w.heap.size w w' := by
  go_enter Tryd.func31, Tryd.ntmps31
  go_wp2
  go_quiet (fail)
  go_wp2
  go_ret2
  exact ⟨rfl, below_drewN ((Below.refl _ _).alloc (Nat.le_refl _) _) _⟩
end Go.Proofs.YtjoegdnefdaokaaDoor
