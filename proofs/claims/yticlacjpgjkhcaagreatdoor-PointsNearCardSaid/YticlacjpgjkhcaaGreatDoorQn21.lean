/- Texts joined: St31, P2, H2, H3, H4, H5, P3 -/
import Derived.Test.YticlacjpgjkhcaaGreatDoorQn4
import Derived.Test.YticlacjpgjkhcaaGreatDoorQn20
import Derived.Lib.AppendIntMem
import Derived.Lib.ItoaLen
import Derived.Lib.LaidTab
import Derived.Below
import Derived.Test.YticlacjpgjkhcaaGreatDoorQn19
import Derived.Test.YticlacjpgjkhcaaGreatDoorQn7
import Derived.Test.YticlacjpgjkhcaaGreatDoorQn15
import Derived.Lib.Bytealg
set_option linter.unusedVariables false
set_option linter.unusedSimpArgs false

/- Numbers' texts: Print, Number, and that they are read back. -/
namespace Go.Proofs.YticlacjpgjkhcaaGreatDoor
open Go.ChangeShapes Go.WideShapes Go.ChangeAt Go.RowKit

theorem val_dec (u : Nat) : val (Lib.decDigits u) = u ∧ (Lib.decDigits u).all dig = true := by
  induction u using Nat.strongRecOn with
  | _ u ih =>
    rw [Lib.decDigits]
    split
    · rename_i h
      have hc : (UInt8.ofNat (48 + u)).toNat = 48 + u := by rw [UInt8.toNat_ofNat']; omega
      refine ⟨by simp [val]; omega, ?_⟩
      simp only [List.all_cons, List.all_nil, Bool.and_true, dig, hc]
      exact decide_eq_true (by omega)
    · rename_i h
      have hc : (UInt8.ofNat (48 + u % 10)).toNat = 48 + u % 10 := by rw [UInt8.toNat_ofNat']; omega
      obtain ⟨h1, h2⟩ := ih (u / 10) (by omega)
      refine ⟨by rw [val_snoc, h1, hc]; omega, ?_⟩
      rw [List.all_append, h2]
      simp only [List.all_cons, List.all_nil, Bool.and_true, dig, hc]
      exact decide_eq_true (by omega)
theorem dec_head (u : Nat) : ∃ c r, Lib.decDigits u = c :: r ∧ (c.toNat = 48 → u = 0 ∧ r = []) ∧ 48 ≤ c.toNat ∧ c.toNat ≤ 57 := by
  induction u using Nat.strongRecOn with
  | _ u ih =>
    rw [Lib.decDigits]
    split
    · rename_i h
      have hc : (UInt8.ofNat (48 + u)).toNat = 48 + u := by rw [UInt8.toNat_ofNat']; omega
      exact ⟨_, _, rfl, fun g => ⟨by omega, rfl⟩, by omega, by omega⟩
    · rename_i h
      obtain ⟨c, r, h1, h2, h3⟩ := ih (u / 10) (by omega)
      rw [h1]
      refine ⟨c, r ++ [UInt8.ofNat (48 + u % 10)], by simp, fun g => ?_, h3⟩
      have := h2 g
      omega
theorem parse_itoa (n : Int) (h0 : -9223372036854775808 ≤ n) (h1 : n ≤ 9223372036854775807) : parseI (Lib.itoa n) = some n := by
  unfold Lib.itoa
  split
  · rename_i hn
    obtain ⟨c, r, e, hz, hc⟩ := dec_head n.natAbs
    obtain ⟨hv, ha⟩ := val_dec n.natAbs
    have hneg : isNeg (45 :: Lib.decDigits n.natAbs) = true := rfl
    have hb : body (45 :: Lib.decDigits n.natAbs) = Lib.decDigits n.natAbs := rfl
    have hac : acc true (val (Lib.decDigits n.natAbs)) = n := by rw [hv]; simp [acc]; omega
    have hp := parse_ok (45 :: Lib.decDigits n.natAbs) (by rw [hb, e]; simp) (by
      rw [hb, e]
      simp only [List.head?_cons, Option.some.injEq]
      rintro ⟨g, _⟩
      have := hz (by rw [g]; rfl)
      omega) (by rw [hb]; exact ha) (by rw [hneg, hb, hac]; exact rng_yes h0 h1)
    rw [hp, hneg, hb, hac]
  · rename_i hn
    obtain ⟨c, r, e, hz, hc⟩ := dec_head n.toNat
    obtain ⟨hv, ha⟩ := val_dec n.toNat
    have hneg : isNeg (Lib.decDigits n.toNat) = false := by
      rw [e]; unfold isNeg
      simp only [List.head?_cons]
      rw [beq_eq_false_iff_ne]
      intro g
      injection g with g
      rw [g] at hc
      have : (45 : UInt8).toNat = 45 := rfl
      omega
    have hb : body (Lib.decDigits n.toNat) = Lib.decDigits n.toNat := by unfold body; rw [hneg]; rfl
    have hac : acc false (val (Lib.decDigits n.toNat)) = n := by rw [hv]; simp [acc]; omega
    have hp := parse_ok (Lib.decDigits n.toNat) (by rw [hb, e]; simp) (by
      rw [hb, e]
      simp only [List.head?_cons, Option.some.injEq]
      rintro ⟨g, hl⟩
      have := hz (by rw [g]; rfl)
      rw [this.2] at hl
      simp at hl) (by rw [hb]; exact ha) (by rw [hneg, hb, hac]; exact rng_yes h0 h1)
    rw [hp, hneg, hb, hac]
/-- What a call leaves: nothing that was there at the beginning has turned. -/
def Tab (w0 : World) : Prop := Lib.TabIs Tryz.prog w0 "internal/strconv.uint64pow10" .u64 Lib.pow10Tab
theorem Tab.at_ {w0 w : World} (h : Tab w0) (hi : Below w0.heap.size w0 w) : Lib.TabIs Tryz.prog w "internal/strconv.uint64pow10" .u64 Lib.pow10Tab := Lib.tabBelow_of_tabIs h w hi
def I64 (n : Int) : Prop := -9223372036854775808 ≤ n ∧ n ≤ 9223372036854775807
/-- A number's text. -/
def numT (n : Int) : ByteArray := ⟨(Lib.itoa n).toArray⟩
theorem numT_size (n : Int) (hn : I64 n) : (numT n).size ≤ 21 := Lib.itoa_length_le n (by have := hn.1; omega) (by have := hn.2; omega)
theorem parse_numT (n : Int) (hn : I64 n) : parseI (numT n).data.toList = some n := parse_itoa n hn.1 hn.2
theorem Fmt82 {w0 : World} (hT : Tab w0) (n : Int) (hn : I64 n) (w : World) (hi : Below w0.heap.size w0 w) : Calls Tryz.prog 94 #[.int .i64 n, .int .i64 10] w fun e w' => e = .returned (.string (numT n)) ∧ Below w.heap.size w w' := by
  refine (Tryz.internal_strconv_FormatInt_10 n hn.1 hn.2 w (hT.at_ hi)).mono ?_
  rintro e w' ⟨rfl, k, os, rfl⟩
  exact ⟨rfl, Lib.below_grow _ w (Nat.le_refl _) k os⟩
theorem Print79 {w0 : World} (hT : Tab w0) (n : Int) (hn : I64 n) (w : World) (hi : Below w0.heap.size w0 w) : Calls Tryz.prog 120 #[.int .i64 n] w fun e w' => e = .returned (.string (numT n)) ∧ Below w.heap.size w w' := by
  have C := Lib.hid (show Calls Tryz.prog 178 #[.int .i64 n, .int .i64 10] w fun e w' => e = .returned (.string (numT n)) ∧ Below w.heap.size w w' from by
    have C := Lib.hid (Fmt82 hT n hn w hi)
    clear hT hi hn
    go_enter Tryz.func178, Tryz.ntmps178
    go_wp2_with (go_at_call 94; refine (C.out).mono ?_; rintro e w' ⟨rfl, hi'⟩)
    go_ret
    exact ⟨by simp, by assumption⟩)
  clear hT hi hn
  go_enter Tryz.func120, Tryz.ntmps120
  go_wp2_with (go_at_call 178; refine (C.out).mono ?_; rintro e w' ⟨rfl, hi'⟩)
  go_ret
  exact ⟨by simp, by assumption⟩
theorem Number13 {w0 : World} (hT : Tab w0) (n : Int) (hn : I64 n) (w : World) (hi : Below w0.heap.size w0 w) : Calls Tryz.prog 13 #[.int .i64 n] w fun e w' => e = .returned (.string (numT n)) ∧ Below w.heap.size w w' := by
  have C := Lib.hid (show Calls Tryz.prog 26 #[.int .i64 n] w fun e w' => e = .returned (.string (numT n)) ∧ Below w.heap.size w w' from by
    refine (Tryz.strconv_Itoa n hn.1 hn.2 w (hT.at_ hi)).mono ?_
    rintro e w' ⟨rfl, k, os, rfl⟩
    exact ⟨rfl, Lib.below_grow _ w (Nat.le_refl _) k os⟩)
  clear hT hi hn
  go_enter Tryz.func13, Tryz.ntmps13
  go_wp2_with (go_at_call 26; refine (C.out).mono ?_; rintro e w' ⟨rfl, hi'⟩)
  go_ret
  exact ⟨by simp, by assumption⟩
end Go.Proofs.YticlacjpgjkhcaaGreatDoor

/- points.parse, told. -/
namespace Go.Proofs.YticlacjpgjkhcaaGreatDoor
open Go.ChangeShapes Go.WideShapes Go.ChangeAt Go.RowKit Go.Fl

theorem I64.okI {x : Int} (h : okI x = true) : I64 x := by simp [Go.Proofs.YticlacjpgjkhcaaGreatDoor.okI] at h; exact ⟨by omega, by omega⟩
set_option maxHeartbeats 2000000 in
/-- plane.Parse of two numbers' texts. -/
theorem pParse_any (s t : ByteArray) (hs : s.size ≤ 100000) (ht : t.size ≤ 100000) (x y : Int) (hx : okI x = true) (hy : okI y = true) (h1 : parseI s.data.toList = some x) (h2 : parseI t.data.toList = some y) (w : World) :
    Calls Tryz.prog 155 #[.string s, .string t] w fun e w' => e = .returned (.tuple #[.complex .f64 (fi x) (fi y), .bool true]) ∧ Below w.heap.size w w' := by
  have P1 := Lib.hid (fun X => show Calls Tryz.prog 141 #[.string s] X (fun e w' => e = .returned (.tuple #[.int .i64 x, .bool true]) ∧ ∃ n, w' = X.drewN n) from by
    refine (Parse9 s (by omega) X).mono ?_
    rintro e w' ⟨rfl, m, rfl⟩
    rw [h1]
    exact ⟨rfl, m, rfl⟩)
  have P2 := Lib.hid (fun X => show Calls Tryz.prog 141 #[.string t] X (fun e w' => e = .returned (.tuple #[.int .i64 y, .bool true]) ∧ ∃ n, w' = X.drewN n) from by
    refine (Parse9 t (by omega) X).mono ?_
    rintro e w' ⟨rfl, m, rfl⟩
    rw [h2]
    exact ⟨rfl, m, rfl⟩)
  simp [okI] at hx hy
  obtain ⟨x1, x2⟩ := hx
  obtain ⟨y1, y2⟩ := hy
  have i1 : ¬ (x < -1048576) := by omega
  have i2 : ¬ (1048576 < x) := by omega
  have i3 : ¬ (y < -1048576) := by omega
  have i4 : ¬ (1048576 < y) := by omega
  have f1 := floatOfInt_fi
  clear h1 h2
  go_enter Tryz.func155, Tryz.ntmps155
  go_wp2_with (first | (go_at_call 141; (with_reducible refine (P1.out _).mono ?_); rintro e w1 ⟨rfl, m1, rfl⟩) | (go_at_call 141; (with_reducible refine (P2.out _).mono ?_); rintro e w2 ⟨rfl, m2, rfl⟩))
  go_ret2
  exact ⟨rfl, below_drewN (Below.refl _ _) (m1 + m2)⟩
set_option maxHeartbeats 4000000 in
/-- points.parse of two arguments. -/
theorem pparse_any (ix : Int) (j : Nat) (now : Int) (blk off cap : Nat) (xs : List ByteArray) (n : Nat) (hn : xs.length = n) (i : Nat) (hix : ix = i) (s t : ByteArray) (hs : s.size ≤ 100000) (ht : t.size ≤ 100000) (x y : Int) (hx : okI x = true) (hy : okI y = true) (h1 : parseI s.data.toList = some x) (h2 : parseI t.data.toList = some y) (hi : xs[i]? = some s) (hi2 : xs[i + 1]? = some t) (w : World) (hA : AR w j now blk off cap xs) :
    Calls Tryz.prog 100 #[.pointer (some ⟨j, 0, none⟩), .int .i64 ix] w fun e w' => e = .returned (.complex .f64 (fi x) (fi y)) ∧ Below w.heap.size w w' := by
  subst hix
  have PP := Lib.hid (fun X => pParse_any s t hs ht x y hx hy h1 h2 X)
  have hl := (List.getElem?_eq_some_iff.1 hi2).1
  have hcap := hA.len
  have hcap2 := hA.cap
  have SX := Lib.hid (show ∀ X, Below w.heap.size w X → (X.cell? ⟨j, 2, none⟩ = some (.slice (some ⟨blk, off, none⟩) n cap) ∧ X.cell? ⟨blk, off + i, none⟩ = some (.string s) ∧ X.cell? ⟨blk, off + (i + 1), none⟩ = some (.string t)) from fun X hX => by
    have h := (hA.job X hX).1
    rw [hn] at h
    exact ⟨h, hA.arg X hX i s hi, hA.arg X hX (i + 1) t hi2⟩)
  have S0 := SX.out w.drew (Below.refl _ _).drew
  have q1 : (i : Int) < (n : Int) := by omega
  have q2 : (i : Int) + 1 < (n : Int) := by omega
  have w1 : IntKind.i64.wrap ((i : Int) + 1) = (i : Int) + 1 := IntWalk.i64_in _ (by omega)
  have w3 : (0 : Int) ≤ (i : Int) + 1 := by omega
  have w4 : ((i : Int) + 1).toNat = i + 1 := by omega
  clear hA h1 h2 hi hi2 hx hy hl hcap hcap2 hn
  go_enter Tryz.func100, Tryz.ntmps100
  go_wp2
  go_region_held3 (fun X => X.cell? ⟨j, 2, none⟩ = some (.slice (some ⟨blk, off, none⟩) n cap) ∧ X.cell? ⟨blk, off + i, none⟩ = some (.string s) ∧ X.cell? ⟨blk, off + (i + 1), none⟩ = some (.string t)) (first | (with_reducible exact S0) | (with_reducible exact S2.out))
    (first | (go_at_call 155; (with_reducible refine (PP.out _).mono ?_); rintro e w5 ⟨rfl, h1⟩; have B1 := Lib.hid ((Below.refl w.heap.size w).drew.trans h1); have S2 := Lib.hid (SX.out _ B1.out); clear h1))
  clear S0 S2
  go_wp2
  go_ret
  exact ⟨by simp, B1.out⟩
set_option maxHeartbeats 4000000 in
/-- points.told. -/
theorem ptold_any {w0 : World} (hT : Tab w0) (x y : Int) (hx : okI x = true) (hy : okI y = true) (w : World) (hi : Below w0.heap.size w0 w) : Calls Tryz.prog 105 #[.complex .f64 (fi x) (fi y)] w fun e w' => ∃ g, e = .returned (.slice (some ⟨g, 0, none⟩) 2 2) ∧ w'.heap[g]? = some (.cells #[.string (numT x), .string (numT y)] 9) ∧ w.heap.size ≤ g ∧ Below w.heap.size w w' := by
  have c1 := fun w => run_convert_float_int (P := Tryz.prog) w 125 2 .f64 .i64 (fi x) x (by kernel_rfl) Tryz.underlying2 (toIntI x (okI_absN hx))
  have c2 := fun w => run_convert_float_int (P := Tryz.prog) w 125 2 .f64 .i64 (fi y) y (by kernel_rfl) Tryz.underlying2 (toIntI y (okI_absN hy))
  have P1 := Lib.hid (fun X (hX : Below w.heap.size w X) => Print79 hT x (I64.okI hx) X (hi.trans (hX.mono (Below.size hi))))
  have P2 := Lib.hid (fun X (hX : Below w.heap.size w X) => Print79 hT y (I64.okI hy) X (hi.trans (hX.mono (Below.size hi))))
  have B0 := Lib.hid (Below.refl w.heap.size w)
  clear hT hi hx hy
  go_enter Tryz.func105, Tryz.ntmps105
  go_wp2_with (first | (go_at_call 120; (with_reducible refine (P1.out _ B0.out).mono ?_); rintro e w1 ⟨rfl, h1⟩; have B1 := Lib.hid h1; clear h1 B0) | (go_at_call 120; (with_reducible refine (P2.out _ B1.out).mono ?_); rintro e w2 ⟨rfl, h2⟩; have B2 := Lib.hid (B1.out.trans (h2.mono (Below.size B1.out))); clear h2))
  go_ret
  exact ⟨w2.heap.size, by simp, heap_alloc_new w2 _, Below.size B2.out, B2.out.trans ((alloc_old (w := w2)).mono (Below.size B2.out))⟩
end Go.Proofs.YticlacjpgjkhcaaGreatDoor

/- A table's rows as data. -/
namespace Go.Proofs.YticlacjpgjkhcaaGreatDoor
open Go.ChangeShapes Go.WideShapes Go.ChangeAt Go.RowKit

section
variable {α : Type} (f : ByteArray → Nat)
/-- The names of one slot, as they were put. -/
def rowT (D : List (ByteArray × α)) (j : Nat) : List (ByteArray × α) := D.filter fun p => f p.1 == j
theorem rowT_find (k : ByteArray) : ∀ D : List (ByteArray × α), findD k (rowT f D (f k)) = findD k D
  | [] => rfl
  | (y, v) :: r => by
    unfold rowT
    by_cases hy : y = k
    · subst hy
      simp [findD]
    · by_cases hf : f y = f k
      · rw [List.filter_cons_of_pos (by simpa using hf)]
        simp only [findD, hy, if_false]
        exact rowT_find k r
      · rw [List.filter_cons_of_neg (by simpa using hf)]
        simp only [findD, hy, if_false]
        exact rowT_find k r
theorem rowT_put (k : ByteArray) (x : α) (j : Nat) : ∀ D : List (ByteArray × α), rowT f (putD k x D) j = if f k = j then putD k x (rowT f D j) else rowT f D j
  | [] => by
    show rowT f [(k, x)] j = _
    unfold rowT
    by_cases h : f k = j <;> simp [h, putD]
  | (y, v) :: r => by
    have ih := rowT_put k x j r
    unfold rowT at ih ⊢
    by_cases hy : y = k
    · subst hy
      simp only [putD, if_true]
      by_cases h : f y = j <;> simp [h, putD]
    · simp only [putD, hy, if_false]
      by_cases h : f y = j
      · rw [List.filter_cons_of_pos (by simpa using h), List.filter_cons_of_pos (by simpa using h), ih]
        by_cases hk : f k = j <;> simp [hk, putD, hy]
      · rw [List.filter_cons_of_neg (by simpa using h), List.filter_cons_of_neg (by simpa using h), ih]
theorem rowT_del (k : ByteArray) (j : Nat) : ∀ D : List (ByteArray × α), rowT f (delD k D) j = if f k = j then delD k (rowT f D j) else rowT f D j
  | [] => by
    show [] = _
    by_cases h : f k = j <;> simp [h, rowT, delD]
  | (y, v) :: r => by
    have ih := rowT_del k j r
    unfold rowT at ih ⊢
    by_cases hy : y = k
    · subst hy
      simp only [delD, if_true]
      by_cases h : f y = j <;> simp [h, delD]
    · simp only [delD, hy, if_false]
      by_cases h : f y = j
      · rw [List.filter_cons_of_pos (by simpa using h), List.filter_cons_of_pos (by simpa using h), ih]
        by_cases hk : f k = j <;> simp [hk, delD, hy]
      · rw [List.filter_cons_of_neg (by simpa using h), List.filter_cons_of_neg (by simpa using h), ih]
theorem rowT_len (D : List (ByteArray × α)) (j : Nat) : (rowT f D j).length ≤ D.length := List.length_filter_le _ _
/-- All rows, one behind another. -/
def catT (D : List (ByteArray × α)) (n : Nat) : List (ByteArray × α) := (List.range n).flatMap (rowT f D)
theorem catT_succ (D : List (ByteArray × α)) (n : Nat) : catT f D (n + 1) = catT f D n ++ rowT f D n := by simp [catT, List.range_succ]
theorem catT_perm (D : List (ByteArray × α)) : ∀ n, (catT f D n).Perm (D.filter fun p => decide (f p.1 < n))
  | 0 => by simp [catT]
  | n + 1 => by
    rw [catT_succ]
    refine ((catT_perm D n).append_right _).trans ?_
    unfold rowT
    have e1 : (D.filter fun p => decide (f p.1 < n)) = (D.filter fun p => decide (f p.1 < n + 1)).filter fun p => decide (f p.1 < n) := by
      rw [List.filter_filter]
      refine List.filter_congr fun p _ => ?_
      by_cases h : f p.1 < n
      · simp [h, Nat.lt_succ_of_lt h]
      · simp [h]
    have e2 : (D.filter fun p => f p.1 == n) = (D.filter fun p => decide (f p.1 < n + 1)).filter fun p => !decide (f p.1 < n) := by
      rw [List.filter_filter]
      refine List.filter_congr fun p _ => ?_
      by_cases h : f p.1 = n
      · simp [h]
      · by_cases h2 : f p.1 < n
        · simp [h, h2]
        · have : ¬ f p.1 < n + 1 := by omega
          simp [h, h2, this]
    rw [e1, e2]
    exact List.filter_append_perm _ _
theorem catT_all (D : List (ByteArray × α)) (n : Nat) (h : ∀ s, f s < n) : (catT f D n).Perm D := by
  refine (catT_perm f D n).trans ?_
  rw [List.filter_eq_self.2 fun p _ => decide_eq_true (h p.1)]
end
/-- A name's place in a row. -/
def idxD {α : Type} (k : ByteArray) : List (ByteArray × α) → Option Nat
  | [] => none
  | (y, _) :: r => if y = k then some 0 else (idxD k r).map (· + 1)
section
variable {α : Type}
theorem idxD_none {k : ByteArray} : ∀ {D : List (ByteArray × α)}, idxD k D = none → findD k D = none ∧ ∀ (i : Nat) (y : ByteArray) (v : α), D[i]? = some (y, v) → y ≠ k
  | [], _ => ⟨rfl, fun i y v h => by simp at h⟩
  | (y, v) :: r, h => by
    by_cases hy : y = k
    · simp [idxD, hy] at h
    · simp [idxD, hy] at h
      have ih := idxD_none (D := r) h
      refine ⟨by simpa [findD, hy] using ih.1, fun i z u hz => ?_⟩
      cases i with
      | zero => simp at hz; exact hz.1 ▸ hy
      | succ i => exact ih.2 i z u (by simpa using hz)
theorem idxD_some {k : ByteArray} : ∀ {D : List (ByteArray × α)} {i : Nat}, idxD k D = some i → ∃ v, D[i]? = some (k, v) ∧ findD k D = some v ∧ (∀ x, putD k x D = D.set i (k, x)) ∧ delD k D = D.eraseIdx i ∧ ∀ (q : Nat) (y : ByteArray) (u : α), q < i → D[q]? = some (y, u) → y ≠ k
  | [], i, h => by cases h
  | (y, v) :: r, i, h => by
    by_cases hy : y = k
    · simp [idxD, hy] at h
      subst h hy
      exact ⟨v, rfl, by simp [findD], fun x => by simp [putD], by simp [delD], fun q _ _ hq => absurd hq (Nat.not_lt_zero _)⟩
    · simp [idxD, hy] at h
      obtain ⟨i', h1, rfl⟩ := h
      obtain ⟨u, h2, h3, h4, h5, h6⟩ := idxD_some h1
      refine ⟨u, by simpa using h2, by simpa [findD, hy] using h3, fun x => by simp [putD, hy, h4 x], by simp [delD, hy, h5], fun q z w hq hz => ?_⟩
      cases q with
      | zero => simp at hz; exact hz.1 ▸ hy
      | succ q => exact h6 q z w (by omega) (by simpa using hz)
theorem put_new {k : ByteArray} {x : α} : ∀ {D : List (ByteArray × α)}, findD k D = none → putD k x D = D ++ [(k, x)]
  | [], _ => rfl
  | (y, v) :: r, h => by
    by_cases hy : y = k
    · simp [findD, hy] at h
    · simp [findD, hy] at h
      simp [putD, hy, put_new h]
theorem del_new {k : ByteArray} : ∀ {D : List (ByteArray × α)}, findD k D = none → delD k D = D
  | [], _ => rfl
  | (y, v) :: r, h => by
    by_cases hy : y = k
    · simp [findD, hy] at h
    · simp [findD, hy] at h
      simp [delD, hy, del_new h]
theorem put_len {k : ByteArray} {x : α} (D : List (ByteArray × α)) : (putD k x D).length = if (findD k D).isSome then D.length else D.length + 1 := by
  induction D with
  | nil => rfl
  | cons p r ih =>
    obtain ⟨y, v⟩ := p
    by_cases hy : y = k
    · simp [putD, findD, hy]
    · simp [putD, findD, hy, ih]
      split <;> rfl
theorem del_len {k : ByteArray} (D : List (ByteArray × α)) : (delD k D).length = if (findD k D).isSome then D.length - 1 else D.length := by
  induction D with
  | nil => rfl
  | cons p r ih =>
    obtain ⟨y, v⟩ := p
    by_cases hy : y = k
    · simp [delD, findD, hy]
    · simp [delD, findD, hy, ih]
      cases hf : findD k r with
      | none => simp
      | some z =>
        have : r ≠ [] := by rintro rfl; cases hf
        have := List.length_pos_iff.2 this
        simp
        omega
end
end Go.Proofs.YticlacjpgjkhcaaGreatDoor

/- A hash as data: names with places, texts by places. -/
namespace Go.Proofs.YticlacjpgjkhcaaGreatDoor
open Go.ChangeShapes Go.WideShapes Go.ChangeAt Go.RowKit

/-- What names with places and texts by places are: fields. -/
def fldT (L : List ByteArray) (p : ByteArray × Nat) : ByteArray × ByteArray := (p.1, (L[p.2]?).getD ⟨#[]⟩)
structure HF (D : List (ByteArray × Nat)) (L : List ByteArray) (F : List (ByteArray × ByteArray)) : Prop where
  eq : F = D.map (fldT L)
  lt : ∀ p ∈ D, p.2 < L.length
  nd : (D.map Prod.snd).Nodup
theorem HF.nil : HF [] [] [] := ⟨rfl, fun _ h => (by cases h), (by simp)⟩
theorem HF.names {D : List (ByteArray × Nat)} {L : List ByteArray} {F : List (ByteArray × ByteArray)} (h : HF D L F) : namesD F = namesD D := by
  rw [h.eq]
  unfold namesD
  rw [List.map_map]
  rfl
theorem HF.len {D : List (ByteArray × Nat)} {L : List ByteArray} {F : List (ByteArray × ByteArray)} (h : HF D L F) : F.length = D.length := by
  rw [h.eq, List.length_map]
theorem findD_fld (L : List ByteArray) (k : ByteArray) : ∀ D : List (ByteArray × Nat), findD k (D.map (fldT L)) = (findD k D).map fun q => (L[q]?).getD ⟨#[]⟩
  | [] => rfl
  | (y, q) :: r => by
    show (if y = k then some ((L[q]?).getD ⟨#[]⟩) else findD k (r.map (fldT L))) = (if y = k then some q else findD k r).map _
    by_cases hy : y = k
    · rw [if_pos hy, if_pos hy]
      rfl
    · rw [if_neg hy, if_neg hy]
      exact findD_fld L k r
theorem HF.find {D : List (ByteArray × Nat)} {L : List ByteArray} {F : List (ByteArray × ByteArray)} (h : HF D L F) (k : ByteArray) : findD k F = (findD k D).map fun q => (L[q]?).getD ⟨#[]⟩ := by
  rw [h.eq]
  exact findD_fld L k D
theorem HF.find_none {D : List (ByteArray × Nat)} {L : List ByteArray} {F : List (ByteArray × ByteArray)} (h : HF D L F) (k : ByteArray) (hk : findD k D = none) : findD k F = none := by rw [h.find, hk]; rfl
theorem HF.find_some {D : List (ByteArray × Nat)} {L : List ByteArray} {F : List (ByteArray × ByteArray)} (h : HF D L F) (k : ByteArray) (q : Nat) (hk : findD k D = some q) : ∃ t, L[q]? = some t ∧ findD k F = some t := by
  have hlt := h.lt _ (findD_mem hk)
  refine ⟨L[q], List.getElem?_eq_getElem hlt, ?_⟩
  rw [h.find, hk, Option.map_some, List.getElem?_eq_getElem hlt]
  rfl
theorem HF.new {D : List (ByteArray × Nat)} {L : List ByteArray} {F : List (ByteArray × ByteArray)} (h : HF D L F) (k t : ByteArray) (hk : findD k D = none) : HF (D ++ [(k, L.length)]) (L ++ [t]) (putD k t F) := by
  refine ⟨?_, fun p hp => ?_, ?_⟩
  · rw [put_new (h.find_none k hk), List.map_append, h.eq]
    congr 1
    · refine List.map_congr_left fun p hp => ?_
      unfold fldT
      rw [List.getElem?_append_left (h.lt p hp)]
    · simp [fldT]
  · rw [List.length_append]
    rcases List.mem_append.1 hp with hp | hp
    · have := h.lt p hp
      omega
    · simp at hp
      subst hp
      simp
  · rw [List.map_append, List.nodup_append]
    refine ⟨h.nd, by simp, fun a ha b hb => ?_⟩
    simp at hb
    subst hb
    rintro rfl
    obtain ⟨p, hp, e⟩ := List.mem_map.1 ha
    have := h.lt p hp
    omega
theorem HF.set {D : List (ByteArray × Nat)} {L : List ByteArray} {F : List (ByteArray × ByteArray)} (h : HF D L F) (k t : ByteArray) (q : Nat) (hk : findD k D = some q) : HF D (L.set q t) (putD k t F) := by
  refine ⟨?_, fun p hp => by rw [List.length_set]; exact h.lt p hp, h.nd⟩
  have hq := h.lt _ (findD_mem hk)
  have key : ∀ D' : List (ByteArray × Nat), (∀ p ∈ D', p.2 < L.length) → (D'.map Prod.snd).Nodup → findD k D' = some q → putD k t (D'.map (fldT L)) = D'.map (fldT (L.set q t)) := by
    intro D'
    induction D' with
    | nil => intro _ _ hf; cases hf
    | cons p r ih =>
      obtain ⟨y, i⟩ := p
      intro hlt hnd hf
      have hnd' : i ∉ r.map Prod.snd ∧ (r.map Prod.snd).Nodup := List.nodup_cons.1 hnd
      by_cases hy : y = k
      · simp [findD, hy] at hf
        subst hf hy
        show (if y = y then (y, t) :: r.map (fldT L) else _) = fldT (L.set i t) (y, i) :: r.map (fldT (L.set i t))
        rw [if_pos rfl]
        congr 1
        · simp [fldT, hlt (y, i) (by simp)]
        · refine List.map_congr_left fun p hp => ?_
          have : p.2 ≠ i := fun e => hnd'.1 (List.mem_map.2 ⟨p, hp, e⟩)
          unfold fldT
          rw [List.getElem?_set_ne (Ne.symm this)]
      · simp [findD, hy] at hf
        show (if y = k then _ else fldT L (y, i) :: putD k t (r.map (fldT L))) = fldT (L.set q t) (y, i) :: r.map (fldT (L.set q t))
        rw [if_neg hy, ih (fun p hp => hlt p (List.mem_cons_of_mem _ hp)) hnd'.2 hf]
        congr 1
        have : q ≠ i := by
          rintro rfl
          exact hnd'.1 (List.mem_map.2 ⟨(k, q), findD_mem hf, rfl⟩)
        unfold fldT
        rw [List.getElem?_set_ne this]
  rw [h.eq]
  exact key D h.lt h.nd hk
theorem del_fld (L : List ByteArray) (k : ByteArray) : ∀ D : List (ByteArray × Nat), delD k (D.map (fldT L)) = (delD k D).map (fldT L)
  | [] => rfl
  | (y, q) :: r => by
    show (if y = k then r.map (fldT L) else fldT L (y, q) :: delD k (r.map (fldT L))) = (if y = k then r else (y, q) :: delD k r).map (fldT L)
    by_cases hy : y = k
    · rw [if_pos hy, if_pos hy]
    · rw [if_neg hy, if_neg hy, del_fld L k r]
      rfl
theorem del_sub {α : Type} (k : ByteArray) : ∀ D : List (ByteArray × α), (delD k D).Sublist D
  | [] => List.Sublist.refl _
  | (y, v) :: r => by
    show (if y = k then r else (y, v) :: delD k r).Sublist _
    by_cases hy : y = k
    · rw [if_pos hy]
      exact List.sublist_cons_self _ _
    · rw [if_neg hy]
      exact (del_sub k r).cons_cons _
theorem HF.del {D : List (ByteArray × Nat)} {L : List ByteArray} {F : List (ByteArray × ByteArray)} (h : HF D L F) (k : ByteArray) : HF (delD k D) L (delD k F) :=
  ⟨by rw [h.eq]; exact del_fld L k D, fun p hp => h.lt p ((del_sub k D).subset hp), h.nd.sublist ((del_sub k D).map _)⟩
end Go.Proofs.YticlacjpgjkhcaaGreatDoor

/- Fields put one by one, plain. -/
namespace Go.Proofs.YticlacjpgjkhcaaGreatDoor
open Go.ChangeShapes Go.WideShapes Go.ChangeAt Go.RowKit

theorem putD_end {α : Type} (k : ByteArray) (u : α) : ∀ (D : List (ByteArray × α)), findD k D = none → putD k u D = D ++ [(k, u)]
  | [], _ => rfl
  | (x, v) :: r, h => by
    unfold findD at h
    unfold putD
    by_cases hx : x = k
    · rw [if_pos hx] at h; cases h
    · rw [if_neg hx] at h ⊢
      rw [putD_end k u r h]; rfl
theorem findD_no_such {α : Type} (k : ByteArray) : ∀ (D : List (ByteArray × α)), (∀ p ∈ D, p.1 ≠ k) → findD k D = none
  | [], _ => rfl
  | (x, v) :: r, h => by
    unfold findD
    rw [if_neg (h (x, v) List.mem_cons_self)]
    exact findD_no_such k r fun p hp => h p (List.mem_cons_of_mem _ hp)
theorem put_take {α : Type} (F : List (ByteArray × α)) (hd : ∀ (i j : Nat) (p q : ByteArray × α), i < j → F[i]? = some p → F[j]? = some q → p.1 ≠ q.1) (i : Nat) (p : ByteArray × α) (hp : F[i]? = some p) : findD p.1 (F.take i) = none ∧ putD p.1 p.2 (F.take i) = F.take (i + 1) := by
  have h1 : findD p.1 (F.take i) = none := findD_no_such _ _ fun q hq => by
    obtain ⟨j, hj⟩ := List.mem_iff_getElem?.1 hq
    have hji : j < i := by
      have := (List.getElem?_eq_some_iff.1 hj).1
      rw [List.length_take] at this
      omega
    rw [List.getElem?_take_of_lt hji] at hj
    exact hd j i q p hji hj hp
  refine ⟨h1, ?_⟩
  rw [putD_end _ _ _ h1, List.take_add_one, hp]
  rfl
end Go.Proofs.YticlacjpgjkhcaaGreatDoor

/- Fields that rise have no name twice, plain. -/
namespace Go.Proofs.YticlacjpgjkhcaaGreatDoor
open Go.ChangeShapes Go.WideShapes Go.ChangeAt Go.RowKit

theorem rise_far {α : Type} (F : List (ByteArray × α)) (hr : ∀ (i : Nat) (p q : ByteArray × α), F[i]? = some p → F[i + 1]? = some q → bl p.1 < bl q.1) : ∀ (d i : Nat) (p q : ByteArray × α), F[i]? = some p → F[i + 1 + d]? = some q → bl p.1 < bl q.1
  | 0, i, p, q, hp, hq => hr i p q hp hq
  | d + 1, i, p, q, hp, hq => by
    have hlt := (List.getElem?_eq_some_iff.1 hq).1
    obtain ⟨m, hm⟩ : ∃ m, F[i + 1 + d]? = some m := ⟨_, List.getElem?_eq_getElem (by omega)⟩
    exact List.lt_trans (rise_far F hr d i p m hp hm) (hr (i + 1 + d) m q hm hq)
theorem rise_apart {α : Type} (F : List (ByteArray × α)) (hr : ∀ (i : Nat) (p q : ByteArray × α), F[i]? = some p → F[i + 1]? = some q → bl p.1 < bl q.1) (i j : Nat) (p q : ByteArray × α) (h : i < j) (hp : F[i]? = some p) (hq : F[j]? = some q) : p.1 ≠ q.1 := by
  intro e
  obtain ⟨d, rfl⟩ : ∃ d, j = i + 1 + d := ⟨j - (i + 1), by omega⟩
  have := rise_far F hr d i p q hp hq
  rw [e] at this
  exact List.lt_irrefl _ this
end Go.Proofs.YticlacjpgjkhcaaGreatDoor

/- points.find: a name's place in rising points. -/
namespace Go.Proofs.YticlacjpgjkhcaaGreatDoor
open Go.ChangeShapes Go.WideShapes Go.ChangeAt Go.RowKit Go.Fl

theorem cb_lt : ∀ (a b : List UInt8), Lib.compareBytes a b < 0 ↔ a < b
  | [], [] => by simp [Lib.compareBytes]
  | [], y :: b => by simp [Lib.compareBytes]
  | x :: a, [] => by simp [Lib.compareBytes]
  | x :: a, y :: b => by
    unfold Lib.compareBytes
    rw [List.cons_lt_cons_iff]
    by_cases h1 : x < y
    · simp [h1]
    · by_cases h2 : y < x
      · have : x ≠ y := fun e => by subst e; exact UInt8.lt_irrefl x h2
        simp [h1, h2, this]
      · have : x = y := UInt8.le_antisymm (UInt8.not_lt.1 h2) (UInt8.not_lt.1 h1)
        subst this
        simp [UInt8.lt_irrefl, cb_lt a b]
theorem cb_eq : ∀ (a b : List UInt8), Lib.compareBytes a b = 0 ↔ a = b
  | [], [] => by simp [Lib.compareBytes]
  | [], y :: b => by simp [Lib.compareBytes]
  | x :: a, [] => by simp [Lib.compareBytes]
  | x :: a, y :: b => by
    unfold Lib.compareBytes
    by_cases h1 : x < y
    · have : x ≠ y := fun e => by subst e; exact UInt8.lt_irrefl x h1
      simp [h1, this]
    · by_cases h2 : y < x
      · have : x ≠ y := fun e => by subst e; exact UInt8.lt_irrefl x h2
        simp [h1, h2, this]
      · have : x = y := UInt8.le_antisymm (UInt8.not_lt.1 h2) (UInt8.not_lt.1 h1)
        subst this
        simp [UInt8.lt_irrefl, cb_eq a b]
/-- A name's place among names. -/
def PlN {α : Type} (F : List (ByteArray × α)) (s : ByteArray) (P : Nat) : Prop := P ≤ F.length ∧ ∀ (i : Nat) (p : ByteArray × α), F[i]? = some p → (Lib.compareBytes p.1.data.toList s.data.toList < 0 ↔ i < P)
/-- Behind all names. -/
theorem PlN.last {α : Type} {F : List (ByteArray × α)} {s : ByteArray} (h : ∀ p ∈ F, bl p.1 < bl s) : PlN F s F.length :=
  ⟨Nat.le_refl _, fun i p hp => ⟨fun _ => (List.getElem?_eq_some_iff.1 hp).1, fun _ => (cb_lt _ _).2 (h p (List.mem_of_getElem? hp))⟩⟩
/-- At a name that is there. -/
theorem PlN.at_ {α : Type} {F : List (ByteArray × α)} (hr : ∀ (i : Nat) (p q : ByteArray × α), F[i]? = some p → F[i + 1]? = some q → bl p.1 < bl q.1) {k : Nat} {q : ByteArray × α} (hk : F[k]? = some q) : PlN F q.1 k := by
  refine ⟨Nat.le_of_lt (List.getElem?_eq_some_iff.1 hk).1, fun i p hp => ⟨fun h => ?_, fun h => ?_⟩⟩
  · have h := (cb_lt _ _).1 h
    by_cases h1 : i < k
    · exact h1
    · by_cases h2 : i = k
      · subst h2
        rw [hk] at hp
        cases hp
        exact absurd h (List.lt_irrefl _)
      · obtain ⟨d, rfl⟩ : ∃ d, i = k + 1 + d := ⟨i - (k + 1), by omega⟩
        exact absurd (List.lt_trans h (rise_far F hr d k q p hk hp)) (List.lt_irrefl _)
  · obtain ⟨d, rfl⟩ : ∃ d, k = i + 1 + d := ⟨k - (i + 1), by omega⟩
    exact (cb_lt _ _).2 (rise_far F hr d i p q hp hk)
set_option maxRecDepth 100000 in
set_option maxHeartbeats 4000000 in
theorem find1_any (a s : ByteArray) (x y : Nat) (w : World) : Calls Tryz.prog 157 #[.agg #[.string a, .complex .f64 x y], .string s] w fun e w' => e = .returned (.int .i64 (Lib.compareBytes a.data.toList s.data.toList)) ∧ Below w.heap.size w w' := by
  have SC := Lib.hid (fun X => Tryz.strings_Compare a s X)
  have B := Lib.hid (alloc_old (w := w) (o := .cells #[.string a, .complex .f64 x y] 110))
  obtain ⟨d0, d1⟩ := cells_of (heap_alloc_new w (.cells #[.string a, .complex .f64 x y] 110))
  go_enter Tryz.func157, Tryz.ntmps157
  go_wp2_with (first | (go_at_call 158; (with_reducible refine (SC.out _).mono ?_); rintro e w2 ⟨rfl, rfl⟩))
  go_ret
  exact ⟨by simp, B.out⟩
set_option maxRecDepth 100000 in
set_option maxHeartbeats 8000000 in
/-- slices.BinarySearchFunc of a name. -/
theorem bs_any (A : Option Addr) (n C c : Nat) (F : List (ByteArray × Int × Int)) (hn : F.length = n) (s : ByteArray) (P : Nat) (hP : PlN F s P) (fd : Bool) (hfd : fd = true ↔ ∃ p, F[P]? = some p ∧ p.1 = s) (hm : n ≤ 1000000) (w : World) (h : RP w c (.slice A n C) F) : Calls Tryz.prog 156 #[.slice A n C, .string s, .func (.func 157) #[] #[]] w fun e w' => e = .returned (.tuple #[.int .i64 P, .bool fd]) ∧ Below w.heap.size w w' := by
  have HR := Lib.hid h
  have HP := Lib.hid hP
  have HF := Lib.hid hfd
  have HN := Lib.hid hn
  have HA := Lib.hid (show 0 < n → ∃ g, A = some ⟨g, 0, none⟩ ∧ n ≤ C from fun h0 => by
    obtain ⟨g, C', e, h1⟩ := h.form (by intro e; rw [e] at hn; simp at hn; omega)
    cases e
    exact ⟨g, rfl, by omega⟩)
  have hPn : P ≤ n := by rw [← hn]; exact hP.1
  have F1 := Lib.hid (fun a x y X => find1_any a s x y X)
  clear h hP hfd hn
  go_enter Tryz.func156, Tryz.ntmps156
  go_wp2
  go_loopw [9, 10] (fun iv jv wr => ∃ i j : Nat, i ≤ P ∧ P ≤ j ∧ j ≤ n ∧ iv = .int .i64 i ∧ jv = .int .i64 j ∧ Hid (Below w.heap.size w wr)) (fun iv jv _ => (intOf jv).toNat - (intOf iv).toNat)
  case atStart => exact ⟨0, n, Nat.zero_le _, hPn, Nat.le_refl _, rfl, rfl, Lib.hid (Below.refl _ _)⟩
  case round =>
    obtain ⟨i, j, hi, hj, hjn, rfl, rfl, HB⟩ := hrel
    by_cases hlt : i < j
    · have i0 : (i : Int) < (j : Int) := by omega
      obtain ⟨m, hm2⟩ : ∃ m, (i + j) / 2 = m := ⟨_, rfl⟩
      have m1 : i ≤ m := by omega
      have m2 : m < j := by omega
      obtain ⟨p, hp⟩ : ∃ p, F[m]? = some p := ⟨_, List.getElem?_eq_getElem (by rw [HN.out]; omega)⟩
      obtain ⟨g, rfl, hC⟩ := HA.out (by omega)
      obtain ⟨d0, d1⟩ := (HR.out.below HB.out).at HN.out m p hp
      obtain ⟨z, hz⟩ : ∃ z, Lib.compareBytes p.1.data.toList s.data.toList = z := ⟨_, rfl⟩
      have hzP := HP.out.2 m p hp
      have FM := F1.out p.1 (fi p.2.1) (fi p.2.2) wr
      rw [hz] at hzP FM
      have FM := Lib.hid FM
      have w1 : IntKind.i64.wrap ((i : Int) + (j : Int)) = (i : Int) + (j : Int) := IntWalk.i64_in _ (by omega)
      have w2 : IntKind.u64.wrap ((i : Int) + (j : Int)) = (i : Int) + (j : Int) := by rw [IntKind.wrap_u64]; omega
      have w3 : ((i : Int) + (j : Int)) / 2 = (m : Int) := by omega
      have w4 : IntKind.i64.wrap (m : Int) = (m : Int) := IntWalk.i64_in _ (by omega)
      have w5 : IntKind.i64.wrap ((m : Int) + 1) = (m : Int) + 1 := IntWalk.i64_in _ (by omega)
      have m3 : (m : Int) < (n : Int) := by omega
      clear hp hz
      by_cases hz0 : z < 0
      · have hmP : m < P := hzP.1 hz0
        clear hzP
        go_wp2_with (first | (go_at_call 157; (with_reducible refine (FM.out).mono ?_); rintro e w2 ⟨rfl, h1⟩; have HB1 := Lib.hid (HB.out.trans (h1.mono (Below.size HB.out))); clear h1))
        exact ⟨⟨m + 1, j, by omega, by omega, hjn, by go_num, rfl, HB1⟩, by simp [intOf]; omega⟩
      · have hmP : P ≤ m := by
          by_cases h : m < P
          · exact absurd (hzP.2 h) hz0
          · omega
        clear hzP
        go_wp2_with (first | (go_at_call 157; (with_reducible refine (FM.out).mono ?_); rintro e w2 ⟨rfl, h1⟩; have HB1 := Lib.hid (HB.out.trans (h1.mono (Below.size HB.out))); clear h1))
        exact ⟨⟨i, m, by omega, by omega, by omega, rfl, rfl, HB1⟩, by simp [intOf]; omega⟩
    · obtain rfl : i = j := by omega
      obtain rfl : P = i := by omega
      have i0 : ¬ (P : Int) < (P : Int) := by omega
      by_cases hPl : P < n
      · obtain ⟨p, hp⟩ : ∃ p, F[P]? = some p := ⟨_, List.getElem?_eq_getElem (by rw [HN.out]; omega)⟩
        obtain ⟨g, rfl, hC⟩ := HA.out (by omega)
        obtain ⟨d0, d1⟩ := (HR.out.below HB.out).at HN.out P p hp
        obtain ⟨z, hz⟩ : ∃ z, Lib.compareBytes p.1.data.toList s.data.toList = z := ⟨_, rfl⟩
        have FM := F1.out p.1 (fi p.2.1) (fi p.2.2) wr
        rw [hz] at FM
        have FM := Lib.hid FM
        have m3 : (P : Int) < (n : Int) := by omega
        have hzf : (z == 0) = fd := by
          have h1 : (z = 0 ↔ fd = true) := by
            rw [HF.out, ← hz, cb_eq]
            constructor
            · intro h; exact ⟨p, hp, Go.WideShapes.bytes_inj h⟩
            · rintro ⟨q, hq, rfl⟩; rw [hp] at hq; cases hq; rfl
          cases fd with
          | true => have := h1.2 rfl; simp [this]
          | false => have : ¬ z = 0 := fun e => by simpa using h1.1 e
                     simp [this]
        clear hp hz
        go_wp2_with (first | (go_at_call 157; (with_reducible refine (FM.out).mono ?_); rintro e w2 ⟨rfl, h1⟩; have HB1 := Lib.hid (HB.out.trans (h1.mono (Below.size HB.out))); clear h1))
        go_ret2
        exact ⟨by simp [hzf], HB1.out⟩
      · have m3 : ¬ (P : Int) < (n : Int) := by omega
        have hfF : fd = false := by
          cases fd with
          | false => rfl
          | true =>
            obtain ⟨q, hq, _⟩ := HF.out.1 rfl
            have := (List.getElem?_eq_some_iff.1 hq).1
            rw [HN.out] at this
            omega
        subst hfF
        go_wp2_with fail
        go_ret2
        exact ⟨by simp, HB.out⟩
set_option maxHeartbeats 2000000 in
/-- points.find. -/
theorem pfind_any (A : Option Addr) (n C c : Nat) (F : List (ByteArray × Int × Int)) (hn : F.length = n) (s : ByteArray) (P : Nat) (hP : PlN F s P) (fd : Bool) (hfd : fd = true ↔ ∃ p, F[P]? = some p ∧ p.1 = s) (hm : n ≤ 1000000) (w : World) (h : RP w c (.slice A n C) F) : Calls Tryz.prog 101 #[.slice A n C, .string s] w fun e w' => e = .returned (.tuple #[.int .i64 P, .bool fd]) ∧ Below w.heap.size w w' := by
  have BS := Lib.hid (bs_any A n C c F hn s P hP fd hfd hm w h)
  have hmf : ∀ (fn : Fn) (first cap : Array Value) (w : World), (Instr.makeFunc fn first cap).run Tryz.prog w = .ok (.func fn first cap) w := fun _ _ _ _ => rfl
  clear hn hP hfd h
  go_enter Tryz.func101, Tryz.ntmps101
  go_wp2_with (first | (go_at_call 156; (with_reducible refine (BS.out).mono ?_); rintro e w2 ⟨rfl, h1⟩; have HB1 := Lib.hid h1; clear h1))
  go_ret2
  exact ⟨rfl, HB1.out⟩
end Go.Proofs.YticlacjpgjkhcaaGreatDoor
