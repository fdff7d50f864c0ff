/- Numbers' texts and the points that they are. -/
import Derived.Test.YtlgfgjcbdnnhfaaDoorIn4
import Derived.Test.YtlgfgjcbdnnhfaaDoorPl2
import Derived.Test.YtlgfgjcbdnnhfaaDoorShelf
import Derived.Lib.AppendIntMem
import Derived.Lib.ItoaLen
import Derived.WalkSmall
namespace Go.Proofs.YtlgfgjcbdnnhfaaDoor
open Go.ChangeShapes Go.WideShapes Go.ChangeAt Go.RowKit Go.Fl

theorem val_dec (u : Nat) : val (Lib.decDigits u) = u ∧ (Lib.decDigits u).all dig = true := by
  induction u using Nat.strongRecOn with
  | _ u ih =>
    rw [Lib.decDigits]
    split
    · rename_i h
      have hc : (UInt8.ofNat (48 + u)).toNat = 48 + u := by rw [UInt8.toNat_ofNat']; omega
      refine ⟨by simp [val]; omega, ?_⟩
      simp only [List.all_cons, List.all_nil, Bool.and_true, dig, hc]
      exact decide_eq_true (by omega)
    · rename_i h
      have hc : (UInt8.ofNat (48 + u % 10)).toNat = 48 + u % 10 := by rw [UInt8.toNat_ofNat']; omega
      obtain ⟨h1, h2⟩ := ih (u / 10) (by omega)
      refine ⟨by rw [val_snoc, h1, hc]; omega, ?_⟩
      rw [List.all_append, h2]
      simp only [List.all_cons, List.all_nil, Bool.and_true, dig, hc]
      exact decide_eq_true (by omega)
theorem dec_head (u : Nat) : ∃ c r, Lib.decDigits u = c :: r ∧ (c.toNat = 48 → u = 0 ∧ r = []) ∧ 48 ≤ c.toNat ∧ c.toNat ≤ 57 := by
  induction u using Nat.strongRecOn with
  | _ u ih =>
    rw [Lib.decDigits]
    split
    · rename_i h
      have hc : (UInt8.ofNat (48 + u)).toNat = 48 + u := by rw [UInt8.toNat_ofNat']; omega
      exact ⟨_, _, rfl, fun g => ⟨by omega, rfl⟩, by omega, by omega⟩
    · rename_i h
      obtain ⟨c, r, h1, h2, h3⟩ := ih (u / 10) (by omega)
      rw [h1]
      refine ⟨c, r ++ [UInt8.ofNat (48 + u % 10)], by simp, fun g => ?_, h3⟩
      have := h2 g
      omega
theorem parse_itoa (n : Int) (h0 : -9223372036854775808 ≤ n) (h1 : n ≤ 9223372036854775807) : parseI (Lib.itoa n) = some n := by
  unfold Lib.itoa
  split
  · rename_i hn
    obtain ⟨c, r, e, hz, hc⟩ := dec_head n.natAbs
    obtain ⟨hv, ha⟩ := val_dec n.natAbs
    have hneg : isNeg (45 :: Lib.decDigits n.natAbs) = true := rfl
    have hb : body (45 :: Lib.decDigits n.natAbs) = Lib.decDigits n.natAbs := rfl
    have hac : acc true (val (Lib.decDigits n.natAbs)) = n := by rw [hv]; simp [acc]; omega
    have hp := parse_ok (45 :: Lib.decDigits n.natAbs) (by rw [hb, e]; simp) (by
      rw [hb, e]
      simp only [List.head?_cons, Option.some.injEq]
      rintro ⟨g, _⟩
      have := hz (by rw [g]; rfl)
      omega) (by rw [hb]; exact ha) (by rw [hneg, hb, hac]; exact rng_yes h0 h1)
    rw [hp, hneg, hb, hac]
  · rename_i hn
    obtain ⟨c, r, e, hz, hc⟩ := dec_head n.toNat
    obtain ⟨hv, ha⟩ := val_dec n.toNat
    have hneg : isNeg (Lib.decDigits n.toNat) = false := by
      rw [e]; unfold isNeg
      simp only [List.head?_cons]
      rw [beq_eq_false_iff_ne]
      intro g
      injection g with g
      rw [g] at hc
      have : (45 : UInt8).toNat = 45 := rfl
      omega
    have hb : body (Lib.decDigits n.toNat) = Lib.decDigits n.toNat := by unfold body; rw [hneg]; rfl
    have hac : acc false (val (Lib.decDigits n.toNat)) = n := by rw [hv]; simp [acc]; omega
    have hp := parse_ok (Lib.decDigits n.toNat) (by rw [hb, e]; simp) (by
      rw [hb, e]
      simp only [List.head?_cons, Option.some.injEq]
      rintro ⟨g, hl⟩
      have := hz (by rw [g]; rfl)
      rw [this.2] at hl
      simp at hl) (by rw [hb]; exact ha) (by rw [hneg, hb, hac]; exact rng_yes h0 h1)
    rw [hp, hneg, hb, hac]

/-- What a call leaves: nothing that was there at the beginning has turned. -/
def Inv (w0 w : World) : Prop := Below w0.heap.size w0 w
theorem Inv.drewN {w0 w : World} (h : Inv w0 w) (n : Nat) : Inv w0 (w.drewN n) := below_drewN h n
theorem Inv.size {w0 w : World} (h : Inv w0 w) : w0.heap.size ≤ w.heap.size := Below.size h
def Tab (w0 : World) : Prop := Lib.TabIs Tryd.prog w0 "internal/strconv.uint64pow10" .u64 Lib.pow10Tab
theorem Tab.at_ {w0 w : World} (h : Tab w0) (hi : Inv w0 w) : Lib.TabIs Tryd.prog w "internal/strconv.uint64pow10" .u64 Lib.pow10Tab := Lib.tabBelow_of_tabIs h w hi
theorem Print6 (w0 : World) (hT : Tab w0) (n : Int) (h0 : -1000 ≤ n) (h1 : n ≤ 1000) (w : World) (hi : Inv w0 w) :
    Calls Tryd.prog 6 #[.int .i64 n] w fun e w' => e = .returned (.string ⟨(Lib.itoa n).toArray⟩) ∧ Inv w0 w' := by
  have C := Lib.hid (show Calls Tryd.prog 14 #[.int .i64 n, .int .i64 10] w fun e w' => e = .returned (.string ⟨(Lib.itoa n).toArray⟩) ∧ Inv w0 w' from by
    refine (Tryd.strconv_FormatInt_10 n (by omega) (by omega) w (hT.at_ hi)).mono ?_
    rintro e w' ⟨rfl, k, os, rfl⟩
    exact ⟨rfl, Below.trans hi (Lib.below_grow _ w hi.size k os)⟩)
  clear hT hi
  go_enter Tryd.func6, Tryd.ntmps6
  go_wp2_with (go_at_call 14; refine (C.out).mono ?_; rintro e w' ⟨rfl, hi'⟩)
  go_ret
  exact ⟨by simp, by assumption⟩
theorem ParseN (n : Int) (h0 : -1000 ≤ n) (h1 : n ≤ 1000) (w : World) : Calls Tryd.prog 13 #[.string ⟨(Lib.itoa n).toArray⟩] w fun e w' => e = .returned (.tuple #[.int .i64 n, .bool true]) ∧ ∃ m, w' = w.drewN m := by
  have hl : (⟨(Lib.itoa n).toArray⟩ : ByteArray).size ≤ 21 := Lib.itoa_length_le n (by omega) (by omega)
  refine (Parse9 _ (by omega) w).mono ?_
  rintro e w' ⟨rfl, m, rfl⟩
  refine ⟨?_, m, rfl⟩
  show Ending.returned (optV (parseI (Lib.itoa n))) = _
  rw [parse_itoa n (by omega) (by omega)]
  rfl
set_option maxHeartbeats 2000000 in
theorem PlaneParse5 (x y : Int) (hx : -1000 ≤ x ∧ x ≤ 1000) (hy : -1000 ≤ y ∧ y ≤ 1000) (w : World) :
    Calls Tryd.prog 5 #[.string ⟨(Lib.itoa x).toArray⟩, .string ⟨(Lib.itoa y).toArray⟩] w fun e w' => e = .returned (.tuple #[.complex .f64 (fi x) (fi y), .bool true]) ∧ Below w.heap.size w w' := by
  have P1 := Lib.hid (fun w => ParseN x hx.1 hx.2 w)
  have P2 := Lib.hid (fun w => ParseN y hy.1 hy.2 w)
  obtain ⟨x1, x2⟩ := hx
  obtain ⟨y1, y2⟩ := hy
  have i1 : ¬ (x < -1048576) := by omega
  have i2 : ¬ (1048576 < x) := by omega
  have i3 : ¬ (y < -1048576) := by omega
  have i4 : ¬ (1048576 < y) := by omega
  have f1 := floatOfInt_fi
  go_enter Tryd.func5, Tryd.ntmps5
  go_wp2_with (first | (go_at_call 13; (with_reducible refine (P1.out _).mono ?_); rintro e w1 ⟨rfl, m1, rfl⟩) | (go_at_call 13; (with_reducible refine (P2.out _).mono ?_); rintro e w2 ⟨rfl, m2, rfl⟩))
  go_ret2
  exact ⟨rfl, below_drewN (Below.refl _ _) (m1 + m2)⟩
end Go.Proofs.YtlgfgjcbdnnhfaaDoor
