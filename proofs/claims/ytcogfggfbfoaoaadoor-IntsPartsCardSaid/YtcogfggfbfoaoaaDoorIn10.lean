/- The walk of the law IntsTexts: under the table that strconv's numbers are printed with. -/
import Derived.Test.YtcogfggfbfoaoaaDoorIn9
import Derived.Lib.AppendIntMem
import Derived.Lib.ItoaLen
import Derived.WalkSmall
namespace Go.Proofs.YtcogfggfbfoaoaaDoor
open Go.ChangeShapes Go.WideShapes Go.ChangeAt Go.RowKit

/-! a number's text is read back -/
theorem val_dec (u : Nat) : val (Lib.decDigits u) = u ∧ (Lib.decDigits u).all dig = true := by
  induction u using Nat.strongRecOn with
  | _ u ih =>
    rw [Lib.decDigits]
    split
    · rename_i h
      have hc : (UInt8.ofNat (48 + u)).toNat = 48 + u := by rw [UInt8.toNat_ofNat']; omega
      refine ⟨by simp [val]; omega, ?_⟩
      simp only [List.all_cons, List.all_nil, Bool.and_true, dig, hc]
      exact decide_eq_true (by omega)
    · rename_i h
      have hc : (UInt8.ofNat (48 + u % 10)).toNat = 48 + u % 10 := by rw [UInt8.toNat_ofNat']; omega
      obtain ⟨h1, h2⟩ := ih (u / 10) (by omega)
      refine ⟨by rw [val_snoc, h1, hc]; omega, ?_⟩
      rw [List.all_append, h2]
      simp only [List.all_cons, List.all_nil, Bool.and_true, dig, hc]
      exact decide_eq_true (by omega)
theorem dec_head (u : Nat) : ∃ c r, Lib.decDigits u = c :: r ∧ (c.toNat = 48 → u = 0 ∧ r = []) ∧ 48 ≤ c.toNat ∧ c.toNat ≤ 57 := by
  induction u using Nat.strongRecOn with
  | _ u ih =>
    rw [Lib.decDigits]
    split
    · rename_i h
      have hc : (UInt8.ofNat (48 + u)).toNat = 48 + u := by rw [UInt8.toNat_ofNat']; omega
      exact ⟨_, _, rfl, fun g => ⟨by omega, rfl⟩, by omega, by omega⟩
    · rename_i h
      obtain ⟨c, r, h1, h2, h3⟩ := ih (u / 10) (by omega)
      rw [h1]
      refine ⟨c, r ++ [UInt8.ofNat (48 + u % 10)], by simp, fun g => ?_, h3⟩
      have := h2 g
      omega
theorem parse_itoa (n : Int) (h0 : -9223372036854775808 ≤ n) (h1 : n ≤ 9223372036854775807) : parseI (Lib.itoa n) = some n := by
  unfold Lib.itoa
  split
  · rename_i hn
    obtain ⟨c, r, e, hz, hc⟩ := dec_head n.natAbs
    obtain ⟨hv, ha⟩ := val_dec n.natAbs
    have hneg : isNeg (45 :: Lib.decDigits n.natAbs) = true := rfl
    have hb : body (45 :: Lib.decDigits n.natAbs) = Lib.decDigits n.natAbs := rfl
    have hac : acc true (val (Lib.decDigits n.natAbs)) = n := by rw [hv]; simp [acc]; omega
    have hp := parse_ok (45 :: Lib.decDigits n.natAbs) (by rw [hb, e]; simp) (by
      rw [hb, e]
      simp only [List.head?_cons, Option.some.injEq]
      rintro ⟨g, _⟩
      have := hz (by rw [g]; rfl)
      omega) (by rw [hb]; exact ha) (by rw [hneg, hb, hac]; exact rng_yes h0 h1)
    rw [hp, hneg, hb, hac]
  · rename_i hn
    obtain ⟨c, r, e, hz, hc⟩ := dec_head n.toNat
    obtain ⟨hv, ha⟩ := val_dec n.toNat
    have hneg : isNeg (Lib.decDigits n.toNat) = false := by
      rw [e]; unfold isNeg
      simp only [List.head?_cons]
      rw [beq_eq_false_iff_ne]
      intro g
      injection g with g
      rw [g] at hc
      have : (45 : UInt8).toNat = 45 := rfl
      omega
    have hb : body (Lib.decDigits n.toNat) = Lib.decDigits n.toNat := by unfold body; rw [hneg]; rfl
    have hac : acc false (val (Lib.decDigits n.toNat)) = n := by rw [hv]; simp [acc]; omega
    have hp := parse_ok (Lib.decDigits n.toNat) (by rw [hb, e]; simp) (by
      rw [hb, e]
      simp only [List.head?_cons, Option.some.injEq]
      rintro ⟨g, hl⟩
      have := hz (by rw [g]; rfl)
      rw [this.2] at hl
      simp at hl) (by rw [hb]; exact ha) (by rw [hneg, hb, hac]; exact rng_yes h0 h1)
    rw [hp, hneg, hb, hac]

/-- What a call leaves: nothing that was there at the beginning has turned. -/
def Inv (w0 w : World) : Prop := Below w0.heap.size w0 w
theorem Inv.refl (w : World) : Inv w w := Below.refl _ _
theorem Inv.drewN {w0 w : World} (h : Inv w0 w) (n : Nat) : Inv w0 (w.drewN n) := below_drewN h n
def Tab (w0 : World) : Prop := Lib.TabIs Tryd.prog w0 "internal/strconv.uint64pow10" .u64 Lib.pow10Tab
theorem Tab.at_ {w0 w : World} (h : Tab w0) (hi : Inv w0 w) : Lib.TabIs Tryd.prog w "internal/strconv.uint64pow10" .u64 Lib.pow10Tab := Lib.tabBelow_of_tabIs h w hi
theorem Inv.size {w0 w : World} (h : Inv w0 w) : w0.heap.size ≤ w.heap.size := Below.size h
theorem Fmt23 (w0 : World) (hT : Tab w0) (n : Int) (hn : Fits n) (w : World) (hi : Inv w0 w) :
    Calls Tryd.prog 23 #[.int .i64 n, .int .i64 10] w fun e w' => e = .returned (.string ⟨(Lib.itoa n).toArray⟩) ∧ Inv w0 w' := by
  refine (Tryd.strconv_FormatInt_10 n hn.1 hn.2 w (hT.at_ hi)).mono ?_
  rintro e w' ⟨rfl, k, os, rfl⟩
  exact ⟨rfl, Below.trans hi (Lib.below_grow _ w hi.size k os)⟩
theorem Print11 (w0 : World) (hT : Tab w0) (n : Int) (hn : Fits n) (w : World) (hi : Inv w0 w) :
    Calls Tryd.prog 11 #[.int .i64 n] w fun e w' => e = .returned (.string ⟨(Lib.itoa n).toArray⟩) ∧ Inv w0 w' := by
  have C := Lib.hid (Fmt23 w0 hT n hn w hi)
  clear hn hT hi
  go_enter Tryd.func11, Tryd.ntmps11
  go_wp2_with (go_at_call 23; refine (C.out).mono ?_; rintro e w' ⟨rfl, hi'⟩)
  go_ret
  exact ⟨by simp, by assumption⟩
theorem Print12 (w0 : World) (hT : Tab w0) (n : Int) (hn : Fits n) (w : World) (hi : Inv w0 w) :
    Calls Tryd.prog 12 #[.int .i64 n] w fun e w' => e = .returned (.string ⟨(Lib.itoa n).toArray⟩) ∧ Inv w0 w' := by
  have C := Lib.hid (Fmt23 w0 hT n hn w hi)
  clear hn hT hi
  go_enter Tryd.func12, Tryd.ntmps12
  go_wp2_with (go_at_call 23; refine (C.out).mono ?_; rintro e w' ⟨rfl, hi'⟩)
  go_ret
  exact ⟨by simp, by assumption⟩
def selO : Option Int → Int | some v => v | none => 0
theorem optV_sel (o : Option Int) : optV o = .tuple #[.int .i64 (selO o), .bool o.isSome] := by cases o <;> rfl
theorem ParseI9 (w0 : World) (s : ByteArray) (hs : s.size ≤ 9223372036854775807) (x : Int) (p : Bool) (hx : selO (parseI s.data.toList) = x) (hp : (parseI s.data.toList).isSome = p) (w : World) (hi : Inv w0 w) :
    Calls Tryd.prog 9 #[.string s] w fun e w' => e = .returned (.tuple #[.int .i64 x, .bool p]) ∧ Inv w0 w' := by
  refine (Parse9 s hs w).mono ?_
  rintro e w' ⟨rfl, n, rfl⟩
  exact ⟨by rw [optV_sel, hx, hp], hi.drewN n⟩
theorem RefI10 (w0 : World) (s : ByteArray) (x : Int) (p : Bool) (hx : selO (parseI s.data.toList) = x) (hp : (parseI s.data.toList).isSome = p) (w : World) (hi : Inv w0 w) :
    Calls Tryd.prog 10 #[.string s] w fun e w' => e = .returned (.tuple #[.int .i64 x, .bool p]) ∧ Inv w0 w' := by
  refine (Ref10 s w).mono ?_
  rintro e w' ⟨rfl, rfl⟩
  exact ⟨by rw [optV_sel, hx, hp], hi⟩
theorem toldI (w0 w : World) (hi : Inv w0 w) : Calls Tryd.prog 8 #[] w fun e w' => e = .returned (.bool true) ∧ Inv w0 w' := by
  refine (told_any w).mono ?_
  rintro e w' ⟨rfl, n, rfl⟩
  exact ⟨rfl, hi.drewN n⟩
theorem itoa_size (n : Int) (hn : Fits n) : (⟨(Lib.itoa n).toArray⟩ : ByteArray).size ≤ 21 := Lib.itoa_length_le n hn.1 hn.2
set_option maxHeartbeats 1000000 in
theorem texts_walk (s : ByteArray) (n : Int) (hn : Fits n) (w : World) (hT : Tab w) : Calls Tryd.prog 3 #[.string s, .int .i64 n] w fun e w' => e = .returned (.bool true) ∧ Inv w w' := by
  have hi0 := Inv.refl w
  by_cases hl : (100 : Int) < (s.size : Int)
  · go_enter Tryd.func3, Tryd.ntmps3
    go_wp2_with (go_at_call 8; refine (toldI w _ (by assumption)).mono ?_; rintro e w' ⟨rfl, hi⟩)
    go_ret
    exact ⟨by simp, by assumption⟩
  · obtain ⟨x, hx⟩ : ∃ x, selO (parseI s.data.toList) = x := ⟨_, rfl⟩
    obtain ⟨p, hp⟩ : ∃ p, (parseI s.data.toList).isSome = p := ⟨_, rfl⟩
    have P1 := Lib.hid (fun w1 hi => ParseI9 w s (by omega) x p hx hp w1 hi)
    have P2 := Lib.hid (fun w1 hi => RefI10 w s x p hx hp w1 hi)
    have P3 := Lib.hid (fun w1 hi => Print11 w hT n hn w1 hi)
    have P4 := Lib.hid (fun w1 hi => Print12 w hT n hn w1 hi)
    have hpi := parse_itoa n hn.1 hn.2
    have P5 := fun w1 hi => ParseI9 w ⟨(Lib.itoa n).toArray⟩ (by have := itoa_size n hn; omega) n true (by show selO (parseI (Lib.itoa n)) = n; rw [hpi]; rfl) (by show (parseI (Lib.itoa n)).isSome = true; rw [hpi]; rfl) w1 hi
    obtain ⟨t, ht⟩ : ∃ t : ByteArray, t = ⟨(Lib.itoa n).toArray⟩ := ⟨_, rfl⟩
    rw [← ht] at P3 P4 P5
    have P5' := Lib.hid P5
    clear P5 hpi ht hx hp hn hT
    go_enter Tryd.func3, Tryd.ntmps3
    go_wp2_with (first | (go_at_call 8; refine (toldI w _ (by assumption)).mono ?_; rintro e w' ⟨rfl, hi⟩) | (go_at_call 9; (first | (with_reducible refine (P1.out _ ?_).mono ?_) | (with_reducible refine (P5'.out _ ?_).mono ?_)); assumption; rintro e w' ⟨rfl, hi⟩) | (go_at_call 10; refine (P2.out _ (by assumption)).mono ?_; rintro e w' ⟨rfl, hi⟩) | (go_at_call 11; refine (P3.out _ (by assumption)).mono ?_; rintro e w' ⟨rfl, hi⟩) | (go_at_call 12; refine (P4.out _ (by assumption)).mono ?_; rintro e w' ⟨rfl, hi⟩))
    go_ret
    exact ⟨by simp, by assumption⟩
end Go.Proofs.YtcogfggfbfoaoaaDoor
