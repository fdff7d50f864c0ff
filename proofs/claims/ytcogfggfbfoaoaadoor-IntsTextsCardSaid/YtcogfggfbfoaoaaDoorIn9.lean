/- The walks of the laws IntsParts, IntsOrder and IntsFloors. -/
import Derived.Test.YtcogfggfbfoaoaaDoorIn8
namespace Go.Proofs.YtcogfggfbfoaoaaDoor
open Go.ChangeShapes Go.WideShapes Go.ChangeAt Go.RowKit

theorem sel_true (x : Int) : sel true x = x := rfl
theorem sel_false (x : Int) : sel false x = 0 := rfl
set_option maxHeartbeats 1000000 in
theorem parts_none (a b : Int) (r : Int) (s : Bool) (c1 : Two 19 a b 0 false) (c2 : Two 21 a b 0 false) (c3 : Two 20 a b r s) (c4 : Two 22 a b r s) (hr : s = true ∨ r = 0) (w : World) : Calls Tryd.prog 5 #[.int .i64 a, .int .i64 b] w fun e w' => e = .returned (.bool true) ∧ ∃ n, w' = w.drewN n := by
  have C1 := Lib.hid c1
  have C2 := Lib.hid c2
  have C3 := Lib.hid c3
  have C4 := Lib.hid c4
  clear c1 c2 c3 c4
  rcases hr with rfl | rfl
  · go_enter Tryd.func5, Tryd.ntmps5
    go_wp2_with (first | (go_at_call 19; refine (C1.out _).mono ?_; rintro e w' ⟨rfl, rfl⟩) | (go_at_call 21; refine (C2.out _).mono ?_; rintro e w' ⟨rfl, rfl⟩) | (go_at_call 20; refine (C3.out _).mono ?_; rintro e w' ⟨rfl, rfl⟩) | (go_at_call 22; refine (C4.out _).mono ?_; rintro e w' ⟨rfl, rfl⟩) | (go_at_call 8; refine (told_any _).mono ?_; rintro e w' ⟨rfl, n, rfl⟩))
    go_ret
    exact ⟨by simp, _, rfl⟩
  · cases s
    all_goals
      go_enter Tryd.func5, Tryd.ntmps5
      go_wp2_with (first | (go_at_call 19; refine (C1.out _).mono ?_; rintro e w' ⟨rfl, rfl⟩) | (go_at_call 21; refine (C2.out _).mono ?_; rintro e w' ⟨rfl, rfl⟩) | (go_at_call 20; refine (C3.out _).mono ?_; rintro e w' ⟨rfl, rfl⟩) | (go_at_call 22; refine (C4.out _).mono ?_; rintro e w' ⟨rfl, rfl⟩) | (go_at_call 8; refine (told_any _).mono ?_; rintro e w' ⟨rfl, n, rfl⟩))
      go_ret
      exact ⟨by simp, _, rfl⟩
set_option maxHeartbeats 1000000 in
theorem parts_some (a b Q R m : Int) (fits : Bool) (c1 : Two 19 a b Q true) (c2 : Two 21 a b Q true) (c3 : Two 20 a b R true) (c4 : Two 22 a b R true) (c5 : Two 17 b Q m fits) (c6 : fits = true → Two 13 m R a true) (hb : 0 < b ∧ 0 ≤ R ∧ R < b ∨ b < 0 ∧ R ≤ 0 ∧ b < R) (w : World) : Calls Tryd.prog 5 #[.int .i64 a, .int .i64 b] w fun e w' => e = .returned (.bool true) ∧ ∃ n, w' = w.drewN n := by
  have C1 := Lib.hid c1
  have C2 := Lib.hid c2
  have C3 := Lib.hid c3
  have C4 := Lib.hid c4
  have C5 := Lib.hid c5
  have C6 := Lib.hid c6
  clear c1 c2 c3 c4 c5 c6
  rcases hb with ⟨h1, h2, h3⟩ | ⟨h1, h2, h3⟩ <;> cases fits
  all_goals
    try have C7 := Lib.hid (C6.out rfl)
    clear C6
    go_enter Tryd.func5, Tryd.ntmps5
    go_wp2_with (first | (go_at_call 19; refine (C1.out _).mono ?_; rintro e w' ⟨rfl, rfl⟩) | (go_at_call 21; refine (C2.out _).mono ?_; rintro e w' ⟨rfl, rfl⟩) | (go_at_call 20; refine (C3.out _).mono ?_; rintro e w' ⟨rfl, rfl⟩) | (go_at_call 22; refine (C4.out _).mono ?_; rintro e w' ⟨rfl, rfl⟩) | (go_at_call 17; refine (C5.out _).mono ?_; rintro e w' ⟨rfl, rfl⟩) | (go_at_call 13; refine (C7.out _).mono ?_; rintro e w' ⟨rfl, rfl⟩) | (go_at_call 8; refine (told_any _).mono ?_; rintro e w' ⟨rfl, n, rfl⟩))
    go_ret
    exact ⟨by simp, _, rfl⟩
theorem parts_walk (a b : Int) (ha : Fits a) (hb : Fits b) (w : World) : Calls Tryd.prog 5 #[.int .i64 a, .int .i64 b] w fun e w' => e = .returned (.bool true) ∧ ∃ n, w' = w.drewN n := by
  have c1 := T19 ha hb
  have c2 := T21 ha hb
  have c3 := T20 ha hb
  have c4 := T22 ha hb
  cases hd : okD a b
  · rw [hd, sel_false] at c1 c2
    refine parts_none a b _ _ c1 c2 c3 c4 ?_ w
    cases hm : okM b
    · exact .inr rfl
    · exact .inl rfl
  · have hb0 : b ≠ 0 := by intro h; simp [okD, h] at hd
    have hm : okM b = true := by simp [okM, hb0]
    rw [hd, sel_true] at c1 c2
    rw [hm, sel_true] at c3 c4
    have hq := dv_fits a b ha hd
    have he := dv_md a b
    have hr := md_bd a b hb0
    have hR : Fits (md a b) := by
      rcases Int.lt_or_lt_of_ne hb0 with h | h
      · have := hr.2 h; exact ⟨by have := hb.1; omega, by omega⟩
      · have := hr.1 h; exact ⟨by omega, by have := hb.2; omega⟩
    refine parts_some a b _ _ _ _ c1 c2 c3 c4 (T17 hb hq) (fun hf => ?_) ?_ w
    · have c6 := T13 (rng_of hf) hR
      rw [hf, sel_true]
      rw [he, show rng a = true from rng_yes ha.1 ha.2, sel_true] at c6
      exact c6
    · rcases Int.lt_or_lt_of_ne hb0 with h | h
      · exact .inr ⟨h, hr.2 h⟩
      · exact .inl ⟨h, hr.1 h⟩

/-! the order of the two -/
set_option maxHeartbeats 1000000 in
theorem order_core (a b x u : Int) (p r : Bool) (c1 : Two 13 a b x p) (c2 : Two 13 b a x p) (c3 : Two 17 a b u r) (c4 : Two 17 b a u r) (c5 : p = true → Two 15 x b a true) (c6 : r = true → ¬ b = 0 → Two 19 u b a true) (w : World) : Calls Tryd.prog 6 #[.int .i64 a, .int .i64 b] w fun e w' => e = .returned (.bool true) ∧ ∃ n, w' = w.drewN n := by
  have C1 := Lib.hid c1
  have C2 := Lib.hid c2
  have C3 := Lib.hid c3
  have C4 := Lib.hid c4
  have C5 := Lib.hid c5
  have C6 := Lib.hid c6
  clear c1 c2 c3 c4 c5 c6
  by_cases hb : b = 0
  · subst hb
    cases p <;> cases r
    all_goals
      try have C7 := Lib.hid (C5.out rfl)
      try have C8 := Lib.hid (C6.out rfl HB.out)
      clear C5 C6
      go_enter Tryd.func6, Tryd.ntmps6
      go_wp2_with (first | (go_at_call 13; (first | (with_reducible refine (C1.out _).mono ?_) | (with_reducible refine (C2.out _).mono ?_)); rintro e w' ⟨rfl, rfl⟩) | (go_at_call 17; (first | (with_reducible refine (C3.out _).mono ?_) | (with_reducible refine (C4.out _).mono ?_)); rintro e w' ⟨rfl, rfl⟩) | (go_at_call 15; refine (C7.out _).mono ?_; rintro e w' ⟨rfl, rfl⟩) | (go_at_call 8; refine (told_any _).mono ?_; rintro e w' ⟨rfl, n, rfl⟩))
      go_ret
      exact ⟨by simp, _, rfl⟩
  · have hb' : (b != 0) = true := by simp [hb]
    have HB := Lib.hid hb
    clear hb
    cases p <;> cases r
    all_goals
      try have C7 := Lib.hid (C5.out rfl)
      try have C8 := Lib.hid (C6.out rfl HB.out)
      clear C5 C6
      go_enter Tryd.func6, Tryd.ntmps6
      go_wp2_with (first | (go_at_call 13; (first | (with_reducible refine (C1.out _).mono ?_) | (with_reducible refine (C2.out _).mono ?_)); rintro e w' ⟨rfl, rfl⟩) | (go_at_call 17; (first | (with_reducible refine (C3.out _).mono ?_) | (with_reducible refine (C4.out _).mono ?_)); rintro e w' ⟨rfl, rfl⟩) | (go_at_call 15; refine (C7.out _).mono ?_; rintro e w' ⟨rfl, rfl⟩) | (go_at_call 19; refine (C8.out _).mono ?_; rintro e w' ⟨rfl, rfl⟩) | (go_at_call 8; refine (told_any _).mono ?_; rintro e w' ⟨rfl, n, rfl⟩))
      go_ret
      exact ⟨by simp, _, rfl⟩
theorem order_walk (a b : Int) (ha : Fits a) (hb : Fits b) (w : World) : Calls Tryd.prog 6 #[.int .i64 a, .int .i64 b] w fun e w' => e = .returned (.bool true) ∧ ∃ n, w' = w.drewN n := by
  have c2 := T13 hb ha
  rw [Int.add_comm] at c2
  have c4 := T17 hb ha
  rw [Int.mul_comm] at c4
  refine order_core a b _ _ _ _ (T13 ha hb) c2 (T17 ha hb) c4 (fun h => ?_) (fun h h0 => ?_) w
  · rw [h, sel_true]
    have c5 := T15 (rng_of h) hb
    rw [show a + b - b = a by omega, show rng a = true from rng_yes ha.1 ha.2, sel_true] at c5
    exact c5
  · rw [h, sel_true]
    have c6 := T19 (rng_of h) hb
    have hm : (a * b).tmod b = 0 := Int.mul_tmod_left a b
    have hq : dv (a * b) b = a := by
      unfold dv; rw [if_neg (by simp [hm]), Int.mul_tdiv_cancel _ h0]
    have ho : okD (a * b) b = true := by
      simp only [okD, Bool.not_eq_true', Bool.or_eq_false_iff, decide_eq_false_iff_not, Bool.and_eq_false_iff]
      refine ⟨h0, ?_⟩
      by_cases hb1 : b = -1
      · right; subst hb1; have := ha.2; omega
      · exact .inl hb1
    rw [ho, hq, sel_true] at c6
    exact c6

/-! cut down -/
theorem neg_iff (x y : Int) (hx : x ≠ 0) (hy : y ≠ 0) : (-x < 0 ↔ -y < 0) ↔ (x < 0 ↔ y < 0) := by omega
theorem dv_neg (x y : Int) (hy : y ≠ 0) : dv (-x) (-y) = dv x y := by
  unfold dv
  rw [Int.tmod_neg, Int.neg_tmod, Int.tdiv_neg, Int.neg_tdiv, Int.neg_neg]
  by_cases h0 : x.tmod y = 0
  · simp [h0]
  · have hx : x ≠ 0 := by intro e; subst e; simp at h0
    simp only [neg_iff x y hx hy, Int.neg_eq_zero]
theorem md_neg (x y : Int) (hy : y ≠ 0) : md (-x) (-y) = - md x y := by
  have h1 := dv_md x y
  have h2 := dv_md (-x) (-y)
  rw [dv_neg x y hy, Int.neg_mul] at h2
  omega
theorem and_mask (b : Int) : bits .and .i64 b 1048575 = b % 1048576 := by
  have h : (BitVec.ofInt 64 b &&& BitVec.ofInt 64 1048575).toNat = (b % 1048576).toNat := by
    rw [BitVec.toNat_and]
    have e : (BitVec.ofInt 64 1048575).toNat = 2 ^ 20 - 1 := by decide
    rw [e, Nat.and_two_pow_sub_one_eq_mod, BitVec.toNat_ofInt]
    omega
  show IntKind.i64.wrap ((BitVec.ofInt 64 b &&& BitVec.ofInt 64 1048575).toNat : Int) = _
  rw [h, IntKind.wrap_i64]
  omega
set_option maxHeartbeats 1000000 in
theorem floors_core (a b x y q r : Int) (hx : a.tmod 1099511627776 = x) (hy : 1 + bits .and .i64 b 1048575 = y) (bx : -1099511627776 < x ∧ x < 1099511627776) (by_ : 1 ≤ y ∧ y ≤ 1048576) (bq : -1099511627776 ≤ q ∧ q ≤ 1099511627776) (hr : 0 ≤ r ∧ r < y) (hqr : y * q + r = x)
    (c1 : Two 19 x y q true) (c2 : Two 20 x y r true) (c3 : Two 19 (-x) (-y) q true) (c4 : Two 20 (-x) (-y) (-r) true) (w : World) : Calls Tryd.prog 7 #[.int .i64 a, .int .i64 b] w fun e w' => e = .returned (.bool true) ∧ ∃ n, w' = w.drewN n := by
  have C1 := Lib.hid c1
  have C2 := Lib.hid c2
  have C3 := Lib.hid c3
  have C4 := Lib.hid c4
  obtain ⟨q1, q2⟩ := bq
  obtain ⟨y1, y2⟩ := by_
  obtain ⟨x1, x2⟩ := bx
  obtain ⟨r1, r2⟩ := hr
  have e1 : q * y = x - r := by rw [Int.mul_comm]; omega
  have e2 : (q + 1) * y = x - r + y := by rw [Int.add_mul, e1]; omega
  have m1 : q * y ≤ x := by omega
  have m2 : -2199023255552 ≤ q * y := by omega
  have m3 : x < (q + 1) * y := by omega
  have m4 : (q + 1) * y ≤ 2199023255552 := by omega
  have m5 : (r == x - q * y) = true := by rw [beq_iff_eq]; omega
  have b0 : 0 ≤ bits .and .i64 b 1048575 ∧ bits .and .i64 b 1048575 ≤ 1048575 := by rw [and_mask]; omega
  obtain ⟨b1, b2⟩ := b0
  clear c1 c2 c3 c4 e1 e2 hqr
  go_enter Tryd.func7, Tryd.ntmps7
  go_wp2_with (first | (go_at_call 19; (first | (with_reducible refine (C1.out _).mono ?_) | (with_reducible refine (C3.out _).mono ?_)); rintro e w' ⟨rfl, rfl⟩) | (go_at_call 20; (first | (with_reducible refine (C2.out _).mono ?_) | (with_reducible refine (C4.out _).mono ?_)); rintro e w' ⟨rfl, rfl⟩) | (go_at_call 8; refine (told_any _).mono ?_; rintro e w' ⟨rfl, n, rfl⟩))
  go_ret
  exact ⟨by simp, _, rfl⟩
theorem floors_walk (a b : Int) (w : World) : Calls Tryd.prog 7 #[.int .i64 a, .int .i64 b] w fun e w' => e = .returned (.bool true) ∧ ∃ n, w' = w.drewN n := by
  have hm : (a.tmod 1099511627776).natAbs < 1099511627776 := by
    rw [Int.natAbs_tmod]; exact Nat.mod_lt _ (by decide)
  have hy : 1 ≤ 1 + bits .and .i64 b 1048575 ∧ 1 + bits .and .i64 b 1048575 ≤ 1048576 := by rw [and_mask]; omega
  obtain ⟨x, hx⟩ : ∃ x, a.tmod 1099511627776 = x := ⟨_, rfl⟩
  obtain ⟨y, hy'⟩ : ∃ y, 1 + bits .and .i64 b 1048575 = y := ⟨_, rfl⟩
  rw [hx] at hm
  rw [hy'] at hy
  have fx : Fits x := ⟨by omega, by omega⟩
  have fy : Fits y := ⟨by omega, by omega⟩
  have fx' : Fits (-x) := ⟨by omega, by omega⟩
  have fy' : Fits (-y) := ⟨by omega, by omega⟩
  have y0 : y ≠ 0 := by omega
  have k1 : okD x y = true := by simp [okD]; omega
  have k2 : okM y = true := by simp [okM]; omega
  have k3 : okD (-x) (-y) = true := by simp [okD]; omega
  have k4 : okM (-y) = true := by simp [okM]; omega
  have c1 := T19 fx fy
  have c2 := T20 fx fy
  have c3 := T19 fx' fy'
  have c4 := T20 fx' fy'
  rw [k1, sel_true] at c1
  rw [k2, sel_true] at c2
  rw [k3, sel_true, dv_neg x y y0] at c3
  rw [k4, sel_true, md_neg x y y0] at c4
  have hqr := dv_md x y
  have hr := (md_bd x y y0).1 (by omega)
  have hq : (x.tdiv y).natAbs ≤ x.natAbs := by rw [Int.natAbs_tdiv]; exact Nat.div_le_self _ _
  have bq : -1099511627776 ≤ dv x y ∧ dv x y ≤ 1099511627776 := by unfold dv; split <;> omega
  exact floors_core a b x y _ _ hx hy' ⟨by omega, by omega⟩ hy bq hr hqr c1 c2 c3 c4 w
end Go.Proofs.YtcogfggfbfoaoaaDoor
