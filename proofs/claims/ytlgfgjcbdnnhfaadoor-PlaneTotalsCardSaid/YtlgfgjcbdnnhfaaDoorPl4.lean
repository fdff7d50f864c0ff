import Derived.Test.YtlgfgjcbdnnhfaaDoorPl3
namespace Go.Proofs.YtlgfgjcbdnnhfaaDoor
open Go.ChangeShapes Go.WideShapes Go.ChangeAt Go.RowKit Go.Fl

theorem toIntI (x : Int) (hx : x.natAbs < 2 ^ 53) : floatToIntVal .f64 (fi x) .i64 = some x := by
  have h := rep_toInt .zero (read_fz (decide (x < 0)) x.natAbs hx)
  rw [sg_fi] at h
  unfold floatToIntVal
  rw [show (FloatKind.f64.decode (fi x)).toInt .zero = some x from h]
  have h1 : IntKind.i64.min = -9223372036854775808 := by decide
  have h2 : IntKind.i64.max = 9223372036854775807 := by decide
  simp only [h1, h2]
  rw [if_pos (by omega)]
theorem square_any (x y : Int) (hx : x.natAbs ≤ 1048576) (hy : y.natAbs ≤ 1048576) (w : World) : Calls Tryd.prog 18 #[.complex .f64 (fi x) (fi y)] w fun e w' => e = .returned (.int .i64 (x * x + y * y)) ∧ w = w' := by
  have h1 := fun w => run_convert_float_int (P := Tryd.prog) w 29 2 .f64 .i64 (fi x) x (by kernel_rfl) Tryd.underlying2 (toIntI x (by omega))
  have h2 := fun w => run_convert_float_int (P := Tryd.prog) w 29 2 .f64 .i64 (fi y) y (by kernel_rfl) Tryd.underlying2 (toIntI y (by omega))
  have a1 := abs_mul_le x x hx hx
  have a2 := abs_mul_le y y hy hy
  have b1 : x * x ≤ 1099511627776 := by omega
  have b2 : y * y ≤ 1099511627776 := by omega
  have b3 : -1099511627776 ≤ x * x := by omega
  have b4 : -1099511627776 ≤ y * y := by omega
  clear hx hy a1 a2
  go_enter Tryd.func18, Tryd.ntmps18
  go_wp2
  go_ret
  exact ⟨rfl, rfl⟩
theorem Norm_any (x y : Int) (hx : okI x = true) (hy : okI y = true) (w : World) : Calls Tryd.prog 12 #[.complex .f64 (fi x) (fi y)] w fun e w' => e = .returned (.int .i64 (x * x + y * y)) ∧ w = w' := by
  have ax := okI_abs hx
  have ay := okI_abs hy
  have c1 := may_fi x y (by omega) (by omega) w
  rw [hx, hy] at c1
  have C1 := Lib.hid c1
  clear c1 hx hy
  go_enter Tryd.func12, Tryd.ntmps12
  go_wp2_with (first | (go_at_call 7; refine (C1.out).mono ?_; rintro e w' ⟨rfl, rfl⟩) | (go_at_call 18; refine (square_any _ _ ax ay _).mono ?_; rintro e w' ⟨rfl, rfl⟩))
  go_ret
  exact ⟨rfl, rfl⟩
/-! 'told' -/
theorem half_whole (w : World) : Calls Tryd.prog 15 #[.float .f64 4602678819172646912] w fun e w' => e = .returned (.bool false) ∧ w = w' := by
  have t : ∀ w, (callFunc 30 #[.float .f64 4602678819172646912]).run Tryd.prog w = .ok (.value (.float .f64 0)) w := fun w => by rw [trunc_entry]; rfl
  have o : FloatKind.f64.format.order 4602678819172646912 0 = some .gt := by decide
  go_enter Tryd.func15, Tryd.ntmps15
  go_wp2
  go_ret
  exact ⟨by simp, rfl⟩
theorem half_norm (w : World) : Calls Tryd.prog 12 #[.complex .f64 4602678819172646912 0] w fun e w' => e = .returned (.int .i64 (-1)) ∧ w = w' := by
  have hm : ∀ w, Calls Tryd.prog 7 #[.complex .f64 4602678819172646912 0] w fun e w' => e = .returned (.bool false) ∧ w = w' := by
    intro w
    go_enter Tryd.func7, Tryd.ntmps7
    go_wp2_with (first | (go_at_call 15; refine (half_whole _).mono ?_; rintro e w' ⟨rfl, rfl⟩))
    go_ret
    exact ⟨by simp, rfl⟩
  have C1 := Lib.hid hm
  clear hm
  go_enter Tryd.func12, Tryd.ntmps12
  go_wp2_with (first | (go_at_call 7; refine (C1.out _).mono ?_; rintro e w' ⟨rfl, rfl⟩))
  go_ret
  exact ⟨rfl, rfl⟩
theorem l0 : fi 0 = 0 := by kernel_rfl
theorem l1 : fi 1 = 4607182418800017408 := by kernel_rfl
theorem l2 : fi 2 = 4611686018427387904 := by kernel_rfl
theorem l3 : fi 3 = 4613937818241073152 := by kernel_rfl
theorem l4 : fi 4 = 4616189618054758400 := by kernel_rfl
theorem lm1 : fi (-1) = 13830554455654793216 := by kernel_rfl
theorem lm2 : fi (-2) = 13835058055282163712 := by kernel_rfl
theorem lmax : fi 1048576 = 4697254411347427328 := by kernel_rfl
theorem told_any (w : World) : Calls Tryd.prog 4 #[] w fun e w' => e = .returned (.bool true) ∧ w = w' := by
  have c1 := Mul_any 1 2 3 (-1) (by decide) (by decide) (by decide) (by decide) w
  have e1 : ptI (1 * 3 - 2 * -1) (1 * -1 + 2 * 3) = .tuple #[.complex .f64 4617315517961601024 4617315517961601024, .bool true] := by kernel_rfl
  rw [e1, l1, l2, l3, lm1] at c1
  have c2 := Add_any 1048576 0 1 0 (by decide) (by decide) (by decide) (by decide) w
  have e2 : ptI (1048576 + 1) (0 + 0) = .tuple #[.complex .f64 0 0, .bool false] := by kernel_rfl
  rw [e2, l1, l0, lmax] at c2
  have c3 := Turn_any 1 2 1 (by decide) (by decide) w
  have e3 : (trn 1 1 2).1 = -2 := by kernel_rfl
  have e4 : (trn 1 1 2).2 = 1 := by kernel_rfl
  rw [e3, e4, l1, l2, lm2] at c3
  have c4 := Norm_any 3 4 (by decide) (by decide) w
  rw [l3, l4] at c4
  have C1 := Lib.hid c1
  have C2 := Lib.hid c2
  have C3 := Lib.hid c3
  have C4 := Lib.hid c4
  clear c1 c2 c3 c4 e1 e2 e3 e4
  have o1 : FloatKind.f64.format.order 4617315517961601024 4617315517961601024 = some .eq := by decide
  have o2 : FloatKind.f64.format.order 0 0 = some .eq := by decide
  have o3 : FloatKind.f64.format.order 13835058055282163712 13835058055282163712 = some .eq := by decide
  have o4 : FloatKind.f64.format.order 4607182418800017408 4607182418800017408 = some .eq := by decide
  go_enter Tryd.func4, Tryd.ntmps4
  go_wp2_with (first | (go_at_call 9; refine (C1.out).mono ?_; rintro e w' ⟨rfl, rfl⟩) | (go_at_call 10; refine (C2.out).mono ?_; rintro e w' ⟨rfl, rfl⟩) | (go_at_call 11; refine (C3.out).mono ?_; rintro e w' ⟨rfl, rfl⟩) | (go_at_call_of 12 (Value.complex .f64 4613937818241073152 4616189618054758400); refine (C4.out).mono ?_; rintro e w' ⟨rfl, rfl⟩) | (go_at_call 12; refine (half_norm _).mono ?_; rintro e w' ⟨rfl, rfl⟩))
  go_ret
  exact ⟨by simp, rfl⟩
end Go.Proofs.YtlgfgjcbdnnhfaaDoor
