/- The walk of the law PlaneNorms: it returns true for every input. -/
import Derived.Test.YtlgfgjcbdnnhfaaPl4
import Derived.RowKit3
namespace Go.Proofs.Ytlgfgjcbdnnhfaa
open Go.ChangeShapes Go.WideShapes Go.ChangeAt Go.RowKit Go.Fl

theorem brahma (x y u v : Int) : (x * u - y * v) * (x * u - y * v) + (x * v + y * u) * (x * v + y * u) = (x * x + y * y) * (u * u + v * v) := by grind
theorem tm_le (x : Int) : (x.tmod 1001).natAbs ≤ 1000 := by
  rw [Int.natAbs_tmod]; have := Nat.mod_lt x.natAbs (show 0 < (1001 : Int).natAbs by decide); omega
theorem mul_bd (a b A B : Int) (ha : a.natAbs ≤ A.natAbs) (hb : b.natAbs ≤ B.natAbs) : (a * b).natAbs ≤ (A * B).natAbs := by
  rw [Int.natAbs_mul, Int.natAbs_mul]; exact Nat.mul_le_mul ha hb
set_option maxHeartbeats 1000000 in
theorem norms_walk (x y u v : Int) (w : World) :
    Calls Try.prog 4 #[.int .i64 x, .int .i64 y, .int .i64 u, .int .i64 v] w fun e w' => e = .returned (.bool true) ∧ w = w' := by
  have T := Lib.hid (told_any w)
  have hf : ∀ n, floatOfInt .f64 n = fi n := floatOfInt_fi
  have hx : (x.tmod 1001).natAbs ≤ 1000 := tm_le x
  have hy : (y.tmod 1001).natAbs ≤ 1000 := tm_le y
  have hu : (u.tmod 1001).natAbs ≤ 1000 := tm_le u
  have hv : (v.tmod 1001).natAbs ≤ 1000 := tm_le v
  have B := brahma (x.tmod 1001) (y.tmod 1001) (u.tmod 1001) (v.tmod 1001)
  have k1 : okI (x.tmod 1001) = true := by simp [okI]; omega
  have k2 : okI (y.tmod 1001) = true := by simp [okI]; omega
  have k3 : okI (u.tmod 1001) = true := by simp [okI]; omega
  have k4 : okI (v.tmod 1001) = true := by simp [okI]; omega
  have n1 := mul_bd _ _ 1000 1000 hx hu
  have n2 := mul_bd _ _ 1000 1000 hy hv
  have n3 := mul_bd _ _ 1000 1000 hx hv
  have n4 := mul_bd _ _ 1000 1000 hy hu
  have n5 := mul_bd _ _ 1000 1000 hx hx
  have n6 := mul_bd _ _ 1000 1000 hy hy
  have n7 := mul_bd _ _ 1000 1000 hu hu
  have n8 := mul_bd _ _ 1000 1000 hv hv
  have M := Mul_any _ _ _ _ k1 k2 k3 k4 w
  have N1 := Lib.hid (Norm_any _ _ k1 k2 w)
  have N2 := Lib.hid (Norm_any _ _ k3 k4 w)
  have n9 := mul_bd (x.tmod 1001 * x.tmod 1001 + y.tmod 1001 * y.tmod 1001) (u.tmod 1001 * u.tmod 1001 + v.tmod 1001 * v.tmod 1001) 2000000 2000000 (by omega) (by omega)
  by_cases hok : okI ((x.tmod 1001) * (u.tmod 1001) - (y.tmod 1001) * (v.tmod 1001)) && okI ((x.tmod 1001) * (v.tmod 1001) + (y.tmod 1001) * (u.tmod 1001))
  · have hok' := hok
    rw [Bool.and_eq_true] at hok'
    have N3 := Lib.hid (Norm_any _ _ hok'.1 hok'.2 w)
    unfold ptI at M
    rw [if_pos hok] at M
    have M' := Lib.hid M
    have b1 : -4000000000000 ≤ (x.tmod 1001 * x.tmod 1001 + y.tmod 1001 * y.tmod 1001) * (u.tmod 1001 * u.tmod 1001 + v.tmod 1001 * v.tmod 1001) := by omega
    have b2 : (x.tmod 1001 * x.tmod 1001 + y.tmod 1001 * y.tmod 1001) * (u.tmod 1001 * u.tmod 1001 + v.tmod 1001 * v.tmod 1001) ≤ 4000000000000 := by omega
    have E : ((x.tmod 1001 * u.tmod 1001 - y.tmod 1001 * v.tmod 1001) * (x.tmod 1001 * u.tmod 1001 - y.tmod 1001 * v.tmod 1001) + (x.tmod 1001 * v.tmod 1001 + y.tmod 1001 * u.tmod 1001) * (x.tmod 1001 * v.tmod 1001 + y.tmod 1001 * u.tmod 1001) == (x.tmod 1001 * x.tmod 1001 + y.tmod 1001 * y.tmod 1001) * (u.tmod 1001 * u.tmod 1001 + v.tmod 1001 * v.tmod 1001)) = true := by rw [B]; simp
    clear B M hok hok' k1 k2 k3 k4 n1 n2 n3 n4 n5 n6 n7 n8 n9 hx hy hu hv
    go_enter Try.func4, Try.ntmps4
    go_wp2_with (first | (go_at_call 11; refine (T.out).mono ?_; rintro e w' ⟨rfl, rfl⟩) | (go_at_call 10; refine (M'.out).mono ?_; rintro e w' ⟨rfl, rfl⟩) | (go_at_call 8; (first | (with_reducible refine (N1.out).mono ?_) | (with_reducible refine (N2.out).mono ?_) | (with_reducible refine (N3.out).mono ?_)); rintro e w' ⟨rfl, rfl⟩))
    go_ret
    exact ⟨by simp, rfl⟩
  · unfold ptI at M
    rw [if_neg hok] at M
    have M' := Lib.hid M
    have hK : 1048576 < x.tmod 1001 * u.tmod 1001 - y.tmod 1001 * v.tmod 1001 ∨ (¬ 1048576 < x.tmod 1001 * u.tmod 1001 - y.tmod 1001 * v.tmod 1001 ∧ x.tmod 1001 * u.tmod 1001 - y.tmod 1001 * v.tmod 1001 < -1048576) ∨ (¬ 1048576 < x.tmod 1001 * u.tmod 1001 - y.tmod 1001 * v.tmod 1001 ∧ ¬ x.tmod 1001 * u.tmod 1001 - y.tmod 1001 * v.tmod 1001 < -1048576 ∧ 1048576 < x.tmod 1001 * v.tmod 1001 + y.tmod 1001 * u.tmod 1001) ∨ (¬ 1048576 < x.tmod 1001 * u.tmod 1001 - y.tmod 1001 * v.tmod 1001 ∧ ¬ x.tmod 1001 * u.tmod 1001 - y.tmod 1001 * v.tmod 1001 < -1048576 ∧ ¬ 1048576 < x.tmod 1001 * v.tmod 1001 + y.tmod 1001 * u.tmod 1001 ∧ x.tmod 1001 * v.tmod 1001 + y.tmod 1001 * u.tmod 1001 < -1048576) := by
      simp [okI] at hok; omega
    have p1 : x.tmod 1001 * u.tmod 1001 ≤ 1000000 := by omega
    have p2 : -1000000 ≤ x.tmod 1001 * u.tmod 1001 := by omega
    have p3 : y.tmod 1001 * v.tmod 1001 ≤ 1000000 := by omega
    have p4 : -1000000 ≤ y.tmod 1001 * v.tmod 1001 := by omega
    have p5 : x.tmod 1001 * v.tmod 1001 ≤ 1000000 := by omega
    have p6 : -1000000 ≤ x.tmod 1001 * v.tmod 1001 := by omega
    have p7 : y.tmod 1001 * u.tmod 1001 ≤ 1000000 := by omega
    have p8 : -1000000 ≤ y.tmod 1001 * u.tmod 1001 := by omega
    clear B M hok k1 k2 k3 k4 n1 n2 n3 n4 n5 n6 n7 n8 n9 hx hy hu hv N1 N2
    rcases hK with h | ⟨h1, h⟩ | ⟨h1, h2, h⟩ | ⟨h1, h2, h3, h⟩
    all_goals
      go_enter Try.func4, Try.ntmps4
      go_wp2_with (first | (go_at_call 11; refine (T.out).mono ?_; rintro e w' ⟨rfl, rfl⟩) | (go_at_call 10; refine (M'.out).mono ?_; rintro e w' ⟨rfl, rfl⟩))
      go_ret
      exact ⟨by simp, rfl⟩
end Go.Proofs.Ytlgfgjcbdnnhfaa
