/- The walk of the law PlaneTurns: it returns true for every input. -/
import Derived.Test.YtlgfgjcbdnnhfaaPl6
namespace Go.Proofs.Ytlgfgjcbdnnhfaa
open Go.ChangeShapes Go.WideShapes Go.ChangeAt Go.RowKit Go.Fl

set_option maxRecDepth 100000 in
set_option maxHeartbeats 2000000 in
theorem turns_walk (x y u v k n : Int) (w : World) :
    Calls Try.prog 3 #[.int .i64 x, .int .i64 y, .int .i64 u, .int .i64 v, .int .i64 k, .int .i64 n] w fun e w' => e = .returned (.bool true) ∧ w = w' := by
  have T := Lib.hid (told_any w)
  have W1 := Whole_any x y w
  have W2 := Whole_any u v w
  have oX := tm_le2 x
  have oY := tm_le2 y
  have oU := tm_le2 u
  have oV := tm_le2 v
  generalize x.tmod 1048577 = X at *
  generalize y.tmod 1048577 = Y at *
  generalize u.tmod 1048577 = U at *
  generalize v.tmod 1048577 = V at *
  have W1' := Lib.hid W1
  have W2' := Lib.hid W2
  clear W1 W2
  have m := may_fi X Y (by have := okI_abs oX; omega) (by have := okI_abs oY; omega) w
  rw [oX, oY] at m
  have M := Lib.hid m
  clear m
  have s0 := fun w => run_complex_sum (P := Try.prog) w .add (.inl rfl) 22 .f64 _ _ _ _ _ _ (add00 X Y oX oY)
  have s1 := fun w => run_complex_sum (P := Try.prog) w .add (.inl rfl) 22 .f64 _ _ _ _ _ _ (neg00 X Y oX oY)
  have s2 := run_neg_complex
  have ho := order_fi
  obtain ⟨P1, P2, Q1, Q2, R1, R2, S1, S2, N, C1, C2, D1, D2, p, r, F⟩ := facts X Y U V k n oX oY oU oV w
  have b1 : 0 ≤ bits .and .i64 k 7 ∧ bits .and .i64 k 7 ≤ 7 := by rw [and7]; omega
  have b2 : 0 ≤ bits .and .i64 n 7 ∧ bits .and .i64 n 7 ≤ 7 := by rw [and7]; omega
  obtain ⟨b1a, b1b⟩ := b1
  obtain ⟨b2a, b2b⟩ := b2
  have G := Lib.hid F
  clear F oX oY oU oV
  cases p <;> cases r
  all_goals
    go_enter Try.func3, Try.ntmps3
    go_wp2_with (first
      | (go_at_call 11; refine (T.out).mono ?_; rintro e w' ⟨rfl, rfl⟩)
      | (go_at_call 5; (first | (with_reducible refine (W1'.out).mono ?_) | (with_reducible refine (W2'.out).mono ?_)); rintro e w' ⟨rfl, rfl⟩)
      | (go_at_call 6; refine (M.out).mono ?_; rintro e w' ⟨rfl, rfl⟩)
      | (go_at_call 8; (first | (with_reducible refine Calls.mono (G.out.n1) ?_) | (with_reducible refine Calls.mono (G.out.n2) ?_)); rintro e w' ⟨rfl, rfl⟩)
      | (go_at_call 9; (first | (with_reducible refine Calls.mono (G.out.a1) ?_) | (with_reducible refine Calls.mono (G.out.a2) ?_)); rintro e w' ⟨rfl, rfl⟩)
      | (go_at_call 10; (first | (with_reducible refine Calls.mono (G.out.m1) ?_) | (with_reducible refine Calls.mono (G.out.m2) ?_)); rintro e w' ⟨rfl, rfl⟩)
      | (go_at_call 7; (first | (with_reducible refine Calls.mono (G.out.t1) ?_) | (with_reducible refine Calls.mono (G.out.t2) ?_) | (with_reducible refine Calls.mono (G.out.t3) ?_) | (with_reducible refine Calls.mono (G.out.t4) ?_) | (with_reducible refine Calls.mono (G.out.t5) ?_) | (with_reducible refine Calls.mono (G.out.t6) ?_) | (with_reducible refine Calls.mono (G.out.t7) ?_) | (with_reducible refine Calls.mono (G.out.t8) ?_) | (with_reducible refine Calls.mono (G.out.t9 rfl) ?_) | (with_reducible refine Calls.mono (G.out.t10 rfl) ?_)); rintro e w' ⟨rfl, rfl⟩))
  all_goals
    go_ret
    exact ⟨by simp, rfl⟩
end Go.Proofs.Ytlgfgjcbdnnhfaa
