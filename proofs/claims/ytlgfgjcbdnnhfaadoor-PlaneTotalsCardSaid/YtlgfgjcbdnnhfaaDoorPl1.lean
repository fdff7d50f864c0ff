import Derived.Test.YtlgfgjcbdnnhfaaDoorRows
import Derived.WalkKit
import Derived.ProofKit
import Derived.OpenShut
import Derived.WalkLawsBesides
import Derived.Outline
import Derived.Lib.Hide
import Derived.Deep.RegionWith
import Derived.BigQuiet
import Derived.Deep.QuietTactic
import Derived.Laws.BitsAllLaws
import Derived.Test.YtlgfgjcbdnnhfaaDoorFl
namespace Go.Proofs.YtlgfgjcbdnnhfaaDoor
open Go.ChangeShapes Go.WideShapes Go.ChangeAt Go.RowKit Go.Fl

theorem bits_run (b : Nat) (w : World) : (callFunc 33 #[.float .f64 b]).run Tryd.prog w = .ok (.value (.int .u64 b)) w := by kernel_rfl
theorem frombits_run (n : Int) (w : World) : (callFunc 32 #[.int .u64 n]).run Tryd.prog w = .ok (.value (.float .f64 n.toNat)) w := by kernel_rfl
theorem trunc_entry (b : Nat) (w : World) : (callFunc 30 #[.float .f64 b]).run Tryd.prog w = ((Extern.MathFloor.toIntegral "math.archTrunc" .zero #[.float .f64 b]).run Tryd.prog w).andThen fun v w' => .ok (.value v) w' :=
  run_callFunc_extern Tryd.func30 (by kernel_rfl) (by kernel_rfl) (by kernel_rfl) (by kernel_rfl) _ w
theorem trunc_run (s : Bool) (m : Nat) (hm : m < 2 ^ 53) (w : World) : (callFunc 30 #[.float .f64 (fz s m)]).run Tryd.prog w = .ok (.value (.float .f64 (fz s m))) w := by
  rw [trunc_entry]
  obtain ⟨k, hk⟩ := read_fz s m hm
  have hd : FloatKind.f64.decode (fz s m) = .number s (m * 2 ^ k) (-(k : Int)) := hk
  have hi := rep_integral .zero ⟨k, hk⟩
  have e : Extern.MathFloor.toIntegral "math.archTrunc" .zero #[.float .f64 (fz s m)] = pure (Value.float .f64 (FloatKind.f64.encode (Ieee.Datum.integral .zero (.number s (m * 2 ^ k) (-(k : Int)))))) := by
    show (match FloatKind.f64.decode (fz s m) with
      | .nan s t => _
      | d => pure (Value.float .f64 (FloatKind.f64.encode (d.integral .zero)))) = _
    rw [hd]
  rw [e, ← hk, hi]
  rfl

theorem trunc_any (s : Bool) (m : Nat) (hm : m < 2 ^ 53) (w : World) : Calls Tryd.prog 23 #[.float .f64 (fz s m)] w fun e w' => e = .returned (.float .f64 (fz s m)) ∧ w = w' := by
  have h1 := trunc_run s m hm
  go_enter Tryd.func23, Tryd.ntmps23
  go_wp2
  go_ret
  exact ⟨rfl, rfl⟩

theorem fz_lt (m : Nat) (hm : m < 2 ^ 53) : fz false m < 2 ^ 63 := by
  by_cases h : m = 0
  · subst h; rw [fz_zero, word_false]; decide
  · have := rung_lt hm h
    rw [fz_pos false m hm h, word_false]
    omega
theorem fz_true (m : Nat) (hm : m < 2 ^ 53) : fz true m = 2 ^ 63 + fz false m := by
  by_cases h : m = 0
  · subst h; rw [fz_zero, fz_zero, word_true, word_false]
  · rw [fz_pos _ m hm h, fz_pos _ m hm h, word_true, word_false]

theorem fz_lt64 (s : Bool) (m : Nat) (hm : m < 2 ^ 53) : fz s m < 2 ^ 64 := by
  have h := fz_lt m hm
  cases s
  · omega
  · rw [fz_true m hm]; omega
theorem abs_bits (s : Bool) (m : Nat) (hm : m < 2 ^ 53) : (bits BinOp.andNot IntKind.u64 (↑(fz s m)) 9223372036854775808).toNat = fz false m := by
  have h := fz_lt m hm
  have h' := fz_lt64 s m hm
  rw [u64_andNot _ _ (by omega) (by omega) (by omega) (by omega)]
  have e : (18446744073709551615 - Int.toNat 9223372036854775808 : Nat) = 2 ^ 63 - 1 := by decide
  rw [e, Nat.and_two_pow_sub_one_eq_mod]
  cases s
  · simp; omega
  · rw [fz_true m hm]; simp; omega
theorem sign_bits (s : Bool) (m : Nat) (hm : m < 2 ^ 53) : decide (wrap64 (fz s m : Int) < 0) = s := by
  have h := fz_lt m hm
  unfold wrap64
  cases s
  · simp; omega
  · rw [fz_true m hm]; simp; omega

theorem abs_any (s : Bool) (m : Nat) (hm : m < 2 ^ 53) (w : World) : Calls Tryd.prog 24 #[.float .f64 (fz s m)] w fun e w' => e = .returned (.float .f64 (fz false m)) ∧ w = w' := by
  have h1 := bits_run (fz s m)
  have h2 := frombits_run
  have h3 := Lib.hid (abs_bits s m hm)
  go_enter Tryd.func24, Tryd.ntmps24
  go_wp2
  go_ret
  exact ⟨by simp [h3.out], rfl⟩
theorem signbit_any (s : Bool) (m : Nat) (hm : m < 2 ^ 53) (w : World) : Calls Tryd.prog 25 #[.float .f64 (fz s m)] w fun e w' => e = .returned (.bool s) ∧ w = w' := by
  have h1 := bits_run (fz s m)
  have h3 := Lib.hid (sign_bits s m hm)
  go_enter Tryd.func25, Tryd.ntmps25
  go_wp2
  go_ret
  exact ⟨by simp [h3.out], rfl⟩
theorem lit_max : (4697254411347427328 : Nat) = fz false 1048576 := by decide
theorem lit_zero : (0 : Nat) = fz false 0 := by decide
theorem cmp_lt {a b : Int} (h : a < b) : compare a b = .lt := by
  show compareOfLessAndEq _ _ = _
  unfold compareOfLessAndEq
  rw [if_pos h]
theorem cmp_gt {a b : Int} (h : b < a) : compare a b = .gt := by
  show compareOfLessAndEq _ _ = _
  unfold compareOfLessAndEq
  rw [if_neg (by omega), if_neg (by omega)]
theorem cmp_eq {a b : Int} (h : a = b) : compare a b = .eq := by subst h; simp
/-- May a part be? -/
theorem whole_yes (s : Bool) (m : Nat) (hm : m ≤ 1048576) (hz : m ≠ 0 ∨ s = false) (w : World) : Calls Tryd.prog 15 #[.float .f64 (fz s m)] w fun e w' => e = .returned (.bool true) ∧ w = w' := by
  have hm' : m < 2 ^ 53 := by omega
  have h1 : FloatKind.f64.format.order (fz s m) (fz s m) = some Ordering.eq := by rw [f64, order_fz hm' hm', cmp_eq rfl]
  have h2 : (FloatKind.f64.format.order (fz false m) 4697254411347427328 == some .lt || FloatKind.f64.format.order (fz false m) 4697254411347427328 == some .eq) = true := by
    rw [f64, lit_max, order_fz hm' (by decide)]
    by_cases h : m = 1048576
    · rw [cmp_eq (by simp [sg, h])]; rfl
    · rw [cmp_lt (by simp [sg]; omega)]; rfl
  have h3 := hz
  clear hz
  by_cases h0 : m = 0
  · subst h0
    obtain rfl : s = false := by simpa using h3
    have h4 : FloatKind.f64.format.order (fz false 0) 0 = some Ordering.eq := by decide
    clear h3
    go_enter Tryd.func15, Tryd.ntmps15
    go_wp2_with (first | (go_at_call 23; refine (trunc_any _ _ hm' _).mono ?_; rintro e w' ⟨rfl, rfl⟩) | (go_at_call 24; refine (abs_any _ _ hm' _).mono ?_; rintro e w' ⟨rfl, rfl⟩) | (go_at_call 25; refine (signbit_any _ _ hm' _).mono ?_; rintro e w' ⟨rfl, rfl⟩))
    go_ret
    exact ⟨by simp, rfl⟩
  · have h4 : (FloatKind.f64.format.order (fz s m) 0 == some Ordering.eq) = false := by
      rw [f64, lit_zero, order_fz hm' (by decide)]
      cases s
      · rw [cmp_gt (by simp [sg]; omega)]; rfl
      · rw [cmp_lt (by simp [sg]; omega)]; rfl
    clear h3
    go_enter Tryd.func15, Tryd.ntmps15
    go_wp2_with (first | (go_at_call 23; refine (trunc_any _ _ hm' _).mono ?_; rintro e w' ⟨rfl, rfl⟩) | (go_at_call 24; refine (abs_any _ _ hm' _).mono ?_; rintro e w' ⟨rfl, rfl⟩) | (go_at_call 25; refine (signbit_any _ _ hm' _).mono ?_; rintro e w' ⟨rfl, rfl⟩))
    go_ret
    exact ⟨by simp, rfl⟩
theorem whole_no (s : Bool) (m : Nat) (hm : 1048576 < m) (hm' : m < 2 ^ 53) (w : World) : Calls Tryd.prog 15 #[.float .f64 (fz s m)] w fun e w' => e = .returned (.bool false) ∧ w = w' := by
  have h1 : FloatKind.f64.format.order (fz s m) (fz s m) = some Ordering.eq := by rw [f64, order_fz hm' hm', cmp_eq rfl]
  have h2 : FloatKind.f64.format.order (fz false m) 4697254411347427328 = some .gt := by
    rw [f64, lit_max, order_fz hm' (by decide)]
    rw [cmp_gt (by simp [sg]; omega)]
  go_enter Tryd.func15, Tryd.ntmps15
  go_wp2_with (first | (go_at_call 23; refine (trunc_any _ _ hm' _).mono ?_; rintro e w' ⟨rfl, rfl⟩) | (go_at_call 24; refine (abs_any _ _ hm' _).mono ?_; rintro e w' ⟨rfl, rfl⟩) | (go_at_call 25; refine (signbit_any _ _ hm' _).mono ?_; rintro e w' ⟨rfl, rfl⟩))
  go_ret
  exact ⟨by simp, rfl⟩
def okI (n : Int) : Bool := decide (-1048576 ≤ n ∧ n ≤ 1048576)
theorem whole_fi (n : Int) (hn : n.natAbs < 2 ^ 53) (w : World) : Calls Tryd.prog 15 #[.float .f64 (fi n)] w fun e w' => e = .returned (.bool (okI n)) ∧ w = w' := by
  by_cases h : n.natAbs ≤ 1048576
  · rw [show okI n = true from by simp [okI]; omega]
    exact whole_yes _ _ h (by by_cases h0 : n.natAbs = 0 <;> simp [h0]; omega) w
  · rw [show okI n = false from by simp [okI]; omega]
    exact whole_no _ _ (by omega) hn w
theorem may_fi (x y : Int) (hx : x.natAbs < 2 ^ 53) (hy : y.natAbs < 2 ^ 53) (w : World) : Calls Tryd.prog 7 #[.complex .f64 (fi x) (fi y)] w fun e w' => e = .returned (.bool (okI x && okI y)) ∧ w = w' := by
  cases h : okI x
  · have hx' := Lib.hid (whole_fi x hx w)
    rw [h] at hx'
    go_enter Tryd.func7, Tryd.ntmps7
    go_wp2_with (first | (go_at_call 15; refine (hx'.out).mono ?_; rintro e w' ⟨rfl, rfl⟩))
    go_ret
    exact ⟨by simp, rfl⟩
  · have hx' := Lib.hid (whole_fi x hx w)
    rw [h] at hx'
    have hy' := Lib.hid (whole_fi y hy w)
    go_enter Tryd.func7, Tryd.ntmps7
    go_wp2_with (first | (go_at_call_of 15 (Value.float .f64 (fi x)); refine (hx'.out).mono ?_; rintro e w' ⟨rfl, rfl⟩) | (go_at_call 15; refine (hy'.out).mono ?_; rintro e w' ⟨rfl, rfl⟩))
    go_ret
    exact ⟨by simp, rfl⟩
end Go.Proofs.YtlgfgjcbdnnhfaaDoor
