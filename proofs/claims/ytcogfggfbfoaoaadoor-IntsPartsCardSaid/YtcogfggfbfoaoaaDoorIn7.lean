/- The law's own few examples (told) answer true. -/
import Derived.Test.YtcogfggfbfoaoaaDoorIn6
import Derived.Test.YtcogfggfbfoaoaaDoorShelf
namespace Go.Proofs.YtcogfggfbfoaoaaDoor
open Go.ChangeShapes Go.WideShapes Go.ChangeAt Go.RowKit

theorem fmt5 (w : World) : Calls Tryd.prog 23 #[.int .i64 5, .int .i64 10] w fun e w' => e = .returned (.string ⟨#[53]⟩) ∧ w = w' := by
  have h := Tryd.strconv_FormatInt_10_small 5 (by decide) w
  have e : (Lib.decDigits 5).toArray = #[53] := by kernel_rfl
  rw [e] at h
  exact h.mono fun _ _ ⟨h1, h2⟩ => ⟨h1, h2.symm⟩
theorem Print5 (w : World) : Calls Tryd.prog 11 #[.int .i64 5] w fun e w' => e = .returned (.string ⟨#[53]⟩) ∧ w = w' := by
  go_enter Tryd.func11, Tryd.ntmps11
  go_wp2_with (go_at_call 23; refine (fmt5 _).mono ?_; rintro e w' ⟨rfl, rfl⟩)
  go_ret
  exact ⟨by simp, rfl⟩
theorem parse_m12 (w : World) : Calls Tryd.prog 9 #[.string ⟨#[45, 49, 50]⟩] w fun e w' => e = .returned (.tuple #[.int .i64 (-12), .bool true]) ∧ ∃ n, w' = w.drewN n := by
  have h := Parse9 ⟨#[45, 49, 50]⟩ (by decide) w
  have e : optV (parseI (⟨#[45, 49, 50]⟩ : ByteArray).data.toList) = .tuple #[.int .i64 (-12), .bool true] := by kernel_rfl
  rw [e] at h
  exact h
theorem parse_012 (w : World) : Calls Tryd.prog 9 #[.string ⟨#[48, 49, 50]⟩] w fun e w' => e = .returned (.tuple #[.int .i64 0, .bool false]) ∧ ∃ n, w' = w.drewN n := by
  have h := Parse9 ⟨#[48, 49, 50]⟩ (by decide) w
  have e : optV (parseI (⟨#[48, 49, 50]⟩ : ByteArray).data.toList) = .tuple #[.int .i64 0, .bool false] := by kernel_rfl
  rw [e] at h
  exact h
theorem told_any (w : World) : Calls Tryd.prog 8 #[] w fun e w' => e = .returned (.bool true) ∧ ∃ n, w' = w.drewN n := by
  have c1 := fun w => N19 (-7) 2 (by omega) (by omega) (by omega) (by omega) w
  have e1 : resV (okD (-7) 2) (dv (-7) 2) = .tuple #[.int .i64 (-4), .bool true] := by kernel_rfl
  rw [e1] at c1
  have c2 := fun w => N20 (-7) 2 (by omega) (by omega) (by omega) (by omega) w
  have e2 : resV (okM 2) (md (-7) 2) = .tuple #[.int .i64 1, .bool true] := by kernel_rfl
  rw [e2] at c2
  have c3 := fun w => N13 4611686018427387904 4611686018427387904 (by omega) (by omega) (by omega) (by omega) w
  have e3 : resV (rng (4611686018427387904 + 4611686018427387904)) (4611686018427387904 + 4611686018427387904) = .tuple #[.int .i64 0, .bool false] := by kernel_rfl
  rw [e3] at c3
  have C1 := Lib.hid c1
  have C2 := Lib.hid c2
  have C3 := Lib.hid c3
  clear c1 c2 c3 e1 e2 e3
  go_enter Tryd.func8, Tryd.ntmps8
  go_wp2_with (first | (go_at_call_of 9 (Value.string ⟨#[45, 49, 50]⟩); refine (parse_m12 _).mono ?_; rintro e w' ⟨rfl, n, rfl⟩) | (go_at_call 9; refine (parse_012 _).mono ?_; rintro e w' ⟨rfl, n, rfl⟩) | (go_at_call 19; refine (C1.out _).mono ?_; rintro e w' ⟨rfl, rfl⟩) | (go_at_call 20; refine (C2.out _).mono ?_; rintro e w' ⟨rfl, rfl⟩) | (go_at_call 13; refine (C3.out _).mono ?_; rintro e w' ⟨rfl, rfl⟩) | (go_at_call 11; refine (Print5 _).mono ?_; rintro e w' ⟨rfl, rfl⟩))
  go_ret
  exact ⟨by simp, _, rfl⟩
end Go.Proofs.YtcogfggfbfoaoaaDoor
