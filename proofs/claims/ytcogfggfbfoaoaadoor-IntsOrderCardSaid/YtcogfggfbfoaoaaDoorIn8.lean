/- The walk of the law IntsSums. -/
import Derived.Test.YtcogfggfbfoaoaaDoorIn7
namespace Go.Proofs.YtcogfggfbfoaoaaDoor
open Go.ChangeShapes Go.WideShapes Go.ChangeAt Go.RowKit

def sel (b : Bool) (x : Int) : Int := if b then x else 0
theorem resV_sel (b : Bool) (x : Int) : resV b x = .tuple #[.int .i64 (sel b x), .bool b] := by cases b <;> rfl
/-- A call of two numbers: it gives x and p. -/
@[reducible] def Two (f : FuncId) (a b : Int) (x : Int) (p : Bool) : Prop := ∀ w : World, Calls Tryd.prog f #[.int .i64 a, .int .i64 b] w fun e w' => e = .returned (.tuple #[.int .i64 x, .bool p]) ∧ w = w'
@[reducible] def Fits (a : Int) : Prop := -9223372036854775808 ≤ a ∧ a ≤ 9223372036854775807
theorem T13 {a b : Int} (ha : Fits a) (hb : Fits b) : Two 13 a b (sel (rng (a + b)) (a + b)) (rng (a + b)) := fun w => by have := N13 a b ha.1 ha.2 hb.1 hb.2 w; rw [resV_sel] at this; exact this
theorem T14 {a b : Int} (ha : Fits a) (hb : Fits b) : Two 14 a b (sel (rng (a + b)) (a + b)) (rng (a + b)) := fun w => by have := N14 a b ha.1 ha.2 hb.1 hb.2 w; rw [resV_sel] at this; exact this
theorem T15 {a b : Int} (ha : Fits a) (hb : Fits b) : Two 15 a b (sel (rng (a - b)) (a - b)) (rng (a - b)) := fun w => by have := N15 a b ha.1 ha.2 hb.1 hb.2 w; rw [resV_sel] at this; exact this
theorem T16 {a b : Int} (ha : Fits a) (hb : Fits b) : Two 16 a b (sel (rng (a - b)) (a - b)) (rng (a - b)) := fun w => by have := N16 a b ha.1 ha.2 hb.1 hb.2 w; rw [resV_sel] at this; exact this
theorem T17 {a b : Int} (ha : Fits a) (hb : Fits b) : Two 17 a b (sel (rng (a * b)) (a * b)) (rng (a * b)) := fun w => by have := N17 a b ha.1 ha.2 hb.1 hb.2 w; rw [resV_sel] at this; exact this
theorem T18 {a b : Int} (ha : Fits a) (hb : Fits b) : Two 18 a b (sel (rng (a * b)) (a * b)) (rng (a * b)) := fun w => by have := N18 a b ha.1 ha.2 hb.1 hb.2 w; rw [resV_sel] at this; exact this
theorem T19 {a b : Int} (ha : Fits a) (hb : Fits b) : Two 19 a b (sel (okD a b) (dv a b)) (okD a b) := fun w => by have := N19 a b ha.1 ha.2 hb.1 hb.2 w; rw [resV_sel] at this; exact this
theorem T21 {a b : Int} (ha : Fits a) (hb : Fits b) : Two 21 a b (sel (okD a b) (dv a b)) (okD a b) := fun w => by have := N21 a b ha.1 ha.2 hb.1 hb.2 w; rw [resV_sel] at this; exact this
theorem T20 {a b : Int} (ha : Fits a) (hb : Fits b) : Two 20 a b (sel (okM b) (md a b)) (okM b) := fun w => by have := N20 a b ha.1 ha.2 hb.1 hb.2 w; rw [resV_sel] at this; exact this
theorem T22 {a b : Int} (ha : Fits a) (hb : Fits b) : Two 22 a b (sel (okM b) (md a b)) (okM b) := fun w => by have := N22 a b ha.1 ha.2 hb.1 hb.2 w; rw [resV_sel] at this; exact this

set_option maxHeartbeats 1000000 in
theorem sums_walk (a b : Int) (ha : Fits a) (hb : Fits b) (w : World) : Calls Tryd.prog 4 #[.int .i64 a, .int .i64 b] w fun e w' => e = .returned (.bool true) ∧ ∃ n, w' = w.drewN n := by
  have c1 := T13 ha hb
  have c2 := T14 ha hb
  have c3 := T15 ha hb
  have c4 := T16 ha hb
  have c5 := T17 ha hb
  have c6 := T18 ha hb
  generalize rng (a + b) = p1 at *
  generalize rng (a - b) = p2 at *
  generalize rng (a * b) = p3 at *
  generalize sel p1 (a + b) = x1 at *
  generalize sel p2 (a - b) = x2 at *
  generalize sel p3 (a * b) = x3 at *
  have C1 := Lib.hid c1
  have C2 := Lib.hid c2
  have C3 := Lib.hid c3
  have C4 := Lib.hid c4
  have C5 := Lib.hid c5
  have C6 := Lib.hid c6
  clear c1 c2 c3 c4 c5 c6 ha hb
  go_enter Tryd.func4, Tryd.ntmps4
  go_wp2_with (first | (go_at_call 13; refine (C1.out _).mono ?_; rintro e w' ⟨rfl, rfl⟩) | (go_at_call 14; refine (C2.out _).mono ?_; rintro e w' ⟨rfl, rfl⟩) | (go_at_call 15; refine (C3.out _).mono ?_; rintro e w' ⟨rfl, rfl⟩) | (go_at_call 16; refine (C4.out _).mono ?_; rintro e w' ⟨rfl, rfl⟩) | (go_at_call 17; refine (C5.out _).mono ?_; rintro e w' ⟨rfl, rfl⟩) | (go_at_call 18; refine (C6.out _).mono ?_; rintro e w' ⟨rfl, rfl⟩) | (go_at_call 8; refine (told_any _).mono ?_; rintro e w' ⟨rfl, n, rfl⟩))
  go_ret
  exact ⟨by simp, _, rfl⟩

/-! quotients and rests -/
theorem dv_md (a b : Int) : b * dv a b + md a b = a := by
  have h := Int.mul_tdiv_add_tmod a b
  unfold dv md
  split
  · rw [Int.mul_sub, Int.mul_one]; omega
  · exact h
theorem md_bd (a b : Int) (hb : b ≠ 0) : (0 < b → 0 ≤ md a b ∧ md a b < b) ∧ (b < 0 → md a b ≤ 0 ∧ b < md a b) := by
  have h := tmod_bd a b hb
  have h2 := tmod_sign a b
  unfold md
  split
  · rename_i hc; omega
  · rename_i hc
    by_cases h0 : a.tmod b = 0
    · omega
    · have : (a < 0) ↔ (b < 0) := by
        by_cases hh : (a < 0) ↔ (b < 0)
        · exact hh
        · exact absurd ⟨h0, hh⟩ hc
      omega
theorem dv_fits (a b : Int) (ha : Fits a) (hok : okD a b = true) : Fits (dv a b) := by
  have h : ¬ (b = 0 ∨ b = -1 ∧ a = -9223372036854775808) := by
    intro g; simp [okD] at hok; omega
  have hq := tdiv_bd a b ha.1 ha.2 (fun g => h (.inr g))
  unfold dv
  split
  · rename_i hc
    have := mem_lo ha.1 ha.2 (fun g => h (.inl g)) hc.1 hc.2
    exact ⟨by omega, by omega⟩
  · exact hq
end Go.Proofs.YtcogfggfbfoaoaaDoor
