/- Texts joined: G13, G19, C1 -/
import Derived.Test.YticlacjpgjkhcaaGreatDoorQh5
import Derived.Test.YticlacjpgjkhcaaGreatDoorQh15
import Derived.Test.YticlacjpgjkhcaaGreatDoorQh4
import Derived.Test.YticlacjpgjkhcaaGreatDoorQh19
import Derived.Test.YticlacjpgjkhcaaGreatDoorQh21

/- job.Span at any places. -/
namespace Go.Proofs.YticlacjpgjkhcaaGreatDoor
open Go.ChangeShapes Go.WideShapes Go.ChangeAt Go.RowKit

/-- The place from which a part goes. -/
def spA (i n : Int) : Int := if i < 0 then max i (-n) + n else i
/-- The place up to which it goes. -/
def spC (j n : Int) : Int := min (if j < 0 then max j (-n - 1) + n else j) (n - 1)
set_option maxHeartbeats 2000000 in
theorem Span_yes (i j : Int) (n : Nat) (hi : -1000000000 ≤ i ∧ i ≤ 1000000000) (hj : -1000000000 ≤ j ∧ j ≤ 1000000000) (hn : n ≤ 1000000) (h : spA i n ≤ spC j n) (w : World) : Calls Tryz.prog 125 #[.int .i64 i, .int .i64 j, .int .i64 n] w fun e w' => e = .returned (.tuple #[.int .i64 (spA i n), .int .i64 (spC j n + 1), .bool true]) ∧ Below w.heap.size w w' := by
  have w1 : wrap64 (-(n : Int)) = -(n : Int) := IntWalk.wrap64_in _ (by omega)
  have w2 : wrap64 (-(n : Int) - 1) = -(n : Int) - 1 := IntWalk.wrap64_in _ (by omega)
  have w3 : wrap64 ((n : Int) - 1) = (n : Int) - 1 := IntWalk.wrap64_in _ (by omega)
  have w4 : wrap64 (-(n : Int) + (n : Int)) = 0 := (IntWalk.wrap64_in _ (by omega)).trans (by omega)
  have w5 : wrap64 (-(n : Int) - 1 + (n : Int)) = -1 := (IntWalk.wrap64_in _ (by omega)).trans (by omega)
  have w6 : wrap64 (i + (n : Int)) = i + (n : Int) := IntWalk.wrap64_in _ (by omega)
  have w7 : wrap64 (j + (n : Int)) = j + (n : Int) := IntWalk.wrap64_in _ (by omega)
  have w8 : wrap64 (j + (n : Int) + 1) = j + (n : Int) + 1 := IntWalk.wrap64_in _ (by omega)
  have w9 : wrap64 (j + 1) = j + 1 := IntWalk.wrap64_in _ (by omega)
  have w10 : wrap64 ((n : Int) - 1 + 1) = n := (IntWalk.wrap64_in _ (by omega)).trans (by omega)
  have SI : ¬ i < 0 ∨ (i < 0 ∧ i < -(n : Int)) ∨ (i < 0 ∧ ¬ i < -(n : Int)) := by omega
  have SJ : ¬ j < 0 ∨ (j < 0 ∧ j < -(n : Int) - 1) ∨ (j < 0 ∧ ¬ j < -(n : Int) - 1) := by omega
  rcases SI with si | si | si
  · have a1 : ¬ i < 0 := si
    have hA : spA i n = i := by unfold spA; split <;> omega
    rcases SJ with sj | sj | sj
    · have b1 : ¬ j < 0 := sj
      by_cases sc : (n : Int) - 1 < j
      · have hc : spC j n = (n : Int) - 1 := by unfold spC; split <;> omega
        rw [hA, hc] at h ⊢
        have ht : ¬ (n : Int) - 1 < i := by omega
        clear hA hc h si sj hi hj
        go_enter Tryz.func125, Tryz.ntmps125
        go_wp2
        all_goals (go_ret3; exact ⟨by simp <;> omega, Below.refl _ _⟩)
      · have hc : spC j n = j := by unfold spC; split <;> omega
        rw [hA, hc] at h ⊢
        have ht : ¬ j < i := by omega
        clear hA hc h si sj hi hj
        go_enter Tryz.func125, Tryz.ntmps125
        go_wp2
        all_goals (go_ret3; exact ⟨by simp <;> omega, Below.refl _ _⟩)
    · have b1 : j < 0 := sj.1
      have b2 : j < -(n : Int) - 1 := sj.2
      by_cases sc : (n : Int) - 1 < (-1)
      · have hc : spC j n = (n : Int) - 1 := by unfold spC; split <;> omega
        rw [hA, hc] at h ⊢
        have ht : ¬ (n : Int) - 1 < i := by omega
        clear hA hc h si sj hi hj
        go_enter Tryz.func125, Tryz.ntmps125
        go_wp2
        all_goals (go_ret3; exact ⟨by simp <;> omega, Below.refl _ _⟩)
      · have hc : spC j n = (-1) := by unfold spC; split <;> omega
        rw [hA, hc] at h ⊢
        have ht : ¬ (-1) < i := by omega
        clear hA hc h si sj hi hj
        go_enter Tryz.func125, Tryz.ntmps125
        go_wp2
        all_goals (go_ret3; exact ⟨by simp <;> omega, Below.refl _ _⟩)
    · have b1 : j < 0 := sj.1
      have b2 : ¬ j < -(n : Int) - 1 := sj.2
      by_cases sc : (n : Int) - 1 < (j + (n : Int))
      · have hc : spC j n = (n : Int) - 1 := by unfold spC; split <;> omega
        rw [hA, hc] at h ⊢
        have ht : ¬ (n : Int) - 1 < i := by omega
        clear hA hc h si sj hi hj
        go_enter Tryz.func125, Tryz.ntmps125
        go_wp2
        all_goals (go_ret3; exact ⟨by simp <;> omega, Below.refl _ _⟩)
      · have hc : spC j n = (j + (n : Int)) := by unfold spC; split <;> omega
        rw [hA, hc] at h ⊢
        have ht : ¬ (j + (n : Int)) < i := by omega
        clear hA hc h si sj hi hj
        go_enter Tryz.func125, Tryz.ntmps125
        go_wp2
        all_goals (go_ret3; exact ⟨by simp <;> omega, Below.refl _ _⟩)
  · have a1 : i < 0 := si.1
    have a2 : i < -(n : Int) := si.2
    have hA : spA i n = 0 := by unfold spA; split <;> omega
    rcases SJ with sj | sj | sj
    · have b1 : ¬ j < 0 := sj
      by_cases sc : (n : Int) - 1 < j
      · have hc : spC j n = (n : Int) - 1 := by unfold spC; split <;> omega
        rw [hA, hc] at h ⊢
        have ht : ¬ (n : Int) - 1 < 0 := by omega
        clear hA hc h si sj hi hj
        go_enter Tryz.func125, Tryz.ntmps125
        go_wp2
        all_goals (go_ret3; exact ⟨by simp <;> omega, Below.refl _ _⟩)
      · have hc : spC j n = j := by unfold spC; split <;> omega
        rw [hA, hc] at h ⊢
        have ht : ¬ j < 0 := by omega
        clear hA hc h si sj hi hj
        go_enter Tryz.func125, Tryz.ntmps125
        go_wp2
        all_goals (go_ret3; exact ⟨by simp <;> omega, Below.refl _ _⟩)
    · have b1 : j < 0 := sj.1
      have b2 : j < -(n : Int) - 1 := sj.2
      by_cases sc : (n : Int) - 1 < (-1)
      · have hc : spC j n = (n : Int) - 1 := by unfold spC; split <;> omega
        rw [hA, hc] at h ⊢
        have ht : ¬ (n : Int) - 1 < 0 := by omega
        clear hA hc h si sj hi hj
        go_enter Tryz.func125, Tryz.ntmps125
        go_wp2
        all_goals (go_ret3; exact ⟨by simp <;> omega, Below.refl _ _⟩)
      · have hc : spC j n = (-1) := by unfold spC; split <;> omega
        rw [hA, hc] at h ⊢
        have ht : ¬ (-1) < 0 := by omega
        clear hA hc h si sj hi hj
        go_enter Tryz.func125, Tryz.ntmps125
        go_wp2
        all_goals (go_ret3; exact ⟨by simp <;> omega, Below.refl _ _⟩)
    · have b1 : j < 0 := sj.1
      have b2 : ¬ j < -(n : Int) - 1 := sj.2
      by_cases sc : (n : Int) - 1 < (j + (n : Int))
      · have hc : spC j n = (n : Int) - 1 := by unfold spC; split <;> omega
        rw [hA, hc] at h ⊢
        have ht : ¬ (n : Int) - 1 < 0 := by omega
        clear hA hc h si sj hi hj
        go_enter Tryz.func125, Tryz.ntmps125
        go_wp2
        all_goals (go_ret3; exact ⟨by simp <;> omega, Below.refl _ _⟩)
      · have hc : spC j n = (j + (n : Int)) := by unfold spC; split <;> omega
        rw [hA, hc] at h ⊢
        have ht : ¬ (j + (n : Int)) < 0 := by omega
        clear hA hc h si sj hi hj
        go_enter Tryz.func125, Tryz.ntmps125
        go_wp2
        all_goals (go_ret3; exact ⟨by simp <;> omega, Below.refl _ _⟩)
  · have a1 : i < 0 := si.1
    have a2 : ¬ i < -(n : Int) := si.2
    have hA : spA i n = i + (n : Int) := by unfold spA; split <;> omega
    rcases SJ with sj | sj | sj
    · have b1 : ¬ j < 0 := sj
      by_cases sc : (n : Int) - 1 < j
      · have hc : spC j n = (n : Int) - 1 := by unfold spC; split <;> omega
        rw [hA, hc] at h ⊢
        have ht : ¬ (n : Int) - 1 < i + (n : Int) := by omega
        clear hA hc h si sj hi hj
        go_enter Tryz.func125, Tryz.ntmps125
        go_wp2
        all_goals (go_ret3; exact ⟨by simp <;> omega, Below.refl _ _⟩)
      · have hc : spC j n = j := by unfold spC; split <;> omega
        rw [hA, hc] at h ⊢
        have ht : ¬ j < i + (n : Int) := by omega
        clear hA hc h si sj hi hj
        go_enter Tryz.func125, Tryz.ntmps125
        go_wp2
        all_goals (go_ret3; exact ⟨by simp <;> omega, Below.refl _ _⟩)
    · have b1 : j < 0 := sj.1
      have b2 : j < -(n : Int) - 1 := sj.2
      by_cases sc : (n : Int) - 1 < (-1)
      · have hc : spC j n = (n : Int) - 1 := by unfold spC; split <;> omega
        rw [hA, hc] at h ⊢
        have ht : ¬ (n : Int) - 1 < i + (n : Int) := by omega
        clear hA hc h si sj hi hj
        go_enter Tryz.func125, Tryz.ntmps125
        go_wp2
        all_goals (go_ret3; exact ⟨by simp <;> omega, Below.refl _ _⟩)
      · have hc : spC j n = (-1) := by unfold spC; split <;> omega
        rw [hA, hc] at h ⊢
        have ht : ¬ (-1) < i + (n : Int) := by omega
        clear hA hc h si sj hi hj
        go_enter Tryz.func125, Tryz.ntmps125
        go_wp2
        all_goals (go_ret3; exact ⟨by simp <;> omega, Below.refl _ _⟩)
    · have b1 : j < 0 := sj.1
      have b2 : ¬ j < -(n : Int) - 1 := sj.2
      by_cases sc : (n : Int) - 1 < (j + (n : Int))
      · have hc : spC j n = (n : Int) - 1 := by unfold spC; split <;> omega
        rw [hA, hc] at h ⊢
        have ht : ¬ (n : Int) - 1 < i + (n : Int) := by omega
        clear hA hc h si sj hi hj
        go_enter Tryz.func125, Tryz.ntmps125
        go_wp2
        all_goals (go_ret3; exact ⟨by simp <;> omega, Below.refl _ _⟩)
      · have hc : spC j n = (j + (n : Int)) := by unfold spC; split <;> omega
        rw [hA, hc] at h ⊢
        have ht : ¬ (j + (n : Int)) < i + (n : Int) := by omega
        clear hA hc h si sj hi hj
        go_enter Tryz.func125, Tryz.ntmps125
        go_wp2
        all_goals (go_ret3; exact ⟨by simp <;> omega, Below.refl _ _⟩)
set_option maxHeartbeats 2000000 in
theorem Span_no (i j : Int) (n : Nat) (hi : -1000000000 ≤ i ∧ i ≤ 1000000000) (hj : -1000000000 ≤ j ∧ j ≤ 1000000000) (hn : n ≤ 1000000) (h : spC j n < spA i n) (w : World) : Calls Tryz.prog 125 #[.int .i64 i, .int .i64 j, .int .i64 n] w fun e w' => e = .returned (.tuple #[.int .i64 0, .int .i64 0, .bool false]) ∧ Below w.heap.size w w' := by
  have w1 : wrap64 (-(n : Int)) = -(n : Int) := IntWalk.wrap64_in _ (by omega)
  have w2 : wrap64 (-(n : Int) - 1) = -(n : Int) - 1 := IntWalk.wrap64_in _ (by omega)
  have w3 : wrap64 ((n : Int) - 1) = (n : Int) - 1 := IntWalk.wrap64_in _ (by omega)
  have w4 : wrap64 (-(n : Int) + (n : Int)) = 0 := (IntWalk.wrap64_in _ (by omega)).trans (by omega)
  have w5 : wrap64 (-(n : Int) - 1 + (n : Int)) = -1 := (IntWalk.wrap64_in _ (by omega)).trans (by omega)
  have w6 : wrap64 (i + (n : Int)) = i + (n : Int) := IntWalk.wrap64_in _ (by omega)
  have w7 : wrap64 (j + (n : Int)) = j + (n : Int) := IntWalk.wrap64_in _ (by omega)
  have w8 : wrap64 (j + (n : Int) + 1) = j + (n : Int) + 1 := IntWalk.wrap64_in _ (by omega)
  have w9 : wrap64 (j + 1) = j + 1 := IntWalk.wrap64_in _ (by omega)
  have w10 : wrap64 ((n : Int) - 1 + 1) = n := (IntWalk.wrap64_in _ (by omega)).trans (by omega)
  have SI : ¬ i < 0 ∨ (i < 0 ∧ i < -(n : Int)) ∨ (i < 0 ∧ ¬ i < -(n : Int)) := by omega
  have SJ : ¬ j < 0 ∨ (j < 0 ∧ j < -(n : Int) - 1) ∨ (j < 0 ∧ ¬ j < -(n : Int) - 1) := by omega
  rcases SI with si | si | si
  · have a1 : ¬ i < 0 := si
    have hA : spA i n = i := by unfold spA; split <;> omega
    rcases SJ with sj | sj | sj
    · have b1 : ¬ j < 0 := sj
      by_cases sc : (n : Int) - 1 < j
      · have hc : spC j n = (n : Int) - 1 := by unfold spC; split <;> omega
        rw [hA, hc] at h
        have ht : (n : Int) - 1 < i := by omega
        clear hA hc h si sj hi hj
        go_enter Tryz.func125, Tryz.ntmps125
        go_wp2
        all_goals (go_ret3; exact ⟨by simp, Below.refl _ _⟩)
      · have hc : spC j n = j := by unfold spC; split <;> omega
        rw [hA, hc] at h
        have ht : j < i := by omega
        clear hA hc h si sj hi hj
        go_enter Tryz.func125, Tryz.ntmps125
        go_wp2
        all_goals (go_ret3; exact ⟨by simp, Below.refl _ _⟩)
    · have b1 : j < 0 := sj.1
      have b2 : j < -(n : Int) - 1 := sj.2
      by_cases sc : (n : Int) - 1 < (-1)
      · have hc : spC j n = (n : Int) - 1 := by unfold spC; split <;> omega
        rw [hA, hc] at h
        have ht : (n : Int) - 1 < i := by omega
        clear hA hc h si sj hi hj
        go_enter Tryz.func125, Tryz.ntmps125
        go_wp2
        all_goals (go_ret3; exact ⟨by simp, Below.refl _ _⟩)
      · have hc : spC j n = (-1) := by unfold spC; split <;> omega
        rw [hA, hc] at h
        have ht : (-1) < i := by omega
        clear hA hc h si sj hi hj
        go_enter Tryz.func125, Tryz.ntmps125
        go_wp2
        all_goals (go_ret3; exact ⟨by simp, Below.refl _ _⟩)
    · have b1 : j < 0 := sj.1
      have b2 : ¬ j < -(n : Int) - 1 := sj.2
      by_cases sc : (n : Int) - 1 < (j + (n : Int))
      · have hc : spC j n = (n : Int) - 1 := by unfold spC; split <;> omega
        rw [hA, hc] at h
        have ht : (n : Int) - 1 < i := by omega
        clear hA hc h si sj hi hj
        go_enter Tryz.func125, Tryz.ntmps125
        go_wp2
        all_goals (go_ret3; exact ⟨by simp, Below.refl _ _⟩)
      · have hc : spC j n = (j + (n : Int)) := by unfold spC; split <;> omega
        rw [hA, hc] at h
        have ht : (j + (n : Int)) < i := by omega
        clear hA hc h si sj hi hj
        go_enter Tryz.func125, Tryz.ntmps125
        go_wp2
        all_goals (go_ret3; exact ⟨by simp, Below.refl _ _⟩)
  · have a1 : i < 0 := si.1
    have a2 : i < -(n : Int) := si.2
    have hA : spA i n = 0 := by unfold spA; split <;> omega
    rcases SJ with sj | sj | sj
    · have b1 : ¬ j < 0 := sj
      by_cases sc : (n : Int) - 1 < j
      · have hc : spC j n = (n : Int) - 1 := by unfold spC; split <;> omega
        rw [hA, hc] at h
        have ht : (n : Int) - 1 < 0 := by omega
        clear hA hc h si sj hi hj
        go_enter Tryz.func125, Tryz.ntmps125
        go_wp2
        all_goals (go_ret3; exact ⟨by simp, Below.refl _ _⟩)
      · have hc : spC j n = j := by unfold spC; split <;> omega
        rw [hA, hc] at h
        have ht : j < 0 := by omega
        clear hA hc h si sj hi hj
        go_enter Tryz.func125, Tryz.ntmps125
        go_wp2
        all_goals (go_ret3; exact ⟨by simp, Below.refl _ _⟩)
    · have b1 : j < 0 := sj.1
      have b2 : j < -(n : Int) - 1 := sj.2
      by_cases sc : (n : Int) - 1 < (-1)
      · have hc : spC j n = (n : Int) - 1 := by unfold spC; split <;> omega
        rw [hA, hc] at h
        have ht : (n : Int) - 1 < 0 := by omega
        clear hA hc h si sj hi hj
        go_enter Tryz.func125, Tryz.ntmps125
        go_wp2
        all_goals (go_ret3; exact ⟨by simp, Below.refl _ _⟩)
      · have hc : spC j n = (-1) := by unfold spC; split <;> omega
        rw [hA, hc] at h
        have ht : (-1) < 0 := by omega
        clear hA hc h si sj hi hj
        go_enter Tryz.func125, Tryz.ntmps125
        go_wp2
        all_goals (go_ret3; exact ⟨by simp, Below.refl _ _⟩)
    · have b1 : j < 0 := sj.1
      have b2 : ¬ j < -(n : Int) - 1 := sj.2
      by_cases sc : (n : Int) - 1 < (j + (n : Int))
      · have hc : spC j n = (n : Int) - 1 := by unfold spC; split <;> omega
        rw [hA, hc] at h
        have ht : (n : Int) - 1 < 0 := by omega
        clear hA hc h si sj hi hj
        go_enter Tryz.func125, Tryz.ntmps125
        go_wp2
        all_goals (go_ret3; exact ⟨by simp, Below.refl _ _⟩)
      · have hc : spC j n = (j + (n : Int)) := by unfold spC; split <;> omega
        rw [hA, hc] at h
        have ht : (j + (n : Int)) < 0 := by omega
        clear hA hc h si sj hi hj
        go_enter Tryz.func125, Tryz.ntmps125
        go_wp2
        all_goals (go_ret3; exact ⟨by simp, Below.refl _ _⟩)
  · have a1 : i < 0 := si.1
    have a2 : ¬ i < -(n : Int) := si.2
    have hA : spA i n = i + (n : Int) := by unfold spA; split <;> omega
    rcases SJ with sj | sj | sj
    · have b1 : ¬ j < 0 := sj
      by_cases sc : (n : Int) - 1 < j
      · have hc : spC j n = (n : Int) - 1 := by unfold spC; split <;> omega
        rw [hA, hc] at h
        have ht : (n : Int) - 1 < i + (n : Int) := by omega
        clear hA hc h si sj hi hj
        go_enter Tryz.func125, Tryz.ntmps125
        go_wp2
        all_goals (go_ret3; exact ⟨by simp, Below.refl _ _⟩)
      · have hc : spC j n = j := by unfold spC; split <;> omega
        rw [hA, hc] at h
        have ht : j < i + (n : Int) := by omega
        clear hA hc h si sj hi hj
        go_enter Tryz.func125, Tryz.ntmps125
        go_wp2
        all_goals (go_ret3; exact ⟨by simp, Below.refl _ _⟩)
    · have b1 : j < 0 := sj.1
      have b2 : j < -(n : Int) - 1 := sj.2
      by_cases sc : (n : Int) - 1 < (-1)
      · have hc : spC j n = (n : Int) - 1 := by unfold spC; split <;> omega
        rw [hA, hc] at h
        have ht : (n : Int) - 1 < i + (n : Int) := by omega
        clear hA hc h si sj hi hj
        go_enter Tryz.func125, Tryz.ntmps125
        go_wp2
        all_goals (go_ret3; exact ⟨by simp, Below.refl _ _⟩)
      · have hc : spC j n = (-1) := by unfold spC; split <;> omega
        rw [hA, hc] at h
        have ht : (-1) < i + (n : Int) := by omega
        clear hA hc h si sj hi hj
        go_enter Tryz.func125, Tryz.ntmps125
        go_wp2
        all_goals (go_ret3; exact ⟨by simp, Below.refl _ _⟩)
    · have b1 : j < 0 := sj.1
      have b2 : ¬ j < -(n : Int) - 1 := sj.2
      by_cases sc : (n : Int) - 1 < (j + (n : Int))
      · have hc : spC j n = (n : Int) - 1 := by unfold spC; split <;> omega
        rw [hA, hc] at h
        have ht : (n : Int) - 1 < i + (n : Int) := by omega
        clear hA hc h si sj hi hj
        go_enter Tryz.func125, Tryz.ntmps125
        go_wp2
        all_goals (go_ret3; exact ⟨by simp, Below.refl _ _⟩)
      · have hc : spC j n = (j + (n : Int)) := by unfold spC; split <;> omega
        rw [hA, hc] at h
        have ht : (j + (n : Int)) < i + (n : Int) := by omega
        clear hA hc h si sj hi hj
        go_enter Tryz.func125, Tryz.ntmps125
        go_wp2
        all_goals (go_ret3; exact ⟨by simp, Below.refl _ _⟩)
end Go.Proofs.YticlacjpgjkhcaaGreatDoor

/- Commands over data: what they read of a job, what they leave. -/
namespace Go.Proofs.YticlacjpgjkhcaaGreatDoor
open Go.ChangeShapes Go.WideShapes Go.ChangeAt Go.RowKit

theorem JD.mono {α : Type} (K : Kd α) {w : World} {j bS : Nat} {now : Int} {vA : Value} {c d : Nat} {vl : Value} {des : List (ByteArray × Option α)} (h : JD K w j bS now vA c vl des) (hd : d ≤ c) : JD K w j bS now vA d vl des := by
  obtain ⟨h1, h2, css, h3, h4⟩ := h
  exact ⟨h1, h2, css, h3.mono hd, ALC.mono K hd h4⟩
/-- What a command that only reads leaves. -/
theorem endD {α : Type} (K : Kd α) {w w' : World} {j bS : Nat} {now : Int} {vA : Value} {k n : Int} {s : ByteArray} (hj : JB w j bS now vA (.slice none 0 0)) (hb : Below w.heap.size w w') : ∃ A m c, (Ending.returned (.agg #[.int .i64 k, .int .i64 n, .string s, .slice none 0 0])) = Ending.returned (.agg #[.int .i64 k, .int .i64 n, .string s, .slice A m c]) ∧ R0 w.heap.size w' (.slice A m c) ∧ (∃ vl, JD K w' j bS now vA w.heap.size vl ([] : List (ByteArray × Option α))) ∧ Kp w.heap.size (fun i => i ≠ j) w w' :=
  ⟨none, 0, 0, rfl, rfl, ⟨_, JD.nil K _ (hj.below hb)⟩, .of hb⟩
/-- What a command leaves that laid effects. -/
theorem endT {α : Type} (K : Kd α) {w w3 : World} {j bS : Nat} {now : Int} {vA vl : Value} {k n : Int} {s : ByteArray} {des : List (ByteArray × Option α)} {cs : Array Value} (hjw : j < w.heap.size) (hJ : JD K w3 j bS now vA w.heap.size vl des) (hr : w3.heap[w.heap.size]? = some (.cells cs 29)) (hK : Kp w.heap.size (fun i => i ≠ j) w w3) (v0 v1 v2 v3 : Value) :
    ∃ A m c, (Ending.returned (.agg #[.int .i64 k, .int .i64 n, .string s, .slice none 0 0]) = .returned (.agg #[.int .i64 k, .int .i64 n, .string s, .slice A m c])) ∧ R0 w.heap.size ((((w3.setCell ⟨w.heap.size, 0, none⟩ v0).setCell ⟨w.heap.size, 1, none⟩ v1).setCell ⟨w.heap.size, 2, none⟩ v2).setCell ⟨w.heap.size, 3, none⟩ v3) (.slice A m c) ∧ (∃ vl, JD K ((((w3.setCell ⟨w.heap.size, 0, none⟩ v0).setCell ⟨w.heap.size, 1, none⟩ v1).setCell ⟨w.heap.size, 2, none⟩ v2).setCell ⟨w.heap.size, 3, none⟩ v3) j bS now vA w.heap.size vl des) ∧ Kp w.heap.size (fun i => i ≠ j) w ((((w3.setCell ⟨w.heap.size, 0, none⟩ v0).setCell ⟨w.heap.size, 1, none⟩ v1).setCell ⟨w.heap.size, 2, none⟩ v2).setCell ⟨w.heap.size, 3, none⟩ v3) := by
  obtain ⟨h1, h2, css, h3, h4⟩ := hJ
  refine ⟨none, 0, 0, rfl, rfl, ⟨vl, h1, h2.kept (far4 _ _ _ _ (by omega)), css, h3.kept (fun g hg => far4 _ _ _ _ (fun e => ?_)), ALC.kept K (fun x a b d e hV _ g hg => far4 _ _ _ _ (fun e => ?_)) h4⟩, ?_⟩
  · subst e
    obtain ⟨_, cur, hh⟩ := h3.own _ hg
    rw [hr] at hh
    simp at hh
  · subst e
    obtain ⟨cs', t, g1, _, _, _, _, g6⟩ := K.typ hV hg
    rw [hr] at g1
    cases g1
    exact g6 rfl
  · exact ((((hK.setCell (p := ⟨w.heap.size, 0, none⟩) (by simp) v0).setCell (p := ⟨w.heap.size, 1, none⟩) (by simp) v1).setCell (p := ⟨w.heap.size, 2, none⟩) (by simp) v2).setCell (p := ⟨w.heap.size, 3, none⟩) (by simp) v3)
/-- A command's arguments in memory. -/
structure AR (w : World) (j : Nat) (now : Int) (blk off cap : Nat) (xs : List ByteArray) : Prop where
  job : ∀ Y, Below w.heap.size w Y → Y.cell? ⟨j, 2, none⟩ = some (.slice (some ⟨blk, off, none⟩) xs.length cap) ∧ Y.cell? ⟨j, 1, none⟩ = some (.int .i64 now)
  arg : ∀ Y, Below w.heap.size w Y → ∀ (i : Nat) (s : ByteArray), xs[i]? = some s → Y.cell? ⟨blk, off + i, none⟩ = some (.string s)
  len : xs.length ≤ cap
  cap : cap ≤ 9223372036854775807
theorem AR.of {w : World} {j bS : Nat} {now : Int} {vA vl : Value} {xs : List ByteArray} (hj : JB w j bS now vA vl) (hA : SSl w vA xs) (hne : xs ≠ []) : ∃ blk off cap, vA = .slice (some ⟨blk, off, none⟩) xs.length cap ∧ AR w j now blk off cap xs := by
  obtain ⟨aA, cap, rfl, p1, p2, p3⟩ := hA
  obtain ⟨blk, off, rfl, hblt, hc⟩ := p3 hne
  refine ⟨blk, off, cap, rfl, fun Y hY => ⟨(hj.below hY).cells.2.2.1, (hj.below hY).cells.2.1⟩, fun Y hY i s hs => (hY.cell (p := ⟨blk, off + i, none⟩) hblt).trans (hc i s hs), p1, by unfold maxLen at p2; omega⟩
theorem AR.below {w w' : World} {j : Nat} {now : Int} {blk off cap : Nat} {xs : List ByteArray} (h : AR w j now blk off cap xs) (hb : Below w.heap.size w w') : AR w' j now blk off cap xs :=
  ⟨fun Y hY => h.job Y (belT hb hY), fun Y hY => h.arg Y (belT hb hY), h.len, h.cap⟩
/-- A job's number, by a written place. -/
theorem JIn (ix : Int) (j bS : Nat) (now : Int) (vA vl : Value) (xs : List ByteArray) (i : Nat) (hix : ix = i) (t : ByteArray) (n : Int) (ht : t.size ≤ 100000) (hp : parseI t.data.toList = some n) (hi : xs[i]? = some t) (w : World) (hj : JB w j bS now vA vl) (hA : SSl w vA xs) : Calls Tryz.prog 110 #[.pointer (some ⟨j, 0, none⟩), .int .i64 ix] w fun e w' => e = .returned (.int .i64 n) ∧ Below w.heap.size w w' := by
  subst hix
  exact JInt_ok j bS now vA vl xs i t n ht hp hi w hj hA
end Go.Proofs.YticlacjpgjkhcaaGreatDoor

/- hashes.of: a key's hash. -/
namespace Go.Proofs.YticlacjpgjkhcaaGreatDoor
open Go.ChangeShapes Go.WideShapes Go.ChangeAt Go.RowKit

theorem RF.fld {w w' : World} {c : Nat} {v : Value} {F : List (ByteArray × ByteArray)} (h : RF w c v F) (hK : KFl w w') : RF w' c v F := h.kept fun g hg => by
  obtain ⟨cs, hc⟩ := row_typ h g hg
  exact hK g cs hc
theorem HH.few {c : Nat} {w : World} {h : Nat} {e0 e1 e2 e3 e4 e5 e6 e7 e8 : Value} {F : List (ByteArray × ByteArray)} {N : Nat} (s : HH c w h e0 e1 e2 e3 e4 e5 e6 e7 e8 F N) : F.length ≤ 16 := by
  obtain ⟨p, g, f, D, l, L, s, hL⟩ := s
  rw [s.hf.len]
  exact s.tab.few
theorem HH.below {c : Nat} {w w' : World} {h : Nat} {e0 e1 e2 e3 e4 e5 e6 e7 e8 : Value} {F : List (ByteArray × ByteArray)} {N : Nat} (s : HH c w h e0 e1 e2 e3 e4 e5 e6 e7 e8 F N) (hb : Below w.heap.size w w') : HH c w' h e0 e1 e2 e3 e4 e5 e6 e7 e8 F N := by
  obtain ⟨p, g, f, D, l, L, s, hL⟩ := s
  exact ⟨p, g, f, D, l, L, s.below hb, hL⟩
theorem HH.more {c : Nat} {w : World} {h : Nat} {e0 e1 e2 e3 e4 e5 e6 e7 e8 : Value} {F : List (ByteArray × ByteArray)} {N M : Nat} (s : HH c w h e0 e1 e2 e3 e4 e5 e6 e7 e8 F N) (hm : N ≤ M) : HH c w h e0 e1 e2 e3 e4 e5 e6 e7 e8 F M := by
  obtain ⟨p, g, f, D, l, L, s, hL⟩ := s
  exact ⟨p, g, f, D, l, L, s, Nat.le_trans hL hm⟩
/-- A key's entry of a hash, whether it is there or not. -/
theorem OfH (bS bM j : Nat) (D : List (ByteArray × List (ByteArray × ByteArray))) (k : ByteArray) (now : Int) (vA vl : Value) (w : World) (h : SPG KF okF w bS bM D) (hj : JB w j bS now vA vl) : Calls Tryz.prog 130 #[.pointer (some ⟨j, 0, none⟩), .string k, .int .i64 3] w fun e w' => ∃ (v3 v5 v6 : Value) (A4 : Option Addr) (C4 : Nat), e = .returned (.tuple #[.agg #[.string k, .int .i64 3, .string ⟨#[]⟩, v3, .slice A4 ((findD k D).getD []).length C4, v5, v6, .int .i64 0], .bool (findD k D).isSome]) ∧ RF w' w.heap.size (.slice A4 ((findD k D).getD []).length C4) ((findD k D).getD []) ∧ (v3 = .slice none 0 0 ∧ v5 = .slice none 0 0 ∧ v6 = .slice none 0 0) ∧ Below w.heap.size w w' := by
  cases hf : findD k D with
  | none =>
    refine (OfD_no KF okF bS bM j D k now vA vl hf w h hj).mono ?_
    rintro e w' ⟨rfl, h1⟩
    exact ⟨_, _, _, none, 0, rfl, World.ownsRow_nil _ _ _ _, ⟨rfl, rfl, rfl⟩, h1⟩
  | some F =>
    refine (OfD_yes KF okF KFok bS bM j D k F now vA vl hf w h hj).mono ?_
    rintro e w' ⟨A3, A4, A5, A6, an3, ac3, an4, ac4, an5, ac5, an6, ac6, rfl, hV, hg, h1⟩
    obtain ⟨g, rfl, rfl, rfl, rfl, rfl, rfl, rfl, rfl, rfl, rfl, rfl⟩ := VF.form A3 A4 A5 A6 an3 ac3 an4 ac4 an5 ac5 an6 ac6 hV
    refine ⟨_, _, _, _, _, rfl, ?_, ⟨rfl, rfl, rfl⟩, h1⟩
    have hR := hV.1
    unfold RF World.ownsRow at hR ⊢
    obtain ⟨r0, ⟨r1, _⟩ | ⟨g', cap, cur, e', r2, r3⟩⟩ := hR
    · cases r1
    · cases e'
      exact ⟨r0, .inr ⟨_, _, cur, rfl, hg _ (.inr (.inl rfl)), r3⟩⟩
theorem set9 {w : World} {b : Nat} {a0 a1 a2 a3 a4 a5 a6 a7 a8 a9 a10 : Value} {t : TypeId} (h : w.heap[b]? = some (.cells #[a0, a1, a2, a3, a4, a5, a6, a7, a8, a9, a10] t)) (v0 v1 v2 v3 v4 v5 v6 v7 v8 : Value) : (((((((((w.setCell ⟨b, 0, none⟩ v0).setCell ⟨b, 1, none⟩ v1).setCell ⟨b, 2, none⟩ v2).setCell ⟨b, 3, none⟩ v3).setCell ⟨b, 4, none⟩ v4).setCell ⟨b, 5, none⟩ v5).setCell ⟨b, 6, none⟩ v6).setCell ⟨b, 7, none⟩ v7).setCell ⟨b, 8, none⟩ v8).heap[b]? = some (.cells #[v0, v1, v2, v3, v4, v5, v6, v7, v8, a9, a10] t) ∧ (∀ i, i ≠ b → (((((((((w.setCell ⟨b, 0, none⟩ v0).setCell ⟨b, 1, none⟩ v1).setCell ⟨b, 2, none⟩ v2).setCell ⟨b, 3, none⟩ v3).setCell ⟨b, 4, none⟩ v4).setCell ⟨b, 5, none⟩ v5).setCell ⟨b, 6, none⟩ v6).setCell ⟨b, 7, none⟩ v7).setCell ⟨b, 8, none⟩ v8).heap[i]? = w.heap[i]?) ∧ ∀ c, c ≤ b → Below c w (((((((((w.setCell ⟨b, 0, none⟩ v0).setCell ⟨b, 1, none⟩ v1).setCell ⟨b, 2, none⟩ v2).setCell ⟨b, 3, none⟩ v3).setCell ⟨b, 4, none⟩ v4).setCell ⟨b, 5, none⟩ v5).setCell ⟨b, 6, none⟩ v6).setCell ⟨b, 7, none⟩ v7).setCell ⟨b, 8, none⟩ v8) := by
  have h0 : (w.setCell ⟨b, 0, none⟩ v0).heap[b]? = some (.cells #[v0, a1, a2, a3, a4, a5, a6, a7, a8, a9, a10] t) := set_cells h
  have h1 : ((w.setCell ⟨b, 0, none⟩ v0).setCell ⟨b, 1, none⟩ v1).heap[b]? = some (.cells #[v0, v1, a2, a3, a4, a5, a6, a7, a8, a9, a10] t) := set_cells h0
  have h2 : (((w.setCell ⟨b, 0, none⟩ v0).setCell ⟨b, 1, none⟩ v1).setCell ⟨b, 2, none⟩ v2).heap[b]? = some (.cells #[v0, v1, v2, a3, a4, a5, a6, a7, a8, a9, a10] t) := set_cells h1
  have h3 : ((((w.setCell ⟨b, 0, none⟩ v0).setCell ⟨b, 1, none⟩ v1).setCell ⟨b, 2, none⟩ v2).setCell ⟨b, 3, none⟩ v3).heap[b]? = some (.cells #[v0, v1, v2, v3, a4, a5, a6, a7, a8, a9, a10] t) := set_cells h2
  have h4 : (((((w.setCell ⟨b, 0, none⟩ v0).setCell ⟨b, 1, none⟩ v1).setCell ⟨b, 2, none⟩ v2).setCell ⟨b, 3, none⟩ v3).setCell ⟨b, 4, none⟩ v4).heap[b]? = some (.cells #[v0, v1, v2, v3, v4, a5, a6, a7, a8, a9, a10] t) := set_cells h3
  have h5 : ((((((w.setCell ⟨b, 0, none⟩ v0).setCell ⟨b, 1, none⟩ v1).setCell ⟨b, 2, none⟩ v2).setCell ⟨b, 3, none⟩ v3).setCell ⟨b, 4, none⟩ v4).setCell ⟨b, 5, none⟩ v5).heap[b]? = some (.cells #[v0, v1, v2, v3, v4, v5, a6, a7, a8, a9, a10] t) := set_cells h4
  have h6 : (((((((w.setCell ⟨b, 0, none⟩ v0).setCell ⟨b, 1, none⟩ v1).setCell ⟨b, 2, none⟩ v2).setCell ⟨b, 3, none⟩ v3).setCell ⟨b, 4, none⟩ v4).setCell ⟨b, 5, none⟩ v5).setCell ⟨b, 6, none⟩ v6).heap[b]? = some (.cells #[v0, v1, v2, v3, v4, v5, v6, a7, a8, a9, a10] t) := set_cells h5
  have h7 : ((((((((w.setCell ⟨b, 0, none⟩ v0).setCell ⟨b, 1, none⟩ v1).setCell ⟨b, 2, none⟩ v2).setCell ⟨b, 3, none⟩ v3).setCell ⟨b, 4, none⟩ v4).setCell ⟨b, 5, none⟩ v5).setCell ⟨b, 6, none⟩ v6).setCell ⟨b, 7, none⟩ v7).heap[b]? = some (.cells #[v0, v1, v2, v3, v4, v5, v6, v7, a8, a9, a10] t) := set_cells h6
  have h8 : (((((((((w.setCell ⟨b, 0, none⟩ v0).setCell ⟨b, 1, none⟩ v1).setCell ⟨b, 2, none⟩ v2).setCell ⟨b, 3, none⟩ v3).setCell ⟨b, 4, none⟩ v4).setCell ⟨b, 5, none⟩ v5).setCell ⟨b, 6, none⟩ v6).setCell ⟨b, 7, none⟩ v7).setCell ⟨b, 8, none⟩ v8).heap[b]? = some (.cells #[v0, v1, v2, v3, v4, v5, v6, v7, v8, a9, a10] t) := set_cells h7
  exact ⟨h8, fun i hi => (Below.heap_setCell _ ⟨b, 8, none⟩ _ _ hi).trans (far8b hi _ _ _ _ _ _ _ _), fun c hc => ((((((((((Below.refl c w).setCell hc _).setCell hc _).setCell hc _).setCell hc _).setCell hc _).setCell hc _).setCell hc _).setCell hc _).setCell hc _)⟩
set_option maxRecDepth 100000 in
set_option maxHeartbeats 8000000 in
theorem hof_any (bS bM j : Nat) (D : List (ByteArray × List (ByteArray × ByteArray))) (now : Int) (blk off cap : Nat) (xs : List ByteArray) (n : Nat) (hn : xs.length = n) (h2 : 2 ≤ n) (k : ByteArray) (hk : xs[1]? = some k) (vl : Value) (F : List (ByteArray × ByteArray)) (hF : (findD k D).getD [] = F) (hfew : F.length ≤ 15) (w : World) (hS : SPG KF okF w bS bM D) (hj : JB w j bS now (.slice (some ⟨blk, off, none⟩) n cap) vl) (hA : AR w j now blk off cap xs) : Calls Tryz.prog 132 #[.pointer (some ⟨j, 0, none⟩)] w fun e w' => ∃ (h : Nat) (e3 e4 e5 e6 : Value), e = .returned (.pointer (some ⟨h, 0, none⟩)) ∧ HH w.heap.size w' h (.string k) (.int .i64 3) (.string ⟨#[]⟩) e3 e4 e5 e6 (.int .i64 0) (.bool (findD k D).isSome) F F.length ∧ Below w.heap.size w w' := by
  have NT := Lib.hid (fun X => new_T X)
  have OH := Lib.hid (fun X (hX : Below w.heap.size w X) => OfH bS bM j D k now _ _ X (SPG.below KF okF hS hX) (hj.below hX))
  have h31 : ∀ (i : Nat) (p : ByteArray × ByteArray), F[i]? = some p → p.1.size ≤ 4096 := by
    intro i p hi
    cases hf : findD k D with
    | none => rw [hf] at hF; subst hF; simp at hi
    | some G =>
      rw [hf] at hF
      obtain rfl : G = F := hF
      refine (hS.2 _ (findD_mem hf)).2.2.2.2.1 p.1 (List.mem_flatMap.2 ⟨p, List.mem_of_getElem? hi, by simp⟩)
  have hap : ∀ (i j : Nat) (p q : ByteArray × ByteArray), i < j → F[i]? = some p → F[j]? = some q → p.1 ≠ q.1 := by
    intro i j p q hij hp hq
    cases hf : findD k D with
    | none => rw [hf] at hF; subst hF; simp at hp
    | some G =>
      rw [hf] at hF
      obtain rfl : G = F := hF
      exact rise_apart G (hS.2 _ (findD_mem hf)).2.2.2.2.2.2 i j p q hij hp hq
  simp only [hF] at OH
  have H31 := Lib.hid h31
  have HAP := Lib.hid hap
  have HJ := Lib.hid hj
  have HAR := Lib.hid hA
  obtain ⟨b, hb⟩ : ∃ b, (findD k D).isSome = b := ⟨_, rfl⟩
  simp only [hb] at OH ⊢
  subst hn
  clear hS hj hA h31 hap hb hF
  go_enter Tryz.func132, Tryz.ntmps132
  go_wp2_with (first | (go_at_call 183; (with_reducible refine (NT.out _).mono ?_); rintro e w1 ⟨p, g, rfl, hT, h1⟩; have T1 := Lib.hid hT; have B1 := Lib.hid h1; clear h1 hT; refine Hid.out ?_))
  refine Lib.hid ?_
  have A2 := Lib.hid (alloc_old (w := w1) (o := .cells #[.string ⟨#[]⟩, .int .i64 0, .string ⟨#[]⟩, .slice none 0 0, .slice none 0 0, .slice none 0 0, .slice none 0 0, .int .i64 0, .bool false, .pointer (some ⟨p, 0, none⟩), .slice none 0 0] 154))
  have b2 := Lib.hid (heap_alloc_new w1 (.cells #[.string ⟨#[]⟩, .int .i64 0, .string ⟨#[]⟩, .slice none 0 0, .slice none 0 0, .slice none 0 0, .slice none 0 0, .int .i64 0, .bool false, .pointer (some ⟨p, 0, none⟩), .slice none 0 0] 154))
  have B2 := Lib.hid (B1.out.trans (A2.out.mono (Below.size B1.out)))
  have T2 := Lib.hid (T1.out.below A2.out)
  have O2 := Lib.hid (OH.out _ B2.out)
  have cj := (HAR.out.job _ B2.out).1
  have ca := HAR.out.arg _ B2.out 1 k hk
  have i1 : (1 : Int) < (xs.length : Int) := by omega
  clear OH
  go_wp2_with (first | (go_at_call 130; (with_reducible refine (O2.out).mono ?_); rintro e w3 ⟨v3, v5, v6, A4, C4, rfl, hR, ⟨rfl, rfl, rfl⟩, h1⟩; have R3 := Lib.hid hR; have B3 := Lib.hid h1; clear h1 hR; obtain ⟨⟨c0, c1, c2, c3, c4, c5, c6, c7, c8, c9, c10⟩, zz⟩ := cells11 (blk_below b2.out B3.out); have f0 := zz 0; have f1 := zz 1; have f2 := zz 2; have f3 := zz 3; have f4 := zz 4; have f5 := zz 5; have f6 := zz 6; have f7 := zz 7; have f8 := zz 8; clear zz))
  obtain ⟨s1, s2, s3⟩ := set9 (blk_below b2.out B3.out) (.string k) (.int .i64 3) (.string ⟨#[]⟩) (.slice none 0 0) (.slice A4 F.length C4) (.slice none 0 0) (.slice none 0 0) (.int .i64 0) (.bool b)
  have hh1 : w.heap.size ≤ w1.heap.size := Below.size B1.out
  have S1 := Lib.hid s1
  have S3 := Lib.hid ((B2.out.trans (B3.out.mono (Below.size B2.out))).trans (s3 _ hh1))
  have S4 := Lib.hid ((T2.out.below B3.out).kept fun i cs ty hi ht => s2 i (by
    rintro rfl
    have := blk_below b2.out B3.out
    rw [hi] at this
    cases this
    rcases ht with h2 | h2 | h2 <;> exact absurd h2 (by decide)))
  have S5 := Lib.hid (R3.out.kept fun i hi => s2 i (by
    rintro rfl
    obtain ⟨cs, hc⟩ := row_typ R3.out _ hi
    have := blk_below b2.out B3.out
    rw [hc] at this
    cases this))
  clear s1 s2 s3 c0 c1 c2 c3 c4 c5 c6 c7 c8 c9 c10 f0 f1 f2 f3 f4 f5 f6 f7 f8 cj ca
  generalize ((((((((((w3.setCell ⟨w1.heap.size, 0, none⟩ (.string k)).setCell ⟨w1.heap.size, 1, none⟩ (.int .i64 3)).setCell ⟨w1.heap.size, 2, none⟩ (.string ⟨#[]⟩)).setCell ⟨w1.heap.size, 3, none⟩ (.slice none 0 0)).setCell ⟨w1.heap.size, 4, none⟩ (.slice A4 F.length C4)).setCell ⟨w1.heap.size, 5, none⟩ (.slice none 0 0)).setCell ⟨w1.heap.size, 6, none⟩ (.slice none 0 0)).setCell ⟨w1.heap.size, 7, none⟩ (.int .i64 0)).setCell ⟨w1.heap.size, 8, none⟩ (.bool b))) = W4 at S1 S3 S4 S5 ⊢
  obtain ⟨⟨_, _, _, _, k4, _⟩, _⟩ := cells11 S1.out
  go_wp2
  clear k4
  have hR4 := Below.size B2.out
  go_loopw [33] (fun iv wr => ∃ m : Nat, m ≤ F.length ∧ iv = .int .i64 m ∧ Hid (HH w.heap.size wr w1.heap.size (.string k) (.int .i64 3) (.string ⟨#[]⟩) (.slice none 0 0) (.slice A4 F.length C4) (.slice none 0 0) (.slice none 0 0) (.int .i64 0) (.bool b) (F.take m) m ∧ Below w.heap.size w wr ∧ RF wr w.heap.size (.slice A4 F.length C4) F)) (fun iv _ => F.length - (intOf iv).toNat)
  case atStart => exact ⟨0, Nat.zero_le _, rfl, Lib.hid ⟨⟨p, g, _, [], _, [], ⟨hh1, S1.out, S4.out, World.ownsRow_nil _ _ _ _, HF.nil⟩, Nat.le_refl _⟩, S3.out, S5.out.mono hR4⟩⟩
  case round =>
    obtain ⟨m, hm, rfl, HQ⟩ := hrel
    by_cases hlt : m < F.length
    · obtain ⟨q, hq⟩ : ∃ q, F[m]? = some q := ⟨_, List.getElem?_eq_getElem hlt⟩
      have q0 : (m : Int) < (F.length : Int) := by omega
      obtain ⟨A, C, hA, hA2, _⟩ := row_form HQ.out.2.2
      cases hA
      obtain ⟨gA, rfl⟩ := hA2.resolve_left (by omega)
      obtain ⟨d0, d1⟩ := HQ.out.2.2.at rfl m q hq
      obtain ⟨pt1, pt2⟩ := put_take F HAP.out m q hq
      have b5 := Lib.hid (heap_alloc_new wr (.cells #[.string q.1, .string q.2] 41))
      have A5 := Lib.hid (alloc_old (w := wr) (o := .cells #[.string q.1, .string q.2] 41))
      have HN := hset_new w.heap.size w1.heap.size _ _ _ _ _ _ _ _ _ (F.take m) (by rw [List.length_take]; omega) m (by omega) q.1 q.2 (Nat.le_trans (H31.out m q hq) (by decide)) pt1 _ (HQ.out.1.below A5.out)
      rw [pt2] at HN
      have HN := Lib.hid HN
      clear hq pt1 pt2
      go_wp2_with (first | (go_at_call 133; (with_reducible refine (HN.out).mono ?_); rintro e w6 ⟨rfl, h6, h7, h8⟩; have H6 := Lib.hid h6; have B6 := Lib.hid h7; have K6 := Lib.hid h8; clear h6 h7 h8))
      exact ⟨⟨m + 1, by omega, by go_num, Lib.hid ⟨H6.out, (HQ.out.2.1.trans (A5.out.mono (Below.size HQ.out.2.1))).trans B6.out, (HQ.out.2.2.below A5.out).fld K6.out⟩⟩, by simp [intOf]; omega⟩
    · obtain rfl : m = F.length := by omega
      have q0 : ¬ (F.length : Int) < (F.length : Int) := by omega
      have hQ := HQ.out
      rw [List.take_length] at hQ
      have HQ2 := Lib.hid hQ
      clear hQ HQ
      go_wp2
      go_ret
      exact ⟨w1.heap.size, rfl, ⟨_, _, _, _, HQ2.out.1⟩, HQ2.out.2.1⟩
end Go.Proofs.YticlacjpgjkhcaaGreatDoor
