/- Texts joined: G13, G19, P1 -/
import Derived.Test.YticlacjpgjkhcaaGreatDoorQn5
import Derived.Test.YticlacjpgjkhcaaGreatDoorQn14
import Derived.Test.YticlacjpgjkhcaaGreatDoorQn4
import Derived.Test.YticlacjpgjkhcaaGreatDoorQn18

/- job.Span at any places. -/
namespace Go.Proofs.YticlacjpgjkhcaaGreatDoor
open Go.ChangeShapes Go.WideShapes Go.ChangeAt Go.RowKit

/-- The place from which a part goes. -/
def spA (i n : Int) : Int := if i < 0 then max i (-n) + n else i
/-- The place up to which it goes. -/
def spC (j n : Int) : Int := min (if j < 0 then max j (-n - 1) + n else j) (n - 1)
set_option maxHeartbeats 2000000 in
theorem Span_yes (i j : Int) (n : Nat) (hi : -1000000000 ≤ i ∧ i ≤ 1000000000) (hj : -1000000000 ≤ j ∧ j ≤ 1000000000) (hn : n ≤ 1000000) (h : spA i n ≤ spC j n) (w : World) : Calls Tryz.prog 125 #[.int .i64 i, .int .i64 j, .int .i64 n] w fun e w' => e = .returned (.tuple #[.int .i64 (spA i n), .int .i64 (spC j n + 1), .bool true]) ∧ Below w.heap.size w w' := by
  have w1 : wrap64 (-(n : Int)) = -(n : Int) := IntWalk.wrap64_in _ (by omega)
  have w2 : wrap64 (-(n : Int) - 1) = -(n : Int) - 1 := IntWalk.wrap64_in _ (by omega)
  have w3 : wrap64 ((n : Int) - 1) = (n : Int) - 1 := IntWalk.wrap64_in _ (by omega)
  have w4 : wrap64 (-(n : Int) + (n : Int)) = 0 := (IntWalk.wrap64_in _ (by omega)).trans (by omega)
  have w5 : wrap64 (-(n : Int) - 1 + (n : Int)) = -1 := (IntWalk.wrap64_in _ (by omega)).trans (by omega)
  have w6 : wrap64 (i + (n : Int)) = i + (n : Int) := IntWalk.wrap64_in _ (by omega)
  have w7 : wrap64 (j + (n : Int)) = j + (n : Int) := IntWalk.wrap64_in _ (by omega)
  have w8 : wrap64 (j + (n : Int) + 1) = j + (n : Int) + 1 := IntWalk.wrap64_in _ (by omega)
  have w9 : wrap64 (j + 1) = j + 1 := IntWalk.wrap64_in _ (by omega)
  have w10 : wrap64 ((n : Int) - 1 + 1) = n := (IntWalk.wrap64_in _ (by omega)).trans (by omega)
  have SI : ¬ i < 0 ∨ (i < 0 ∧ i < -(n : Int)) ∨ (i < 0 ∧ ¬ i < -(n : Int)) := by omega
  have SJ : ¬ j < 0 ∨ (j < 0 ∧ j < -(n : Int) - 1) ∨ (j < 0 ∧ ¬ j < -(n : Int) - 1) := by omega
  rcases SI with si | si | si
  · have a1 : ¬ i < 0 := si
    have hA : spA i n = i := by unfold spA; split <;> omega
    rcases SJ with sj | sj | sj
    · have b1 : ¬ j < 0 := sj
      by_cases sc : (n : Int) - 1 < j
      · have hc : spC j n = (n : Int) - 1 := by unfold spC; split <;> omega
        rw [hA, hc] at h ⊢
        have ht : ¬ (n : Int) - 1 < i := by omega
        clear hA hc h si sj hi hj
        go_enter Tryz.func125, Tryz.ntmps125
        go_wp2
        all_goals (go_ret3; exact ⟨by simp <;> omega, Below.refl _ _⟩)
      · have hc : spC j n = j := by unfold spC; split <;> omega
        rw [hA, hc] at h ⊢
        have ht : ¬ j < i := by omega
        clear hA hc h si sj hi hj
        go_enter Tryz.func125, Tryz.ntmps125
        go_wp2
        all_goals (go_ret3; exact ⟨by simp <;> omega, Below.refl _ _⟩)
    · have b1 : j < 0 := sj.1
      have b2 : j < -(n : Int) - 1 := sj.2
      by_cases sc : (n : Int) - 1 < (-1)
      · have hc : spC j n = (n : Int) - 1 := by unfold spC; split <;> omega
        rw [hA, hc] at h ⊢
        have ht : ¬ (n : Int) - 1 < i := by omega
        clear hA hc h si sj hi hj
        go_enter Tryz.func125, Tryz.ntmps125
        go_wp2
        all_goals (go_ret3; exact ⟨by simp <;> omega, Below.refl _ _⟩)
      · have hc : spC j n = (-1) := by unfold spC; split <;> omega
        rw [hA, hc] at h ⊢
        have ht : ¬ (-1) < i := by omega
        clear hA hc h si sj hi hj
        go_enter Tryz.func125, Tryz.ntmps125
        go_wp2
        all_goals (go_ret3; exact ⟨by simp <;> omega, Below.refl _ _⟩)
    · have b1 : j < 0 := sj.1
      have b2 : ¬ j < -(n : Int) - 1 := sj.2
      by_cases sc : (n : Int) - 1 < (j + (n : Int))
      · have hc : spC j n = (n : Int) - 1 := by unfold spC; split <;> omega
        rw [hA, hc] at h ⊢
        have ht : ¬ (n : Int) - 1 < i := by omega
        clear hA hc h si sj hi hj
        go_enter Tryz.func125, Tryz.ntmps125
        go_wp2
        all_goals (go_ret3; exact ⟨by simp <;> omega, Below.refl _ _⟩)
      · have hc : spC j n = (j + (n : Int)) := by unfold spC; split <;> omega
        rw [hA, hc] at h ⊢
        have ht : ¬ (j + (n : Int)) < i := by omega
        clear hA hc h si sj hi hj
        go_enter Tryz.func125, Tryz.ntmps125
        go_wp2
        all_goals (go_ret3; exact ⟨by simp <;> omega, Below.refl _ _⟩)
  · have a1 : i < 0 := si.1
    have a2 : i < -(n : Int) := si.2
    have hA : spA i n = 0 := by unfold spA; split <;> omega
    rcases SJ with sj | sj | sj
    · have b1 : ¬ j < 0 := sj
      by_cases sc : (n : Int) - 1 < j
      · have hc : spC j n = (n : Int) - 1 := by unfold spC; split <;> omega
        rw [hA, hc] at h ⊢
        have ht : ¬ (n : Int) - 1 < 0 := by omega
        clear hA hc h si sj hi hj
        go_enter Tryz.func125, Tryz.ntmps125
        go_wp2
        all_goals (go_ret3; exact ⟨by simp <;> omega, Below.refl _ _⟩)
      · have hc : spC j n = j := by unfold spC; split <;> omega
        rw [hA, hc] at h ⊢
        have ht : ¬ j < 0 := by omega
        clear hA hc h si sj hi hj
        go_enter Tryz.func125, Tryz.ntmps125
        go_wp2
        all_goals (go_ret3; exact ⟨by simp <;> omega, Below.refl _ _⟩)
    · have b1 : j < 0 := sj.1
      have b2 : j < -(n : Int) - 1 := sj.2
      by_cases sc : (n : Int) - 1 < (-1)
      · have hc : spC j n = (n : Int) - 1 := by unfold spC; split <;> omega
        rw [hA, hc] at h ⊢
        have ht : ¬ (n : Int) - 1 < 0 := by omega
        clear hA hc h si sj hi hj
        go_enter Tryz.func125, Tryz.ntmps125
        go_wp2
        all_goals (go_ret3; exact ⟨by simp <;> omega, Below.refl _ _⟩)
      · have hc : spC j n = (-1) := by unfold spC; split <;> omega
        rw [hA, hc] at h ⊢
        have ht : ¬ (-1) < 0 := by omega
        clear hA hc h si sj hi hj
        go_enter Tryz.func125, Tryz.ntmps125
        go_wp2
        all_goals (go_ret3; exact ⟨by simp <;> omega, Below.refl _ _⟩)
    · have b1 : j < 0 := sj.1
      have b2 : ¬ j < -(n : Int) - 1 := sj.2
      by_cases sc : (n : Int) - 1 < (j + (n : Int))
      · have hc : spC j n = (n : Int) - 1 := by unfold spC; split <;> omega
        rw [hA, hc] at h ⊢
        have ht : ¬ (n : Int) - 1 < 0 := by omega
        clear hA hc h si sj hi hj
        go_enter Tryz.func125, Tryz.ntmps125
        go_wp2
        all_goals (go_ret3; exact ⟨by simp <;> omega, Below.refl _ _⟩)
      · have hc : spC j n = (j + (n : Int)) := by unfold spC; split <;> omega
        rw [hA, hc] at h ⊢
        have ht : ¬ (j + (n : Int)) < 0 := by omega
        clear hA hc h si sj hi hj
        go_enter Tryz.func125, Tryz.ntmps125
        go_wp2
        all_goals (go_ret3; exact ⟨by simp <;> omega, Below.refl _ _⟩)
  · have a1 : i < 0 := si.1
    have a2 : ¬ i < -(n : Int) := si.2
    have hA : spA i n = i + (n : Int) := by unfold spA; split <;> omega
    rcases SJ with sj | sj | sj
    · have b1 : ¬ j < 0 := sj
      by_cases sc : (n : Int) - 1 < j
      · have hc : spC j n = (n : Int) - 1 := by unfold spC; split <;> omega
        rw [hA, hc] at h ⊢
        have ht : ¬ (n : Int) - 1 < i + (n : Int) := by omega
        clear hA hc h si sj hi hj
        go_enter Tryz.func125, Tryz.ntmps125
        go_wp2
        all_goals (go_ret3; exact ⟨by simp <;> omega, Below.refl _ _⟩)
      · have hc : spC j n = j := by unfold spC; split <;> omega
        rw [hA, hc] at h ⊢
        have ht : ¬ j < i + (n : Int) := by omega
        clear hA hc h si sj hi hj
        go_enter Tryz.func125, Tryz.ntmps125
        go_wp2
        all_goals (go_ret3; exact ⟨by simp <;> omega, Below.refl _ _⟩)
    · have b1 : j < 0 := sj.1
      have b2 : j < -(n : Int) - 1 := sj.2
      by_cases sc : (n : Int) - 1 < (-1)
      · have hc : spC j n = (n : Int) - 1 := by unfold spC; split <;> omega
        rw [hA, hc] at h ⊢
        have ht : ¬ (n : Int) - 1 < i + (n : Int) := by omega
        clear hA hc h si sj hi hj
        go_enter Tryz.func125, Tryz.ntmps125
        go_wp2
        all_goals (go_ret3; exact ⟨by simp <;> omega, Below.refl _ _⟩)
      · have hc : spC j n = (-1) := by unfold spC; split <;> omega
        rw [hA, hc] at h ⊢
        have ht : ¬ (-1) < i + (n : Int) := by omega
        clear hA hc h si sj hi hj
        go_enter Tryz.func125, Tryz.ntmps125
        go_wp2
        all_goals (go_ret3; exact ⟨by simp <;> omega, Below.refl _ _⟩)
    · have b1 : j < 0 := sj.1
      have b2 : ¬ j < -(n : Int) - 1 := sj.2
      by_cases sc : (n : Int) - 1 < (j + (n : Int))
      · have hc : spC j n = (n : Int) - 1 := by unfold spC; split <;> omega
        rw [hA, hc] at h ⊢
        have ht : ¬ (n : Int) - 1 < i + (n : Int) := by omega
        clear hA hc h si sj hi hj
        go_enter Tryz.func125, Tryz.ntmps125
        go_wp2
        all_goals (go_ret3; exact ⟨by simp <;> omega, Below.refl _ _⟩)
      · have hc : spC j n = (j + (n : Int)) := by unfold spC; split <;> omega
        rw [hA, hc] at h ⊢
        have ht : ¬ (j + (n : Int)) < i + (n : Int) := by omega
        clear hA hc h si sj hi hj
        go_enter Tryz.func125, Tryz.ntmps125
        go_wp2
        all_goals (go_ret3; exact ⟨by simp <;> omega, Below.refl _ _⟩)
set_option maxHeartbeats 2000000 in
theorem Span_no (i j : Int) (n : Nat) (hi : -1000000000 ≤ i ∧ i ≤ 1000000000) (hj : -1000000000 ≤ j ∧ j ≤ 1000000000) (hn : n ≤ 1000000) (h : spC j n < spA i n) (w : World) : Calls Tryz.prog 125 #[.int .i64 i, .int .i64 j, .int .i64 n] w fun e w' => e = .returned (.tuple #[.int .i64 0, .int .i64 0, .bool false]) ∧ Below w.heap.size w w' := by
  have w1 : wrap64 (-(n : Int)) = -(n : Int) := IntWalk.wrap64_in _ (by omega)
  have w2 : wrap64 (-(n : Int) - 1) = -(n : Int) - 1 := IntWalk.wrap64_in _ (by omega)
  have w3 : wrap64 ((n : Int) - 1) = (n : Int) - 1 := IntWalk.wrap64_in _ (by omega)
  have w4 : wrap64 (-(n : Int) + (n : Int)) = 0 := (IntWalk.wrap64_in _ (by omega)).trans (by omega)
  have w5 : wrap64 (-(n : Int) - 1 + (n : Int)) = -1 := (IntWalk.wrap64_in _ (by omega)).trans (by omega)
  have w6 : wrap64 (i + (n : Int)) = i + (n : Int) := IntWalk.wrap64_in _ (by omega)
  have w7 : wrap64 (j + (n : Int)) = j + (n : Int) := IntWalk.wrap64_in _ (by omega)
  have w8 : wrap64 (j + (n : Int) + 1) = j + (n : Int) + 1 := IntWalk.wrap64_in _ (by omega)
  have w9 : wrap64 (j + 1) = j + 1 := IntWalk.wrap64_in _ (by omega)
  have w10 : wrap64 ((n : Int) - 1 + 1) = n := (IntWalk.wrap64_in _ (by omega)).trans (by omega)
  have SI : ¬ i < 0 ∨ (i < 0 ∧ i < -(n : Int)) ∨ (i < 0 ∧ ¬ i < -(n : Int)) := by omega
  have SJ : ¬ j < 0 ∨ (j < 0 ∧ j < -(n : Int) - 1) ∨ (j < 0 ∧ ¬ j < -(n : Int) - 1) := by omega
  rcases SI with si | si | si
  · have a1 : ¬ i < 0 := si
    have hA : spA i n = i := by unfold spA; split <;> omega
    rcases SJ with sj | sj | sj
    · have b1 : ¬ j < 0 := sj
      by_cases sc : (n : Int) - 1 < j
      · have hc : spC j n = (n : Int) - 1 := by unfold spC; split <;> omega
        rw [hA, hc] at h
        have ht : (n : Int) - 1 < i := by omega
        clear hA hc h si sj hi hj
        go_enter Tryz.func125, Tryz.ntmps125
        go_wp2
        all_goals (go_ret3; exact ⟨by simp, Below.refl _ _⟩)
      · have hc : spC j n = j := by unfold spC; split <;> omega
        rw [hA, hc] at h
        have ht : j < i := by omega
        clear hA hc h si sj hi hj
        go_enter Tryz.func125, Tryz.ntmps125
        go_wp2
        all_goals (go_ret3; exact ⟨by simp, Below.refl _ _⟩)
    · have b1 : j < 0 := sj.1
      have b2 : j < -(n : Int) - 1 := sj.2
      by_cases sc : (n : Int) - 1 < (-1)
      · have hc : spC j n = (n : Int) - 1 := by unfold spC; split <;> omega
        rw [hA, hc] at h
        have ht : (n : Int) - 1 < i := by omega
        clear hA hc h si sj hi hj
        go_enter Tryz.func125, Tryz.ntmps125
        go_wp2
        all_goals (go_ret3; exact ⟨by simp, Below.refl _ _⟩)
      · have hc : spC j n = (-1) := by unfold spC; split <;> omega
        rw [hA, hc] at h
        have ht : (-1) < i := by omega
        clear hA hc h si sj hi hj
        go_enter Tryz.func125, Tryz.ntmps125
        go_wp2
        all_goals (go_ret3; exact ⟨by simp, Below.refl _ _⟩)
    · have b1 : j < 0 := sj.1
      have b2 : ¬ j < -(n : Int) - 1 := sj.2
      by_cases sc : (n : Int) - 1 < (j + (n : Int))
      · have hc : spC j n = (n : Int) - 1 := by unfold spC; split <;> omega
        rw [hA, hc] at h
        have ht : (n : Int) - 1 < i := by omega
        clear hA hc h si sj hi hj
        go_enter Tryz.func125, Tryz.ntmps125
        go_wp2
        all_goals (go_ret3; exact ⟨by simp, Below.refl _ _⟩)
      · have hc : spC j n = (j + (n : Int)) := by unfold spC; split <;> omega
        rw [hA, hc] at h
        have ht : (j + (n : Int)) < i := by omega
        clear hA hc h si sj hi hj
        go_enter Tryz.func125, Tryz.ntmps125
        go_wp2
        all_goals (go_ret3; exact ⟨by simp, Below.refl _ _⟩)
  · have a1 : i < 0 := si.1
    have a2 : i < -(n : Int) := si.2
    have hA : spA i n = 0 := by unfold spA; split <;> omega
    rcases SJ with sj | sj | sj
    · have b1 : ¬ j < 0 := sj
      by_cases sc : (n : Int) - 1 < j
      · have hc : spC j n = (n : Int) - 1 := by unfold spC; split <;> omega
        rw [hA, hc] at h
        have ht : (n : Int) - 1 < 0 := by omega
        clear hA hc h si sj hi hj
        go_enter Tryz.func125, Tryz.ntmps125
        go_wp2
        all_goals (go_ret3; exact ⟨by simp, Below.refl _ _⟩)
      · have hc : spC j n = j := by unfold spC; split <;> omega
        rw [hA, hc] at h
        have ht : j < 0 := by omega
        clear hA hc h si sj hi hj
        go_enter Tryz.func125, Tryz.ntmps125
        go_wp2
        all_goals (go_ret3; exact ⟨by simp, Below.refl _ _⟩)
    · have b1 : j < 0 := sj.1
      have b2 : j < -(n : Int) - 1 := sj.2
      by_cases sc : (n : Int) - 1 < (-1)
      · have hc : spC j n = (n : Int) - 1 := by unfold spC; split <;> omega
        rw [hA, hc] at h
        have ht : (n : Int) - 1 < 0 := by omega
        clear hA hc h si sj hi hj
        go_enter Tryz.func125, Tryz.ntmps125
        go_wp2
        all_goals (go_ret3; exact ⟨by simp, Below.refl _ _⟩)
      · have hc : spC j n = (-1) := by unfold spC; split <;> omega
        rw [hA, hc] at h
        have ht : (-1) < 0 := by omega
        clear hA hc h si sj hi hj
        go_enter Tryz.func125, Tryz.ntmps125
        go_wp2
        all_goals (go_ret3; exact ⟨by simp, Below.refl _ _⟩)
    · have b1 : j < 0 := sj.1
      have b2 : ¬ j < -(n : Int) - 1 := sj.2
      by_cases sc : (n : Int) - 1 < (j + (n : Int))
      · have hc : spC j n = (n : Int) - 1 := by unfold spC; split <;> omega
        rw [hA, hc] at h
        have ht : (n : Int) - 1 < 0 := by omega
        clear hA hc h si sj hi hj
        go_enter Tryz.func125, Tryz.ntmps125
        go_wp2
        all_goals (go_ret3; exact ⟨by simp, Below.refl _ _⟩)
      · have hc : spC j n = (j + (n : Int)) := by unfold spC; split <;> omega
        rw [hA, hc] at h
        have ht : (j + (n : Int)) < 0 := by omega
        clear hA hc h si sj hi hj
        go_enter Tryz.func125, Tryz.ntmps125
        go_wp2
        all_goals (go_ret3; exact ⟨by simp, Below.refl _ _⟩)
  · have a1 : i < 0 := si.1
    have a2 : ¬ i < -(n : Int) := si.2
    have hA : spA i n = i + (n : Int) := by unfold spA; split <;> omega
    rcases SJ with sj | sj | sj
    · have b1 : ¬ j < 0 := sj
      by_cases sc : (n : Int) - 1 < j
      · have hc : spC j n = (n : Int) - 1 := by unfold spC; split <;> omega
        rw [hA, hc] at h
        have ht : (n : Int) - 1 < i + (n : Int) := by omega
        clear hA hc h si sj hi hj
        go_enter Tryz.func125, Tryz.ntmps125
        go_wp2
        all_goals (go_ret3; exact ⟨by simp, Below.refl _ _⟩)
      · have hc : spC j n = j := by unfold spC; split <;> omega
        rw [hA, hc] at h
        have ht : j < i + (n : Int) := by omega
        clear hA hc h si sj hi hj
        go_enter Tryz.func125, Tryz.ntmps125
        go_wp2
        all_goals (go_ret3; exact ⟨by simp, Below.refl _ _⟩)
    · have b1 : j < 0 := sj.1
      have b2 : j < -(n : Int) - 1 := sj.2
      by_cases sc : (n : Int) - 1 < (-1)
      · have hc : spC j n = (n : Int) - 1 := by unfold spC; split <;> omega
        rw [hA, hc] at h
        have ht : (n : Int) - 1 < i + (n : Int) := by omega
        clear hA hc h si sj hi hj
        go_enter Tryz.func125, Tryz.ntmps125
        go_wp2
        all_goals (go_ret3; exact ⟨by simp, Below.refl _ _⟩)
      · have hc : spC j n = (-1) := by unfold spC; split <;> omega
        rw [hA, hc] at h
        have ht : (-1) < i + (n : Int) := by omega
        clear hA hc h si sj hi hj
        go_enter Tryz.func125, Tryz.ntmps125
        go_wp2
        all_goals (go_ret3; exact ⟨by simp, Below.refl _ _⟩)
    · have b1 : j < 0 := sj.1
      have b2 : ¬ j < -(n : Int) - 1 := sj.2
      by_cases sc : (n : Int) - 1 < (j + (n : Int))
      · have hc : spC j n = (n : Int) - 1 := by unfold spC; split <;> omega
        rw [hA, hc] at h
        have ht : (n : Int) - 1 < i + (n : Int) := by omega
        clear hA hc h si sj hi hj
        go_enter Tryz.func125, Tryz.ntmps125
        go_wp2
        all_goals (go_ret3; exact ⟨by simp, Below.refl _ _⟩)
      · have hc : spC j n = (j + (n : Int)) := by unfold spC; split <;> omega
        rw [hA, hc] at h
        have ht : (j + (n : Int)) < i + (n : Int) := by omega
        clear hA hc h si sj hi hj
        go_enter Tryz.func125, Tryz.ntmps125
        go_wp2
        all_goals (go_ret3; exact ⟨by simp, Below.refl _ _⟩)
end Go.Proofs.YticlacjpgjkhcaaGreatDoor

/- Commands over data: what they read of a job, what they leave. -/
namespace Go.Proofs.YticlacjpgjkhcaaGreatDoor
open Go.ChangeShapes Go.WideShapes Go.ChangeAt Go.RowKit

theorem JD.mono {α : Type} (K : Kd α) {w : World} {j bS : Nat} {now : Int} {vA : Value} {c d : Nat} {vl : Value} {des : List (ByteArray × Option α)} (h : JD K w j bS now vA c vl des) (hd : d ≤ c) : JD K w j bS now vA d vl des := by
  obtain ⟨h1, h2, css, h3, h4⟩ := h
  exact ⟨h1, h2, css, h3.mono hd, ALC.mono K hd h4⟩
/-- What a command that only reads leaves. -/
theorem endD {α : Type} (K : Kd α) {w w' : World} {j bS : Nat} {now : Int} {vA : Value} {k n : Int} {s : ByteArray} (hj : JB w j bS now vA (.slice none 0 0)) (hb : Below w.heap.size w w') : ∃ A m c, (Ending.returned (.agg #[.int .i64 k, .int .i64 n, .string s, .slice none 0 0])) = Ending.returned (.agg #[.int .i64 k, .int .i64 n, .string s, .slice A m c]) ∧ R0 w.heap.size w' (.slice A m c) ∧ (∃ vl, JD K w' j bS now vA w.heap.size vl ([] : List (ByteArray × Option α))) ∧ Kp w.heap.size (fun i => i ≠ j) w w' :=
  ⟨none, 0, 0, rfl, rfl, ⟨_, JD.nil K _ (hj.below hb)⟩, .of hb⟩
/-- What a command leaves that laid effects. -/
theorem endT {α : Type} (K : Kd α) {w w3 : World} {j bS : Nat} {now : Int} {vA vl : Value} {k n : Int} {s : ByteArray} {des : List (ByteArray × Option α)} {cs : Array Value} (hjw : j < w.heap.size) (hJ : JD K w3 j bS now vA w.heap.size vl des) (hr : w3.heap[w.heap.size]? = some (.cells cs 29)) (hK : Kp w.heap.size (fun i => i ≠ j) w w3) (v0 v1 v2 v3 : Value) :
    ∃ A m c, (Ending.returned (.agg #[.int .i64 k, .int .i64 n, .string s, .slice none 0 0]) = .returned (.agg #[.int .i64 k, .int .i64 n, .string s, .slice A m c])) ∧ R0 w.heap.size ((((w3.setCell ⟨w.heap.size, 0, none⟩ v0).setCell ⟨w.heap.size, 1, none⟩ v1).setCell ⟨w.heap.size, 2, none⟩ v2).setCell ⟨w.heap.size, 3, none⟩ v3) (.slice A m c) ∧ (∃ vl, JD K ((((w3.setCell ⟨w.heap.size, 0, none⟩ v0).setCell ⟨w.heap.size, 1, none⟩ v1).setCell ⟨w.heap.size, 2, none⟩ v2).setCell ⟨w.heap.size, 3, none⟩ v3) j bS now vA w.heap.size vl des) ∧ Kp w.heap.size (fun i => i ≠ j) w ((((w3.setCell ⟨w.heap.size, 0, none⟩ v0).setCell ⟨w.heap.size, 1, none⟩ v1).setCell ⟨w.heap.size, 2, none⟩ v2).setCell ⟨w.heap.size, 3, none⟩ v3) := by
  obtain ⟨h1, h2, css, h3, h4⟩ := hJ
  refine ⟨none, 0, 0, rfl, rfl, ⟨vl, h1, h2.kept (far4 _ _ _ _ (by omega)), css, h3.kept (fun g hg => far4 _ _ _ _ (fun e => ?_)), ALC.kept K (fun x a b d e hV _ g hg => far4 _ _ _ _ (fun e => ?_)) h4⟩, ?_⟩
  · subst e
    obtain ⟨_, cur, hh⟩ := h3.own _ hg
    rw [hr] at hh
    simp at hh
  · subst e
    obtain ⟨cs', t, g1, _, _, _, _, g6⟩ := K.typ hV hg
    rw [hr] at g1
    cases g1
    exact g6 rfl
  · exact ((((hK.setCell (p := ⟨w.heap.size, 0, none⟩) (by simp) v0).setCell (p := ⟨w.heap.size, 1, none⟩) (by simp) v1).setCell (p := ⟨w.heap.size, 2, none⟩) (by simp) v2).setCell (p := ⟨w.heap.size, 3, none⟩) (by simp) v3)
/-- A command's arguments in memory. -/
structure AR (w : World) (j : Nat) (now : Int) (blk off cap : Nat) (xs : List ByteArray) : Prop where
  job : ∀ Y, Below w.heap.size w Y → Y.cell? ⟨j, 2, none⟩ = some (.slice (some ⟨blk, off, none⟩) xs.length cap) ∧ Y.cell? ⟨j, 1, none⟩ = some (.int .i64 now)
  arg : ∀ Y, Below w.heap.size w Y → ∀ (i : Nat) (s : ByteArray), xs[i]? = some s → Y.cell? ⟨blk, off + i, none⟩ = some (.string s)
  len : xs.length ≤ cap
  cap : cap ≤ 9223372036854775807
theorem AR.of {w : World} {j bS : Nat} {now : Int} {vA vl : Value} {xs : List ByteArray} (hj : JB w j bS now vA vl) (hA : SSl w vA xs) (hne : xs ≠ []) : ∃ blk off cap, vA = .slice (some ⟨blk, off, none⟩) xs.length cap ∧ AR w j now blk off cap xs := by
  obtain ⟨aA, cap, rfl, p1, p2, p3⟩ := hA
  obtain ⟨blk, off, rfl, hblt, hc⟩ := p3 hne
  refine ⟨blk, off, cap, rfl, fun Y hY => ⟨(hj.below hY).cells.2.2.1, (hj.below hY).cells.2.1⟩, fun Y hY i s hs => (hY.cell (p := ⟨blk, off + i, none⟩) hblt).trans (hc i s hs), p1, by unfold maxLen at p2; omega⟩
theorem AR.below {w w' : World} {j : Nat} {now : Int} {blk off cap : Nat} {xs : List ByteArray} (h : AR w j now blk off cap xs) (hb : Below w.heap.size w w') : AR w' j now blk off cap xs :=
  ⟨fun Y hY => h.job Y (belT hb hY), fun Y hY => h.arg Y (belT hb hY), h.len, h.cap⟩
/-- A job's number, by a written place. -/
theorem JIn (ix : Int) (j bS : Nat) (now : Int) (vA vl : Value) (xs : List ByteArray) (i : Nat) (hix : ix = i) (t : ByteArray) (n : Int) (ht : t.size ≤ 100000) (hp : parseI t.data.toList = some n) (hi : xs[i]? = some t) (w : World) (hj : JB w j bS now vA vl) (hA : SSl w vA xs) : Calls Tryz.prog 110 #[.pointer (some ⟨j, 0, none⟩), .int .i64 ix] w fun e w' => e = .returned (.int .i64 n) ∧ Below w.heap.size w w' := by
  subst hix
  exact JInt_ok j bS now vA vl xs i t n ht hp hi w hj hA
end Go.Proofs.YticlacjpgjkhcaaGreatDoor

/- points.of: a key's points. -/
namespace Go.Proofs.YticlacjpgjkhcaaGreatDoor
open Go.ChangeShapes Go.WideShapes Go.ChangeAt Go.RowKit Go.Fl

/-- A key's entry of points, whether it is there or not. -/
theorem OfP (bS bM j : Nat) (D : List (ByteArray × List (ByteArray × Int × Int))) (k : ByteArray) (now : Int) (vA vl : Value) (w : World) (h : SPG KP okP w bS bM D) (hj : JB w j bS now vA vl) : Calls Tryz.prog 130 #[.pointer (some ⟨j, 0, none⟩), .string k, .int .i64 5] w fun e w' => ∃ (v3 v4 v5 : Value) (A6 : Option Addr) (C6 : Nat), e = .returned (.tuple #[.agg #[.string k, .int .i64 5, .string ⟨#[]⟩, v3, v4, v5, .slice A6 ((findD k D).getD []).length C6, .int .i64 0], .bool (findD k D).isSome]) ∧ RP w' w.heap.size (.slice A6 ((findD k D).getD []).length C6) ((findD k D).getD []) ∧ (v3 = .slice none 0 0 ∧ v4 = .slice none 0 0 ∧ v5 = .slice none 0 0) ∧ Below w.heap.size w w' := by
  cases hf : findD k D with
  | none =>
    refine (OfD_no KP okP bS bM j D k now vA vl hf w h hj).mono ?_
    rintro e w' ⟨rfl, h1⟩
    exact ⟨_, _, _, none, 0, rfl, World.ownsRow_nil _ _ _ _, ⟨rfl, rfl, rfl⟩, h1⟩
  | some F =>
    refine (OfD_yes KP okP KPok bS bM j D k F now vA vl hf w h hj).mono ?_
    rintro e w' ⟨A3, A4, A5, A6, an3, ac3, an4, ac4, an5, ac5, an6, ac6, rfl, hV, hg, h1⟩
    obtain ⟨g, rfl, rfl, rfl, rfl, rfl, rfl, rfl, rfl, rfl, rfl, rfl⟩ := VP.form A3 A4 A5 A6 an3 ac3 an4 ac4 an5 ac5 an6 ac6 hV
    refine ⟨_, _, _, _, _, rfl, ?_, ⟨rfl, rfl, rfl⟩, h1⟩
    have hR := hV.1
    unfold RP World.ownsRow at hR ⊢
    obtain ⟨r0, ⟨r1, _⟩ | ⟨g', cap, cur, e', r2, r3⟩⟩ := hR
    · cases r1
    · cases e'
      exact ⟨r0, .inr ⟨_, _, cur, rfl, hg _ (.inr (.inr (.inr rfl))), r3⟩⟩
theorem set_cells2 {w : World} {b i : Nat} {v : Value} {cs : Array Value} {t : TypeId} (h : w.heap[b]? = some (.cells cs t)) : (w.setCell ⟨b, i, none⟩ v).heap[b]? = some (.cells (cs.setIfInBounds i v) t) := by
  simp [World.setCell, Array.getElem?_modify, h]
theorem setE {w : World} {b : Nat} {a0 a1 a2 a3 a4 a5 a6 a7 : Value} {t : TypeId} (h : w.heap[b]? = some (.cells #[a0, a1, a2, a3, a4, a5, a6, a7] t)) (v0 v1 v2 v3 v4 v5 v6 v7 : Value) : ((((((((w.setCell ⟨b, 0, none⟩ v0).setCell ⟨b, 1, none⟩ v1).setCell ⟨b, 2, none⟩ v2).setCell ⟨b, 3, none⟩ v3).setCell ⟨b, 4, none⟩ v4).setCell ⟨b, 5, none⟩ v5).setCell ⟨b, 6, none⟩ v6).setCell ⟨b, 7, none⟩ v7).heap[b]? = some (.cells #[v0, v1, v2, v3, v4, v5, v6, v7] t) ∧ (∀ i, i ≠ b → ((((((((w.setCell ⟨b, 0, none⟩ v0).setCell ⟨b, 1, none⟩ v1).setCell ⟨b, 2, none⟩ v2).setCell ⟨b, 3, none⟩ v3).setCell ⟨b, 4, none⟩ v4).setCell ⟨b, 5, none⟩ v5).setCell ⟨b, 6, none⟩ v6).setCell ⟨b, 7, none⟩ v7).heap[i]? = w.heap[i]?) ∧ ∀ c, c ≤ b → Below c w ((((((((w.setCell ⟨b, 0, none⟩ v0).setCell ⟨b, 1, none⟩ v1).setCell ⟨b, 2, none⟩ v2).setCell ⟨b, 3, none⟩ v3).setCell ⟨b, 4, none⟩ v4).setCell ⟨b, 5, none⟩ v5).setCell ⟨b, 6, none⟩ v6).setCell ⟨b, 7, none⟩ v7) := by
  have h0 : (w.setCell ⟨b, 0, none⟩ v0).heap[b]? = some (.cells #[v0, a1, a2, a3, a4, a5, a6, a7] t) := set_cells2 h
  have h1 : ((w.setCell ⟨b, 0, none⟩ v0).setCell ⟨b, 1, none⟩ v1).heap[b]? = some (.cells #[v0, v1, a2, a3, a4, a5, a6, a7] t) := set_cells2 h0
  have h2 : (((w.setCell ⟨b, 0, none⟩ v0).setCell ⟨b, 1, none⟩ v1).setCell ⟨b, 2, none⟩ v2).heap[b]? = some (.cells #[v0, v1, v2, a3, a4, a5, a6, a7] t) := set_cells2 h1
  have h3 : ((((w.setCell ⟨b, 0, none⟩ v0).setCell ⟨b, 1, none⟩ v1).setCell ⟨b, 2, none⟩ v2).setCell ⟨b, 3, none⟩ v3).heap[b]? = some (.cells #[v0, v1, v2, v3, a4, a5, a6, a7] t) := set_cells2 h2
  have h4 : (((((w.setCell ⟨b, 0, none⟩ v0).setCell ⟨b, 1, none⟩ v1).setCell ⟨b, 2, none⟩ v2).setCell ⟨b, 3, none⟩ v3).setCell ⟨b, 4, none⟩ v4).heap[b]? = some (.cells #[v0, v1, v2, v3, v4, a5, a6, a7] t) := set_cells2 h3
  have h5 : ((((((w.setCell ⟨b, 0, none⟩ v0).setCell ⟨b, 1, none⟩ v1).setCell ⟨b, 2, none⟩ v2).setCell ⟨b, 3, none⟩ v3).setCell ⟨b, 4, none⟩ v4).setCell ⟨b, 5, none⟩ v5).heap[b]? = some (.cells #[v0, v1, v2, v3, v4, v5, a6, a7] t) := set_cells2 h4
  have h6 : (((((((w.setCell ⟨b, 0, none⟩ v0).setCell ⟨b, 1, none⟩ v1).setCell ⟨b, 2, none⟩ v2).setCell ⟨b, 3, none⟩ v3).setCell ⟨b, 4, none⟩ v4).setCell ⟨b, 5, none⟩ v5).setCell ⟨b, 6, none⟩ v6).heap[b]? = some (.cells #[v0, v1, v2, v3, v4, v5, v6, a7] t) := set_cells2 h5
  have h7 : ((((((((w.setCell ⟨b, 0, none⟩ v0).setCell ⟨b, 1, none⟩ v1).setCell ⟨b, 2, none⟩ v2).setCell ⟨b, 3, none⟩ v3).setCell ⟨b, 4, none⟩ v4).setCell ⟨b, 5, none⟩ v5).setCell ⟨b, 6, none⟩ v6).setCell ⟨b, 7, none⟩ v7).heap[b]? = some (.cells #[v0, v1, v2, v3, v4, v5, v6, v7] t) := set_cells2 h6
  exact ⟨h7, fun i hi => far8b hi _ _ _ _ _ _ _ _, fun c hc => (((((((((Below.refl c w).setCell hc _).setCell hc _).setCell hc _).setCell hc _).setCell hc _).setCell hc _).setCell hc _).setCell hc _)⟩
set_option maxRecDepth 100000 in
set_option maxHeartbeats 8000000 in
theorem pof_any (bS bM j : Nat) (D : List (ByteArray × List (ByteArray × Int × Int))) (now : Int) (blk off cap : Nat) (xs : List ByteArray) (n : Nat) (hn : xs.length = n) (h2 : 2 ≤ n) (k : ByteArray) (hk : xs[1]? = some k) (vl : Value) (F : List (ByteArray × Int × Int)) (hF : (findD k D).getD [] = F) (w : World) (hS : SPG KP okP w bS bM D) (hj : JB w j bS now (.slice (some ⟨blk, off, none⟩) n cap) vl) (hA : AR w j now blk off cap xs) : Calls Tryz.prog 99 #[.pointer (some ⟨j, 0, none⟩)] w fun e w' => ∃ A C, e = .returned (.tuple #[.agg #[.string k, .int .i64 5, .string ⟨#[]⟩, .slice none 0 0, .slice none 0 0, .slice none 0 0, .slice A F.length C, .int .i64 0], .slice A F.length C]) ∧ RP w' w.heap.size (.slice A F.length C) F ∧ Below w.heap.size w w' := by
  have OH := OfP bS bM j D k now _ _ (w.alloc (.cells #[.string ⟨#[]⟩, .int .i64 0, .string ⟨#[]⟩, .slice none 0 0, .slice none 0 0, .slice none 0 0, .slice none 0 0, .int .i64 0] 66)) (SPG.below KP okP hS alloc_old) (hj.below alloc_old)
  rw [hF] at OH
  have OH := Lib.hid OH
  have B0 := Lib.hid (alloc_old (w := w) (o := .cells #[.string ⟨#[]⟩, .int .i64 0, .string ⟨#[]⟩, .slice none 0 0, .slice none 0 0, .slice none 0 0, .slice none 0 0, .int .i64 0] 66))
  have r0 := Lib.hid (heap_alloc_new w (.cells #[.string ⟨#[]⟩, .int .i64 0, .string ⟨#[]⟩, .slice none 0 0, .slice none 0 0, .slice none 0 0, .slice none 0 0, .int .i64 0] 66))
  subst hn
  have cj := (hA.job _ B0.out).1
  have ca := hA.arg _ B0.out 1 k hk
  have i1 : (1 : Int) < (xs.length : Int) := by omega
  obtain ⟨b, hb⟩ : ∃ b, (findD k D).isSome = b := ⟨_, rfl⟩
  rw [hb] at OH
  clear hS hj hA hb hF
  generalize hW : w.alloc (.cells #[.string ⟨#[]⟩, .int .i64 0, .string ⟨#[]⟩, .slice none 0 0, .slice none 0 0, .slice none 0 0, .slice none 0 0, .int .i64 0] 66) = W at OH B0 r0 cj ca
  go_enter Tryz.func99, Tryz.ntmps99
  go_wp2_with (first | (go_at_call 130; (with_reducible refine (OH.out).mono ?_); rintro e w3 ⟨v3, v4, v5, A6, C6, rfl, hR, ⟨rfl, rfl, rfl⟩, h1⟩; have R3 := Lib.hid hR; have B3 := Lib.hid h1; clear h1 hR; refine Hid.out ?_))
  refine Lib.hid ?_
  clear cj ca i1
  have BX := Lib.hid (alloc_old (w := w3) (o := .cells #[.string k, .int .i64 5, .string ⟨#[]⟩, .slice none 0 0, .slice none 0 0, .slice none 0 0, .slice A6 F.length C6, .int .i64 0] 66))
  obtain ⟨⟨c0, c1, c2, c3, c4, c5, c6, c7⟩, ⟨f0, f1, f2, f3, f4, f5, f6, f7⟩, z1⟩ := cells8 (show (w3.alloc (.cells #[.string k, .int .i64 5, .string ⟨#[]⟩, .slice none 0 0, .slice none 0 0, .slice none 0 0, .slice A6 F.length C6, .int .i64 0] 66)).heap[w.heap.size]? = _ from blk_below (blk_below r0.out B3.out) BX.out)
  obtain ⟨⟨d0, d1, d2, d3, d4, d5, d6, d7⟩, _, z2⟩ := cells8 (show (w3.alloc (.cells #[.string k, .int .i64 5, .string ⟨#[]⟩, .slice none 0 0, .slice none 0 0, .slice none 0 0, .slice A6 F.length C6, .int .i64 0] 66)).drew.heap[w3.heap.size]? = _ from heap_alloc_new w3 _)
  have hz : w.heap.size + 1 ≤ w3.heap.size := by have := Below.size B3.out; rw [← hW] at this; simpa using this
  have hne : w3.heap.size ≠ w.heap.size := by omega
  go_wp2
  go_region
  go_wp2
  have hwz : W.heap.size = w.heap.size + 1 := by rw [← hW]; simp
  have hg : ∀ g, (Value.slice A6 F.length C6).ownBlock = some g → g ≠ w.heap.size ∧ g < w3.heap.size := fun g hg => by
    have := row_own R3.out g hg
    omega
  obtain ⟨s1, s2, s3⟩ := setE (blk_below (blk_below r0.out B3.out) BX.out) (.string k) (.int .i64 5) (.string ⟨#[]⟩) (.slice none 0 0) (.slice none 0 0) (.slice none 0 0) (.slice A6 F.length C6) (.int .i64 0)
  have hR9 := (R3.out.kept (fun g hg' => (s2 g (hg g hg').1).trans (BX.out.block g (hg g hg').2))).mono (c' := w.heap.size) (by omega)
  have hB9 := ((B0.out.trans (B3.out.mono (by omega))).trans (BX.out.mono (by omega))).trans (s3 _ (Nat.le_refl _))
  clear s2 s3 c0 c1 c2 c3 c4 c5 c6 c7 d0 d1 d2 d3 d4 d5 d6 d7 f0 f1 f2 f3 f4 f5 f6 f7
  generalize (((((((((w3.alloc (.cells #[.string k, .int .i64 5, .string ⟨#[]⟩, .slice none 0 0, .slice none 0 0, .slice none 0 0, .slice A6 F.length C6, .int .i64 0] 66)).setCell ⟨w.heap.size, 0, none⟩ (.string k)).setCell ⟨w.heap.size, 1, none⟩ (.int .i64 5)).setCell ⟨w.heap.size, 2, none⟩ (.string ⟨#[]⟩)).setCell ⟨w.heap.size, 3, none⟩ (.slice none 0 0)).setCell ⟨w.heap.size, 4, none⟩ (.slice none 0 0)).setCell ⟨w.heap.size, 5, none⟩ (.slice none 0 0)).setCell ⟨w.heap.size, 6, none⟩ (.slice A6 F.length C6)).setCell ⟨w.heap.size, 7, none⟩ (.int .i64 0)) = W9 at s1 hR9 hB9 ⊢
  obtain ⟨⟨c0, c1, c2, c3, c4, c5, c6, c7⟩, _, _⟩ := cells8 s1
  exact bodyPost_ret (v := .tuple #[.agg #[.string k, .int .i64 5, .string ⟨#[]⟩, .slice none 0 0, .slice none 0 0, .slice none 0 0, .slice A6 F.length C6, .int .i64 0], .slice A6 F.length C6]) (by simp [results, Tryz.results99, go_sem, c0, c1, c2, c3, c4, c5, c6, c7]) rfl ⟨A6, C6, rfl, hR9.below (Below.refl _ _).drew, hB9.drew⟩
end Go.Proofs.YticlacjpgjkhcaaGreatDoor
