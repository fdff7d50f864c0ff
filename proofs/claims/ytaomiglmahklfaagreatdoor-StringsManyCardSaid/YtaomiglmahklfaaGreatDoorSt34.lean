/- job.Span at any places; GETRANGE. -/
import Derived.Test.YtaomiglmahklfaaGreatDoorSt30
import Derived.Test.YtaomiglmahklfaaGreatDoorSt15
namespace Go.Proofs.YtaomiglmahklfaaGreatDoor
open Go.ChangeShapes Go.WideShapes Go.ChangeAt Go.RowKit

/-- The place from which a part goes. -/
def spA (i n : Int) : Int := if i < 0 then max i (-n) + n else i
/-- The place up to which it goes. -/
def spC (j n : Int) : Int := min (if j < 0 then max j (-n - 1) + n else j) (n - 1)
set_option maxHeartbeats 2000000 in
theorem Span_yes (i j : Int) (n : Nat) (hi : -1000000000 ≤ i ∧ i ≤ 1000000000) (hj : -1000000000 ≤ j ∧ j ≤ 1000000000) (hn : n ≤ 1000000) (h : spA i n ≤ spC j n) (w : World) : Calls Tryz.prog 80 #[.int .i64 i, .int .i64 j, .int .i64 n] w fun e w' => e = .returned (.tuple #[.int .i64 (spA i n), .int .i64 (spC j n + 1), .bool true]) ∧ Below w.heap.size w w' := by
  have w1 : wrap64 (-(n : Int)) = -(n : Int) := IntWalk.wrap64_in _ (by omega)
  have w2 : wrap64 (-(n : Int) - 1) = -(n : Int) - 1 := IntWalk.wrap64_in _ (by omega)
  have w3 : wrap64 ((n : Int) - 1) = (n : Int) - 1 := IntWalk.wrap64_in _ (by omega)
  have w4 : wrap64 (-(n : Int) + (n : Int)) = 0 := (IntWalk.wrap64_in _ (by omega)).trans (by omega)
  have w5 : wrap64 (-(n : Int) - 1 + (n : Int)) = -1 := (IntWalk.wrap64_in _ (by omega)).trans (by omega)
  have w6 : wrap64 (i + (n : Int)) = i + (n : Int) := IntWalk.wrap64_in _ (by omega)
  have w7 : wrap64 (j + (n : Int)) = j + (n : Int) := IntWalk.wrap64_in _ (by omega)
  have w8 : wrap64 (j + (n : Int) + 1) = j + (n : Int) + 1 := IntWalk.wrap64_in _ (by omega)
  have w9 : wrap64 (j + 1) = j + 1 := IntWalk.wrap64_in _ (by omega)
  have w10 : wrap64 ((n : Int) - 1 + 1) = n := (IntWalk.wrap64_in _ (by omega)).trans (by omega)
  have SI : ¬ i < 0 ∨ (i < 0 ∧ i < -(n : Int)) ∨ (i < 0 ∧ ¬ i < -(n : Int)) := by omega
  have SJ : ¬ j < 0 ∨ (j < 0 ∧ j < -(n : Int) - 1) ∨ (j < 0 ∧ ¬ j < -(n : Int) - 1) := by omega
  rcases SI with si | si | si
  · have a1 : ¬ i < 0 := si
    have hA : spA i n = i := by unfold spA; split <;> omega
    rcases SJ with sj | sj | sj
    · have b1 : ¬ j < 0 := sj
      by_cases sc : (n : Int) - 1 < j
      · have hc : spC j n = (n : Int) - 1 := by unfold spC; split <;> omega
        rw [hA, hc] at h ⊢
        have ht : ¬ (n : Int) - 1 < i := by omega
        clear hA hc h si sj hi hj
        go_enter Tryz.func80, Tryz.ntmps80
        go_wp2
        all_goals (go_ret3; exact ⟨by simp <;> omega, Below.refl _ _⟩)
      · have hc : spC j n = j := by unfold spC; split <;> omega
        rw [hA, hc] at h ⊢
        have ht : ¬ j < i := by omega
        clear hA hc h si sj hi hj
        go_enter Tryz.func80, Tryz.ntmps80
        go_wp2
        all_goals (go_ret3; exact ⟨by simp <;> omega, Below.refl _ _⟩)
    · have b1 : j < 0 := sj.1
      have b2 : j < -(n : Int) - 1 := sj.2
      by_cases sc : (n : Int) - 1 < (-1)
      · have hc : spC j n = (n : Int) - 1 := by unfold spC; split <;> omega
        rw [hA, hc] at h ⊢
        have ht : ¬ (n : Int) - 1 < i := by omega
        clear hA hc h si sj hi hj
        go_enter Tryz.func80, Tryz.ntmps80
        go_wp2
        all_goals (go_ret3; exact ⟨by simp <;> omega, Below.refl _ _⟩)
      · have hc : spC j n = (-1) := by unfold spC; split <;> omega
        rw [hA, hc] at h ⊢
        have ht : ¬ (-1) < i := by omega
        clear hA hc h si sj hi hj
        go_enter Tryz.func80, Tryz.ntmps80
        go_wp2
        all_goals (go_ret3; exact ⟨by simp <;> omega, Below.refl _ _⟩)
    · have b1 : j < 0 := sj.1
      have b2 : ¬ j < -(n : Int) - 1 := sj.2
      by_cases sc : (n : Int) - 1 < (j + (n : Int))
      · have hc : spC j n = (n : Int) - 1 := by unfold spC; split <;> omega
        rw [hA, hc] at h ⊢
        have ht : ¬ (n : Int) - 1 < i := by omega
        clear hA hc h si sj hi hj
        go_enter Tryz.func80, Tryz.ntmps80
        go_wp2
        all_goals (go_ret3; exact ⟨by simp <;> omega, Below.refl _ _⟩)
      · have hc : spC j n = (j + (n : Int)) := by unfold spC; split <;> omega
        rw [hA, hc] at h ⊢
        have ht : ¬ (j + (n : Int)) < i := by omega
        clear hA hc h si sj hi hj
        go_enter Tryz.func80, Tryz.ntmps80
        go_wp2
        all_goals (go_ret3; exact ⟨by simp <;> omega, Below.refl _ _⟩)
  · have a1 : i < 0 := si.1
    have a2 : i < -(n : Int) := si.2
    have hA : spA i n = 0 := by unfold spA; split <;> omega
    rcases SJ with sj | sj | sj
    · have b1 : ¬ j < 0 := sj
      by_cases sc : (n : Int) - 1 < j
      · have hc : spC j n = (n : Int) - 1 := by unfold spC; split <;> omega
        rw [hA, hc] at h ⊢
        have ht : ¬ (n : Int) - 1 < 0 := by omega
        clear hA hc h si sj hi hj
        go_enter Tryz.func80, Tryz.ntmps80
        go_wp2
        all_goals (go_ret3; exact ⟨by simp <;> omega, Below.refl _ _⟩)
      · have hc : spC j n = j := by unfold spC; split <;> omega
        rw [hA, hc] at h ⊢
        have ht : ¬ j < 0 := by omega
        clear hA hc h si sj hi hj
        go_enter Tryz.func80, Tryz.ntmps80
        go_wp2
        all_goals (go_ret3; exact ⟨by simp <;> omega, Below.refl _ _⟩)
    · have b1 : j < 0 := sj.1
      have b2 : j < -(n : Int) - 1 := sj.2
      by_cases sc : (n : Int) - 1 < (-1)
      · have hc : spC j n = (n : Int) - 1 := by unfold spC; split <;> omega
        rw [hA, hc] at h ⊢
        have ht : ¬ (n : Int) - 1 < 0 := by omega
        clear hA hc h si sj hi hj
        go_enter Tryz.func80, Tryz.ntmps80
        go_wp2
        all_goals (go_ret3; exact ⟨by simp <;> omega, Below.refl _ _⟩)
      · have hc : spC j n = (-1) := by unfold spC; split <;> omega
        rw [hA, hc] at h ⊢
        have ht : ¬ (-1) < 0 := by omega
        clear hA hc h si sj hi hj
        go_enter Tryz.func80, Tryz.ntmps80
        go_wp2
        all_goals (go_ret3; exact ⟨by simp <;> omega, Below.refl _ _⟩)
    · have b1 : j < 0 := sj.1
      have b2 : ¬ j < -(n : Int) - 1 := sj.2
      by_cases sc : (n : Int) - 1 < (j + (n : Int))
      · have hc : spC j n = (n : Int) - 1 := by unfold spC; split <;> omega
        rw [hA, hc] at h ⊢
        have ht : ¬ (n : Int) - 1 < 0 := by omega
        clear hA hc h si sj hi hj
        go_enter Tryz.func80, Tryz.ntmps80
        go_wp2
        all_goals (go_ret3; exact ⟨by simp <;> omega, Below.refl _ _⟩)
      · have hc : spC j n = (j + (n : Int)) := by unfold spC; split <;> omega
        rw [hA, hc] at h ⊢
        have ht : ¬ (j + (n : Int)) < 0 := by omega
        clear hA hc h si sj hi hj
        go_enter Tryz.func80, Tryz.ntmps80
        go_wp2
        all_goals (go_ret3; exact ⟨by simp <;> omega, Below.refl _ _⟩)
  · have a1 : i < 0 := si.1
    have a2 : ¬ i < -(n : Int) := si.2
    have hA : spA i n = i + (n : Int) := by unfold spA; split <;> omega
    rcases SJ with sj | sj | sj
    · have b1 : ¬ j < 0 := sj
      by_cases sc : (n : Int) - 1 < j
      · have hc : spC j n = (n : Int) - 1 := by unfold spC; split <;> omega
        rw [hA, hc] at h ⊢
        have ht : ¬ (n : Int) - 1 < i + (n : Int) := by omega
        clear hA hc h si sj hi hj
        go_enter Tryz.func80, Tryz.ntmps80
        go_wp2
        all_goals (go_ret3; exact ⟨by simp <;> omega, Below.refl _ _⟩)
      · have hc : spC j n = j := by unfold spC; split <;> omega
        rw [hA, hc] at h ⊢
        have ht : ¬ j < i + (n : Int) := by omega
        clear hA hc h si sj hi hj
        go_enter Tryz.func80, Tryz.ntmps80
        go_wp2
        all_goals (go_ret3; exact ⟨by simp <;> omega, Below.refl _ _⟩)
    · have b1 : j < 0 := sj.1
      have b2 : j < -(n : Int) - 1 := sj.2
      by_cases sc : (n : Int) - 1 < (-1)
      · have hc : spC j n = (n : Int) - 1 := by unfold spC; split <;> omega
        rw [hA, hc] at h ⊢
        have ht : ¬ (n : Int) - 1 < i + (n : Int) := by omega
        clear hA hc h si sj hi hj
        go_enter Tryz.func80, Tryz.ntmps80
        go_wp2
        all_goals (go_ret3; exact ⟨by simp <;> omega, Below.refl _ _⟩)
      · have hc : spC j n = (-1) := by unfold spC; split <;> omega
        rw [hA, hc] at h ⊢
        have ht : ¬ (-1) < i + (n : Int) := by omega
        clear hA hc h si sj hi hj
        go_enter Tryz.func80, Tryz.ntmps80
        go_wp2
        all_goals (go_ret3; exact ⟨by simp <;> omega, Below.refl _ _⟩)
    · have b1 : j < 0 := sj.1
      have b2 : ¬ j < -(n : Int) - 1 := sj.2
      by_cases sc : (n : Int) - 1 < (j + (n : Int))
      · have hc : spC j n = (n : Int) - 1 := by unfold spC; split <;> omega
        rw [hA, hc] at h ⊢
        have ht : ¬ (n : Int) - 1 < i + (n : Int) := by omega
        clear hA hc h si sj hi hj
        go_enter Tryz.func80, Tryz.ntmps80
        go_wp2
        all_goals (go_ret3; exact ⟨by simp <;> omega, Below.refl _ _⟩)
      · have hc : spC j n = (j + (n : Int)) := by unfold spC; split <;> omega
        rw [hA, hc] at h ⊢
        have ht : ¬ (j + (n : Int)) < i + (n : Int) := by omega
        clear hA hc h si sj hi hj
        go_enter Tryz.func80, Tryz.ntmps80
        go_wp2
        all_goals (go_ret3; exact ⟨by simp <;> omega, Below.refl _ _⟩)
set_option maxHeartbeats 2000000 in
theorem Span_no (i j : Int) (n : Nat) (hi : -1000000000 ≤ i ∧ i ≤ 1000000000) (hj : -1000000000 ≤ j ∧ j ≤ 1000000000) (hn : n ≤ 1000000) (h : spC j n < spA i n) (w : World) : Calls Tryz.prog 80 #[.int .i64 i, .int .i64 j, .int .i64 n] w fun e w' => e = .returned (.tuple #[.int .i64 0, .int .i64 0, .bool false]) ∧ Below w.heap.size w w' := by
  have w1 : wrap64 (-(n : Int)) = -(n : Int) := IntWalk.wrap64_in _ (by omega)
  have w2 : wrap64 (-(n : Int) - 1) = -(n : Int) - 1 := IntWalk.wrap64_in _ (by omega)
  have w3 : wrap64 ((n : Int) - 1) = (n : Int) - 1 := IntWalk.wrap64_in _ (by omega)
  have w4 : wrap64 (-(n : Int) + (n : Int)) = 0 := (IntWalk.wrap64_in _ (by omega)).trans (by omega)
  have w5 : wrap64 (-(n : Int) - 1 + (n : Int)) = -1 := (IntWalk.wrap64_in _ (by omega)).trans (by omega)
  have w6 : wrap64 (i + (n : Int)) = i + (n : Int) := IntWalk.wrap64_in _ (by omega)
  have w7 : wrap64 (j + (n : Int)) = j + (n : Int) := IntWalk.wrap64_in _ (by omega)
  have w8 : wrap64 (j + (n : Int) + 1) = j + (n : Int) + 1 := IntWalk.wrap64_in _ (by omega)
  have w9 : wrap64 (j + 1) = j + 1 := IntWalk.wrap64_in _ (by omega)
  have w10 : wrap64 ((n : Int) - 1 + 1) = n := (IntWalk.wrap64_in _ (by omega)).trans (by omega)
  have SI : ¬ i < 0 ∨ (i < 0 ∧ i < -(n : Int)) ∨ (i < 0 ∧ ¬ i < -(n : Int)) := by omega
  have SJ : ¬ j < 0 ∨ (j < 0 ∧ j < -(n : Int) - 1) ∨ (j < 0 ∧ ¬ j < -(n : Int) - 1) := by omega
  rcases SI with si | si | si
  · have a1 : ¬ i < 0 := si
    have hA : spA i n = i := by unfold spA; split <;> omega
    rcases SJ with sj | sj | sj
    · have b1 : ¬ j < 0 := sj
      by_cases sc : (n : Int) - 1 < j
      · have hc : spC j n = (n : Int) - 1 := by unfold spC; split <;> omega
        rw [hA, hc] at h
        have ht : (n : Int) - 1 < i := by omega
        clear hA hc h si sj hi hj
        go_enter Tryz.func80, Tryz.ntmps80
        go_wp2
        all_goals (go_ret3; exact ⟨by simp, Below.refl _ _⟩)
      · have hc : spC j n = j := by unfold spC; split <;> omega
        rw [hA, hc] at h
        have ht : j < i := by omega
        clear hA hc h si sj hi hj
        go_enter Tryz.func80, Tryz.ntmps80
        go_wp2
        all_goals (go_ret3; exact ⟨by simp, Below.refl _ _⟩)
    · have b1 : j < 0 := sj.1
      have b2 : j < -(n : Int) - 1 := sj.2
      by_cases sc : (n : Int) - 1 < (-1)
      · have hc : spC j n = (n : Int) - 1 := by unfold spC; split <;> omega
        rw [hA, hc] at h
        have ht : (n : Int) - 1 < i := by omega
        clear hA hc h si sj hi hj
        go_enter Tryz.func80, Tryz.ntmps80
        go_wp2
        all_goals (go_ret3; exact ⟨by simp, Below.refl _ _⟩)
      · have hc : spC j n = (-1) := by unfold spC; split <;> omega
        rw [hA, hc] at h
        have ht : (-1) < i := by omega
        clear hA hc h si sj hi hj
        go_enter Tryz.func80, Tryz.ntmps80
        go_wp2
        all_goals (go_ret3; exact ⟨by simp, Below.refl _ _⟩)
    · have b1 : j < 0 := sj.1
      have b2 : ¬ j < -(n : Int) - 1 := sj.2
      by_cases sc : (n : Int) - 1 < (j + (n : Int))
      · have hc : spC j n = (n : Int) - 1 := by unfold spC; split <;> omega
        rw [hA, hc] at h
        have ht : (n : Int) - 1 < i := by omega
        clear hA hc h si sj hi hj
        go_enter Tryz.func80, Tryz.ntmps80
        go_wp2
        all_goals (go_ret3; exact ⟨by simp, Below.refl _ _⟩)
      · have hc : spC j n = (j + (n : Int)) := by unfold spC; split <;> omega
        rw [hA, hc] at h
        have ht : (j + (n : Int)) < i := by omega
        clear hA hc h si sj hi hj
        go_enter Tryz.func80, Tryz.ntmps80
        go_wp2
        all_goals (go_ret3; exact ⟨by simp, Below.refl _ _⟩)
  · have a1 : i < 0 := si.1
    have a2 : i < -(n : Int) := si.2
    have hA : spA i n = 0 := by unfold spA; split <;> omega
    rcases SJ with sj | sj | sj
    · have b1 : ¬ j < 0 := sj
      by_cases sc : (n : Int) - 1 < j
      · have hc : spC j n = (n : Int) - 1 := by unfold spC; split <;> omega
        rw [hA, hc] at h
        have ht : (n : Int) - 1 < 0 := by omega
        clear hA hc h si sj hi hj
        go_enter Tryz.func80, Tryz.ntmps80
        go_wp2
        all_goals (go_ret3; exact ⟨by simp, Below.refl _ _⟩)
      · have hc : spC j n = j := by unfold spC; split <;> omega
        rw [hA, hc] at h
        have ht : j < 0 := by omega
        clear hA hc h si sj hi hj
        go_enter Tryz.func80, Tryz.ntmps80
        go_wp2
        all_goals (go_ret3; exact ⟨by simp, Below.refl _ _⟩)
    · have b1 : j < 0 := sj.1
      have b2 : j < -(n : Int) - 1 := sj.2
      by_cases sc : (n : Int) - 1 < (-1)
      · have hc : spC j n = (n : Int) - 1 := by unfold spC; split <;> omega
        rw [hA, hc] at h
        have ht : (n : Int) - 1 < 0 := by omega
        clear hA hc h si sj hi hj
        go_enter Tryz.func80, Tryz.ntmps80
        go_wp2
        all_goals (go_ret3; exact ⟨by simp, Below.refl _ _⟩)
      · have hc : spC j n = (-1) := by unfold spC; split <;> omega
        rw [hA, hc] at h
        have ht : (-1) < 0 := by omega
        clear hA hc h si sj hi hj
        go_enter Tryz.func80, Tryz.ntmps80
        go_wp2
        all_goals (go_ret3; exact ⟨by simp, Below.refl _ _⟩)
    · have b1 : j < 0 := sj.1
      have b2 : ¬ j < -(n : Int) - 1 := sj.2
      by_cases sc : (n : Int) - 1 < (j + (n : Int))
      · have hc : spC j n = (n : Int) - 1 := by unfold spC; split <;> omega
        rw [hA, hc] at h
        have ht : (n : Int) - 1 < 0 := by omega
        clear hA hc h si sj hi hj
        go_enter Tryz.func80, Tryz.ntmps80
        go_wp2
        all_goals (go_ret3; exact ⟨by simp, Below.refl _ _⟩)
      · have hc : spC j n = (j + (n : Int)) := by unfold spC; split <;> omega
        rw [hA, hc] at h
        have ht : (j + (n : Int)) < 0 := by omega
        clear hA hc h si sj hi hj
        go_enter Tryz.func80, Tryz.ntmps80
        go_wp2
        all_goals (go_ret3; exact ⟨by simp, Below.refl _ _⟩)
  · have a1 : i < 0 := si.1
    have a2 : ¬ i < -(n : Int) := si.2
    have hA : spA i n = i + (n : Int) := by unfold spA; split <;> omega
    rcases SJ with sj | sj | sj
    · have b1 : ¬ j < 0 := sj
      by_cases sc : (n : Int) - 1 < j
      · have hc : spC j n = (n : Int) - 1 := by unfold spC; split <;> omega
        rw [hA, hc] at h
        have ht : (n : Int) - 1 < i + (n : Int) := by omega
        clear hA hc h si sj hi hj
        go_enter Tryz.func80, Tryz.ntmps80
        go_wp2
        all_goals (go_ret3; exact ⟨by simp, Below.refl _ _⟩)
      · have hc : spC j n = j := by unfold spC; split <;> omega
        rw [hA, hc] at h
        have ht : j < i + (n : Int) := by omega
        clear hA hc h si sj hi hj
        go_enter Tryz.func80, Tryz.ntmps80
        go_wp2
        all_goals (go_ret3; exact ⟨by simp, Below.refl _ _⟩)
    · have b1 : j < 0 := sj.1
      have b2 : j < -(n : Int) - 1 := sj.2
      by_cases sc : (n : Int) - 1 < (-1)
      · have hc : spC j n = (n : Int) - 1 := by unfold spC; split <;> omega
        rw [hA, hc] at h
        have ht : (n : Int) - 1 < i + (n : Int) := by omega
        clear hA hc h si sj hi hj
        go_enter Tryz.func80, Tryz.ntmps80
        go_wp2
        all_goals (go_ret3; exact ⟨by simp, Below.refl _ _⟩)
      · have hc : spC j n = (-1) := by unfold spC; split <;> omega
        rw [hA, hc] at h
        have ht : (-1) < i + (n : Int) := by omega
        clear hA hc h si sj hi hj
        go_enter Tryz.func80, Tryz.ntmps80
        go_wp2
        all_goals (go_ret3; exact ⟨by simp, Below.refl _ _⟩)
    · have b1 : j < 0 := sj.1
      have b2 : ¬ j < -(n : Int) - 1 := sj.2
      by_cases sc : (n : Int) - 1 < (j + (n : Int))
      · have hc : spC j n = (n : Int) - 1 := by unfold spC; split <;> omega
        rw [hA, hc] at h
        have ht : (n : Int) - 1 < i + (n : Int) := by omega
        clear hA hc h si sj hi hj
        go_enter Tryz.func80, Tryz.ntmps80
        go_wp2
        all_goals (go_ret3; exact ⟨by simp, Below.refl _ _⟩)
      · have hc : spC j n = (j + (n : Int)) := by unfold spC; split <;> omega
        rw [hA, hc] at h
        have ht : (j + (n : Int)) < i + (n : Int) := by omega
        clear hA hc h si sj hi hj
        go_enter Tryz.func80, Tryz.ntmps80
        go_wp2
        all_goals (go_ret3; exact ⟨by simp, Below.refl _ _⟩)
theorem slice_at (s : ByteArray) (lo hi : Nat) (h2 : lo ≤ hi) (h3 : hi ≤ s.size) (w : World) :
    (Instr.slice 9 (.string s) (some (.int .i64 (lo : Int))) (some (.int .i64 (hi : Int))) none).run Tryz.prog w = .ok (.string (s.extract lo hi)) w := by
  rw [run_slice_string w 9 s .i64 .i64 _ _ Tryz.underlying9 (by omega) (by omega) (by omega)]
  rfl
theorem spA_pos (i : Int) (n : Nat) : 0 ≤ spA i n := by unfold spA; split <;> omega
theorem spC_le (j : Int) (n : Nat) : spC j n + 1 ≤ n := by unfold spC; omega
set_option maxRecDepth 100000 in
set_option maxHeartbeats 4000000 in
theorem part_yes (W0 : World) (bS bM : Nat) (l : MapT.Ents) (now : Int) (k a b : ByteArray) (x y : Int) (hxz : a.size ≤ 100000) (hyz : b.size ≤ 100000) (hxp : parseI a.data.toList = some x) (hyp : parseI b.data.toList = some y) (hx : -1000000000 ≤ x ∧ x ≤ 1000000000) (hy : -1000000000 ≤ y ∧ y ≤ 1000000000) (t : ByteArray) (u : Int) (hts : t.size ≤ 100000) (hf : MapT.find k l = some (.agg #[.string k, .int .i64 1, .string t, .slice none 0 0, .slice none 0 0, .slice none 0 0, .slice none 0 0, .int .i64 u])) (hv : Lives u now) (hs : spA x (t.size : Int) ≤ spC y (t.size : Int)) : CmdOk W0 41 bS bM l now [⟨#[71, 69, 84, 82, 65, 78, 71, 69]⟩, k, a, b] 4 0 (t.extract (spA x (t.size : Int)).toNat (spC y (t.size : Int) + 1).toNat) R0 [] := by
  intro w j vA _ hS hj hA
  have A1 := Lib.hid (alloc_old (w := w) (o := .cells #[.int .i64 0, .int .i64 0, .string ⟨#[]⟩, .slice none 0 0] 37))
  have hr := Lib.hid (heap_alloc_new w (.cells #[.int .i64 0, .int .i64 0, .string ⟨#[]⟩, .slice none 0 0] 37))
  obtain ⟨aA, cap, hv, p1, p2, p3⟩ := hA
  replace hv : vA = .slice aA 4 cap := hv
  subst hv
  replace p1 : 4 ≤ cap := p1
  obtain ⟨blk, off, rfl, hblt, hc⟩ := p3 (by simp)
  have ca1 := Lib.hid (show ∀ Y, Below w.heap.size w Y → Y.cell? ⟨blk, off + 1, none⟩ = some (.string k) from fun Y hb => (hb.cell (p := ⟨blk, off + 1, none⟩) hblt).trans (hc 1 _ rfl))
  have cj := Lib.hid (show ∀ Y, Below w.heap.size w Y → Y.cell? ⟨j, 2, none⟩ = some (.slice (some ⟨blk, off, none⟩) 4 cap) ∧ Y.cell? ⟨j, 1, none⟩ = some (.int .i64 now) from fun Y hb => ⟨(hj.below hb).cells.2.2.1, (hj.below hb).cells.2.1⟩)
  have HJ := Lib.hid hj
  have hA0 : SSl w (.slice (some ⟨blk, off, none⟩) 4 cap) [⟨#[71, 69, 84, 82, 65, 78, 71, 69]⟩, k, a, b] := ⟨_, _, rfl, p1, p2, fun _ => ⟨blk, off, rfl, hblt, hc⟩⟩
  have i1 : (1 : Int) < 4 := by decide
  have G := Lib.hid (Of_yes bS bM j l k now _ _ 1 t u hf hv _ (hS.below A1.out) (hj.below A1.out))
  have JI2 := Lib.hid (fun X (hX : Below w.heap.size w X) => show Calls Tryz.prog 71 #[.pointer (some ⟨j, 0, none⟩), .int .i64 2] X (fun e w' => e = .returned (.int .i64 x) ∧ Below X.heap.size X w') from JInt_ok j bS now _ _ [⟨#[71, 69, 84, 82, 65, 78, 71, 69]⟩, k, a, b] 2 _ x hxz hxp rfl X (hj.below hX) (hA0.below hX))
  have JI3 := Lib.hid (fun X (hX : Below w.heap.size w X) => show Calls Tryz.prog 71 #[.pointer (some ⟨j, 0, none⟩), .int .i64 3] X (fun e w' => e = .returned (.int .i64 y) ∧ Below X.heap.size X w') from JInt_ok j bS now _ _ [⟨#[71, 69, 84, 82, 65, 78, 71, 69]⟩, k, a, b] 3 _ y hyz hyp rfl X (hj.below hX) (hA0.below hX))
  have SP := Lib.hid (fun X (_ : Below w.heap.size w X) => Span_yes x y t.size hx hy (by omega) hs X)
  obtain ⟨pa, hpa⟩ : ∃ p : Nat, spA x (t.size : Int) = (p : Int) := ⟨(spA x (t.size : Int)).toNat, by have := spA_pos x t.size; omega⟩
  obtain ⟨pc, hpc⟩ : ∃ p : Nat, spC y (t.size : Int) + 1 = (p : Int) := ⟨(spC y (t.size : Int) + 1).toNat, by omega⟩
  have hle : pa ≤ pc := by omega
  have hub : pc ≤ t.size := by have := spC_le y t.size; omega
  rw [hpa, hpc] at SP
  have bp1 : (pa : Int) ≤ (pc : Int) := by omega
  have bp2 : (pc : Int) ≤ (t.size : Int) := by omega
  have CS := Lib.hid (fun X (_ : Below w.heap.size w X) => Bulk67 (t.extract pa pc) X)
  have hsl := slice_at t pa pc hle hub
  have y2 := (cj.out _ A1.out).1
  have z1 := ca1.out _ A1.out
  clear hS hj hc p3 hf hA0 hxp hyp hs
  go_enter Tryz.func41, Tryz.ntmps41
  go_wp2_with (first | (go_at_call 65; (with_reducible refine (G.out).mono ?_); rintro e w1 ⟨rfl, h1⟩; have B1 := Lib.hid (A1.out.trans (h1.mono (Below.size A1.out))); have R1 := Lib.hid (blk_below hr.out h1); clear h1; refine Hid.out ?_))
  refine Lib.hid ?_
  clear y2 z1
  have BX := Lib.hid (show Below w.heap.size w (w1.alloc (.cells #[.string k, .int .i64 1, .string t, .slice none 0 0, .slice none 0 0, .slice none 0 0, .slice none 0 0, .int .i64 u] 33)) from B1.out.trans (alloc_old.mono (Below.size B1.out)))
  have oX := Lib.hid (heap_alloc_new w1 (.cells #[.string k, .int .i64 1, .string t, .slice none 0 0, .slice none 0 0, .slice none 0 0, .slice none 0 0, .int .i64 u] 33))
  have RX := Lib.hid (blk_below R1.out (alloc_old (o := .cells #[.string k, .int .i64 1, .string t, .slice none 0 0, .slice none 0 0, .slice none 0 0, .slice none 0 0, .int .i64 u] 33)))
  obtain ⟨⟨g0, g1, g2, g3, g4, g5, g6, g7⟩, _, gz⟩ := cells8 oX.out
  go_wp2_with (first | (go_at_call 71; (with_reducible refine (JI2.out _ BX.out).mono ?_); rintro e w3 ⟨rfl, hh⟩; have RX := Lib.hid (blk_below RX.out hh); have BX := Lib.hid (BX.out.trans (hh.mono (Below.size BX.out))); clear hh) | (go_at_call 71; (with_reducible refine (JI3.out _ BX.out).mono ?_); rintro e w4 ⟨rfl, hh⟩; have RX := Lib.hid (blk_below RX.out hh); have BX := Lib.hid (BX.out.trans (hh.mono (Below.size BX.out))); clear hh) | (go_at_call 80; (with_reducible refine (SP.out _ BX.out).mono ?_); rintro e w5 ⟨rfl, hh⟩; have RX := Lib.hid (blk_below RX.out hh); have BX := Lib.hid (BX.out.trans (hh.mono (Below.size BX.out))); clear hh) | (go_at_call 67; (with_reducible refine (CS.out _ BX.out).mono ?_); rintro e w6 ⟨rfl, hh⟩; have RX := Lib.hid (blk_below RX.out hh); have BX := Lib.hid (BX.out.trans (hh.mono (Below.size BX.out))); clear hh; obtain ⟨⟨c0, c1, c2, c3⟩, ⟨f0, f1, f2, f3⟩⟩ := cells4 RX.out))
  have e1 : (spA x (t.size : Int)).toNat = pa := by omega
  have e2 : (spC y (t.size : Int) + 1).toNat = pc := by omega
  rw [e1, e2]
  exact bodyPost_ret (v := .agg #[.int .i64 4, .int .i64 0, .string (t.extract pa pc), .slice none 0 0]) (by simp [results, Tryz.results41, go_sem, c0, c1, c2, c3]) rfl (read_end HJ.out ((((BX.out.setCell (Nat.le_refl _) _).setCell (Nat.le_refl _) _).setCell (Nat.le_refl _) _).setCell (Nat.le_refl _) _))
set_option maxRecDepth 100000 in
set_option maxHeartbeats 4000000 in
theorem part_no (W0 : World) (bS bM : Nat) (l : MapT.Ents) (now : Int) (k a b : ByteArray) (x y : Int) (hxz : a.size ≤ 100000) (hyz : b.size ≤ 100000) (hxp : parseI a.data.toList = some x) (hyp : parseI b.data.toList = some y) (hx : -1000000000 ≤ x ∧ x ≤ 1000000000) (hy : -1000000000 ≤ y ∧ y ≤ 1000000000) (t : ByteArray) (u : Int) (hts : t.size ≤ 100000) (hf : MapT.find k l = some (.agg #[.string k, .int .i64 1, .string t, .slice none 0 0, .slice none 0 0, .slice none 0 0, .slice none 0 0, .int .i64 u])) (hv : Lives u now) (hs : spC y (t.size : Int) < spA x (t.size : Int)) : CmdOk W0 41 bS bM l now [⟨#[71, 69, 84, 82, 65, 78, 71, 69]⟩, k, a, b] 4 0 ⟨#[]⟩ R0 [] := by
  intro w j vA _ hS hj hA
  have A1 := Lib.hid (alloc_old (w := w) (o := .cells #[.int .i64 0, .int .i64 0, .string ⟨#[]⟩, .slice none 0 0] 37))
  have hr := Lib.hid (heap_alloc_new w (.cells #[.int .i64 0, .int .i64 0, .string ⟨#[]⟩, .slice none 0 0] 37))
  obtain ⟨aA, cap, hv, p1, p2, p3⟩ := hA
  replace hv : vA = .slice aA 4 cap := hv
  subst hv
  replace p1 : 4 ≤ cap := p1
  obtain ⟨blk, off, rfl, hblt, hc⟩ := p3 (by simp)
  have ca1 := Lib.hid (show ∀ Y, Below w.heap.size w Y → Y.cell? ⟨blk, off + 1, none⟩ = some (.string k) from fun Y hb => (hb.cell (p := ⟨blk, off + 1, none⟩) hblt).trans (hc 1 _ rfl))
  have cj := Lib.hid (show ∀ Y, Below w.heap.size w Y → Y.cell? ⟨j, 2, none⟩ = some (.slice (some ⟨blk, off, none⟩) 4 cap) ∧ Y.cell? ⟨j, 1, none⟩ = some (.int .i64 now) from fun Y hb => ⟨(hj.below hb).cells.2.2.1, (hj.below hb).cells.2.1⟩)
  have HJ := Lib.hid hj
  have hA0 : SSl w (.slice (some ⟨blk, off, none⟩) 4 cap) [⟨#[71, 69, 84, 82, 65, 78, 71, 69]⟩, k, a, b] := ⟨_, _, rfl, p1, p2, fun _ => ⟨blk, off, rfl, hblt, hc⟩⟩
  have i1 : (1 : Int) < 4 := by decide
  have G := Lib.hid (Of_yes bS bM j l k now _ _ 1 t u hf hv _ (hS.below A1.out) (hj.below A1.out))
  have JI2 := Lib.hid (fun X (hX : Below w.heap.size w X) => show Calls Tryz.prog 71 #[.pointer (some ⟨j, 0, none⟩), .int .i64 2] X (fun e w' => e = .returned (.int .i64 x) ∧ Below X.heap.size X w') from JInt_ok j bS now _ _ [⟨#[71, 69, 84, 82, 65, 78, 71, 69]⟩, k, a, b] 2 _ x hxz hxp rfl X (hj.below hX) (hA0.below hX))
  have JI3 := Lib.hid (fun X (hX : Below w.heap.size w X) => show Calls Tryz.prog 71 #[.pointer (some ⟨j, 0, none⟩), .int .i64 3] X (fun e w' => e = .returned (.int .i64 y) ∧ Below X.heap.size X w') from JInt_ok j bS now _ _ [⟨#[71, 69, 84, 82, 65, 78, 71, 69]⟩, k, a, b] 3 _ y hyz hyp rfl X (hj.below hX) (hA0.below hX))
  have SP := Lib.hid (fun X (_ : Below w.heap.size w X) => Span_no x y t.size hx hy (by omega) hs X)
  have CS := Lib.hid (fun X (_ : Below w.heap.size w X) => Bulk67 ⟨#[]⟩ X)
  have y2 := (cj.out _ A1.out).1
  have z1 := ca1.out _ A1.out
  clear hS hj hc p3 hf hA0 hxp hyp hs
  go_enter Tryz.func41, Tryz.ntmps41
  go_wp2_with (first | (go_at_call 65; (with_reducible refine (G.out).mono ?_); rintro e w1 ⟨rfl, h1⟩; have B1 := Lib.hid (A1.out.trans (h1.mono (Below.size A1.out))); have R1 := Lib.hid (blk_below hr.out h1); clear h1; refine Hid.out ?_))
  refine Lib.hid ?_
  clear y2 z1
  have BX := Lib.hid (show Below w.heap.size w (w1.alloc (.cells #[.string k, .int .i64 1, .string t, .slice none 0 0, .slice none 0 0, .slice none 0 0, .slice none 0 0, .int .i64 u] 33)) from B1.out.trans (alloc_old.mono (Below.size B1.out)))
  have oX := Lib.hid (heap_alloc_new w1 (.cells #[.string k, .int .i64 1, .string t, .slice none 0 0, .slice none 0 0, .slice none 0 0, .slice none 0 0, .int .i64 u] 33))
  have RX := Lib.hid (blk_below R1.out (alloc_old (o := .cells #[.string k, .int .i64 1, .string t, .slice none 0 0, .slice none 0 0, .slice none 0 0, .slice none 0 0, .int .i64 u] 33)))
  obtain ⟨⟨g0, g1, g2, g3, g4, g5, g6, g7⟩, _, gz⟩ := cells8 oX.out
  go_wp2_with (first | (go_at_call 71; (with_reducible refine (JI2.out _ BX.out).mono ?_); rintro e w3 ⟨rfl, hh⟩; have RX := Lib.hid (blk_below RX.out hh); have BX := Lib.hid (BX.out.trans (hh.mono (Below.size BX.out))); clear hh) | (go_at_call 71; (with_reducible refine (JI3.out _ BX.out).mono ?_); rintro e w4 ⟨rfl, hh⟩; have RX := Lib.hid (blk_below RX.out hh); have BX := Lib.hid (BX.out.trans (hh.mono (Below.size BX.out))); clear hh) | (go_at_call 80; (with_reducible refine (SP.out _ BX.out).mono ?_); rintro e w5 ⟨rfl, hh⟩; have RX := Lib.hid (blk_below RX.out hh); have BX := Lib.hid (BX.out.trans (hh.mono (Below.size BX.out))); clear hh) | (go_at_call 67; (with_reducible refine (CS.out _ BX.out).mono ?_); rintro e w6 ⟨rfl, hh⟩; have RX := Lib.hid (blk_below RX.out hh); have BX := Lib.hid (BX.out.trans (hh.mono (Below.size BX.out))); clear hh; obtain ⟨⟨c0, c1, c2, c3⟩, ⟨f0, f1, f2, f3⟩⟩ := cells4 RX.out))
  exact bodyPost_ret (v := .agg #[.int .i64 4, .int .i64 0, .string ⟨#[]⟩, .slice none 0 0]) (by simp [results, Tryz.results41, go_sem, c0, c1, c2, c3]) rfl (read_end HJ.out ((((BX.out.setCell (Nat.le_refl _) _).setCell (Nat.le_refl _) _).setCell (Nat.le_refl _) _).setCell (Nat.le_refl _) _))
set_option maxRecDepth 100000 in
set_option maxHeartbeats 4000000 in
theorem part_none (W0 : World) (bS bM : Nat) (l : MapT.Ents) (now : Int) (k a b : ByteArray) (x y : Int) (hxz : a.size ≤ 100000) (hyz : b.size ≤ 100000) (hxp : parseI a.data.toList = some x) (hyp : parseI b.data.toList = some y) (hx : -1000000000 ≤ x ∧ x ≤ 1000000000) (hy : -1000000000 ≤ y ∧ y ≤ 1000000000) (hf : MapT.find k l = none) (hs : spC y ((0 : Nat) : Int) < spA x ((0 : Nat) : Int)) : CmdOk W0 41 bS bM l now [⟨#[71, 69, 84, 82, 65, 78, 71, 69]⟩, k, a, b] 4 0 ⟨#[]⟩ R0 [] := by
  intro w j vA _ hS hj hA
  have A1 := Lib.hid (alloc_old (w := w) (o := .cells #[.int .i64 0, .int .i64 0, .string ⟨#[]⟩, .slice none 0 0] 37))
  have hr := Lib.hid (heap_alloc_new w (.cells #[.int .i64 0, .int .i64 0, .string ⟨#[]⟩, .slice none 0 0] 37))
  obtain ⟨aA, cap, hv, p1, p2, p3⟩ := hA
  replace hv : vA = .slice aA 4 cap := hv
  subst hv
  replace p1 : 4 ≤ cap := p1
  obtain ⟨blk, off, rfl, hblt, hc⟩ := p3 (by simp)
  have ca1 := Lib.hid (show ∀ Y, Below w.heap.size w Y → Y.cell? ⟨blk, off + 1, none⟩ = some (.string k) from fun Y hb => (hb.cell (p := ⟨blk, off + 1, none⟩) hblt).trans (hc 1 _ rfl))
  have cj := Lib.hid (show ∀ Y, Below w.heap.size w Y → Y.cell? ⟨j, 2, none⟩ = some (.slice (some ⟨blk, off, none⟩) 4 cap) ∧ Y.cell? ⟨j, 1, none⟩ = some (.int .i64 now) from fun Y hb => ⟨(hj.below hb).cells.2.2.1, (hj.below hb).cells.2.1⟩)
  have HJ := Lib.hid hj
  have hA0 : SSl w (.slice (some ⟨blk, off, none⟩) 4 cap) [⟨#[71, 69, 84, 82, 65, 78, 71, 69]⟩, k, a, b] := ⟨_, _, rfl, p1, p2, fun _ => ⟨blk, off, rfl, hblt, hc⟩⟩
  have i1 : (1 : Int) < 4 := by decide
  have G := Lib.hid (Of_no bS bM j l k now _ _ 1 hf _ (hS.below A1.out) (hj.below A1.out))
  have JI2 := Lib.hid (fun X (hX : Below w.heap.size w X) => show Calls Tryz.prog 71 #[.pointer (some ⟨j, 0, none⟩), .int .i64 2] X (fun e w' => e = .returned (.int .i64 x) ∧ Below X.heap.size X w') from JInt_ok j bS now _ _ [⟨#[71, 69, 84, 82, 65, 78, 71, 69]⟩, k, a, b] 2 _ x hxz hxp rfl X (hj.below hX) (hA0.below hX))
  have JI3 := Lib.hid (fun X (hX : Below w.heap.size w X) => show Calls Tryz.prog 71 #[.pointer (some ⟨j, 0, none⟩), .int .i64 3] X (fun e w' => e = .returned (.int .i64 y) ∧ Below X.heap.size X w') from JInt_ok j bS now _ _ [⟨#[71, 69, 84, 82, 65, 78, 71, 69]⟩, k, a, b] 3 _ y hyz hyp rfl X (hj.below hX) (hA0.below hX))
  have SP := Lib.hid (fun X (_ : Below w.heap.size w X) => show Calls Tryz.prog 80 #[.int .i64 x, .int .i64 y, .int .i64 0] X (fun e w' => e = .returned (.tuple #[.int .i64 0, .int .i64 0, .bool false]) ∧ Below X.heap.size X w') from Span_no x y 0 hx hy (by omega) hs X)
  have CS := Lib.hid (fun X (_ : Below w.heap.size w X) => Bulk67 ⟨#[]⟩ X)
  have y2 := (cj.out _ A1.out).1
  have z1 := ca1.out _ A1.out
  clear hS hj hc p3 hf hA0 hxp hyp hs
  go_enter Tryz.func41, Tryz.ntmps41
  go_wp2_with (first | (go_at_call 65; (with_reducible refine (G.out).mono ?_); rintro e w1 ⟨rfl, h1⟩; have B1 := Lib.hid (A1.out.trans (h1.mono (Below.size A1.out))); have R1 := Lib.hid (blk_below hr.out h1); clear h1; refine Hid.out ?_))
  refine Lib.hid ?_
  clear y2 z1
  have BX := Lib.hid (show Below w.heap.size w (w1.alloc (.cells #[.string k, .int .i64 1, .string ⟨#[]⟩, .slice none 0 0, .slice none 0 0, .slice none 0 0, .slice none 0 0, .int .i64 0] 33)) from B1.out.trans (alloc_old.mono (Below.size B1.out)))
  have oX := Lib.hid (heap_alloc_new w1 (.cells #[.string k, .int .i64 1, .string ⟨#[]⟩, .slice none 0 0, .slice none 0 0, .slice none 0 0, .slice none 0 0, .int .i64 0] 33))
  have RX := Lib.hid (blk_below R1.out (alloc_old (o := .cells #[.string k, .int .i64 1, .string ⟨#[]⟩, .slice none 0 0, .slice none 0 0, .slice none 0 0, .slice none 0 0, .int .i64 0] 33)))
  obtain ⟨⟨g0, g1, g2, g3, g4, g5, g6, g7⟩, _, gz⟩ := cells8 oX.out
  go_wp2_with (first | (go_at_call 71; (with_reducible refine (JI2.out _ BX.out).mono ?_); rintro e w3 ⟨rfl, hh⟩; have RX := Lib.hid (blk_below RX.out hh); have BX := Lib.hid (BX.out.trans (hh.mono (Below.size BX.out))); clear hh) | (go_at_call 71; (with_reducible refine (JI3.out _ BX.out).mono ?_); rintro e w4 ⟨rfl, hh⟩; have RX := Lib.hid (blk_below RX.out hh); have BX := Lib.hid (BX.out.trans (hh.mono (Below.size BX.out))); clear hh) | (go_at_call 80; (with_reducible refine (SP.out _ BX.out).mono ?_); rintro e w5 ⟨rfl, hh⟩; have RX := Lib.hid (blk_below RX.out hh); have BX := Lib.hid (BX.out.trans (hh.mono (Below.size BX.out))); clear hh) | (go_at_call 67; (with_reducible refine (CS.out _ BX.out).mono ?_); rintro e w6 ⟨rfl, hh⟩; have RX := Lib.hid (blk_below RX.out hh); have BX := Lib.hid (BX.out.trans (hh.mono (Below.size BX.out))); clear hh; obtain ⟨⟨c0, c1, c2, c3⟩, ⟨f0, f1, f2, f3⟩⟩ := cells4 RX.out))
  exact bodyPost_ret (v := .agg #[.int .i64 4, .int .i64 0, .string ⟨#[]⟩, .slice none 0 0]) (by simp [results, Tryz.results41, go_sem, c0, c1, c2, c3]) rfl (read_end HJ.out ((((BX.out.setCell (Nat.le_refl _) _).setCell (Nat.le_refl _) _).setCell (Nat.le_refl _) _).setCell (Nat.le_refl _) _))
end Go.Proofs.YtaomiglmahklfaaGreatDoor
