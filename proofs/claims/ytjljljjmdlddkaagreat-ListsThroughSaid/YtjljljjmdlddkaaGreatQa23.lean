/- Texts joined: G13, G14, L9 -/
import Derived.Test.YtjljljjmdlddkaaGreatQa5
import Derived.Test.YtjljljjmdlddkaaGreatQa11
import Derived.Deep.AppendLies
import Derived.Test.YtjljljjmdlddkaaGreatQa22

/- job.Span at any places. -/
namespace Go.Proofs.YtjljljjmdlddkaaGreat
open Go.ChangeShapes Go.WideShapes Go.ChangeAt Go.RowKit

/-- The place from which a part goes. -/
def spA (i n : Int) : Int := if i < 0 then max i (-n) + n else i
/-- The place up to which it goes. -/
def spC (j n : Int) : Int := min (if j < 0 then max j (-n - 1) + n else j) (n - 1)
set_option maxHeartbeats 2000000 in
theorem Span_yes (i j : Int) (n : Nat) (hi : -1000000000 ≤ i ∧ i ≤ 1000000000) (hj : -1000000000 ≤ j ∧ j ≤ 1000000000) (hn : n ≤ 1000000) (h : spA i n ≤ spC j n) (w : World) : Calls Tryz.prog 77 #[.int .i64 i, .int .i64 j, .int .i64 n] w fun e w' => e = .returned (.tuple #[.int .i64 (spA i n), .int .i64 (spC j n + 1), .bool true]) ∧ Below w.heap.size w w' := by
  have w1 : wrap64 (-(n : Int)) = -(n : Int) := IntWalk.wrap64_in _ (by omega)
  have w2 : wrap64 (-(n : Int) - 1) = -(n : Int) - 1 := IntWalk.wrap64_in _ (by omega)
  have w3 : wrap64 ((n : Int) - 1) = (n : Int) - 1 := IntWalk.wrap64_in _ (by omega)
  have w4 : wrap64 (-(n : Int) + (n : Int)) = 0 := (IntWalk.wrap64_in _ (by omega)).trans (by omega)
  have w5 : wrap64 (-(n : Int) - 1 + (n : Int)) = -1 := (IntWalk.wrap64_in _ (by omega)).trans (by omega)
  have w6 : wrap64 (i + (n : Int)) = i + (n : Int) := IntWalk.wrap64_in _ (by omega)
  have w7 : wrap64 (j + (n : Int)) = j + (n : Int) := IntWalk.wrap64_in _ (by omega)
  have w8 : wrap64 (j + (n : Int) + 1) = j + (n : Int) + 1 := IntWalk.wrap64_in _ (by omega)
  have w9 : wrap64 (j + 1) = j + 1 := IntWalk.wrap64_in _ (by omega)
  have w10 : wrap64 ((n : Int) - 1 + 1) = n := (IntWalk.wrap64_in _ (by omega)).trans (by omega)
  have SI : ¬ i < 0 ∨ (i < 0 ∧ i < -(n : Int)) ∨ (i < 0 ∧ ¬ i < -(n : Int)) := by omega
  have SJ : ¬ j < 0 ∨ (j < 0 ∧ j < -(n : Int) - 1) ∨ (j < 0 ∧ ¬ j < -(n : Int) - 1) := by omega
  rcases SI with si | si | si
  · have a1 : ¬ i < 0 := si
    have hA : spA i n = i := by unfold spA; split <;> omega
    rcases SJ with sj | sj | sj
    · have b1 : ¬ j < 0 := sj
      by_cases sc : (n : Int) - 1 < j
      · have hc : spC j n = (n : Int) - 1 := by unfold spC; split <;> omega
        rw [hA, hc] at h ⊢
        have ht : ¬ (n : Int) - 1 < i := by omega
        clear hA hc h si sj hi hj
        go_enter Tryz.func77, Tryz.ntmps77
        go_wp2
        all_goals (go_ret3; exact ⟨by simp <;> omega, Below.refl _ _⟩)
      · have hc : spC j n = j := by unfold spC; split <;> omega
        rw [hA, hc] at h ⊢
        have ht : ¬ j < i := by omega
        clear hA hc h si sj hi hj
        go_enter Tryz.func77, Tryz.ntmps77
        go_wp2
        all_goals (go_ret3; exact ⟨by simp <;> omega, Below.refl _ _⟩)
    · have b1 : j < 0 := sj.1
      have b2 : j < -(n : Int) - 1 := sj.2
      by_cases sc : (n : Int) - 1 < (-1)
      · have hc : spC j n = (n : Int) - 1 := by unfold spC; split <;> omega
        rw [hA, hc] at h ⊢
        have ht : ¬ (n : Int) - 1 < i := by omega
        clear hA hc h si sj hi hj
        go_enter Tryz.func77, Tryz.ntmps77
        go_wp2
        all_goals (go_ret3; exact ⟨by simp <;> omega, Below.refl _ _⟩)
      · have hc : spC j n = (-1) := by unfold spC; split <;> omega
        rw [hA, hc] at h ⊢
        have ht : ¬ (-1) < i := by omega
        clear hA hc h si sj hi hj
        go_enter Tryz.func77, Tryz.ntmps77
        go_wp2
        all_goals (go_ret3; exact ⟨by simp <;> omega, Below.refl _ _⟩)
    · have b1 : j < 0 := sj.1
      have b2 : ¬ j < -(n : Int) - 1 := sj.2
      by_cases sc : (n : Int) - 1 < (j + (n : Int))
      · have hc : spC j n = (n : Int) - 1 := by unfold spC; split <;> omega
        rw [hA, hc] at h ⊢
        have ht : ¬ (n : Int) - 1 < i := by omega
        clear hA hc h si sj hi hj
        go_enter Tryz.func77, Tryz.ntmps77
        go_wp2
        all_goals (go_ret3; exact ⟨by simp <;> omega, Below.refl _ _⟩)
      · have hc : spC j n = (j + (n : Int)) := by unfold spC; split <;> omega
        rw [hA, hc] at h ⊢
        have ht : ¬ (j + (n : Int)) < i := by omega
        clear hA hc h si sj hi hj
        go_enter Tryz.func77, Tryz.ntmps77
        go_wp2
        all_goals (go_ret3; exact ⟨by simp <;> omega, Below.refl _ _⟩)
  · have a1 : i < 0 := si.1
    have a2 : i < -(n : Int) := si.2
    have hA : spA i n = 0 := by unfold spA; split <;> omega
    rcases SJ with sj | sj | sj
    · have b1 : ¬ j < 0 := sj
      by_cases sc : (n : Int) - 1 < j
      · have hc : spC j n = (n : Int) - 1 := by unfold spC; split <;> omega
        rw [hA, hc] at h ⊢
        have ht : ¬ (n : Int) - 1 < 0 := by omega
        clear hA hc h si sj hi hj
        go_enter Tryz.func77, Tryz.ntmps77
        go_wp2
        all_goals (go_ret3; exact ⟨by simp <;> omega, Below.refl _ _⟩)
      · have hc : spC j n = j := by unfold spC; split <;> omega
        rw [hA, hc] at h ⊢
        have ht : ¬ j < 0 := by omega
        clear hA hc h si sj hi hj
        go_enter Tryz.func77, Tryz.ntmps77
        go_wp2
        all_goals (go_ret3; exact ⟨by simp <;> omega, Below.refl _ _⟩)
    · have b1 : j < 0 := sj.1
      have b2 : j < -(n : Int) - 1 := sj.2
      by_cases sc : (n : Int) - 1 < (-1)
      · have hc : spC j n = (n : Int) - 1 := by unfold spC; split <;> omega
        rw [hA, hc] at h ⊢
        have ht : ¬ (n : Int) - 1 < 0 := by omega
        clear hA hc h si sj hi hj
        go_enter Tryz.func77, Tryz.ntmps77
        go_wp2
        all_goals (go_ret3; exact ⟨by simp <;> omega, Below.refl _ _⟩)
      · have hc : spC j n = (-1) := by unfold spC; split <;> omega
        rw [hA, hc] at h ⊢
        have ht : ¬ (-1) < 0 := by omega
        clear hA hc h si sj hi hj
        go_enter Tryz.func77, Tryz.ntmps77
        go_wp2
        all_goals (go_ret3; exact ⟨by simp <;> omega, Below.refl _ _⟩)
    · have b1 : j < 0 := sj.1
      have b2 : ¬ j < -(n : Int) - 1 := sj.2
      by_cases sc : (n : Int) - 1 < (j + (n : Int))
      · have hc : spC j n = (n : Int) - 1 := by unfold spC; split <;> omega
        rw [hA, hc] at h ⊢
        have ht : ¬ (n : Int) - 1 < 0 := by omega
        clear hA hc h si sj hi hj
        go_enter Tryz.func77, Tryz.ntmps77
        go_wp2
        all_goals (go_ret3; exact ⟨by simp <;> omega, Below.refl _ _⟩)
      · have hc : spC j n = (j + (n : Int)) := by unfold spC; split <;> omega
        rw [hA, hc] at h ⊢
        have ht : ¬ (j + (n : Int)) < 0 := by omega
        clear hA hc h si sj hi hj
        go_enter Tryz.func77, Tryz.ntmps77
        go_wp2
        all_goals (go_ret3; exact ⟨by simp <;> omega, Below.refl _ _⟩)
  · have a1 : i < 0 := si.1
    have a2 : ¬ i < -(n : Int) := si.2
    have hA : spA i n = i + (n : Int) := by unfold spA; split <;> omega
    rcases SJ with sj | sj | sj
    · have b1 : ¬ j < 0 := sj
      by_cases sc : (n : Int) - 1 < j
      · have hc : spC j n = (n : Int) - 1 := by unfold spC; split <;> omega
        rw [hA, hc] at h ⊢
        have ht : ¬ (n : Int) - 1 < i + (n : Int) := by omega
        clear hA hc h si sj hi hj
        go_enter Tryz.func77, Tryz.ntmps77
        go_wp2
        all_goals (go_ret3; exact ⟨by simp <;> omega, Below.refl _ _⟩)
      · have hc : spC j n = j := by unfold spC; split <;> omega
        rw [hA, hc] at h ⊢
        have ht : ¬ j < i + (n : Int) := by omega
        clear hA hc h si sj hi hj
        go_enter Tryz.func77, Tryz.ntmps77
        go_wp2
        all_goals (go_ret3; exact ⟨by simp <;> omega, Below.refl _ _⟩)
    · have b1 : j < 0 := sj.1
      have b2 : j < -(n : Int) - 1 := sj.2
      by_cases sc : (n : Int) - 1 < (-1)
      · have hc : spC j n = (n : Int) - 1 := by unfold spC; split <;> omega
        rw [hA, hc] at h ⊢
        have ht : ¬ (n : Int) - 1 < i + (n : Int) := by omega
        clear hA hc h si sj hi hj
        go_enter Tryz.func77, Tryz.ntmps77
        go_wp2
        all_goals (go_ret3; exact ⟨by simp <;> omega, Below.refl _ _⟩)
      · have hc : spC j n = (-1) := by unfold spC; split <;> omega
        rw [hA, hc] at h ⊢
        have ht : ¬ (-1) < i + (n : Int) := by omega
        clear hA hc h si sj hi hj
        go_enter Tryz.func77, Tryz.ntmps77
        go_wp2
        all_goals (go_ret3; exact ⟨by simp <;> omega, Below.refl _ _⟩)
    · have b1 : j < 0 := sj.1
      have b2 : ¬ j < -(n : Int) - 1 := sj.2
      by_cases sc : (n : Int) - 1 < (j + (n : Int))
      · have hc : spC j n = (n : Int) - 1 := by unfold spC; split <;> omega
        rw [hA, hc] at h ⊢
        have ht : ¬ (n : Int) - 1 < i + (n : Int) := by omega
        clear hA hc h si sj hi hj
        go_enter Tryz.func77, Tryz.ntmps77
        go_wp2
        all_goals (go_ret3; exact ⟨by simp <;> omega, Below.refl _ _⟩)
      · have hc : spC j n = (j + (n : Int)) := by unfold spC; split <;> omega
        rw [hA, hc] at h ⊢
        have ht : ¬ (j + (n : Int)) < i + (n : Int) := by omega
        clear hA hc h si sj hi hj
        go_enter Tryz.func77, Tryz.ntmps77
        go_wp2
        all_goals (go_ret3; exact ⟨by simp <;> omega, Below.refl _ _⟩)
set_option maxHeartbeats 2000000 in
theorem Span_no (i j : Int) (n : Nat) (hi : -1000000000 ≤ i ∧ i ≤ 1000000000) (hj : -1000000000 ≤ j ∧ j ≤ 1000000000) (hn : n ≤ 1000000) (h : spC j n < spA i n) (w : World) : Calls Tryz.prog 77 #[.int .i64 i, .int .i64 j, .int .i64 n] w fun e w' => e = .returned (.tuple #[.int .i64 0, .int .i64 0, .bool false]) ∧ Below w.heap.size w w' := by
  have w1 : wrap64 (-(n : Int)) = -(n : Int) := IntWalk.wrap64_in _ (by omega)
  have w2 : wrap64 (-(n : Int) - 1) = -(n : Int) - 1 := IntWalk.wrap64_in _ (by omega)
  have w3 : wrap64 ((n : Int) - 1) = (n : Int) - 1 := IntWalk.wrap64_in _ (by omega)
  have w4 : wrap64 (-(n : Int) + (n : Int)) = 0 := (IntWalk.wrap64_in _ (by omega)).trans (by omega)
  have w5 : wrap64 (-(n : Int) - 1 + (n : Int)) = -1 := (IntWalk.wrap64_in _ (by omega)).trans (by omega)
  have w6 : wrap64 (i + (n : Int)) = i + (n : Int) := IntWalk.wrap64_in _ (by omega)
  have w7 : wrap64 (j + (n : Int)) = j + (n : Int) := IntWalk.wrap64_in _ (by omega)
  have w8 : wrap64 (j + (n : Int) + 1) = j + (n : Int) + 1 := IntWalk.wrap64_in _ (by omega)
  have w9 : wrap64 (j + 1) = j + 1 := IntWalk.wrap64_in _ (by omega)
  have w10 : wrap64 ((n : Int) - 1 + 1) = n := (IntWalk.wrap64_in _ (by omega)).trans (by omega)
  have SI : ¬ i < 0 ∨ (i < 0 ∧ i < -(n : Int)) ∨ (i < 0 ∧ ¬ i < -(n : Int)) := by omega
  have SJ : ¬ j < 0 ∨ (j < 0 ∧ j < -(n : Int) - 1) ∨ (j < 0 ∧ ¬ j < -(n : Int) - 1) := by omega
  rcases SI with si | si | si
  · have a1 : ¬ i < 0 := si
    have hA : spA i n = i := by unfold spA; split <;> omega
    rcases SJ with sj | sj | sj
    · have b1 : ¬ j < 0 := sj
      by_cases sc : (n : Int) - 1 < j
      · have hc : spC j n = (n : Int) - 1 := by unfold spC; split <;> omega
        rw [hA, hc] at h
        have ht : (n : Int) - 1 < i := by omega
        clear hA hc h si sj hi hj
        go_enter Tryz.func77, Tryz.ntmps77
        go_wp2
        all_goals (go_ret3; exact ⟨by simp, Below.refl _ _⟩)
      · have hc : spC j n = j := by unfold spC; split <;> omega
        rw [hA, hc] at h
        have ht : j < i := by omega
        clear hA hc h si sj hi hj
        go_enter Tryz.func77, Tryz.ntmps77
        go_wp2
        all_goals (go_ret3; exact ⟨by simp, Below.refl _ _⟩)
    · have b1 : j < 0 := sj.1
      have b2 : j < -(n : Int) - 1 := sj.2
      by_cases sc : (n : Int) - 1 < (-1)
      · have hc : spC j n = (n : Int) - 1 := by unfold spC; split <;> omega
        rw [hA, hc] at h
        have ht : (n : Int) - 1 < i := by omega
        clear hA hc h si sj hi hj
        go_enter Tryz.func77, Tryz.ntmps77
        go_wp2
        all_goals (go_ret3; exact ⟨by simp, Below.refl _ _⟩)
      · have hc : spC j n = (-1) := by unfold spC; split <;> omega
        rw [hA, hc] at h
        have ht : (-1) < i := by omega
        clear hA hc h si sj hi hj
        go_enter Tryz.func77, Tryz.ntmps77
        go_wp2
        all_goals (go_ret3; exact ⟨by simp, Below.refl _ _⟩)
    · have b1 : j < 0 := sj.1
      have b2 : ¬ j < -(n : Int) - 1 := sj.2
      by_cases sc : (n : Int) - 1 < (j + (n : Int))
      · have hc : spC j n = (n : Int) - 1 := by unfold spC; split <;> omega
        rw [hA, hc] at h
        have ht : (n : Int) - 1 < i := by omega
        clear hA hc h si sj hi hj
        go_enter Tryz.func77, Tryz.ntmps77
        go_wp2
        all_goals (go_ret3; exact ⟨by simp, Below.refl _ _⟩)
      · have hc : spC j n = (j + (n : Int)) := by unfold spC; split <;> omega
        rw [hA, hc] at h
        have ht : (j + (n : Int)) < i := by omega
        clear hA hc h si sj hi hj
        go_enter Tryz.func77, Tryz.ntmps77
        go_wp2
        all_goals (go_ret3; exact ⟨by simp, Below.refl _ _⟩)
  · have a1 : i < 0 := si.1
    have a2 : i < -(n : Int) := si.2
    have hA : spA i n = 0 := by unfold spA; split <;> omega
    rcases SJ with sj | sj | sj
    · have b1 : ¬ j < 0 := sj
      by_cases sc : (n : Int) - 1 < j
      · have hc : spC j n = (n : Int) - 1 := by unfold spC; split <;> omega
        rw [hA, hc] at h
        have ht : (n : Int) - 1 < 0 := by omega
        clear hA hc h si sj hi hj
        go_enter Tryz.func77, Tryz.ntmps77
        go_wp2
        all_goals (go_ret3; exact ⟨by simp, Below.refl _ _⟩)
      · have hc : spC j n = j := by unfold spC; split <;> omega
        rw [hA, hc] at h
        have ht : j < 0 := by omega
        clear hA hc h si sj hi hj
        go_enter Tryz.func77, Tryz.ntmps77
        go_wp2
        all_goals (go_ret3; exact ⟨by simp, Below.refl _ _⟩)
    · have b1 : j < 0 := sj.1
      have b2 : j < -(n : Int) - 1 := sj.2
      by_cases sc : (n : Int) - 1 < (-1)
      · have hc : spC j n = (n : Int) - 1 := by unfold spC; split <;> omega
        rw [hA, hc] at h
        have ht : (n : Int) - 1 < 0 := by omega
        clear hA hc h si sj hi hj
        go_enter Tryz.func77, Tryz.ntmps77
        go_wp2
        all_goals (go_ret3; exact ⟨by simp, Below.refl _ _⟩)
      · have hc : spC j n = (-1) := by unfold spC; split <;> omega
        rw [hA, hc] at h
        have ht : (-1) < 0 := by omega
        clear hA hc h si sj hi hj
        go_enter Tryz.func77, Tryz.ntmps77
        go_wp2
        all_goals (go_ret3; exact ⟨by simp, Below.refl _ _⟩)
    · have b1 : j < 0 := sj.1
      have b2 : ¬ j < -(n : Int) - 1 := sj.2
      by_cases sc : (n : Int) - 1 < (j + (n : Int))
      · have hc : spC j n = (n : Int) - 1 := by unfold spC; split <;> omega
        rw [hA, hc] at h
        have ht : (n : Int) - 1 < 0 := by omega
        clear hA hc h si sj hi hj
        go_enter Tryz.func77, Tryz.ntmps77
        go_wp2
        all_goals (go_ret3; exact ⟨by simp, Below.refl _ _⟩)
      · have hc : spC j n = (j + (n : Int)) := by unfold spC; split <;> omega
        rw [hA, hc] at h
        have ht : (j + (n : Int)) < 0 := by omega
        clear hA hc h si sj hi hj
        go_enter Tryz.func77, Tryz.ntmps77
        go_wp2
        all_goals (go_ret3; exact ⟨by simp, Below.refl _ _⟩)
  · have a1 : i < 0 := si.1
    have a2 : ¬ i < -(n : Int) := si.2
    have hA : spA i n = i + (n : Int) := by unfold spA; split <;> omega
    rcases SJ with sj | sj | sj
    · have b1 : ¬ j < 0 := sj
      by_cases sc : (n : Int) - 1 < j
      · have hc : spC j n = (n : Int) - 1 := by unfold spC; split <;> omega
        rw [hA, hc] at h
        have ht : (n : Int) - 1 < i + (n : Int) := by omega
        clear hA hc h si sj hi hj
        go_enter Tryz.func77, Tryz.ntmps77
        go_wp2
        all_goals (go_ret3; exact ⟨by simp, Below.refl _ _⟩)
      · have hc : spC j n = j := by unfold spC; split <;> omega
        rw [hA, hc] at h
        have ht : j < i + (n : Int) := by omega
        clear hA hc h si sj hi hj
        go_enter Tryz.func77, Tryz.ntmps77
        go_wp2
        all_goals (go_ret3; exact ⟨by simp, Below.refl _ _⟩)
    · have b1 : j < 0 := sj.1
      have b2 : j < -(n : Int) - 1 := sj.2
      by_cases sc : (n : Int) - 1 < (-1)
      · have hc : spC j n = (n : Int) - 1 := by unfold spC; split <;> omega
        rw [hA, hc] at h
        have ht : (n : Int) - 1 < i + (n : Int) := by omega
        clear hA hc h si sj hi hj
        go_enter Tryz.func77, Tryz.ntmps77
        go_wp2
        all_goals (go_ret3; exact ⟨by simp, Below.refl _ _⟩)
      · have hc : spC j n = (-1) := by unfold spC; split <;> omega
        rw [hA, hc] at h
        have ht : (-1) < i + (n : Int) := by omega
        clear hA hc h si sj hi hj
        go_enter Tryz.func77, Tryz.ntmps77
        go_wp2
        all_goals (go_ret3; exact ⟨by simp, Below.refl _ _⟩)
    · have b1 : j < 0 := sj.1
      have b2 : ¬ j < -(n : Int) - 1 := sj.2
      by_cases sc : (n : Int) - 1 < (j + (n : Int))
      · have hc : spC j n = (n : Int) - 1 := by unfold spC; split <;> omega
        rw [hA, hc] at h
        have ht : (n : Int) - 1 < i + (n : Int) := by omega
        clear hA hc h si sj hi hj
        go_enter Tryz.func77, Tryz.ntmps77
        go_wp2
        all_goals (go_ret3; exact ⟨by simp, Below.refl _ _⟩)
      · have hc : spC j n = (j + (n : Int)) := by unfold spC; split <;> omega
        rw [hA, hc] at h
        have ht : (j + (n : Int)) < i + (n : Int) := by omega
        clear hA hc h si sj hi hj
        go_enter Tryz.func77, Tryz.ntmps77
        go_wp2
        all_goals (go_ret3; exact ⟨by simp, Below.refl _ _⟩)
end Go.Proofs.YtjljljjmdlddkaaGreat

/- Rows of replies of the call's own. -/
namespace Go.Proofs.YtjljljjmdlddkaaGreat
open Go.ChangeShapes Go.WideShapes Go.ChangeAt Go.RowKit

theorem row_kept {w w' : World} {c : Nat} {e : TypeId} {m : Nat} {v : Value} {n : Nat} {xs : List Value} (h : w.ownsRow c e m v n xs) (hb : ∀ g, v.ownBlock = some g → w'.heap[g]? = w.heap[g]?) : w'.ownsRow c e m v n xs := by
  unfold World.ownsRow at h ⊢
  obtain ⟨h1, h2⟩ := h
  refine ⟨h1, ?_⟩
  rcases h2 with h2 | ⟨g, cap, cur, hv, hg, hh, r⟩
  · exact .inl h2
  · exact .inr ⟨g, cap, cur, hv, hg, by rw [hb g (by rw [hv]; rfl)]; exact hh, r⟩
theorem row_mono {w : World} {c d : Nat} {e : TypeId} {m : Nat} {v : Value} {n : Nat} {xs : List Value} (h : w.ownsRow c e m v n xs) (hd : d ≤ c) : w.ownsRow d e m v n xs := by
  unfold World.ownsRow at h ⊢
  obtain ⟨h1, h2⟩ := h
  refine ⟨h1, ?_⟩
  rcases h2 with h2 | ⟨g, cap, cur, hv, hg, r⟩
  · exact .inl h2
  · exact .inr ⟨g, cap, cur, hv, by omega, r⟩
theorem row_own {w : World} {c : Nat} {e : TypeId} {m : Nat} {v : Value} {n : Nat} {xs : List Value} (h : w.ownsRow c e m v n xs) : ∀ g, v.ownBlock = some g → c ≤ g ∧ g < w.heap.size := by
  intro g hg
  unfold World.ownsRow at h
  obtain ⟨_, ⟨rfl, _⟩ | ⟨g', cap, cur, rfl, h1, h2, _⟩⟩ := h
  · cases hg
  · cases hg
    exact ⟨h1, (Array.getElem?_eq_some_iff.1 h2).1⟩
theorem row_below {w w' : World} {c : Nat} {e : TypeId} {m : Nat} {v : Value} {n : Nat} {xs : List Value} (h : w.ownsRow c e m v n xs) (hb : Below w.heap.size w w') : w'.ownsRow c e m v n xs :=
  row_kept h (fun g hg => hb.block g (row_own h g hg).2)
/-- A row's cells. -/
theorem row_cell {w : World} {c : Nat} {e : TypeId} {m g n cap : Nat} {xs : List Value} (h : w.ownsRow c e m (.slice (some ⟨g, 0, none⟩) n cap) n xs) (i : Nat) (v : Value) (hi : xs[i]? = some v) : w.cell? ⟨g, i, none⟩ = some v := by
  unfold World.ownsRow at h
  obtain ⟨hl, ⟨h0, _⟩ | ⟨g', cap', cur, h0, h1, h2, h3, h4, h5, h6⟩⟩ := h
  · cases h0
  · cases h0
    rw [cell_of_row _ g _ _ e (0, 0) h2]
    have hlt := (List.getElem?_eq_some_iff.1 hi).1
    rw [← h6, List.getElem?_take_of_lt (by omega)] at hi
    rw [← Array.getElem?_toList]
    exact hi
/-- A reply of MGET: a text, or nothing. -/
def repC : Option ByteArray → List Value
  | some t => [.int .i64 4, .int .i64 0, .string t, .slice none 0 0]
  | none => [.int .i64 5, .int .i64 0, .string ⟨#[]⟩, .slice none 0 0]
def RO (rs : List (Option ByteArray)) (c : Nat) (w : World) (v : Value) : Prop := w.ownsRow c 28 4 v rs.length (rs.flatMap repC)
theorem RO.keep (rs : List (Option ByteArray)) : RKeep (RO rs) :=
  ⟨fun _ _ _ _ h _ hb => row_kept h (fun g hg => hb g (row_own h g hg).1 (row_own h g hg).2), fun _ _ _ _ h hd => row_mono h hd⟩
theorem repC_len (r : Option ByteArray) : (repC r).length = 4 := by cases r <;> rfl
theorem repC_at (rs : List (Option ByteArray)) : ∀ (i j : Nat) (r : Option ByteArray) (v : Value), rs[i]? = some r → (repC r)[j]? = some v → (rs.flatMap repC)[i * 4 + j]? = some v := by
  induction rs with
  | nil => intro i j r v h; cases h
  | cons q t ih =>
    intro i j r v h hv
    have hj : j < 4 := by have := (List.getElem?_eq_some_iff.1 hv).1; rw [repC_len] at this; exact this
    rw [List.flatMap_cons]
    cases i with
    | zero =>
      cases h
      rw [List.getElem?_append_left (by rw [repC_len]; omega), Nat.zero_mul, Nat.zero_add]
      exact hv
    | succ i =>
      rw [List.getElem?_append_right (by rw [repC_len]; omega), repC_len, show (i + 1) * 4 + j - 4 = i * 4 + j by omega]
      exact ih i j r v h hv
theorem i37 : (Tryz.prog.info? 28).map (fun i => (i.zero, i.size, i.bytes)) = some (some (.agg #[.int .i64 0, .int .i64 0, .string ⟨#[]⟩, .slice none 0 0]), 4, 56) := by kernel_rfl
theorem news_blk {w : World} {b : Nat} {cs : List Value} {t : TypeId} (hb : w.heap[b]? = some (.cells cs.toArray t)) : ∀ (j : Nat) (u : Value), cs[j]? = some u → w.cell? ((⟨b, 0, none⟩ : Addr).add j) = some u := by
  intro j u hj
  rw [Addr.add_lit, cell_of_row _ b _ _ t (0, 0) hb, Nat.zero_add]
  simpa using hj
theorem repC_one (r : Option ByteArray) : ∀ u ∈ repC r, u.oneCell' = true := by
  cases r <;> (intro u hu; simp [repC] at hu; rcases hu with rfl | rfl | rfl | rfl <;> rfl)
theorem map_one (xs : List ByteArray) : ∀ u ∈ xs.map Value.string, u.oneCell' = true := by
  intro u hu
  obtain ⟨s, _, rfl⟩ := List.mem_map.1 hu
  rfl
/-- One reply is appended to a row of replies. -/
theorem append_RO {ops : Array Oper} {rest : List Oper} {o : Oper} {a : Act} {Q : Exit → Act → World → Prop} (w : World) (hg : o.guard = none) (s x : Operand) (hop : o.op = Op.call { callee := Callee.builtin Builtin.append, args := #[s, x], argTypes := #[26, 26] })
    (c : Nat) (v : Value) (rs : List (Option ByteArray)) (N : Nat) (hN : rs.length = N) (hs : a.eval s = v) (h : RO rs c w v) (r : Option ByteArray) (b : Nat) (hx : a.eval x = .slice (some ⟨b, 0, none⟩) 1 1) (hb : w.heap[b]? = some (.cells (repC r).toArray 28)) (hl : N ≤ 100000) (hc : c ≤ w.heap.size)
    (k : ∀ g cap w', RO (rs ++ [r]) c w' (.slice (some ⟨g, 0, none⟩) (N + 1) cap) → Below c w w' → wpList Tryz.prog ops Q rest (a.put o.dst (.slice (some ⟨g, 0, none⟩) (N + 1) cap)) w') : wpList Tryz.prog ops Q (o :: rest) a w := by
  subst hN
  obtain ⟨i0, hi, hz0, hz1, hz2⟩ := info_parts i37
  refine wpList_append_lies w hg s x 26 hop c 28 i0 _ 4 56 Tryz.underlying26 hi hz0 hz1 hz2 rfl (by decide) v rs.length _ hs h ⟨b, 0, none⟩ 1 1 (repC r) hx (by rw [repC_len]) (news_blk hb) (repC_one r) (by decide) (by unfold maxLen; omega) (by omega) hc _ rfl ?_
  intro g cap w' h1 h2 _ _
  refine k g cap w' ?_ ((Below.refl _ _).grown h2 hc (fun k hk => (row_own h k hk).1))
  unfold RO
  rw [List.length_append, List.flatMap_append, show [r].length = 1 from rfl, show [r].flatMap repC = repC r by simp]
  exact h1
end Go.Proofs.YtjljljjmdlddkaaGreat

/- Commands of lists: LRANGE, LTRIM. -/
namespace Go.Proofs.YtjljljjmdlddkaaGreat
open Go.ChangeShapes Go.WideShapes Go.ChangeAt Go.RowKit

theorem ARR (A : Option Addr) (n c : Nat) (w : World) : Calls Tryz.prog 76 #[.slice A n c] w fun e w' => e = .returned (.agg #[.int .i64 6, .int .i64 0, .string ⟨#[]⟩, .slice A n c]) ∧ Below w.heap.size w w' := by
  go_enter Tryz.func76, Tryz.ntmps76
  go_wp2
  exact bodyPost_ret (v := .agg #[.int .i64 6, .int .i64 0, .string ⟨#[]⟩, .slice A n c]) (by simp [results, Tryz.results76, go_sem]) rfl ⟨rfl, (Below.refl _ _).alloc (Nat.le_refl _) _⟩
theorem take_at {α : Type} (rs : List α) (i : Nat) (r : α) (h : rs[i]? = some r) : rs.take (i + 1) = rs.take i ++ [r] := by
  rw [List.take_add_one, h]
  rfl
set_option maxRecDepth 100000 in
set_option maxHeartbeats 8000000 in
theorem BULKS (v : Value) (zs : List ByteArray) (hn : zs.length ≤ 1000) (w : World) (hA : SSl w v zs) : Calls Tryz.prog 53 #[v] w fun e w' => ∃ A m c, e = .returned (.agg #[.int .i64 6, .int .i64 0, .string ⟨#[]⟩, .slice A m c]) ∧ RO (zs.map some) w.heap.size w' (.slice A m c) ∧ Below w.heap.size w w' := by
  obtain ⟨aA, cap, rfl, p1, p2, p3⟩ := hA
  have A1 := Lib.hid (alloc_old (w := w) (o := .cells #[.int .i64 0, .int .i64 0, .string ⟨#[]⟩, .slice none 0 0] 28))
  have hr := Lib.hid (heap_alloc_new w (.cells #[.int .i64 0, .int .i64 0, .string ⟨#[]⟩, .slice none 0 0] 28))
  obtain ⟨n, hnn⟩ : ∃ n, zs.length = n := ⟨_, rfl⟩
  have P3 := Lib.hid p3
  have HN := Lib.hid hnn
  rw [hnn] at hn ⊢
  have BU := Lib.hid (fun t w => Bulk67 t w)
  have AR := Lib.hid (fun A n c w => ARR A n c w)
  have hw1 : w.heap.size < (w.alloc (.cells #[.int .i64 0, .int .i64 0, .string ⟨#[]⟩, .slice none 0 0] 28)).heap.size := by simp
  clear p1 p2 p3 hnn
  go_enter Tryz.func53, Tryz.ntmps53
  go_wp2_with fail
  have hw1 := Lib.hid (show (w.alloc (.cells #[.int .i64 0, .int .i64 0, .string ⟨#[]⟩, .slice none 0 0] 28)).heap.size = w.heap.size + 1 by simp)
  generalize (w.alloc (.cells #[.int .i64 0, .int .i64 0, .string ⟨#[]⟩, .slice none 0 0] 28)) = W1 at A1 hr hw1 ⊢
  go_loopw [3, 5, 8] (fun lv _ iv wr => ∃ (i : Nat) (A : Option Addr) (C : Nat), i ≤ n ∧ lv = .slice A i C ∧ iv = .int .i64 i ∧ Hid (RO ((zs.map some).take i) W1.heap.size wr (.slice A i C) ∧ Below W1.heap.size W1 wr)) (fun _ _ iv _ => n - (intOf iv).toNat)
  case atStart => exact ⟨0, none, 0, Nat.zero_le _, rfl, rfl, Lib.hid ⟨World.ownsRow_nil _ _ _ _, Below.refl _ _⟩⟩
  case round =>
    obtain ⟨i, A, C, hi, rfl, rfl, HQ⟩ := hrel
    by_cases hlt : i < n
    · have q0 : (i : Int) < (n : Int) := by omega
      have hlz : i < zs.length := by rw [HN.out]; exact hlt
      obtain ⟨blk, off, rfl, hblt, hc⟩ := P3.out (by intro e; rw [e] at hlz; simp at hlz)
      obtain ⟨s, hs⟩ : ∃ s, zs[i]? = some s := ⟨_, List.getElem?_eq_getElem hlz⟩
      have ca : wr.cell? ⟨blk, off + i, none⟩ = some (.string s) := ((A1.out.trans (HQ.out.2.mono (Below.size A1.out))).cell (p := ⟨blk, off + i, none⟩) hblt).trans (hc i s hs)
      have HT := Lib.hid (show ((zs.map some).take i).length = i by simp; omega)
      have hcc := Lib.hid (Below.size HQ.out.2)
      have HTK := Lib.hid (take_at (zs.map some) i (some s) (by simp [hs]))
      clear hc hs
      go_wp2_with (first | (go_at_call 42; (with_reducible refine (BU.out _ _).mono ?_); rintro e w5 ⟨rfl, h5⟩; have D5 := Lib.hid (show Below wr.heap.size wr (w5.alloc (.cells #[.int .i64 4, .int .i64 0, .string s, .slice none 0 0] 28)) from h5.trans (alloc_old.mono (Below.size h5))); have b5 := Lib.hid (heap_alloc_new w5 (.cells #[.int .i64 4, .int .i64 0, .string s, .slice none 0 0] 28)); have R5 := Lib.hid (row_below HQ.out.1 D5.out); have z5 := Lib.hid (Nat.le_trans hcc.out (Below.size D5.out)); clear h5) | (at_builtin; refine append_RO _ rfl _ _ rfl W1.heap.size _ ((zs.map some).take i) i HT.out rfl R5.out (some s) _ rfl b5.out (by omega) z5.out ?_; intro g C2 w6 hR6 hB6))
      exact ⟨⟨i + 1, _, C2, by omega, rfl, by go_num, Lib.hid ⟨by rw [HTK.out]; exact hR6, (HQ.out.2.trans (D5.out.mono hcc.out)).trans hB6⟩⟩, by simp [intOf]; omega⟩
    · obtain rfl : i = n := by omega
      have q0 : ¬ (i : Int) < (i : Int) := by omega
      have hQ := HQ.out
      rw [List.take_of_length_le (by simp [HN.out])] at hQ
      have r1 := Lib.hid (blk_below hr.out (hQ.2.mono (Nat.le_refl _)))
      have H1 := Lib.hid hQ.1
      have H2 := Lib.hid hQ.2
      clear hQ HQ
      go_wp2_with (first | (go_at_call 76; (with_reducible refine (AR.out _ _ _ _).mono ?_); rintro e w7 ⟨rfl, h7⟩; have H7 := Lib.hid (row_below H1.out h7); have B7 := Lib.hid (H2.out.trans (h7.mono (Below.size H2.out))); obtain ⟨⟨c0, c1, c2, c3⟩, ⟨f0, f1, f2, f3⟩⟩ := cells4 (blk_below r1.out h7); clear h7))
      refine bodyPost_ret (v := .agg #[.int .i64 6, .int .i64 0, .string ⟨#[]⟩, .slice A i C]) (by simp [results, Tryz.results53, go_sem, c0, c1, c2, c3]) rfl ⟨A, i, C, rfl, row_mono (row_kept H7.out (fun g hg => far4 _ _ _ _ (fun e => ?_))) (by rw [hw1.out]; omega), ((((((A1.out.trans (B7.out.mono (Below.size A1.out))).setCell (Nat.le_refl _) _).setCell (Nat.le_refl _) _).setCell (Nat.le_refl _) _).setCell (Nat.le_refl _) _))⟩
      have h1 := (row_own H7.out g hg).1
      rw [hw1.out] at h1
      omega
theorem FA.ssl {xs : List ByteArray} {c : Nat} {X : World} {A : Option Addr} {n C : Nat} (h : FA xs c X A n C) : SSl X (.slice A n C) xs := by
  rcases h with ⟨rfl, rfl, rfl, rfl⟩ | ⟨_, h2, _⟩
  · exact SSl.nil X
  · exact h2.ssl
/-- The texts from a place to another one, as LRANGE tells places. -/
def spanT (x y : Int) (ys : List ByteArray) : List ByteArray := if spA x ys.length ≤ spC y ys.length then (ys.drop (spA x ys.length).toNat).take ((spC y ys.length).toNat + 1 - (spA x ys.length).toNat) else []
theorem spanT_len (x y : Int) (ys : List ByteArray) : (spanT x y ys).length ≤ ys.length := by
  unfold spanT
  split
  · simp; omega
  · simp
set_option maxRecDepth 100000 in
set_option maxHeartbeats 8000000 in
theorem SPAN (j : Nat) (x y : Int) (hx : -1000000000 ≤ x ∧ x ≤ 1000000000) (hy : -1000000000 ≤ y ∧ y ≤ 1000000000) (cr p : Nat) (l : Value) (ys : List ByteArray) (hn : ys.length ≤ 1000000) (d : Nat) (w : World) (hd : d ≤ w.heap.size) (hR : RowL cr w p l ys) (h2 : ∀ Y, Below w.heap.size w Y → Calls Tryz.prog 48 #[.pointer (some ⟨j, 0, none⟩), .int .i64 2] Y fun e w' => e = .returned (.int .i64 x) ∧ Below Y.heap.size Y w') (h3 : ∀ Y, Below w.heap.size w Y → Calls Tryz.prog 48 #[.pointer (some ⟨j, 0, none⟩), .int .i64 3] Y fun e w' => e = .returned (.int .i64 y) ∧ Below Y.heap.size Y w') : Calls Tryz.prog 54 #[.pointer (some ⟨j, 0, none⟩), .pointer (some ⟨p, 0, none⟩)] w fun e w' => ∃ A n C, e = .returned (.slice A n C) ∧ FA (spanT x y ys) d w' A n C ∧ Below w.heap.size w w' := by
  have RL := fun Y (hY : Below w.heap.size w Y) => RLen cr p l ys Y (hR.below hY)
  have H2 := Lib.hid h2
  have H3 := Lib.hid h3
  by_cases hyes : spA x ys.length ≤ spC y ys.length
  · have ha0 : 0 ≤ spA x ys.length := by unfold spA; split <;> omega
    have hc1 : spC y ys.length ≤ (ys.length : Int) - 1 := by unfold spC; omega
    have SP := fun Y => Span_yes x y ys.length hx hy hn hyes Y
    have hst : spanT x y ys = (ys.drop (spA x ys.length).toNat).take ((spC y ys.length).toNat + 1 - (spA x ys.length).toNat) := if_pos hyes
    obtain ⟨a, ha⟩ : ∃ a : Nat, spA x ys.length = a := ⟨(spA x ys.length).toNat, by omega⟩
    obtain ⟨c, hc⟩ : ∃ c : Nat, spC y ys.length = c := ⟨(spC y ys.length).toNat, by omega⟩
    rw [ha, hc] at hyes
    rw [hc] at hc1
    rw [ha, hc, Int.toNat_natCast, Int.toNat_natCast] at hst
    simp only [ha, hc] at SP
    have SL := fun Y (hY : Below w.heap.size w Y) => RSlice cr p l ys hn a c (by omega) (by omega) Y (hR.below hY)
    have hw : wrap64 (c : Int) = (c : Int) := by unfold wrap64; omega
    have hl : ((ys.drop a).take (c + 1 - a)).length = c + 1 - a := by simp; omega
    have hne : (ys.drop a).take (c + 1 - a) ≠ [] := by intro e; rw [e] at hl; simp at hl; omega
    rw [hst]
    obtain ⟨m, hm⟩ : ∃ m, c + 1 - a = m := ⟨_, rfl⟩
    simp only [hm] at SL hne hl ⊢
    have HX := Lib.hid (And.intro hne hl)
    obtain ⟨n, hnn⟩ : ∃ n : Nat, ys.length = n := ⟨_, rfl⟩
    simp only [hnn] at RL SP
    have RL := Lib.hid RL
    have SP := Lib.hid SP
    have SL := Lib.hid SL
    clear hR h2 h3 hyes hst hl hne hnn ha hc hc1 ha0 hx hy hn hm
    go_enter Tryz.func54, Tryz.ntmps54
    go_wp2_with (first | (go_at_call 48; (with_reducible refine (H2.out _ (Below.refl _ _)).mono ?_); rintro e w1 ⟨rfl, h1⟩; have B1 := Lib.hid h1; clear h1) | (go_at_call 48; (with_reducible refine (H3.out _ B1.out).mono ?_); rintro e w2 ⟨rfl, h1⟩; have B2 := Lib.hid (B1.out.trans (h1.mono (Below.size B1.out))); clear h1) | (go_at_call 39; (with_reducible refine (RL.out _ B2.out).mono ?_); rintro e w3 ⟨rfl, h1⟩; have B3 := Lib.hid (B2.out.trans (h1.mono (Below.size B2.out))); clear h1) | (go_at_call 77; (with_reducible refine (SP.out _).mono ?_); rintro e w4 ⟨rfl, h1⟩; have B4 := Lib.hid (B3.out.trans (h1.mono (Below.size B3.out))); clear h1) | (go_at_call 78; (with_reducible refine (SL.out _ B4.out).mono ?_); rintro e w5 ⟨g, C, rfl, hT, hg, h1⟩; have T5 := Lib.hid hT; have G5 := Lib.hid hg; have B5 := Lib.hid (B4.out.trans (h1.mono (Below.size B4.out))); clear h1 hT hg))
    go_ret
    refine ⟨_, _, C, rfl, .inr ⟨HX.out.1, ?_, fun g' hg' => ?_⟩, B5.out⟩
    · have := T5.out.tr
      rw [HX.out.2] at this
      exact this
    · cases hg'
      have h1 := Below.size B4.out
      have h2 := G5.out
      show d ≤ g
      omega
  · have SP := fun Y => Span_no x y ys.length hx hy hn (by omega) Y
    have hst : spanT x y ys = [] := if_neg hyes
    rw [hst]
    obtain ⟨n, hnn⟩ : ∃ n : Nat, ys.length = n := ⟨_, rfl⟩
    simp only [hnn] at RL SP
    have RL := Lib.hid RL
    have SP := Lib.hid SP
    clear hR h2 h3 hyes hst hnn hx hy hn
    go_enter Tryz.func54, Tryz.ntmps54
    go_wp2_with (first | (go_at_call 48; (with_reducible refine (H2.out _ (Below.refl _ _)).mono ?_); rintro e w1 ⟨rfl, h1⟩; have B1 := Lib.hid h1; clear h1) | (go_at_call 48; (with_reducible refine (H3.out _ B1.out).mono ?_); rintro e w2 ⟨rfl, h1⟩; have B2 := Lib.hid (B1.out.trans (h1.mono (Below.size B1.out))); clear h1) | (go_at_call 39; (with_reducible refine (RL.out _ B2.out).mono ?_); rintro e w3 ⟨rfl, h1⟩; have B3 := Lib.hid (B2.out.trans (h1.mono (Below.size B2.out))); clear h1) | (go_at_call 77; (with_reducible refine (SP.out _).mono ?_); rintro e w4 ⟨rfl, h1⟩; have B4 := Lib.hid (B3.out.trans (h1.mono (Below.size B3.out))); clear h1))
    exact bodyPost_ret (v := .slice none 0 0) (by simp [results, Tryz.results54, go_sem]) rfl ⟨none, 0, 0, rfl, .inl ⟨rfl, rfl, rfl, rfl⟩, B4.out⟩
set_option maxRecDepth 100000 in
set_option maxHeartbeats 8000000 in
/-- LRANGE. -/
theorem cLRANGE (bS bM : Nat) (D : List (ByteArray × List ByteArray)) (now : Int) (NM k a b : ByteArray) (x y : Int) (ha : a.size ≤ 100000) (hpa : parseI a.data.toList = some x) (hb : b.size ≤ 100000) (hpb : parseI b.data.toList = some y) (hx : -1000000000 ≤ x ∧ x ≤ 1000000000) (hy : -1000000000 ≤ y ∧ y ≤ 1000000000) (ys : List ByteArray) (hys : (findD k D).getD [] = ys) (hn : ys.length ≤ 1000) (w : World) : CmdD 24 #[] bS bM D now [NM, k, a, b] 6 0 ⟨#[]⟩ (RO ((spanT x y ys).map some)) [] w := by
  intro j vA hS hj hA
  show Calls Tryz.prog 24 #[.pointer (some ⟨j, 0, none⟩)] w _
  have J2 := Lib.hid (fun Y (hY : Below w.heap.size w Y) => JIn 2 j bS now vA (.slice none 0 0) [NM, k, a, b] 2 rfl a x ha hpa rfl Y (hj.below hY) (hA.below hY))
  have J3 := Lib.hid (fun Y (hY : Below w.heap.size w Y) => JIn 3 j bS now vA (.slice none 0 0) [NM, k, a, b] 3 rfl b y hb hpb rfl Y (hj.below hY) (hA.below hY))
  obtain ⟨blk, off, cap, rfl, hAR⟩ := AR.of hj hA (by simp)
  have HJ := Lib.hid hj
  have A1 := Lib.hid (alloc_old (w := w) (o := .cells #[.int .i64 0, .int .i64 0, .string ⟨#[]⟩, .slice none 0 0] 28))
  have hr := Lib.hid (heap_alloc_new w (.cells #[.int .i64 0, .int .i64 0, .string ⟨#[]⟩, .slice none 0 0] 28))
  have RW := fun Y (hY : Below w.heap.size w Y) => RowD bS bM j D k now _ _ Y (SPG.below KL okL hS hY) (hj.below hY)
  simp only [hys] at RW
  have RW := Lib.hid RW
  have hl2 : ([NM, k, a, b] : List ByteArray).length = 4 := rfl
  rw [hl2] at HJ ⊢
  have c1 := (hAR.job _ A1.out).1
  have c2 := hAR.arg _ A1.out 1 k rfl
  rw [hl2] at c1
  have SP := Lib.hid (fun cr p l X d hX hR h2 h3 => SPAN j x y hx hy cr p l ys (by omega) d X hX hR h2 h3)
  have BK := Lib.hid (fun v X hX => BULKS v (spanT x y ys) (Nat.le_trans (spanT_len x y ys) hn) X hX)
  clear hS hj hA hAR hpa hpb ha hb hx hy hys hn
  obtain ⟨zs, hzs⟩ : ∃ zs, spanT x y ys = zs := ⟨_, rfl⟩
  simp only [hzs] at SP BK ⊢
  go_enter Tryz.func24, Tryz.ntmps24
  go_wp2_with (first | (go_at_call 35; (with_reducible refine (RW.out _ A1.out).mono ?_); rintro e w1 ⟨A3, A4, A5, A6, an3, ac3, an4, ac4, an5, ac5, an6, ac6, p, l, rfl, hR1, h1⟩; have B1 := Lib.hid ((A1.out.trans (h1.mono (Below.size A1.out))).trans ((alloc_old (w := w1) (o := .cells #[.string k, .int .i64 2, .string ⟨#[]⟩, .slice A3 an3 ac3, .slice A4 an4 ac4, .slice A5 an5 ac5, .slice A6 an6 ac6, .int .i64 0] 45)).mono (by have := Below.size A1.out; have := Below.size h1; omega))); have R1 := Lib.hid (hR1.below (alloc_old (w := w1) (o := .cells #[.string k, .int .i64 2, .string ⟨#[]⟩, .slice A3 an3 ac3, .slice A4 an4 ac4, .slice A5 an5 ac5, .slice A6 an6 ac6, .int .i64 0] 45))); have r1 := Lib.hid (blk_below (blk_below hr.out h1) (alloc_old (w := w1) (o := .cells #[.string k, .int .i64 2, .string ⟨#[]⟩, .slice A3 an3 ac3, .slice A4 an4 ac4, .slice A5 an5 ac5, .slice A6 an6 ac6, .int .i64 0] 45))); have z1 := Lib.hid (heap_alloc_new w1 (.cells #[.string k, .int .i64 2, .string ⟨#[]⟩, .slice A3 an3 ac3, .slice A4 an4 ac4, .slice A5 an5 ac5, .slice A6 an6 ac6, .int .i64 0] 45)); have hw1 := Lib.hid (lt_blk (blk_below hr.out h1)); clear h1 hR1; have S1 := Lib.hid (SP.out _ p l _ w.heap.size (Below.size B1.out) R1.out (fun Y hY => J2.out Y (belT B1.out hY)) (fun Y hY => J3.out Y (belT B1.out hY)))) | (go_at_call 54; (with_reducible refine (S1.out).mono ?_); rintro e w3 ⟨A, n, C, rfl, hF3, h1⟩; have B3 := Lib.hid (B1.out.trans (h1.mono (Below.size B1.out))); have r3 := Lib.hid (blk_below r1.out h1); have K3 := Lib.hid (BK.out _ _ hF3.ssl); clear h1 hF3) | (go_at_call 53; (with_reducible refine (K3.out).mono ?_); rintro e w4 ⟨A4, m4, c4, rfl, hR4, h1⟩; have B4 := Lib.hid (B3.out.trans (h1.mono (Below.size B3.out))); have R4 := Lib.hid hR4; obtain ⟨⟨c0, c1, c2, c3⟩, ⟨f0, f1, f2, f3⟩⟩ := cells4 (blk_below r3.out h1); clear h1 hR4))
  have hlt := lt_blk hr.out
  have hz : (w.alloc (.cells #[.int .i64 0, .int .i64 0, .string ⟨#[]⟩, .slice none 0 0] 28)).heap.size = w.heap.size + 1 := by simp
  have h3 := Below.size B3.out
  have hlt3 := lt_blk r3.out
  have BF : Below w.heap.size w ((((w4.setCell ⟨w.heap.size, 0, none⟩ (.int .i64 6)).setCell ⟨w.heap.size, 1, none⟩ (.int .i64 0)).setCell ⟨w.heap.size, 2, none⟩ (.string ⟨#[]⟩)).setCell ⟨w.heap.size, 3, none⟩ (.slice A4 m4 c4)) := ((((B4.out.setCell (Nat.le_refl _) _).setCell (Nat.le_refl _) _).setCell (Nat.le_refl _) _).setCell (Nat.le_refl _) _)
  refine bodyPost_ret (v := .agg #[.int .i64 6, .int .i64 0, .string ⟨#[]⟩, .slice A4 m4 c4]) (by simp [results, Tryz.results24, go_sem, c0, c1, c2, c3]) rfl ⟨A4, m4, c4, rfl, row_mono (row_kept R4.out (fun g hg => far4 _ _ _ _ (fun e => ?_))) h3, ⟨_, JD.nil KL _ (HJ.out.below BF)⟩, .of BF⟩
  have h1 := (row_own R4.out g hg).1
  omega
end Go.Proofs.YtjljljjmdlddkaaGreat
