/- Texts joined: PSL -/
import Derived.Test.YticlacjpgjkhcaaGreatDoorQt2
import Derived.Test.YticlacjpgjkhcaaGreatDoorQn32
set_option linter.unusedVariables false
set_option linter.unusedSimpArgs false

/- The law PointsTurns, whole. -/
namespace Go.Proofs.YticlacjpgjkhcaaGreatDoor
open Go.ChangeShapes Go.WideShapes Go.ChangeAt Go.RowKit

theorem tab_turns {W : World} (h : laidMetH Tryz.prog Rows.pointsTurnsRow.laid W) : Tab W :=
  Lib.tabIs_of_head (rest := []) (zs := Lib.pow10Tab) gPowP gPowTypeP (by kernel_rfl) (by kernel_rfl) cellsEP cellsTbP (laidMet.tail (laidMet.tail h))
set_option maxRecDepth 100000 in
set_option maxHeartbeats 8000000 in
theorem turns_none (xs ys : List Int) (v0 v1 : Value) (k0 n0 : Int) (w : World) (hT : Tab w) (h0 : ISp w v0 xs) (h1 : ISp w v1 ys) (h : xs.length = 0 ∨ 8 < xs.length ∨ ys.length < xs.length) : Calls Tryz.prog 3 #[v0, v1, .int .i64 k0, .int .i64 n0] w fun e w' => e = .returned (.bool true) ∧ Below w.heap.size w w' := by
  have TL := Lib.hid (toldP hT)
  obtain ⟨aA, cap, rfl, _⟩ := h0
  obtain ⟨bA, cap2, rfl, _⟩ := h1
  obtain ⟨n, hn⟩ : ∃ n : Nat, xs.length = n := ⟨_, rfl⟩
  obtain ⟨l, hl⟩ : ∃ l : Nat, ys.length = l := ⟨_, rfl⟩
  rw [hn, hl] at h
  rw [hn, hl]
  clear hn hl
  by_cases h1 : n = 0
  · subst h1
    clear h
    go_enter Tryz.func3, Tryz.ntmps3
    go_wp2_with (first | (go_at_call 10; (with_reducible refine (TL.out).mono ?_); rintro e w7 ⟨rfl, h7⟩; have B7 := Lib.hid h7; clear h7))
    go_ret
    exact ⟨rfl, B7.out⟩
  · have q1 : ¬ ((n : Int) = 0) := by omega
    by_cases h2 : 8 < n
    · have q2 : (8 : Int) < (n : Int) := by omega
      clear h h1 h2
      go_enter Tryz.func3, Tryz.ntmps3
      go_wp2_with (first | (go_at_call 10; (with_reducible refine (TL.out).mono ?_); rintro e w7 ⟨rfl, h7⟩; have B7 := Lib.hid h7; clear h7))
      go_ret
      exact ⟨rfl, B7.out⟩
    · have q2 : ¬ (8 : Int) < (n : Int) := by omega
      have q3 : (l : Int) < (n : Int) := by omega
      clear h h1 h2
      go_enter Tryz.func3, Tryz.ntmps3
      go_wp2_with (first | (go_at_call 10; (with_reducible refine (TL.out).mono ?_); rintro e w7 ⟨rfl, h7⟩; have B7 := Lib.hid h7; clear h7))
      go_ret
      exact ⟨rfl, B7.out⟩
theorem turns_law {W : World} (hT : Tab W) (v0 v1 : Value) (xs ys : List Int) (h0 : ISp W v0 xs) (h1 : ISp W v1 ys) (k0 n0 : Int) : Calls Tryz.prog 3 #[v0, v1, .int .i64 k0, .int .i64 n0] W fun e w' => e = .returned (.bool true) ∧ Below W.heap.size W w' := by
  by_cases h : 1 ≤ xs.length ∧ xs.length ≤ 8 ∧ xs.length ≤ ys.length
  · exact turns_main xs ys v0 v1 k0 n0 W hT h0 h1 _ _ rfl rfl h.1 h.2.1 h.2.2
  · exact turns_none xs ys v0 v1 k0 n0 W hT h0 h1 (by omega)
end Go.Proofs.YticlacjpgjkhcaaGreatDoor
