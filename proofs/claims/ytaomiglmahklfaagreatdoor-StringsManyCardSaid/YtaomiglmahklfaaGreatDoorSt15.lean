/- job.Span: places from either end. -/
import Derived.Test.YtaomiglmahklfaaGreatDoorSt14
namespace Go.Proofs.YtaomiglmahklfaaGreatDoor
open Go.ChangeShapes Go.WideShapes Go.ChangeAt Go.RowKit

/-- Places that are there already. -/
theorem Span_in (i j n : Nat) (h1 : i ≤ j) (h2 : j < n) (h3 : n ≤ 1000000) (w : World) : Calls Tryz.prog 80 #[.int .i64 i, .int .i64 j, .int .i64 n] w fun e w' => e = .returned (.tuple #[.int .i64 i, .int .i64 ((j : Int) + 1), .bool true]) ∧ Below w.heap.size w w' := by
  have i1 : ¬ (i : Int) < 0 := by omega
  have i2 : ¬ (j : Int) < 0 := by omega
  have m1 : min (j : Int) ((n : Int) - 1) = j := by omega
  have i3 : ¬ (j : Int) < (i : Int) := by omega
  go_enter Tryz.func80, Tryz.ntmps80
  go_wp2
  go_ret3
  exact ⟨rfl, Below.refl _ _⟩
/-- From a place to the end. -/
theorem Span_end (i n : Nat) (h1 : i < n) (h3 : n ≤ 1000000) (w : World) : Calls Tryz.prog 80 #[.int .i64 i, .int .i64 (-1), .int .i64 n] w fun e w' => e = .returned (.tuple #[.int .i64 i, .int .i64 n, .bool true]) ∧ Below w.heap.size w w' := by
  have i1 : ¬ (i : Int) < 0 := by omega
  have m0 : max (-1) (-(n : Int) - 1) = -1 := by omega
  have m1 : min (-1 + (n : Int)) ((n : Int) - 1) = (n : Int) - 1 := by omega
  have i3 : ¬ (n : Int) - 1 < (i : Int) := by omega
  have m2 : (n : Int) - 1 + 1 = n := by omega
  have m3 : -1 + (n : Int) + 1 = n := by omega
  have i4 : ¬ -1 + (n : Int) < (i : Int) := by omega
  go_enter Tryz.func80, Tryz.ntmps80
  go_wp2
  go_ret3
  exact ⟨rfl, Below.refl _ _⟩
end Go.Proofs.YtaomiglmahklfaaGreatDoor
