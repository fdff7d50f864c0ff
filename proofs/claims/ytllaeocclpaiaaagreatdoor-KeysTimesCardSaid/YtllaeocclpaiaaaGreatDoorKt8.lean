/- The law KeysTimes, whole. -/
import Derived.Test.YtllaeocclpaiaaaGreatDoorKt7
import Derived.Test.YtllaeocclpaiaaaGreatDoorCards
import Derived.Lib.LaidTab
import Derived.Stop.LaidErr
namespace Go.Proofs.YtllaeocclpaiaaaGreatDoor
open Go.ChangeShapes Go.WideShapes Go.ChangeAt Go.RowKit

theorem gPow : Tryz.prog.globalNamed "internal/strconv.uint64pow10" = some 0 := by kernel_rfl
theorem gPowType : (Tryz.prog.globals[0]?).map (·.type) = some 146 := by kernel_rfl
theorem cellsTb : Tryz.prog.cellsOf 146 = 20 := by kernel_rfl
theorem cellsE : Tryz.prog.cellsOf 129 = 1 := by kernel_rfl
theorem tab_times {W : World} (h : laidMetH Tryz.prog Rows.keysTimesRow.laid W) : Tab W :=
  Lib.tabIs_of_head (rest := []) (zs := Lib.pow10Tab) gPow gPowType (by kernel_rfl) (by kernel_rfl) cellsE cellsTb (laidMet.tail (laidMet.tail h))
theorem times_law {W : World} (hT : Tab W) (a0 a1 : Int) : Calls Tryz.prog 3 #[.int .i64 a0, .int .i64 a1] W fun e w' => e = .returned (.bool true) ∧ Below W.heap.size W w' := times_walk a0 a1 W hT
end Go.Proofs.YtllaeocclpaiaaaGreatDoor
