/- The table, and the law StringsCounts with it. -/
import Derived.Test.YtaomiglmahklfaaGreatDoorSt40
import Derived.Test.YtaomiglmahklfaaGreatDoorCards
import Derived.Lib.LaidTab
import Derived.Stop.LaidErr
namespace Go.Proofs.YtaomiglmahklfaaGreatDoor
open Go.ChangeShapes Go.WideShapes Go.ChangeAt Go.RowKit

theorem gPow : Tryz.prog.globalNamed "internal/strconv.uint64pow10" = some 0 := by kernel_rfl
theorem gPowType : (Tryz.prog.globals[0]?).map (·.type) = some 147 := by kernel_rfl
theorem cellsT : Tryz.prog.cellsOf 147 = 20 := by kernel_rfl
theorem cellsE : Tryz.prog.cellsOf 131 = 1 := by kernel_rfl
theorem tab_of {W : World} (h : laidMetH Tryz.prog Rows.stringsCountsRow.laid W) : Tab W :=
  Lib.tabIs_of_head (rest := []) (zs := Lib.pow10Tab) gPow gPowType (by kernel_rfl) (by kernel_rfl) cellsE cellsT (laidMet.tail (laidMet.tail h))
theorem fits_of {n : Int} (h : (Lit.int .i64 n).wf = true) : I64 n := by
  have := bounds_i64 h
  exact ⟨by omega, by omega⟩
theorem counts_law {W : World} (hT : Tab W) (n m : Int) (hn : (Lit.int .i64 n).wf = true) (hm : (Lit.int .i64 m).wf = true) : Calls Tryz.prog 7 #[.int .i64 n, .int .i64 m] W fun e w' => e = .returned (.bool true) ∧ Below W.heap.size W w' := counts_walk n m (fits_of hn) (fits_of hm) W hT
end Go.Proofs.YtaomiglmahklfaaGreatDoor
