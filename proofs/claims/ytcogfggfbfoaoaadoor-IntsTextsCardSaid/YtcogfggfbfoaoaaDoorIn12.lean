/- IntsTexts' walk, its table taken from the row's list. -/
import Derived.Test.YtcogfggfbfoaoaaDoorIn11
import Derived.Stop.LaidErr
namespace Go.Proofs.YtcogfggfbfoaoaaDoor
open Go.ChangeShapes Go.WideShapes Go.ChangeAt Go.RowKit
theorem gPow : Tryd.prog.globalNamed "internal/strconv.uint64pow10" = some 0 := by kernel_rfl
theorem gPowType : (Tryd.prog.globals[0]?).map (·.type) = some 40 := by kernel_rfl
theorem cells40 : Tryd.prog.cellsOf 40 = 20 := by kernel_rfl
theorem cells29 : Tryd.prog.cellsOf 29 = 1 := by kernel_rfl
theorem tab_of {W : World} (h : laidMetH Tryd.prog Rows.intsTextsRow.laid W) : Tab W :=
  Lib.tabIs_of_head (rest := []) (zs := Lib.pow10Tab) gPow gPowType Tryd.underlying40 Tryd.underlying29 cells29 cells40 (laidMet.tail (laidMet.tail h))
theorem texts_law (s : ByteArray) (a : Int) (ha : (Lit.int .i64 a).wf = true) (w : World) (hT : Tab w) : Calls Tryd.prog 3 #[.string s, .int .i64 a] w fun e w' => e = .returned (.bool true) ∧ Below w.heap.size w w' := texts_walk s a (fits_of ha) w hT
end Go.Proofs.YtcogfggfbfoaoaaDoor
