/- The table, and the law LibTimes with it. -/
import Derived.Test.YtjoegdnefdaokaaDoorLb8
import Derived.Test.YtjoegdnefdaokaaDoorCards
import Derived.Lib.LaidTab
import Derived.Stop.LaidErr
namespace Go.Proofs.YtjoegdnefdaokaaDoor
open Go.ChangeShapes Go.WideShapes Go.ChangeAt Go.RowKit

theorem gPow : Tryd.prog.globalNamed "internal/strconv.uint64pow10" = some 1 := by kernel_rfl
theorem gPowType : (Tryd.prog.globals[1]?).map (·.type) = some 88 := by kernel_rfl
theorem cellsT : Tryd.prog.cellsOf 88 = 20 := by kernel_rfl
theorem cellsE : Tryd.prog.cellsOf 73 = 1 := by kernel_rfl
theorem tab_of {W : World} (h : laidMetH Tryd.prog Rows.libTimesRow.laid W) : Tab W :=
  Lib.tabIs_of_head (rest := []) (zs := Lib.pow10Tab) gPow gPowType (by kernel_rfl) (by kernel_rfl) cellsE cellsT (laidMet.tail (laidMet.tail h))
theorem times_law {W : World} (hT : Tab W) (s : ByteArray) (hs : s.size ≤ maxLen) (n : Int) : Calls Tryd.prog 5 #[.string s, .int .i64 n] W fun e w' => e = .returned (.bool true) ∧ Below W.heap.size W w' := times_walk W hT s hs n
end Go.Proofs.YtjoegdnefdaokaaDoor
