/- The law SessionPieces, with its table. -/
import Derived.Test.YtnfflkappbjoeaaDoorSp4
import Derived.Test.YtnfflkappbjoeaaDoorCards
namespace Go.Proofs.YtnfflkappbjoeaaDoor
open Go.ChangeShapes Go.WideShapes Go.ChangeAt Go.RowKit Go.Resp

theorem tab_pieces {W : World} (h : laidMetH Tryd.prog Rows.sessionPiecesRow.laid W) : Tab W :=
  Lib.tabIs_of_head (rest := []) (zs := Lib.pow10Tab) gPow gPowType (by kernel_rfl) (by kernel_rfl) cells55 cells62 (laidMet.tail (laidMet.tail h))
theorem pieces_law {W : World} {v0 v1 v2 v3 : Value} {xss : List (List ByteArray)} {zs cuts : List Int} {lb : List UInt8} (hT : Tab W) (h0 : RSl W v0 xss) (h1 : ISl W v1 zs) (h2 : BSl W v2 lb) (h3 : ISl W v3 cuts) :
    Calls Tryd.prog 3 #[v0, v1, v2, v3] W fun e w' => e = .returned (.bool true) ∧ Below W.heap.size W w' := pieces_walk W hT v1 v2 v3 v0 xss zs cuts lb h0 h1 h2 h3
end Go.Proofs.YtnfflkappbjoeaaDoor
