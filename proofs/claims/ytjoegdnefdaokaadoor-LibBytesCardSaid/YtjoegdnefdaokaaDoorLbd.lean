/- The laws LibBytes and LibParts, with the table. -/
import Derived.Test.YtjoegdnefdaokaaDoorLba
import Derived.Test.YtjoegdnefdaokaaDoorLbc
import Derived.Test.YtjoegdnefdaokaaDoorLb9
namespace Go.Proofs.YtjoegdnefdaokaaDoor
open Go.ChangeShapes Go.WideShapes Go.ChangeAt Go.RowKit

theorem tab_bytes {W : World} (h : laidMetH Tryd.prog Rows.libBytesRow.laid W) : Tab W := tab_of h
theorem tab_parts {W : World} (h : laidMetH Tryd.prog Rows.libPartsRow.laid W) : Tab W := tab_of h
theorem wf64 {n : Int} (h : (Lit.int .i64 n).wf = true) : I64 n := by
  have := bounds_i64 h
  exact ⟨by omega, by omega⟩
theorem bytes_law {W : World} (hT : Tab W) (s : ByteArray) (hs : s.size ≤ maxLen) (i n : Int) (hn : (Lit.int .i64 n).wf = true) : Calls Tryd.prog 4 #[.string s, .int .i64 i, .int .i64 n] W fun e w' => e = .returned (.bool true) ∧ Below W.heap.size W w' := bytes_walk W hT s hs i n (wf64 hn)
theorem parts_law {W : World} (hT : Tab W) (hS : W.ShapedOpen Tryd.prog) (s t : ByteArray) (hs : s.size ≤ maxLen) (ht : t.size ≤ maxLen) (i : Int) : Calls Tryd.prog 3 #[.string s, .int .i64 i, .string t] W fun e w' => e = .returned (.bool true) ∧ Below W.heap.size W w' := by
  obtain ⟨m, hm⟩ := Tryd.laysM143.s1_3 W hS
  have hm' : W.cell? ⟨0, 0, none⟩ = some (.int .i64 m) := hm
  refine parts_walk W hT m hm' ?_ s t hs ht i
  rcases Nat.eq_zero_or_pos W.heap.size with h | h
  · exfalso
    unfold World.cell? at hm'
    rw [Array.getElem?_eq_none (by omega)] at hm'
    cases hm'
  · exact h
end Go.Proofs.YtjoegdnefdaokaaDoor
