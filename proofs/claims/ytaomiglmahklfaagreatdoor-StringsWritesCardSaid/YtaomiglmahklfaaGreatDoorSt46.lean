/- The law StringsWrites, whole. -/
import Derived.Test.YtaomiglmahklfaaGreatDoorSt45
import Derived.Test.YtaomiglmahklfaaGreatDoorCards
import Derived.Lib.LaidTab
import Derived.Stop.LaidErr
namespace Go.Proofs.YtaomiglmahklfaaGreatDoor
open Go.ChangeShapes Go.WideShapes Go.ChangeAt Go.RowKit

set_option maxRecDepth 100000 in
set_option maxHeartbeats 2000000 in
theorem writes_big1 (xs : List ByteArray) (ns : List Int) (u0 u1 : Value) (i j : Int) (w : World) (hT : Tab w) (h0 : SSl w u0 xs) (h1 : ISl w u1 ns) (hx8 : 8 < xs.length) : Calls Tryz.prog 5 #[u0, u1, .int .i64 i, .int .i64 j] w fun e w' => e = .returned (.bool true) ∧ Below w.heap.size w w' := by
  obtain ⟨A, cap, rfl, a1, a2, a3⟩ := h0
  obtain ⟨A2, cap2, rfl, c1, c2, c3⟩ := h1
  have TO := Lib.hid (told8 w hT)
  have g1 : (8 : Int) < (xs.length : Int) := by omega
  clear a1 a2 a3 c1 c2 c3
  go_enter Tryz.func5, Tryz.ntmps5
  go_wp2_with (first | (go_at_call 8; (with_reducible refine (TO.out).mono ?_); rintro e x1 ⟨rfl, hb⟩))
  go_ret
  exact ⟨rfl, hb⟩
set_option maxRecDepth 100000 in
set_option maxHeartbeats 2000000 in
theorem writes_big2 (xs : List ByteArray) (ns : List Int) (u0 u1 : Value) (i j : Int) (w : World) (hT : Tab w) (h0 : SSl w u0 xs) (h1 : ISl w u1 ns) (hx8 : xs.length ≤ 8) (hn : ns.length < xs.length) : Calls Tryz.prog 5 #[u0, u1, .int .i64 i, .int .i64 j] w fun e w' => e = .returned (.bool true) ∧ Below w.heap.size w w' := by
  obtain ⟨A, cap, rfl, a1, a2, a3⟩ := h0
  obtain ⟨A2, cap2, rfl, c1, c2, c3⟩ := h1
  have TO := Lib.hid (told8 w hT)
  have g1 : ¬ (8 : Int) < (xs.length : Int) := by omega
  have g2 : (ns.length : Int) < (xs.length : Int) := by omega
  clear a1 a2 a3 c1 c2 c3
  go_enter Tryz.func5, Tryz.ntmps5
  go_wp2_with (first | (go_at_call 8; (with_reducible refine (TO.out).mono ?_); rintro e x1 ⟨rfl, hb⟩))
  go_ret
  exact ⟨rfl, hb⟩
theorem gPow : Tryz.prog.globalNamed "internal/strconv.uint64pow10" = some 0 := by kernel_rfl
theorem gPowType : (Tryz.prog.globals[0]?).map (·.type) = some 147 := by kernel_rfl
theorem cellsT : Tryz.prog.cellsOf 147 = 20 := by kernel_rfl
theorem cellsE : Tryz.prog.cellsOf 131 = 1 := by kernel_rfl
theorem tab_writes {W : World} (h : laidMetH Tryz.prog Rows.stringsWritesRow.laid W) : Tab W :=
  Lib.tabIs_of_head (rest := []) (zs := Lib.pow10Tab) gPow gPowType (by kernel_rfl) (by kernel_rfl) cellsE cellsT (laidMet.tail (laidMet.tail h))
theorem writes_law {W : World} (hT : Tab W) (v0 v1 : Value) (i j : Int) (xs : List ByteArray) (ns : List Int) (h0 : SSl W v0 xs) (h1 : ISl W v1 ns) : Calls Tryz.prog 5 #[v0, v1, .int .i64 i, .int .i64 j] W fun e w' => e = .returned (.bool true) ∧ Below W.heap.size W w' := by
  by_cases hx8 : 8 < xs.length
  · exact writes_big1 xs ns v0 v1 i j W hT h0 h1 hx8
  by_cases hn : ns.length < xs.length
  · exact writes_big2 xs ns v0 v1 i j W hT h0 h1 (Nat.le_of_not_lt hx8) hn
  exact writes_walk xs ns v0 v1 i j W hT h0 h1 (Nat.le_of_not_lt hx8) (Nat.le_of_not_lt hn)
end Go.Proofs.YtaomiglmahklfaaGreatDoor
