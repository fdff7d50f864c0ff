/- The laws' walks in the form that the rows' frames take. -/
import Derived.Test.YtcogfggfbfoaoaaDoorIn10
import Derived.Lib.LaidTab
namespace Go.Proofs.YtcogfggfbfoaoaaDoor
open Go.ChangeShapes Go.WideShapes Go.ChangeAt Go.RowKit
theorem fits_of {a : Int} (h : (Lit.int .i64 a).wf = true) : Fits a := by
  have := bounds_i64 h
  exact ⟨by omega, by omega⟩
theorem of_drew {w w' : World} (h : ∃ n, w' = w.drewN n) : Below w.heap.size w w' := by
  obtain ⟨n, rfl⟩ := h
  exact below_drewN (Below.refl _ _) n
theorem sums_law (a b : Int) (ha : (Lit.int .i64 a).wf = true) (hb : (Lit.int .i64 b).wf = true) (w : World) : Calls Tryd.prog 4 #[.int .i64 a, .int .i64 b] w fun e w' => e = .returned (.bool true) ∧ Below w.heap.size w w' :=
  (sums_walk a b (fits_of ha) (fits_of hb) w).mono fun _ _ ⟨h1, h2⟩ => ⟨h1, of_drew h2⟩
theorem parts_law (a b : Int) (ha : (Lit.int .i64 a).wf = true) (hb : (Lit.int .i64 b).wf = true) (w : World) : Calls Tryd.prog 5 #[.int .i64 a, .int .i64 b] w fun e w' => e = .returned (.bool true) ∧ Below w.heap.size w w' :=
  (parts_walk a b (fits_of ha) (fits_of hb) w).mono fun _ _ ⟨h1, h2⟩ => ⟨h1, of_drew h2⟩
theorem order_law (a b : Int) (ha : (Lit.int .i64 a).wf = true) (hb : (Lit.int .i64 b).wf = true) (w : World) : Calls Tryd.prog 6 #[.int .i64 a, .int .i64 b] w fun e w' => e = .returned (.bool true) ∧ Below w.heap.size w w' :=
  (order_walk a b (fits_of ha) (fits_of hb) w).mono fun _ _ ⟨h1, h2⟩ => ⟨h1, of_drew h2⟩
theorem floors_law (a b : Int) (w : World) : Calls Tryd.prog 7 #[.int .i64 a, .int .i64 b] w fun e w' => e = .returned (.bool true) ∧ Below w.heap.size w w' :=
  (floors_walk a b w).mono fun _ _ ⟨h1, h2⟩ => ⟨h1, of_drew h2⟩
end Go.Proofs.YtcogfggfbfoaoaaDoor
