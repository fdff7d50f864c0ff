/- The commands that read: GET, STRLEN. -/
import Derived.Test.YtllaeocclpaiaaaGreatDoorSt25
namespace Go.Proofs.YtllaeocclpaiaaaGreatDoor
open Go.ChangeShapes Go.WideShapes Go.ChangeAt Go.RowKit

theorem read_end {w w' : World} {j bS : Nat} {now : Int} {vA : Value} {k n : Int} {s : ByteArray} (hj : JB w j bS now vA (.slice none 0 0)) (hb : Below w.heap.size w w') : ∃ A m c, (Ending.returned (.agg #[.int .i64 k, .int .i64 n, .string s, .slice none 0 0]) = .returned (.agg #[.int .i64 k, .int .i64 n, .string s, .slice A m c])) ∧ R0 w.heap.size w' (.slice A m c) ∧ (∃ A' n' c', JB w' j bS now vA (.slice A' n' c') ∧ EF w' w.heap.size (.slice A' n' c') []) ∧ Kp w.heap.size (fun i => i ≠ j) w w' :=
  ⟨none, 0, 0, rfl, rfl, ⟨none, 0, 0, hj.below hb, EF.nil _ _⟩, .of hb⟩
/-- What is left of a command that had effects, when its reply is laid. -/
theorem eff_end {w w2 w3 : World} {j bS : Nat} {now : Int} {vA : Value} {k n : Int} {s : ByteArray} {es : List Ent} {A : Option Addr} {m c : Nat} {r : Nat} (hjw : j < w.heap.size) (hr : w.heap.size ≤ r) (hr2 : r < w2.heap.size) (hb : Below w.heap.size w w2) (hJ : JB w3 j bS now vA (.slice A m c)) (hE : EF w3 w2.heap.size (.slice A m c) es) (hK : Kp w2.heap.size (fun i => i ≠ j) w2 w3) (v0 v1 v2 v3 : Value) :
    ∃ A m c, (Ending.returned (.agg #[.int .i64 k, .int .i64 n, .string s, .slice none 0 0]) = .returned (.agg #[.int .i64 k, .int .i64 n, .string s, .slice A m c])) ∧ R0 w.heap.size ((((w3.setCell ⟨r, 0, none⟩ v0).setCell ⟨r, 1, none⟩ v1).setCell ⟨r, 2, none⟩ v2).setCell ⟨r, 3, none⟩ v3) (.slice A m c) ∧ (∃ A' n' c', JB ((((w3.setCell ⟨r, 0, none⟩ v0).setCell ⟨r, 1, none⟩ v1).setCell ⟨r, 2, none⟩ v2).setCell ⟨r, 3, none⟩ v3) j bS now vA (.slice A' n' c') ∧ EF ((((w3.setCell ⟨r, 0, none⟩ v0).setCell ⟨r, 1, none⟩ v1).setCell ⟨r, 2, none⟩ v2).setCell ⟨r, 3, none⟩ v3) w.heap.size (.slice A' n' c') es) ∧ Kp w.heap.size (fun i => i ≠ j) w ((((w3.setCell ⟨r, 0, none⟩ v0).setCell ⟨r, 1, none⟩ v1).setCell ⟨r, 2, none⟩ v2).setCell ⟨r, 3, none⟩ v3) := by
  have hle := Below.size hb
  refine ⟨none, 0, 0, rfl, rfl, ⟨A, m, c, hJ.kept (far4 _ _ _ _ (by omega)), (hE.kept (by simp [World.setCell]) (fun g hg => far4 _ _ _ _ ?_)).mono hle⟩, ?_⟩
  · have := (hE.own g hg).1
    omega
  · exact (((((Kp.of hb).trans (hK.mono hle (fun _ h => h))).setCell (p := ⟨r, 0, none⟩) (by show ¬ (r < w.heap.size ∧ r ≠ j); omega) v0).setCell (p := ⟨r, 1, none⟩) (by show ¬ (r < w.heap.size ∧ r ≠ j); omega) v1).setCell (p := ⟨r, 2, none⟩) (by show ¬ (r < w.heap.size ∧ r ≠ j); omega) v2).setCell (p := ⟨r, 3, none⟩) (by show ¬ (r < w.heap.size ∧ r ≠ j); omega) v3
end Go.Proofs.YtllaeocclpaiaaaGreatDoor
