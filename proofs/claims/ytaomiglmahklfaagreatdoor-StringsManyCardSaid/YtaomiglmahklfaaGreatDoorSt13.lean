/- command.groups at the strings' other commands. -/
import Derived.Test.YtaomiglmahklfaaGreatDoorSt12
namespace Go.Proofs.YtaomiglmahklfaaGreatDoor
open Go.ChangeShapes Go.WideShapes Go.ChangeAt Go.RowKit

theorem groups_SET (n : Int) (w : World) : Calls Tryz.prog 85 #[.string ⟨#[83, 69, 84]⟩, .int .i64 n] w fun e w' => e = .returned (.bool true) ∧ Below w.heap.size w w' := by
  go_enter Tryz.func85, Tryz.ntmps85
  go_wp2
  go_ret
  exact ⟨rfl, Below.refl _ _⟩
theorem groups_SETNX (n : Int) (w : World) : Calls Tryz.prog 85 #[.string ⟨#[83, 69, 84, 78, 88]⟩, .int .i64 n] w fun e w' => e = .returned (.bool true) ∧ Below w.heap.size w w' := by
  go_enter Tryz.func85, Tryz.ntmps85
  go_wp2
  go_ret
  exact ⟨rfl, Below.refl _ _⟩
theorem groups_GETSET (n : Int) (w : World) : Calls Tryz.prog 85 #[.string ⟨#[71, 69, 84, 83, 69, 84]⟩, .int .i64 n] w fun e w' => e = .returned (.bool true) ∧ Below w.heap.size w w' := by
  go_enter Tryz.func85, Tryz.ntmps85
  go_wp2
  go_ret
  exact ⟨rfl, Below.refl _ _⟩
theorem groups_GETDEL (n : Int) (w : World) : Calls Tryz.prog 85 #[.string ⟨#[71, 69, 84, 68, 69, 76]⟩, .int .i64 n] w fun e w' => e = .returned (.bool true) ∧ Below w.heap.size w w' := by
  go_enter Tryz.func85, Tryz.ntmps85
  go_wp2
  go_ret
  exact ⟨rfl, Below.refl _ _⟩
theorem groups_APPEND (n : Int) (w : World) : Calls Tryz.prog 85 #[.string ⟨#[65, 80, 80, 69, 78, 68]⟩, .int .i64 n] w fun e w' => e = .returned (.bool true) ∧ Below w.heap.size w w' := by
  go_enter Tryz.func85, Tryz.ntmps85
  go_wp2
  go_ret
  exact ⟨rfl, Below.refl _ _⟩
theorem groups_STRLEN (n : Int) (w : World) : Calls Tryz.prog 85 #[.string ⟨#[83, 84, 82, 76, 69, 78]⟩, .int .i64 n] w fun e w' => e = .returned (.bool true) ∧ Below w.heap.size w w' := by
  go_enter Tryz.func85, Tryz.ntmps85
  go_wp2
  go_ret
  exact ⟨rfl, Below.refl _ _⟩
theorem groups_INCR (n : Int) (w : World) : Calls Tryz.prog 85 #[.string ⟨#[73, 78, 67, 82]⟩, .int .i64 n] w fun e w' => e = .returned (.bool true) ∧ Below w.heap.size w w' := by
  go_enter Tryz.func85, Tryz.ntmps85
  go_wp2
  go_ret
  exact ⟨rfl, Below.refl _ _⟩
theorem groups_DECR (n : Int) (w : World) : Calls Tryz.prog 85 #[.string ⟨#[68, 69, 67, 82]⟩, .int .i64 n] w fun e w' => e = .returned (.bool true) ∧ Below w.heap.size w w' := by
  go_enter Tryz.func85, Tryz.ntmps85
  go_wp2
  go_ret
  exact ⟨rfl, Below.refl _ _⟩
theorem groups_INCRBY (n : Int) (w : World) : Calls Tryz.prog 85 #[.string ⟨#[73, 78, 67, 82, 66, 89]⟩, .int .i64 n] w fun e w' => e = .returned (.bool true) ∧ Below w.heap.size w w' := by
  go_enter Tryz.func85, Tryz.ntmps85
  go_wp2
  go_ret
  exact ⟨rfl, Below.refl _ _⟩
theorem groups_DECRBY (n : Int) (w : World) : Calls Tryz.prog 85 #[.string ⟨#[68, 69, 67, 82, 66, 89]⟩, .int .i64 n] w fun e w' => e = .returned (.bool true) ∧ Below w.heap.size w w' := by
  go_enter Tryz.func85, Tryz.ntmps85
  go_wp2
  go_ret
  exact ⟨rfl, Below.refl _ _⟩
theorem groups_GETRANGE (n : Int) (w : World) : Calls Tryz.prog 85 #[.string ⟨#[71, 69, 84, 82, 65, 78, 71, 69]⟩, .int .i64 n] w fun e w' => e = .returned (.bool true) ∧ Below w.heap.size w w' := by
  go_enter Tryz.func85, Tryz.ntmps85
  go_wp2
  go_ret
  exact ⟨rfl, Below.refl _ _⟩
theorem groups_SETRANGE (n : Int) (w : World) : Calls Tryz.prog 85 #[.string ⟨#[83, 69, 84, 82, 65, 78, 71, 69]⟩, .int .i64 n] w fun e w' => e = .returned (.bool true) ∧ Below w.heap.size w w' := by
  go_enter Tryz.func85, Tryz.ntmps85
  go_wp2
  go_ret
  exact ⟨rfl, Below.refl _ _⟩
theorem groups_MGET (n : Int) (w : World) : Calls Tryz.prog 85 #[.string ⟨#[77, 71, 69, 84]⟩, .int .i64 n] w fun e w' => e = .returned (.bool true) ∧ Below w.heap.size w w' := by
  go_enter Tryz.func85, Tryz.ntmps85
  go_wp2
  go_ret
  exact ⟨rfl, Below.refl _ _⟩
end Go.Proofs.YtaomiglmahklfaaGreatDoor
