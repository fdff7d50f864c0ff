/- Fits at the commands that the laws call, by name. -/
import Derived.Test.YtllaeocclpaiaaaGreatDoorSt12
import Derived.Test.YtllaeocclpaiaaaGreatDoorSt27
namespace Go.Proofs.YtllaeocclpaiaaaGreatDoor
open Go.ChangeShapes Go.WideShapes Go.ChangeAt Go.RowKit

theorem groups_DEL (n : Int) (w : World) : Calls Tryz.prog 76 #[.string ⟨#[68, 69, 76]⟩, .int .i64 n] w fun e w' => e = .returned (.bool true) ∧ Below w.heap.size w w' := by
  go_enter Tryz.func76, Tryz.ntmps76
  go_wp2
  go_ret
  exact ⟨rfl, Below.refl _ _⟩
theorem hu_DEL (w : World) : Calls Tryz.prog 40 #[.string ⟨#[68, 69, 76]⟩] w fun e w' => e = .returned (.string ⟨#[68, 69, 76]⟩) ∧ Below w.heap.size w w' := Upper62 ⟨#[68, 69, 76]⟩ (by decide) (of_decide_eq_true (by kernel_rfl)) w
theorem Fits_DEL (v : Value) (xs : List ByteArray) (hx : xs[0]? = some ⟨#[68, 69, 76]⟩) (hlo : 2 ≤ xs.length) (w : World) (h : SSl w v xs) : Calls Tryz.prog 39 #[v] w fun e w' => e = .returned (.int .i64 0) ∧ Below w.heap.size w w' :=
  Fits_ok 0 ⟨#[68, 69, 76]⟩ ⟨#[68, 69, 76]⟩ 2 0 true 1 (-1) 1 [68, 69, 76] rfl (by kernel_rfl) hu_DEL v xs hx (by omega) (.inl (Int.le_refl 0)) (groups_DEL _) w h
theorem groups_TYPE (n : Int) (w : World) : Calls Tryz.prog 76 #[.string ⟨#[84, 89, 80, 69]⟩, .int .i64 n] w fun e w' => e = .returned (.bool true) ∧ Below w.heap.size w w' := by
  go_enter Tryz.func76, Tryz.ntmps76
  go_wp2
  go_ret
  exact ⟨rfl, Below.refl _ _⟩
theorem hu_TYPE (w : World) : Calls Tryz.prog 40 #[.string ⟨#[84, 89, 80, 69]⟩] w fun e w' => e = .returned (.string ⟨#[84, 89, 80, 69]⟩) ∧ Below w.heap.size w w' := Upper62 ⟨#[84, 89, 80, 69]⟩ (by decide) (of_decide_eq_true (by kernel_rfl)) w
theorem Fits_TYPE (v : Value) (xs : List ByteArray) (hx : xs[0]? = some ⟨#[84, 89, 80, 69]⟩) (hlo : 2 ≤ xs.length) (hhi : xs.length ≤ 2) (w : World) (h : SSl w v xs) : Calls Tryz.prog 39 #[v] w fun e w' => e = .returned (.int .i64 0) ∧ Below w.heap.size w w' :=
  Fits_ok 2 ⟨#[84, 89, 80, 69]⟩ ⟨#[84, 89, 80, 69]⟩ 2 2 false 1 1 1 [84, 89, 80, 69] rfl (by kernel_rfl) hu_TYPE v xs hx (by omega) (.inr (by omega)) (groups_TYPE _) w h
theorem groups_EXPIRE (n : Int) (w : World) : Calls Tryz.prog 76 #[.string ⟨#[69, 88, 80, 73, 82, 69]⟩, .int .i64 n] w fun e w' => e = .returned (.bool true) ∧ Below w.heap.size w w' := by
  go_enter Tryz.func76, Tryz.ntmps76
  go_wp2
  go_ret
  exact ⟨rfl, Below.refl _ _⟩
theorem hu_EXPIRE (w : World) : Calls Tryz.prog 40 #[.string ⟨#[69, 88, 80, 73, 82, 69]⟩] w fun e w' => e = .returned (.string ⟨#[69, 88, 80, 73, 82, 69]⟩) ∧ Below w.heap.size w w' := Upper62 ⟨#[69, 88, 80, 73, 82, 69]⟩ (by decide) (of_decide_eq_true (by kernel_rfl)) w
theorem Fits_EXPIRE (v : Value) (xs : List ByteArray) (hx : xs[0]? = some ⟨#[69, 88, 80, 73, 82, 69]⟩) (hlo : 3 ≤ xs.length) (hhi : xs.length ≤ 3) (w : World) (h : SSl w v xs) : Calls Tryz.prog 39 #[v] w fun e w' => e = .returned (.int .i64 0) ∧ Below w.heap.size w w' :=
  Fits_ok 5 ⟨#[69, 88, 80, 73, 82, 69]⟩ ⟨#[69, 88, 80, 73, 82, 69]⟩ 3 3 true 1 1 1 [69, 88, 80, 73, 82, 69] rfl (by kernel_rfl) hu_EXPIRE v xs hx (by omega) (.inr (by omega)) (groups_EXPIRE _) w h
theorem groups_PEXPIRE (n : Int) (w : World) : Calls Tryz.prog 76 #[.string ⟨#[80, 69, 88, 80, 73, 82, 69]⟩, .int .i64 n] w fun e w' => e = .returned (.bool true) ∧ Below w.heap.size w w' := by
  go_enter Tryz.func76, Tryz.ntmps76
  go_wp2
  go_ret
  exact ⟨rfl, Below.refl _ _⟩
theorem hu_PEXPIRE (w : World) : Calls Tryz.prog 40 #[.string ⟨#[80, 69, 88, 80, 73, 82, 69]⟩] w fun e w' => e = .returned (.string ⟨#[80, 69, 88, 80, 73, 82, 69]⟩) ∧ Below w.heap.size w w' := Upper62 ⟨#[80, 69, 88, 80, 73, 82, 69]⟩ (by decide) (of_decide_eq_true (by kernel_rfl)) w
theorem Fits_PEXPIRE (v : Value) (xs : List ByteArray) (hx : xs[0]? = some ⟨#[80, 69, 88, 80, 73, 82, 69]⟩) (hlo : 3 ≤ xs.length) (hhi : xs.length ≤ 3) (w : World) (h : SSl w v xs) : Calls Tryz.prog 39 #[v] w fun e w' => e = .returned (.int .i64 0) ∧ Below w.heap.size w w' :=
  Fits_ok 6 ⟨#[80, 69, 88, 80, 73, 82, 69]⟩ ⟨#[80, 69, 88, 80, 73, 82, 69]⟩ 3 3 true 1 1 1 [80, 69, 88, 80, 73, 82, 69] rfl (by kernel_rfl) hu_PEXPIRE v xs hx (by omega) (.inr (by omega)) (groups_PEXPIRE _) w h
theorem groups_TTL (n : Int) (w : World) : Calls Tryz.prog 76 #[.string ⟨#[84, 84, 76]⟩, .int .i64 n] w fun e w' => e = .returned (.bool true) ∧ Below w.heap.size w w' := by
  go_enter Tryz.func76, Tryz.ntmps76
  go_wp2
  go_ret
  exact ⟨rfl, Below.refl _ _⟩
theorem hu_TTL (w : World) : Calls Tryz.prog 40 #[.string ⟨#[84, 84, 76]⟩] w fun e w' => e = .returned (.string ⟨#[84, 84, 76]⟩) ∧ Below w.heap.size w w' := Upper62 ⟨#[84, 84, 76]⟩ (by decide) (of_decide_eq_true (by kernel_rfl)) w
theorem Fits_TTL (v : Value) (xs : List ByteArray) (hx : xs[0]? = some ⟨#[84, 84, 76]⟩) (hlo : 2 ≤ xs.length) (hhi : xs.length ≤ 2) (w : World) (h : SSl w v xs) : Calls Tryz.prog 39 #[v] w fun e w' => e = .returned (.int .i64 0) ∧ Below w.heap.size w w' :=
  Fits_ok 8 ⟨#[84, 84, 76]⟩ ⟨#[84, 84, 76]⟩ 2 2 false 1 1 1 [84, 84, 76] rfl (by kernel_rfl) hu_TTL v xs hx (by omega) (.inr (by omega)) (groups_TTL _) w h
theorem groups_PTTL (n : Int) (w : World) : Calls Tryz.prog 76 #[.string ⟨#[80, 84, 84, 76]⟩, .int .i64 n] w fun e w' => e = .returned (.bool true) ∧ Below w.heap.size w w' := by
  go_enter Tryz.func76, Tryz.ntmps76
  go_wp2
  go_ret
  exact ⟨rfl, Below.refl _ _⟩
theorem hu_PTTL (w : World) : Calls Tryz.prog 40 #[.string ⟨#[80, 84, 84, 76]⟩] w fun e w' => e = .returned (.string ⟨#[80, 84, 84, 76]⟩) ∧ Below w.heap.size w w' := Upper62 ⟨#[80, 84, 84, 76]⟩ (by decide) (of_decide_eq_true (by kernel_rfl)) w
theorem Fits_PTTL (v : Value) (xs : List ByteArray) (hx : xs[0]? = some ⟨#[80, 84, 84, 76]⟩) (hlo : 2 ≤ xs.length) (hhi : xs.length ≤ 2) (w : World) (h : SSl w v xs) : Calls Tryz.prog 39 #[v] w fun e w' => e = .returned (.int .i64 0) ∧ Below w.heap.size w w' :=
  Fits_ok 9 ⟨#[80, 84, 84, 76]⟩ ⟨#[80, 84, 84, 76]⟩ 2 2 false 1 1 1 [80, 84, 84, 76] rfl (by kernel_rfl) hu_PTTL v xs hx (by omega) (.inr (by omega)) (groups_PTTL _) w h
theorem groups_DBSIZE (n : Int) (w : World) : Calls Tryz.prog 76 #[.string ⟨#[68, 66, 83, 73, 90, 69]⟩, .int .i64 n] w fun e w' => e = .returned (.bool true) ∧ Below w.heap.size w w' := by
  go_enter Tryz.func76, Tryz.ntmps76
  go_wp2
  go_ret
  exact ⟨rfl, Below.refl _ _⟩
theorem hu_DBSIZE (w : World) : Calls Tryz.prog 40 #[.string ⟨#[68, 66, 83, 73, 90, 69]⟩] w fun e w' => e = .returned (.string ⟨#[68, 66, 83, 73, 90, 69]⟩) ∧ Below w.heap.size w w' := Upper62 ⟨#[68, 66, 83, 73, 90, 69]⟩ (by decide) (of_decide_eq_true (by kernel_rfl)) w
theorem Fits_DBSIZE (v : Value) (xs : List ByteArray) (hx : xs[0]? = some ⟨#[68, 66, 83, 73, 90, 69]⟩) (hlo : 1 ≤ xs.length) (hhi : xs.length ≤ 1) (w : World) (h : SSl w v xs) : Calls Tryz.prog 39 #[v] w fun e w' => e = .returned (.int .i64 0) ∧ Below w.heap.size w w' :=
  Fits_ok 12 ⟨#[68, 66, 83, 73, 90, 69]⟩ ⟨#[68, 66, 83, 73, 90, 69]⟩ 1 1 false 0 0 0 [68, 66, 83, 73, 90, 69] rfl (by kernel_rfl) hu_DBSIZE v xs hx (by omega) (.inr (by omega)) (groups_DBSIZE _) w h
theorem groups_RENAME (n : Int) (w : World) : Calls Tryz.prog 76 #[.string ⟨#[82, 69, 78, 65, 77, 69]⟩, .int .i64 n] w fun e w' => e = .returned (.bool true) ∧ Below w.heap.size w w' := by
  go_enter Tryz.func76, Tryz.ntmps76
  go_wp2
  go_ret
  exact ⟨rfl, Below.refl _ _⟩
theorem hu_rename_low (w : World) : Calls Tryz.prog 40 #[.string ⟨#[114, 101, 110, 97, 109, 101]⟩] w fun e w' => e = .returned (.string ⟨#[82, 69, 78, 65, 77, 69]⟩) ∧ Below w.heap.size w w' := UpperG ⟨#[114, 101, 110, 97, 109, 101]⟩ (by decide) w
theorem Fits_rename_low (v : Value) (xs : List ByteArray) (hx : xs[0]? = some ⟨#[114, 101, 110, 97, 109, 101]⟩) (hlo : 3 ≤ xs.length) (hhi : xs.length ≤ 3) (w : World) (h : SSl w v xs) : Calls Tryz.prog 39 #[v] w fun e w' => e = .returned (.int .i64 0) ∧ Below w.heap.size w w' :=
  Fits_ok 3 ⟨#[114, 101, 110, 97, 109, 101]⟩ ⟨#[82, 69, 78, 65, 77, 69]⟩ 3 3 true 1 2 1 [82, 69, 78, 65, 77, 69] rfl (by kernel_rfl) hu_rename_low v xs hx (by omega) (.inr (by omega)) (groups_RENAME _) w h
end Go.Proofs.YtllaeocclpaiaaaGreatDoor
