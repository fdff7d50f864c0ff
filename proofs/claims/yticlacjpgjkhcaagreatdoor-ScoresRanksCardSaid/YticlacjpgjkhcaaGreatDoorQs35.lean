/- Texts joined: Ft, G15z -/
import Derived.Test.YticlacjpgjkhcaaGreatDoorQs34
import Derived.Test.YticlacjpgjkhcaaGreatDoorQs15
set_option linter.unusedVariables false
set_option linter.unusedSimpArgs false

/- Fits at the commands that the laws call, by name. -/
namespace Go.Proofs.YticlacjpgjkhcaaGreatDoor
open Go.ChangeShapes Go.WideShapes Go.ChangeAt Go.RowKit

theorem groups_HSET (n : Int) (h : 0 ≤ n) (h2 : n ≤ 1000000) (he : n % 2 = 0) (w : World) : Calls Tryz.prog 154 #[.string ⟨#[72, 83, 69, 84]⟩, .int .i64 n] w fun e w' => e = .returned (.bool true) ∧ Below w.heap.size w w' := by
  go_enter Tryz.func154, Tryz.ntmps154
  go_wp2
  go_ret
  exact ⟨by simp <;> omega, Below.refl _ _⟩
theorem hu_HSET (w : World) : Calls Tryz.prog 96 #[.string ⟨#[72, 83, 69, 84]⟩] w fun e w' => e = .returned (.string ⟨#[72, 83, 69, 84]⟩) ∧ Below w.heap.size w w' := Upper62 ⟨#[72, 83, 69, 84]⟩ (by decide) (of_decide_eq_true (by kernel_rfl)) w
theorem Fits_HSET (v : Value) (xs : List ByteArray) (hx : xs[0]? = some ⟨#[72, 83, 69, 84]⟩) (hlo : 4 ≤ xs.length) (hhi : xs.length ≤ 1000000) (he : xs.length % 2 = 0) (w : World) (h : SSl w v xs) : Calls Tryz.prog 95 #[v] w fun e w' => e = .returned (.int .i64 0) ∧ Below w.heap.size w w' :=
  Fits_ok 43 ⟨#[72, 83, 69, 84]⟩ ⟨#[72, 83, 69, 84]⟩ 4 0 true 1 1 1 [72, 83, 69, 84] rfl (by kernel_rfl) hu_HSET v xs hx (by omega) (.inl (Int.le_refl 0)) (groups_HSET _ (by omega) (by omega) (by omega)) w h
theorem groups_HGETALL (n : Int) (w : World) : Calls Tryz.prog 154 #[.string ⟨#[72, 71, 69, 84, 65, 76, 76]⟩, .int .i64 n] w fun e w' => e = .returned (.bool true) ∧ Below w.heap.size w w' := by
  go_enter Tryz.func154, Tryz.ntmps154
  go_wp2
  go_ret
  exact ⟨rfl, Below.refl _ _⟩
theorem hu_HGETALL (w : World) : Calls Tryz.prog 96 #[.string ⟨#[72, 71, 69, 84, 65, 76, 76]⟩] w fun e w' => e = .returned (.string ⟨#[72, 71, 69, 84, 65, 76, 76]⟩) ∧ Below w.heap.size w w' := Upper62 ⟨#[72, 71, 69, 84, 65, 76, 76]⟩ (by decide) (of_decide_eq_true (by kernel_rfl)) w
theorem Fits_HGETALL (v : Value) (xs : List ByteArray) (hx : xs[0]? = some ⟨#[72, 71, 69, 84, 65, 76, 76]⟩) (hlo : 2 ≤ xs.length) (hhi : xs.length ≤ 2) (w : World) (h : SSl w v xs) : Calls Tryz.prog 95 #[v] w fun e w' => e = .returned (.int .i64 0) ∧ Below w.heap.size w w' :=
  Fits_ok 53 ⟨#[72, 71, 69, 84, 65, 76, 76]⟩ ⟨#[72, 71, 69, 84, 65, 76, 76]⟩ 2 2 false 1 1 1 [72, 71, 69, 84, 65, 76, 76] rfl (by kernel_rfl) hu_HGETALL v xs hx (by omega) (.inr (by omega)) (groups_HGETALL _) w h
theorem groups_HINCRBY (n : Int) (w : World) : Calls Tryz.prog 154 #[.string ⟨#[72, 73, 78, 67, 82, 66, 89]⟩, .int .i64 n] w fun e w' => e = .returned (.bool true) ∧ Below w.heap.size w w' := by
  go_enter Tryz.func154, Tryz.ntmps154
  go_wp2
  go_ret
  exact ⟨rfl, Below.refl _ _⟩
theorem hu_HINCRBY (w : World) : Calls Tryz.prog 96 #[.string ⟨#[72, 73, 78, 67, 82, 66, 89]⟩] w fun e w' => e = .returned (.string ⟨#[72, 73, 78, 67, 82, 66, 89]⟩) ∧ Below w.heap.size w w' := Upper62 ⟨#[72, 73, 78, 67, 82, 66, 89]⟩ (by decide) (of_decide_eq_true (by kernel_rfl)) w
theorem Fits_HINCRBY (v : Value) (xs : List ByteArray) (hx : xs[0]? = some ⟨#[72, 73, 78, 67, 82, 66, 89]⟩) (hlo : 4 ≤ xs.length) (hhi : xs.length ≤ 4) (w : World) (h : SSl w v xs) : Calls Tryz.prog 95 #[v] w fun e w' => e = .returned (.int .i64 0) ∧ Below w.heap.size w w' :=
  Fits_ok 54 ⟨#[72, 73, 78, 67, 82, 66, 89]⟩ ⟨#[72, 73, 78, 67, 82, 66, 89]⟩ 4 4 true 1 1 1 [72, 73, 78, 67, 82, 66, 89] rfl (by kernel_rfl) hu_HINCRBY v xs hx (by omega) (.inr (by omega)) (groups_HINCRBY _) w h
theorem groups_HDEL (n : Int) (w : World) : Calls Tryz.prog 154 #[.string ⟨#[72, 68, 69, 76]⟩, .int .i64 n] w fun e w' => e = .returned (.bool true) ∧ Below w.heap.size w w' := by
  go_enter Tryz.func154, Tryz.ntmps154
  go_wp2
  go_ret
  exact ⟨rfl, Below.refl _ _⟩
theorem hu_HDEL (w : World) : Calls Tryz.prog 96 #[.string ⟨#[72, 68, 69, 76]⟩] w fun e w' => e = .returned (.string ⟨#[72, 68, 69, 76]⟩) ∧ Below w.heap.size w w' := Upper62 ⟨#[72, 68, 69, 76]⟩ (by decide) (of_decide_eq_true (by kernel_rfl)) w
theorem Fits_HDEL (v : Value) (xs : List ByteArray) (hx : xs[0]? = some ⟨#[72, 68, 69, 76]⟩) (hlo : 3 ≤ xs.length) (w : World) (h : SSl w v xs) : Calls Tryz.prog 95 #[v] w fun e w' => e = .returned (.int .i64 0) ∧ Below w.heap.size w w' :=
  Fits_ok 47 ⟨#[72, 68, 69, 76]⟩ ⟨#[72, 68, 69, 76]⟩ 3 0 true 1 1 1 [72, 68, 69, 76] rfl (by kernel_rfl) hu_HDEL v xs hx (by omega) (.inl (Int.le_refl 0)) (groups_HDEL _) w h
theorem groups_HKEYS (n : Int) (w : World) : Calls Tryz.prog 154 #[.string ⟨#[72, 75, 69, 89, 83]⟩, .int .i64 n] w fun e w' => e = .returned (.bool true) ∧ Below w.heap.size w w' := by
  go_enter Tryz.func154, Tryz.ntmps154
  go_wp2
  go_ret
  exact ⟨rfl, Below.refl _ _⟩
theorem hu_HKEYS (w : World) : Calls Tryz.prog 96 #[.string ⟨#[72, 75, 69, 89, 83]⟩] w fun e w' => e = .returned (.string ⟨#[72, 75, 69, 89, 83]⟩) ∧ Below w.heap.size w w' := Upper62 ⟨#[72, 75, 69, 89, 83]⟩ (by decide) (of_decide_eq_true (by kernel_rfl)) w
theorem Fits_HKEYS (v : Value) (xs : List ByteArray) (hx : xs[0]? = some ⟨#[72, 75, 69, 89, 83]⟩) (hlo : 2 ≤ xs.length) (hhi : xs.length ≤ 2) (w : World) (h : SSl w v xs) : Calls Tryz.prog 95 #[v] w fun e w' => e = .returned (.int .i64 0) ∧ Below w.heap.size w w' :=
  Fits_ok 51 ⟨#[72, 75, 69, 89, 83]⟩ ⟨#[72, 75, 69, 89, 83]⟩ 2 2 false 1 1 1 [72, 75, 69, 89, 83] rfl (by kernel_rfl) hu_HKEYS v xs hx (by omega) (.inr (by omega)) (groups_HKEYS _) w h
theorem groups_HVALS (n : Int) (w : World) : Calls Tryz.prog 154 #[.string ⟨#[72, 86, 65, 76, 83]⟩, .int .i64 n] w fun e w' => e = .returned (.bool true) ∧ Below w.heap.size w w' := by
  go_enter Tryz.func154, Tryz.ntmps154
  go_wp2
  go_ret
  exact ⟨rfl, Below.refl _ _⟩
theorem hu_HVALS (w : World) : Calls Tryz.prog 96 #[.string ⟨#[72, 86, 65, 76, 83]⟩] w fun e w' => e = .returned (.string ⟨#[72, 86, 65, 76, 83]⟩) ∧ Below w.heap.size w w' := Upper62 ⟨#[72, 86, 65, 76, 83]⟩ (by decide) (of_decide_eq_true (by kernel_rfl)) w
theorem Fits_HVALS (v : Value) (xs : List ByteArray) (hx : xs[0]? = some ⟨#[72, 86, 65, 76, 83]⟩) (hlo : 2 ≤ xs.length) (hhi : xs.length ≤ 2) (w : World) (h : SSl w v xs) : Calls Tryz.prog 95 #[v] w fun e w' => e = .returned (.int .i64 0) ∧ Below w.heap.size w w' :=
  Fits_ok 52 ⟨#[72, 86, 65, 76, 83]⟩ ⟨#[72, 86, 65, 76, 83]⟩ 2 2 false 1 1 1 [72, 86, 65, 76, 83] rfl (by kernel_rfl) hu_HVALS v xs hx (by omega) (.inr (by omega)) (groups_HVALS _) w h
theorem groups_HLEN (n : Int) (w : World) : Calls Tryz.prog 154 #[.string ⟨#[72, 76, 69, 78]⟩, .int .i64 n] w fun e w' => e = .returned (.bool true) ∧ Below w.heap.size w w' := by
  go_enter Tryz.func154, Tryz.ntmps154
  go_wp2
  go_ret
  exact ⟨rfl, Below.refl _ _⟩
theorem hu_HLEN (w : World) : Calls Tryz.prog 96 #[.string ⟨#[72, 76, 69, 78]⟩] w fun e w' => e = .returned (.string ⟨#[72, 76, 69, 78]⟩) ∧ Below w.heap.size w w' := Upper62 ⟨#[72, 76, 69, 78]⟩ (by decide) (of_decide_eq_true (by kernel_rfl)) w
theorem Fits_HLEN (v : Value) (xs : List ByteArray) (hx : xs[0]? = some ⟨#[72, 76, 69, 78]⟩) (hlo : 2 ≤ xs.length) (hhi : xs.length ≤ 2) (w : World) (h : SSl w v xs) : Calls Tryz.prog 95 #[v] w fun e w' => e = .returned (.int .i64 0) ∧ Below w.heap.size w w' :=
  Fits_ok 49 ⟨#[72, 76, 69, 78]⟩ ⟨#[72, 76, 69, 78]⟩ 2 2 false 1 1 1 [72, 76, 69, 78] rfl (by kernel_rfl) hu_HLEN v xs hx (by omega) (.inr (by omega)) (groups_HLEN _) w h
theorem groups_HGET (n : Int) (w : World) : Calls Tryz.prog 154 #[.string ⟨#[72, 71, 69, 84]⟩, .int .i64 n] w fun e w' => e = .returned (.bool true) ∧ Below w.heap.size w w' := by
  go_enter Tryz.func154, Tryz.ntmps154
  go_wp2
  go_ret
  exact ⟨rfl, Below.refl _ _⟩
theorem hu_HGET (w : World) : Calls Tryz.prog 96 #[.string ⟨#[72, 71, 69, 84]⟩] w fun e w' => e = .returned (.string ⟨#[72, 71, 69, 84]⟩) ∧ Below w.heap.size w w' := Upper62 ⟨#[72, 71, 69, 84]⟩ (by decide) (of_decide_eq_true (by kernel_rfl)) w
theorem Fits_HGET (v : Value) (xs : List ByteArray) (hx : xs[0]? = some ⟨#[72, 71, 69, 84]⟩) (hlo : 3 ≤ xs.length) (hhi : xs.length ≤ 3) (w : World) (h : SSl w v xs) : Calls Tryz.prog 95 #[v] w fun e w' => e = .returned (.int .i64 0) ∧ Below w.heap.size w w' :=
  Fits_ok 45 ⟨#[72, 71, 69, 84]⟩ ⟨#[72, 71, 69, 84]⟩ 3 3 false 1 1 1 [72, 71, 69, 84] rfl (by kernel_rfl) hu_HGET v xs hx (by omega) (.inr (by omega)) (groups_HGET _) w h
theorem groups_HSTRLEN (n : Int) (w : World) : Calls Tryz.prog 154 #[.string ⟨#[72, 83, 84, 82, 76, 69, 78]⟩, .int .i64 n] w fun e w' => e = .returned (.bool true) ∧ Below w.heap.size w w' := by
  go_enter Tryz.func154, Tryz.ntmps154
  go_wp2
  go_ret
  exact ⟨rfl, Below.refl _ _⟩
theorem hu_HSTRLEN (w : World) : Calls Tryz.prog 96 #[.string ⟨#[72, 83, 84, 82, 76, 69, 78]⟩] w fun e w' => e = .returned (.string ⟨#[72, 83, 84, 82, 76, 69, 78]⟩) ∧ Below w.heap.size w w' := Upper62 ⟨#[72, 83, 84, 82, 76, 69, 78]⟩ (by decide) (of_decide_eq_true (by kernel_rfl)) w
theorem Fits_HSTRLEN (v : Value) (xs : List ByteArray) (hx : xs[0]? = some ⟨#[72, 83, 84, 82, 76, 69, 78]⟩) (hlo : 3 ≤ xs.length) (hhi : xs.length ≤ 3) (w : World) (h : SSl w v xs) : Calls Tryz.prog 95 #[v] w fun e w' => e = .returned (.int .i64 0) ∧ Below w.heap.size w w' :=
  Fits_ok 50 ⟨#[72, 83, 84, 82, 76, 69, 78]⟩ ⟨#[72, 83, 84, 82, 76, 69, 78]⟩ 3 3 false 1 1 1 [72, 83, 84, 82, 76, 69, 78] rfl (by kernel_rfl) hu_HSTRLEN v xs hx (by omega) (.inr (by omega)) (groups_HSTRLEN _) w h
theorem groups_HEXISTS (n : Int) (w : World) : Calls Tryz.prog 154 #[.string ⟨#[72, 69, 88, 73, 83, 84, 83]⟩, .int .i64 n] w fun e w' => e = .returned (.bool true) ∧ Below w.heap.size w w' := by
  go_enter Tryz.func154, Tryz.ntmps154
  go_wp2
  go_ret
  exact ⟨rfl, Below.refl _ _⟩
theorem hu_HEXISTS (w : World) : Calls Tryz.prog 96 #[.string ⟨#[72, 69, 88, 73, 83, 84, 83]⟩] w fun e w' => e = .returned (.string ⟨#[72, 69, 88, 73, 83, 84, 83]⟩) ∧ Below w.heap.size w w' := Upper62 ⟨#[72, 69, 88, 73, 83, 84, 83]⟩ (by decide) (of_decide_eq_true (by kernel_rfl)) w
theorem Fits_HEXISTS (v : Value) (xs : List ByteArray) (hx : xs[0]? = some ⟨#[72, 69, 88, 73, 83, 84, 83]⟩) (hlo : 3 ≤ xs.length) (hhi : xs.length ≤ 3) (w : World) (h : SSl w v xs) : Calls Tryz.prog 95 #[v] w fun e w' => e = .returned (.int .i64 0) ∧ Below w.heap.size w w' :=
  Fits_ok 48 ⟨#[72, 69, 88, 73, 83, 84, 83]⟩ ⟨#[72, 69, 88, 73, 83, 84, 83]⟩ 3 3 false 1 1 1 [72, 69, 88, 73, 83, 84, 83] rfl (by kernel_rfl) hu_HEXISTS v xs hx (by omega) (.inr (by omega)) (groups_HEXISTS _) w h
theorem groups_HSETNX (n : Int) (w : World) : Calls Tryz.prog 154 #[.string ⟨#[72, 83, 69, 84, 78, 88]⟩, .int .i64 n] w fun e w' => e = .returned (.bool true) ∧ Below w.heap.size w w' := by
  go_enter Tryz.func154, Tryz.ntmps154
  go_wp2
  go_ret
  exact ⟨rfl, Below.refl _ _⟩
theorem hu_HSETNX (w : World) : Calls Tryz.prog 96 #[.string ⟨#[72, 83, 69, 84, 78, 88]⟩] w fun e w' => e = .returned (.string ⟨#[72, 83, 69, 84, 78, 88]⟩) ∧ Below w.heap.size w w' := Upper62 ⟨#[72, 83, 69, 84, 78, 88]⟩ (by decide) (of_decide_eq_true (by kernel_rfl)) w
theorem Fits_HSETNX (v : Value) (xs : List ByteArray) (hx : xs[0]? = some ⟨#[72, 83, 69, 84, 78, 88]⟩) (hlo : 4 ≤ xs.length) (hhi : xs.length ≤ 4) (w : World) (h : SSl w v xs) : Calls Tryz.prog 95 #[v] w fun e w' => e = .returned (.int .i64 0) ∧ Below w.heap.size w w' :=
  Fits_ok 44 ⟨#[72, 83, 69, 84, 78, 88]⟩ ⟨#[72, 83, 69, 84, 78, 88]⟩ 4 4 true 1 1 1 [72, 83, 69, 84, 78, 88] rfl (by kernel_rfl) hu_HSETNX v xs hx (by omega) (.inr (by omega)) (groups_HSETNX _) w h
theorem groups_HMGET (n : Int) (w : World) : Calls Tryz.prog 154 #[.string ⟨#[72, 77, 71, 69, 84]⟩, .int .i64 n] w fun e w' => e = .returned (.bool true) ∧ Below w.heap.size w w' := by
  go_enter Tryz.func154, Tryz.ntmps154
  go_wp2
  go_ret
  exact ⟨rfl, Below.refl _ _⟩
theorem hu_HMGET (w : World) : Calls Tryz.prog 96 #[.string ⟨#[72, 77, 71, 69, 84]⟩] w fun e w' => e = .returned (.string ⟨#[72, 77, 71, 69, 84]⟩) ∧ Below w.heap.size w w' := Upper62 ⟨#[72, 77, 71, 69, 84]⟩ (by decide) (of_decide_eq_true (by kernel_rfl)) w
theorem Fits_HMGET (v : Value) (xs : List ByteArray) (hx : xs[0]? = some ⟨#[72, 77, 71, 69, 84]⟩) (hlo : 3 ≤ xs.length) (w : World) (h : SSl w v xs) : Calls Tryz.prog 95 #[v] w fun e w' => e = .returned (.int .i64 0) ∧ Below w.heap.size w w' :=
  Fits_ok 46 ⟨#[72, 77, 71, 69, 84]⟩ ⟨#[72, 77, 71, 69, 84]⟩ 3 0 false 1 1 1 [72, 77, 71, 69, 84] rfl (by kernel_rfl) hu_HMGET v xs hx (by omega) (.inl (Int.le_refl 0)) (groups_HMGET _) w h
theorem groups_ZADD (n : Int) (h : 0 ≤ n) (h2 : n ≤ 1000000) (he : n % 2 = 0) (w : World) : Calls Tryz.prog 154 #[.string ⟨#[90, 65, 68, 68]⟩, .int .i64 n] w fun e w' => e = .returned (.bool true) ∧ Below w.heap.size w w' := by
  go_enter Tryz.func154, Tryz.ntmps154
  go_wp2
  go_ret
  exact ⟨by simp <;> omega, Below.refl _ _⟩
theorem hu_ZADD (w : World) : Calls Tryz.prog 96 #[.string ⟨#[90, 65, 68, 68]⟩] w fun e w' => e = .returned (.string ⟨#[90, 65, 68, 68]⟩) ∧ Below w.heap.size w w' := Upper62 ⟨#[90, 65, 68, 68]⟩ (by decide) (of_decide_eq_true (by kernel_rfl)) w
theorem Fits_ZADD (v : Value) (xs : List ByteArray) (hx : xs[0]? = some ⟨#[90, 65, 68, 68]⟩) (hlo : 4 ≤ xs.length) (hhi : xs.length ≤ 1000000) (he : xs.length % 2 = 0) (w : World) (h : SSl w v xs) : Calls Tryz.prog 95 #[v] w fun e w' => e = .returned (.int .i64 0) ∧ Below w.heap.size w w' :=
  Fits_ok 55 ⟨#[90, 65, 68, 68]⟩ ⟨#[90, 65, 68, 68]⟩ 4 0 true 1 1 1 [90, 65, 68, 68] rfl (by kernel_rfl) hu_ZADD v xs hx (by omega) (.inl (Int.le_refl 0)) (groups_ZADD _ (by omega) (by omega) (by omega)) w h
theorem groups_ZRANGE (n : Int) (w : World) : Calls Tryz.prog 154 #[.string ⟨#[90, 82, 65, 78, 71, 69]⟩, .int .i64 n] w fun e w' => e = .returned (.bool true) ∧ Below w.heap.size w w' := by
  go_enter Tryz.func154, Tryz.ntmps154
  go_wp2
  go_ret
  exact ⟨rfl, Below.refl _ _⟩
theorem hu_ZRANGE (w : World) : Calls Tryz.prog 96 #[.string ⟨#[90, 82, 65, 78, 71, 69]⟩] w fun e w' => e = .returned (.string ⟨#[90, 82, 65, 78, 71, 69]⟩) ∧ Below w.heap.size w w' := Upper62 ⟨#[90, 82, 65, 78, 71, 69]⟩ (by decide) (of_decide_eq_true (by kernel_rfl)) w
theorem Fits_ZRANGE (v : Value) (xs : List ByteArray) (hx : xs[0]? = some ⟨#[90, 82, 65, 78, 71, 69]⟩) (hlo : 4 ≤ xs.length) (hhi : xs.length ≤ 4) (w : World) (h : SSl w v xs) : Calls Tryz.prog 95 #[v] w fun e w' => e = .returned (.int .i64 0) ∧ Below w.heap.size w w' :=
  Fits_ok 62 ⟨#[90, 82, 65, 78, 71, 69]⟩ ⟨#[90, 82, 65, 78, 71, 69]⟩ 4 4 false 1 1 1 [90, 82, 65, 78, 71, 69] rfl (by kernel_rfl) hu_ZRANGE v xs hx (by omega) (.inr (by omega)) (groups_ZRANGE _) w h
theorem groups_ZRANK (n : Int) (w : World) : Calls Tryz.prog 154 #[.string ⟨#[90, 82, 65, 78, 75]⟩, .int .i64 n] w fun e w' => e = .returned (.bool true) ∧ Below w.heap.size w w' := by
  go_enter Tryz.func154, Tryz.ntmps154
  go_wp2
  go_ret
  exact ⟨rfl, Below.refl _ _⟩
theorem hu_ZRANK (w : World) : Calls Tryz.prog 96 #[.string ⟨#[90, 82, 65, 78, 75]⟩] w fun e w' => e = .returned (.string ⟨#[90, 82, 65, 78, 75]⟩) ∧ Below w.heap.size w w' := Upper62 ⟨#[90, 82, 65, 78, 75]⟩ (by decide) (of_decide_eq_true (by kernel_rfl)) w
theorem Fits_ZRANK (v : Value) (xs : List ByteArray) (hx : xs[0]? = some ⟨#[90, 82, 65, 78, 75]⟩) (hlo : 3 ≤ xs.length) (hhi : xs.length ≤ 3) (w : World) (h : SSl w v xs) : Calls Tryz.prog 95 #[v] w fun e w' => e = .returned (.int .i64 0) ∧ Below w.heap.size w w' :=
  Fits_ok 60 ⟨#[90, 82, 65, 78, 75]⟩ ⟨#[90, 82, 65, 78, 75]⟩ 3 3 false 1 1 1 [90, 82, 65, 78, 75] rfl (by kernel_rfl) hu_ZRANK v xs hx (by omega) (.inr (by omega)) (groups_ZRANK _) w h
theorem groups_ZINCRBY (n : Int) (w : World) : Calls Tryz.prog 154 #[.string ⟨#[90, 73, 78, 67, 82, 66, 89]⟩, .int .i64 n] w fun e w' => e = .returned (.bool true) ∧ Below w.heap.size w w' := by
  go_enter Tryz.func154, Tryz.ntmps154
  go_wp2
  go_ret
  exact ⟨rfl, Below.refl _ _⟩
theorem hu_ZINCRBY (w : World) : Calls Tryz.prog 96 #[.string ⟨#[90, 73, 78, 67, 82, 66, 89]⟩] w fun e w' => e = .returned (.string ⟨#[90, 73, 78, 67, 82, 66, 89]⟩) ∧ Below w.heap.size w w' := Upper62 ⟨#[90, 73, 78, 67, 82, 66, 89]⟩ (by decide) (of_decide_eq_true (by kernel_rfl)) w
theorem Fits_ZINCRBY (v : Value) (xs : List ByteArray) (hx : xs[0]? = some ⟨#[90, 73, 78, 67, 82, 66, 89]⟩) (hlo : 4 ≤ xs.length) (hhi : xs.length ≤ 4) (w : World) (h : SSl w v xs) : Calls Tryz.prog 95 #[v] w fun e w' => e = .returned (.int .i64 0) ∧ Below w.heap.size w w' :=
  Fits_ok 56 ⟨#[90, 73, 78, 67, 82, 66, 89]⟩ ⟨#[90, 73, 78, 67, 82, 66, 89]⟩ 4 4 true 1 1 1 [90, 73, 78, 67, 82, 66, 89] rfl (by kernel_rfl) hu_ZINCRBY v xs hx (by omega) (.inr (by omega)) (groups_ZINCRBY _) w h
theorem groups_ZPOPMIN (n : Int) (w : World) : Calls Tryz.prog 154 #[.string ⟨#[90, 80, 79, 80, 77, 73, 78]⟩, .int .i64 n] w fun e w' => e = .returned (.bool true) ∧ Below w.heap.size w w' := by
  go_enter Tryz.func154, Tryz.ntmps154
  go_wp2
  go_ret
  exact ⟨rfl, Below.refl _ _⟩
theorem hu_ZPOPMIN (w : World) : Calls Tryz.prog 96 #[.string ⟨#[90, 80, 79, 80, 77, 73, 78]⟩] w fun e w' => e = .returned (.string ⟨#[90, 80, 79, 80, 77, 73, 78]⟩) ∧ Below w.heap.size w w' := Upper62 ⟨#[90, 80, 79, 80, 77, 73, 78]⟩ (by decide) (of_decide_eq_true (by kernel_rfl)) w
theorem Fits_ZPOPMIN (v : Value) (xs : List ByteArray) (hx : xs[0]? = some ⟨#[90, 80, 79, 80, 77, 73, 78]⟩) (hlo : 2 ≤ xs.length) (hhi : xs.length ≤ 2) (w : World) (h : SSl w v xs) : Calls Tryz.prog 95 #[v] w fun e w' => e = .returned (.int .i64 0) ∧ Below w.heap.size w w' :=
  Fits_ok 66 ⟨#[90, 80, 79, 80, 77, 73, 78]⟩ ⟨#[90, 80, 79, 80, 77, 73, 78]⟩ 2 2 true 1 1 1 [90, 80, 79, 80, 77, 73, 78] rfl (by kernel_rfl) hu_ZPOPMIN v xs hx (by omega) (.inr (by omega)) (groups_ZPOPMIN _) w h
theorem groups_ZCOUNT (n : Int) (w : World) : Calls Tryz.prog 154 #[.string ⟨#[90, 67, 79, 85, 78, 84]⟩, .int .i64 n] w fun e w' => e = .returned (.bool true) ∧ Below w.heap.size w w' := by
  go_enter Tryz.func154, Tryz.ntmps154
  go_wp2
  go_ret
  exact ⟨rfl, Below.refl _ _⟩
theorem hu_ZCOUNT (w : World) : Calls Tryz.prog 96 #[.string ⟨#[90, 67, 79, 85, 78, 84]⟩] w fun e w' => e = .returned (.string ⟨#[90, 67, 79, 85, 78, 84]⟩) ∧ Below w.heap.size w w' := Upper62 ⟨#[90, 67, 79, 85, 78, 84]⟩ (by decide) (of_decide_eq_true (by kernel_rfl)) w
theorem Fits_ZCOUNT (v : Value) (xs : List ByteArray) (hx : xs[0]? = some ⟨#[90, 67, 79, 85, 78, 84]⟩) (hlo : 4 ≤ xs.length) (hhi : xs.length ≤ 4) (w : World) (h : SSl w v xs) : Calls Tryz.prog 95 #[v] w fun e w' => e = .returned (.int .i64 0) ∧ Below w.heap.size w w' :=
  Fits_ok 65 ⟨#[90, 67, 79, 85, 78, 84]⟩ ⟨#[90, 67, 79, 85, 78, 84]⟩ 4 4 false 1 1 1 [90, 67, 79, 85, 78, 84] rfl (by kernel_rfl) hu_ZCOUNT v xs hx (by omega) (.inr (by omega)) (groups_ZCOUNT _) w h
theorem groups_ZREVRANGE (n : Int) (w : World) : Calls Tryz.prog 154 #[.string ⟨#[90, 82, 69, 86, 82, 65, 78, 71, 69]⟩, .int .i64 n] w fun e w' => e = .returned (.bool true) ∧ Below w.heap.size w w' := by
  go_enter Tryz.func154, Tryz.ntmps154
  go_wp2
  go_ret
  exact ⟨rfl, Below.refl _ _⟩
theorem hu_ZREVRANGE (w : World) : Calls Tryz.prog 96 #[.string ⟨#[90, 82, 69, 86, 82, 65, 78, 71, 69]⟩] w fun e w' => e = .returned (.string ⟨#[90, 82, 69, 86, 82, 65, 78, 71, 69]⟩) ∧ Below w.heap.size w w' := Upper62 ⟨#[90, 82, 69, 86, 82, 65, 78, 71, 69]⟩ (by decide) (of_decide_eq_true (by kernel_rfl)) w
theorem Fits_ZREVRANGE (v : Value) (xs : List ByteArray) (hx : xs[0]? = some ⟨#[90, 82, 69, 86, 82, 65, 78, 71, 69]⟩) (hlo : 4 ≤ xs.length) (hhi : xs.length ≤ 4) (w : World) (h : SSl w v xs) : Calls Tryz.prog 95 #[v] w fun e w' => e = .returned (.int .i64 0) ∧ Below w.heap.size w w' :=
  Fits_ok 63 ⟨#[90, 82, 69, 86, 82, 65, 78, 71, 69]⟩ ⟨#[90, 82, 69, 86, 82, 65, 78, 71, 69]⟩ 4 4 false 1 1 1 [90, 82, 69, 86, 82, 65, 78, 71, 69] rfl (by kernel_rfl) hu_ZREVRANGE v xs hx (by omega) (.inr (by omega)) (groups_ZREVRANGE _) w h
theorem groups_ZRANGEBYSCORE (n : Int) (w : World) : Calls Tryz.prog 154 #[.string ⟨#[90, 82, 65, 78, 71, 69, 66, 89, 83, 67, 79, 82, 69]⟩, .int .i64 n] w fun e w' => e = .returned (.bool true) ∧ Below w.heap.size w w' := by
  go_enter Tryz.func154, Tryz.ntmps154
  go_wp2
  go_ret
  exact ⟨rfl, Below.refl _ _⟩
theorem hu_ZRANGEBYSCORE (w : World) : Calls Tryz.prog 96 #[.string ⟨#[90, 82, 65, 78, 71, 69, 66, 89, 83, 67, 79, 82, 69]⟩] w fun e w' => e = .returned (.string ⟨#[90, 82, 65, 78, 71, 69, 66, 89, 83, 67, 79, 82, 69]⟩) ∧ Below w.heap.size w w' := Upper62 ⟨#[90, 82, 65, 78, 71, 69, 66, 89, 83, 67, 79, 82, 69]⟩ (by decide) (of_decide_eq_true (by kernel_rfl)) w
theorem Fits_ZRANGEBYSCORE (v : Value) (xs : List ByteArray) (hx : xs[0]? = some ⟨#[90, 82, 65, 78, 71, 69, 66, 89, 83, 67, 79, 82, 69]⟩) (hlo : 4 ≤ xs.length) (hhi : xs.length ≤ 4) (w : World) (h : SSl w v xs) : Calls Tryz.prog 95 #[v] w fun e w' => e = .returned (.int .i64 0) ∧ Below w.heap.size w w' :=
  Fits_ok 64 ⟨#[90, 82, 65, 78, 71, 69, 66, 89, 83, 67, 79, 82, 69]⟩ ⟨#[90, 82, 65, 78, 71, 69, 66, 89, 83, 67, 79, 82, 69]⟩ 4 4 false 1 1 1 [90, 82, 65, 78, 71, 69, 66, 89, 83, 67, 79, 82, 69] rfl (by kernel_rfl) hu_ZRANGEBYSCORE v xs hx (by omega) (.inr (by omega)) (groups_ZRANGEBYSCORE _) w h
theorem groups_ZCARD (n : Int) (w : World) : Calls Tryz.prog 154 #[.string ⟨#[90, 67, 65, 82, 68]⟩, .int .i64 n] w fun e w' => e = .returned (.bool true) ∧ Below w.heap.size w w' := by
  go_enter Tryz.func154, Tryz.ntmps154
  go_wp2
  go_ret
  exact ⟨rfl, Below.refl _ _⟩
theorem hu_ZCARD (w : World) : Calls Tryz.prog 96 #[.string ⟨#[90, 67, 65, 82, 68]⟩] w fun e w' => e = .returned (.string ⟨#[90, 67, 65, 82, 68]⟩) ∧ Below w.heap.size w w' := Upper62 ⟨#[90, 67, 65, 82, 68]⟩ (by decide) (of_decide_eq_true (by kernel_rfl)) w
theorem Fits_ZCARD (v : Value) (xs : List ByteArray) (hx : xs[0]? = some ⟨#[90, 67, 65, 82, 68]⟩) (hlo : 2 ≤ xs.length) (hhi : xs.length ≤ 2) (w : World) (h : SSl w v xs) : Calls Tryz.prog 95 #[v] w fun e w' => e = .returned (.int .i64 0) ∧ Below w.heap.size w w' :=
  Fits_ok 59 ⟨#[90, 67, 65, 82, 68]⟩ ⟨#[90, 67, 65, 82, 68]⟩ 2 2 false 1 1 1 [90, 67, 65, 82, 68] rfl (by kernel_rfl) hu_ZCARD v xs hx (by omega) (.inr (by omega)) (groups_ZCARD _) w h
theorem groups_ZREVRANK (n : Int) (w : World) : Calls Tryz.prog 154 #[.string ⟨#[90, 82, 69, 86, 82, 65, 78, 75]⟩, .int .i64 n] w fun e w' => e = .returned (.bool true) ∧ Below w.heap.size w w' := by
  go_enter Tryz.func154, Tryz.ntmps154
  go_wp2
  go_ret
  exact ⟨rfl, Below.refl _ _⟩
theorem hu_ZREVRANK (w : World) : Calls Tryz.prog 96 #[.string ⟨#[90, 82, 69, 86, 82, 65, 78, 75]⟩] w fun e w' => e = .returned (.string ⟨#[90, 82, 69, 86, 82, 65, 78, 75]⟩) ∧ Below w.heap.size w w' := Upper62 ⟨#[90, 82, 69, 86, 82, 65, 78, 75]⟩ (by decide) (of_decide_eq_true (by kernel_rfl)) w
theorem Fits_ZREVRANK (v : Value) (xs : List ByteArray) (hx : xs[0]? = some ⟨#[90, 82, 69, 86, 82, 65, 78, 75]⟩) (hlo : 3 ≤ xs.length) (hhi : xs.length ≤ 3) (w : World) (h : SSl w v xs) : Calls Tryz.prog 95 #[v] w fun e w' => e = .returned (.int .i64 0) ∧ Below w.heap.size w w' :=
  Fits_ok 61 ⟨#[90, 82, 69, 86, 82, 65, 78, 75]⟩ ⟨#[90, 82, 69, 86, 82, 65, 78, 75]⟩ 3 3 false 1 1 1 [90, 82, 69, 86, 82, 65, 78, 75] rfl (by kernel_rfl) hu_ZREVRANK v xs hx (by omega) (.inr (by omega)) (groups_ZREVRANK _) w h
theorem groups_ZSCORE (n : Int) (w : World) : Calls Tryz.prog 154 #[.string ⟨#[90, 83, 67, 79, 82, 69]⟩, .int .i64 n] w fun e w' => e = .returned (.bool true) ∧ Below w.heap.size w w' := by
  go_enter Tryz.func154, Tryz.ntmps154
  go_wp2
  go_ret
  exact ⟨rfl, Below.refl _ _⟩
theorem hu_ZSCORE (w : World) : Calls Tryz.prog 96 #[.string ⟨#[90, 83, 67, 79, 82, 69]⟩] w fun e w' => e = .returned (.string ⟨#[90, 83, 67, 79, 82, 69]⟩) ∧ Below w.heap.size w w' := Upper62 ⟨#[90, 83, 67, 79, 82, 69]⟩ (by decide) (of_decide_eq_true (by kernel_rfl)) w
theorem Fits_ZSCORE (v : Value) (xs : List ByteArray) (hx : xs[0]? = some ⟨#[90, 83, 67, 79, 82, 69]⟩) (hlo : 3 ≤ xs.length) (hhi : xs.length ≤ 3) (w : World) (h : SSl w v xs) : Calls Tryz.prog 95 #[v] w fun e w' => e = .returned (.int .i64 0) ∧ Below w.heap.size w w' :=
  Fits_ok 58 ⟨#[90, 83, 67, 79, 82, 69]⟩ ⟨#[90, 83, 67, 79, 82, 69]⟩ 3 3 false 1 1 1 [90, 83, 67, 79, 82, 69] rfl (by kernel_rfl) hu_ZSCORE v xs hx (by omega) (.inr (by omega)) (groups_ZSCORE _) w h
theorem groups_ZREMRANGEBYRANK (n : Int) (w : World) : Calls Tryz.prog 154 #[.string ⟨#[90, 82, 69, 77, 82, 65, 78, 71, 69, 66, 89, 82, 65, 78, 75]⟩, .int .i64 n] w fun e w' => e = .returned (.bool true) ∧ Below w.heap.size w w' := by
  go_enter Tryz.func154, Tryz.ntmps154
  go_wp2
  go_ret
  exact ⟨rfl, Below.refl _ _⟩
theorem hu_ZREMRANGEBYRANK (w : World) : Calls Tryz.prog 96 #[.string ⟨#[90, 82, 69, 77, 82, 65, 78, 71, 69, 66, 89, 82, 65, 78, 75]⟩] w fun e w' => e = .returned (.string ⟨#[90, 82, 69, 77, 82, 65, 78, 71, 69, 66, 89, 82, 65, 78, 75]⟩) ∧ Below w.heap.size w w' := Upper62 ⟨#[90, 82, 69, 77, 82, 65, 78, 71, 69, 66, 89, 82, 65, 78, 75]⟩ (by decide) (of_decide_eq_true (by kernel_rfl)) w
theorem Fits_ZREMRANGEBYRANK (v : Value) (xs : List ByteArray) (hx : xs[0]? = some ⟨#[90, 82, 69, 77, 82, 65, 78, 71, 69, 66, 89, 82, 65, 78, 75]⟩) (hlo : 4 ≤ xs.length) (hhi : xs.length ≤ 4) (w : World) (h : SSl w v xs) : Calls Tryz.prog 95 #[v] w fun e w' => e = .returned (.int .i64 0) ∧ Below w.heap.size w w' :=
  Fits_ok 68 ⟨#[90, 82, 69, 77, 82, 65, 78, 71, 69, 66, 89, 82, 65, 78, 75]⟩ ⟨#[90, 82, 69, 77, 82, 65, 78, 71, 69, 66, 89, 82, 65, 78, 75]⟩ 4 4 true 1 1 1 [90, 82, 69, 77, 82, 65, 78, 71, 69, 66, 89, 82, 65, 78, 75] rfl (by kernel_rfl) hu_ZREMRANGEBYRANK v xs hx (by omega) (.inr (by omega)) (groups_ZREMRANGEBYRANK _) w h
theorem groups_ZREMRANGEBYSCORE (n : Int) (w : World) : Calls Tryz.prog 154 #[.string ⟨#[90, 82, 69, 77, 82, 65, 78, 71, 69, 66, 89, 83, 67, 79, 82, 69]⟩, .int .i64 n] w fun e w' => e = .returned (.bool true) ∧ Below w.heap.size w w' := by
  go_enter Tryz.func154, Tryz.ntmps154
  go_wp2
  go_ret
  exact ⟨rfl, Below.refl _ _⟩
theorem hu_ZREMRANGEBYSCORE (w : World) : Calls Tryz.prog 96 #[.string ⟨#[90, 82, 69, 77, 82, 65, 78, 71, 69, 66, 89, 83, 67, 79, 82, 69]⟩] w fun e w' => e = .returned (.string ⟨#[90, 82, 69, 77, 82, 65, 78, 71, 69, 66, 89, 83, 67, 79, 82, 69]⟩) ∧ Below w.heap.size w w' := Upper62 ⟨#[90, 82, 69, 77, 82, 65, 78, 71, 69, 66, 89, 83, 67, 79, 82, 69]⟩ (by decide) (of_decide_eq_true (by kernel_rfl)) w
theorem Fits_ZREMRANGEBYSCORE (v : Value) (xs : List ByteArray) (hx : xs[0]? = some ⟨#[90, 82, 69, 77, 82, 65, 78, 71, 69, 66, 89, 83, 67, 79, 82, 69]⟩) (hlo : 4 ≤ xs.length) (hhi : xs.length ≤ 4) (w : World) (h : SSl w v xs) : Calls Tryz.prog 95 #[v] w fun e w' => e = .returned (.int .i64 0) ∧ Below w.heap.size w w' :=
  Fits_ok 69 ⟨#[90, 82, 69, 77, 82, 65, 78, 71, 69, 66, 89, 83, 67, 79, 82, 69]⟩ ⟨#[90, 82, 69, 77, 82, 65, 78, 71, 69, 66, 89, 83, 67, 79, 82, 69]⟩ 4 4 true 1 1 1 [90, 82, 69, 77, 82, 65, 78, 71, 69, 66, 89, 83, 67, 79, 82, 69] rfl (by kernel_rfl) hu_ZREMRANGEBYSCORE v xs hx (by omega) (.inr (by omega)) (groups_ZREMRANGEBYSCORE _) w h
theorem groups_PADD (n : Int) (h : 0 ≤ n) (h2 : n ≤ 1000000) (he : n % 3 = 2) (w : World) : Calls Tryz.prog 154 #[.string ⟨#[80, 65, 68, 68]⟩, .int .i64 n] w fun e w' => e = .returned (.bool true) ∧ Below w.heap.size w w' := by
  go_enter Tryz.func154, Tryz.ntmps154
  go_wp2
  go_ret
  exact ⟨by simp <;> omega, Below.refl _ _⟩
theorem hu_PADD (w : World) : Calls Tryz.prog 96 #[.string ⟨#[80, 65, 68, 68]⟩] w fun e w' => e = .returned (.string ⟨#[80, 65, 68, 68]⟩) ∧ Below w.heap.size w w' := Upper62 ⟨#[80, 65, 68, 68]⟩ (by decide) (of_decide_eq_true (by kernel_rfl)) w
theorem Fits_PADD (v : Value) (xs : List ByteArray) (hx : xs[0]? = some ⟨#[80, 65, 68, 68]⟩) (hlo : 5 ≤ xs.length) (hhi : xs.length ≤ 1000000) (he : xs.length % 3 = 2) (w : World) (h : SSl w v xs) : Calls Tryz.prog 95 #[v] w fun e w' => e = .returned (.int .i64 0) ∧ Below w.heap.size w w' :=
  Fits_ok 70 ⟨#[80, 65, 68, 68]⟩ ⟨#[80, 65, 68, 68]⟩ 5 0 true 1 1 1 [80, 65, 68, 68] rfl (by kernel_rfl) hu_PADD v xs hx (by omega) (.inl (Int.le_refl 0)) (groups_PADD _ (by omega) (by omega) (by omega)) w h
theorem groups_PTURN (n : Int) (w : World) : Calls Tryz.prog 154 #[.string ⟨#[80, 84, 85, 82, 78]⟩, .int .i64 n] w fun e w' => e = .returned (.bool true) ∧ Below w.heap.size w w' := by
  go_enter Tryz.func154, Tryz.ntmps154
  go_wp2
  go_ret
  exact ⟨rfl, Below.refl _ _⟩
theorem hu_PTURN (w : World) : Calls Tryz.prog 96 #[.string ⟨#[80, 84, 85, 82, 78]⟩] w fun e w' => e = .returned (.string ⟨#[80, 84, 85, 82, 78]⟩) ∧ Below w.heap.size w w' := Upper62 ⟨#[80, 84, 85, 82, 78]⟩ (by decide) (of_decide_eq_true (by kernel_rfl)) w
theorem Fits_PTURN (v : Value) (xs : List ByteArray) (hx : xs[0]? = some ⟨#[80, 84, 85, 82, 78]⟩) (hlo : 3 ≤ xs.length) (hhi : xs.length ≤ 3) (w : World) (h : SSl w v xs) : Calls Tryz.prog 95 #[v] w fun e w' => e = .returned (.int .i64 0) ∧ Below w.heap.size w w' :=
  Fits_ok 75 ⟨#[80, 84, 85, 82, 78]⟩ ⟨#[80, 84, 85, 82, 78]⟩ 3 3 true 1 1 1 [80, 84, 85, 82, 78] rfl (by kernel_rfl) hu_PTURN v xs hx (by omega) (.inr (by omega)) (groups_PTURN _) w h
theorem groups_PPOS (n : Int) (w : World) : Calls Tryz.prog 154 #[.string ⟨#[80, 80, 79, 83]⟩, .int .i64 n] w fun e w' => e = .returned (.bool true) ∧ Below w.heap.size w w' := by
  go_enter Tryz.func154, Tryz.ntmps154
  go_wp2
  go_ret
  exact ⟨rfl, Below.refl _ _⟩
theorem hu_PPOS (w : World) : Calls Tryz.prog 96 #[.string ⟨#[80, 80, 79, 83]⟩] w fun e w' => e = .returned (.string ⟨#[80, 80, 79, 83]⟩) ∧ Below w.heap.size w w' := Upper62 ⟨#[80, 80, 79, 83]⟩ (by decide) (of_decide_eq_true (by kernel_rfl)) w
theorem Fits_PPOS (v : Value) (xs : List ByteArray) (hx : xs[0]? = some ⟨#[80, 80, 79, 83]⟩) (hlo : 3 ≤ xs.length) (hhi : xs.length ≤ 3) (w : World) (h : SSl w v xs) : Calls Tryz.prog 95 #[v] w fun e w' => e = .returned (.int .i64 0) ∧ Below w.heap.size w w' :=
  Fits_ok 72 ⟨#[80, 80, 79, 83]⟩ ⟨#[80, 80, 79, 83]⟩ 3 3 false 1 1 1 [80, 80, 79, 83] rfl (by kernel_rfl) hu_PPOS v xs hx (by omega) (.inr (by omega)) (groups_PPOS _) w h
theorem groups_PSUM (n : Int) (w : World) : Calls Tryz.prog 154 #[.string ⟨#[80, 83, 85, 77]⟩, .int .i64 n] w fun e w' => e = .returned (.bool true) ∧ Below w.heap.size w w' := by
  go_enter Tryz.func154, Tryz.ntmps154
  go_wp2
  go_ret
  exact ⟨rfl, Below.refl _ _⟩
theorem hu_PSUM (w : World) : Calls Tryz.prog 96 #[.string ⟨#[80, 83, 85, 77]⟩] w fun e w' => e = .returned (.string ⟨#[80, 83, 85, 77]⟩) ∧ Below w.heap.size w w' := Upper62 ⟨#[80, 83, 85, 77]⟩ (by decide) (of_decide_eq_true (by kernel_rfl)) w
theorem Fits_PSUM (v : Value) (xs : List ByteArray) (hx : xs[0]? = some ⟨#[80, 83, 85, 77]⟩) (hlo : 2 ≤ xs.length) (hhi : xs.length ≤ 2) (w : World) (h : SSl w v xs) : Calls Tryz.prog 95 #[v] w fun e w' => e = .returned (.int .i64 0) ∧ Below w.heap.size w w' :=
  Fits_ok 78 ⟨#[80, 83, 85, 77]⟩ ⟨#[80, 83, 85, 77]⟩ 2 2 false 1 1 1 [80, 83, 85, 77] rfl (by kernel_rfl) hu_PSUM v xs hx (by omega) (.inr (by omega)) (groups_PSUM _) w h
theorem groups_PNEAR (n : Int) (w : World) : Calls Tryz.prog 154 #[.string ⟨#[80, 78, 69, 65, 82]⟩, .int .i64 n] w fun e w' => e = .returned (.bool true) ∧ Below w.heap.size w w' := by
  go_enter Tryz.func154, Tryz.ntmps154
  go_wp2
  go_ret
  exact ⟨rfl, Below.refl _ _⟩
theorem hu_PNEAR (w : World) : Calls Tryz.prog 96 #[.string ⟨#[80, 78, 69, 65, 82]⟩] w fun e w' => e = .returned (.string ⟨#[80, 78, 69, 65, 82]⟩) ∧ Below w.heap.size w w' := Upper62 ⟨#[80, 78, 69, 65, 82]⟩ (by decide) (of_decide_eq_true (by kernel_rfl)) w
theorem Fits_PNEAR (v : Value) (xs : List ByteArray) (hx : xs[0]? = some ⟨#[80, 78, 69, 65, 82]⟩) (hlo : 4 ≤ xs.length) (hhi : xs.length ≤ 4) (w : World) (h : SSl w v xs) : Calls Tryz.prog 95 #[v] w fun e w' => e = .returned (.int .i64 0) ∧ Below w.heap.size w w' :=
  Fits_ok 77 ⟨#[80, 78, 69, 65, 82]⟩ ⟨#[80, 78, 69, 65, 82]⟩ 4 4 false 1 1 1 [80, 78, 69, 65, 82] rfl (by kernel_rfl) hu_PNEAR v xs hx (by omega) (.inr (by omega)) (groups_PNEAR _) w h
theorem groups_PMOVE (n : Int) (w : World) : Calls Tryz.prog 154 #[.string ⟨#[80, 77, 79, 86, 69]⟩, .int .i64 n] w fun e w' => e = .returned (.bool true) ∧ Below w.heap.size w w' := by
  go_enter Tryz.func154, Tryz.ntmps154
  go_wp2
  go_ret
  exact ⟨rfl, Below.refl _ _⟩
theorem hu_PMOVE (w : World) : Calls Tryz.prog 96 #[.string ⟨#[80, 77, 79, 86, 69]⟩] w fun e w' => e = .returned (.string ⟨#[80, 77, 79, 86, 69]⟩) ∧ Below w.heap.size w w' := Upper62 ⟨#[80, 77, 79, 86, 69]⟩ (by decide) (of_decide_eq_true (by kernel_rfl)) w
theorem Fits_PMOVE (v : Value) (xs : List ByteArray) (hx : xs[0]? = some ⟨#[80, 77, 79, 86, 69]⟩) (hlo : 4 ≤ xs.length) (hhi : xs.length ≤ 4) (w : World) (h : SSl w v xs) : Calls Tryz.prog 95 #[v] w fun e w' => e = .returned (.int .i64 0) ∧ Below w.heap.size w w' :=
  Fits_ok 74 ⟨#[80, 77, 79, 86, 69]⟩ ⟨#[80, 77, 79, 86, 69]⟩ 4 4 true 1 1 1 [80, 77, 79, 86, 69] rfl (by kernel_rfl) hu_PMOVE v xs hx (by omega) (.inr (by omega)) (groups_PMOVE _) w h
theorem groups_PALL (n : Int) (w : World) : Calls Tryz.prog 154 #[.string ⟨#[80, 65, 76, 76]⟩, .int .i64 n] w fun e w' => e = .returned (.bool true) ∧ Below w.heap.size w w' := by
  go_enter Tryz.func154, Tryz.ntmps154
  go_wp2
  go_ret
  exact ⟨rfl, Below.refl _ _⟩
theorem hu_PALL (w : World) : Calls Tryz.prog 96 #[.string ⟨#[80, 65, 76, 76]⟩] w fun e w' => e = .returned (.string ⟨#[80, 65, 76, 76]⟩) ∧ Below w.heap.size w w' := Upper62 ⟨#[80, 65, 76, 76]⟩ (by decide) (of_decide_eq_true (by kernel_rfl)) w
theorem Fits_PALL (v : Value) (xs : List ByteArray) (hx : xs[0]? = some ⟨#[80, 65, 76, 76]⟩) (hlo : 2 ≤ xs.length) (hhi : xs.length ≤ 2) (w : World) (h : SSl w v xs) : Calls Tryz.prog 95 #[v] w fun e w' => e = .returned (.int .i64 0) ∧ Below w.heap.size w w' :=
  Fits_ok 79 ⟨#[80, 65, 76, 76]⟩ ⟨#[80, 65, 76, 76]⟩ 2 2 false 1 1 1 [80, 65, 76, 76] rfl (by kernel_rfl) hu_PALL v xs hx (by omega) (.inr (by omega)) (groups_PALL _) w h
theorem groups_PSCALE (n : Int) (w : World) : Calls Tryz.prog 154 #[.string ⟨#[80, 83, 67, 65, 76, 69]⟩, .int .i64 n] w fun e w' => e = .returned (.bool true) ∧ Below w.heap.size w w' := by
  go_enter Tryz.func154, Tryz.ntmps154
  go_wp2
  go_ret
  exact ⟨rfl, Below.refl _ _⟩
theorem hu_PSCALE (w : World) : Calls Tryz.prog 96 #[.string ⟨#[80, 83, 67, 65, 76, 69]⟩] w fun e w' => e = .returned (.string ⟨#[80, 83, 67, 65, 76, 69]⟩) ∧ Below w.heap.size w w' := Upper62 ⟨#[80, 83, 67, 65, 76, 69]⟩ (by decide) (of_decide_eq_true (by kernel_rfl)) w
theorem Fits_PSCALE (v : Value) (xs : List ByteArray) (hx : xs[0]? = some ⟨#[80, 83, 67, 65, 76, 69]⟩) (hlo : 4 ≤ xs.length) (hhi : xs.length ≤ 4) (w : World) (h : SSl w v xs) : Calls Tryz.prog 95 #[v] w fun e w' => e = .returned (.int .i64 0) ∧ Below w.heap.size w w' :=
  Fits_ok 76 ⟨#[80, 83, 67, 65, 76, 69]⟩ ⟨#[80, 83, 67, 65, 76, 69]⟩ 4 4 true 1 1 1 [80, 83, 67, 65, 76, 69] rfl (by kernel_rfl) hu_PSCALE v xs hx (by omega) (.inr (by omega)) (groups_PSCALE _) w h
end Go.Proofs.YticlacjpgjkhcaaGreatDoor

/- A law's do where the command is refused. -/
namespace Go.Proofs.YticlacjpgjkhcaaGreatDoor
open Go.ChangeShapes Go.WideShapes Go.ChangeAt Go.RowKit

set_option maxRecDepth 100000 in
set_option maxHeartbeats 8000000 in
theorem do_failGz (bS : Nat) (vA : Value) (n : Int) (w : World) (hD : ∀ X, Below w.heap.size w X → Calls Tryz.prog 30 #[.pointer (some ⟨bS, 0, none⟩), .int .i64 1, vA] X fun e w' => e = .returned (.tuple #[.agg #[.int .i64 2, .int .i64 n, .string ⟨#[]⟩, .slice none 0 0], .slice none 0 0, .bool true]) ∧ Below X.heap.size X w') : Calls Tryz.prog 17 #[.pointer (some ⟨bS, 0, none⟩), vA] w fun e w' => e = .returned (.agg #[.int .i64 2, .int .i64 n, .string ⟨#[]⟩, .slice none 0 0]) ∧ Below w.heap.size w w' := by
  have A1 := Lib.hid (alloc_old (w := w) (o := .cells #[.int .i64 0, .int .i64 0, .string ⟨#[]⟩, .slice none 0 0] 29))
  have hr := Lib.hid (heap_alloc_new w (.cells #[.int .i64 0, .int .i64 0, .string ⟨#[]⟩, .slice none 0 0] 29))
  have D := Lib.hid (hD _ A1.out)
  clear hD
  go_enter Tryz.func17, Tryz.ntmps17
  go_wp2_with (first | (go_at_call 30; (with_reducible refine (D.out).mono ?_); rintro e w5 ⟨rfl, hb5⟩; have B5 := Lib.hid (A1.out.trans (hb5.mono (Below.size A1.out))); have R5 := Lib.hid (blk_below hr.out hb5); clear hb5; refine Hid.out ?_))
  refine Lib.hid ?_
  have B6 := Lib.hid (show Below w.heap.size w (w5.alloc (.cells #[.int .i64 2, .int .i64 n, .string ⟨#[]⟩, .slice none 0 0] 29)) from B5.out.trans (alloc_old.mono (Below.size B5.out)))
  have o6 := Lib.hid (heap_alloc_new w5 (.cells #[.int .i64 2, .int .i64 n, .string ⟨#[]⟩, .slice none 0 0] 29))
  have R6 := Lib.hid (blk_below R5.out (alloc_old (o := .cells #[.int .i64 2, .int .i64 n, .string ⟨#[]⟩, .slice none 0 0] 29)))
  go_wp2_with fail
  generalize (w5.alloc (.cells #[.int .i64 2, .int .i64 n, .string ⟨#[]⟩, .slice none 0 0] 29)) = w6 at B6 o6 R6 ⊢
  refine wp_loop_once ?_
  obtain ⟨⟨d0, d1, d2, d3⟩, _⟩ := cells4 o6.out
  obtain ⟨⟨c0, c1, c2, c3⟩, ⟨f0, f1, f2, f3⟩⟩ := cells4 R6.out
  go_wp2
  exact bodyPost_ret (v := .agg #[.int .i64 2, .int .i64 n, .string ⟨#[]⟩, .slice none 0 0]) (by simp [results, Tryz.results17, go_sem, c0, c1, c2, c3]) rfl ⟨rfl, ((((B6.out.setCell (Nat.le_refl _) _).setCell (Nat.le_refl _) _).setCell (Nat.le_refl _) _).setCell (Nat.le_refl _) _)⟩
end Go.Proofs.YticlacjpgjkhcaaGreatDoor
