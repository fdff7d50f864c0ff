/- The commands' table as plain data (no program). -/
import Derived.KernelRfl
import GoSem.Core.World
namespace Go.CmdT

/-- A command's row: its name, least and most arguments, does it write, first key, last key, step. -/
abbrev Row := List UInt8 × Int × Int × Bool × Int × Int × Int
def rowsT : List Row := [
  ([68, 69, 76], 2, 0, true, 1, (-1), 1),
  ([69, 88, 73, 83, 84, 83], 2, 0, false, 1, (-1), 1),
  ([84, 89, 80, 69], 2, 2, false, 1, 1, 1),
  ([82, 69, 78, 65, 77, 69], 3, 3, true, 1, 2, 1),
  ([82, 69, 78, 65, 77, 69, 78, 88], 3, 3, true, 1, 2, 1),
  ([69, 88, 80, 73, 82, 69], 3, 3, true, 1, 1, 1),
  ([80, 69, 88, 80, 73, 82, 69], 3, 3, true, 1, 1, 1),
  ([80, 69, 88, 80, 73, 82, 69, 65, 84], 3, 3, true, 1, 1, 1),
  ([84, 84, 76], 2, 2, false, 1, 1, 1),
  ([80, 84, 84, 76], 2, 2, false, 1, 1, 1),
  ([80, 69, 82, 83, 73, 83, 84], 2, 2, true, 1, 1, 1),
  ([75, 69, 89, 83], 1, 1, false, 0, 0, 0),
  ([68, 66, 83, 73, 90, 69], 1, 1, false, 0, 0, 0),
  ([70, 76, 85, 83, 72, 65, 76, 76], 1, 1, true, 0, 0, 0),
  ([71, 69, 84], 2, 2, false, 1, 1, 1),
  ([83, 69, 84], 3, 6, true, 1, 1, 1),
  ([83, 69, 84, 78, 88], 3, 3, true, 1, 1, 1),
  ([71, 69, 84, 83, 69, 84], 3, 3, true, 1, 1, 1),
  ([71, 69, 84, 68, 69, 76], 2, 2, true, 1, 1, 1),
  ([65, 80, 80, 69, 78, 68], 3, 3, true, 1, 1, 1),
  ([83, 84, 82, 76, 69, 78], 2, 2, false, 1, 1, 1),
  ([73, 78, 67, 82], 2, 2, true, 1, 1, 1),
  ([68, 69, 67, 82], 2, 2, true, 1, 1, 1),
  ([73, 78, 67, 82, 66, 89], 3, 3, true, 1, 1, 1),
  ([68, 69, 67, 82, 66, 89], 3, 3, true, 1, 1, 1),
  ([71, 69, 84, 82, 65, 78, 71, 69], 4, 4, false, 1, 1, 1),
  ([83, 69, 84, 82, 65, 78, 71, 69], 4, 4, true, 1, 1, 1),
  ([77, 71, 69, 84], 2, 0, false, 1, (-1), 1),
  ([77, 83, 69, 84], 3, 0, true, 1, (-2), 2),
  ([76, 80, 85, 83, 72], 3, 0, true, 1, 1, 1),
  ([82, 80, 85, 83, 72], 3, 0, true, 1, 1, 1),
  ([76, 80, 85, 83, 72, 88], 3, 0, true, 1, 1, 1),
  ([82, 80, 85, 83, 72, 88], 3, 0, true, 1, 1, 1),
  ([76, 80, 79, 80], 2, 2, true, 1, 1, 1),
  ([82, 80, 79, 80], 2, 2, true, 1, 1, 1),
  ([76, 76, 69, 78], 2, 2, false, 1, 1, 1),
  ([76, 73, 78, 68, 69, 88], 3, 3, false, 1, 1, 1),
  ([76, 83, 69, 84], 4, 4, true, 1, 1, 1),
  ([76, 82, 65, 78, 71, 69], 4, 4, false, 1, 1, 1),
  ([76, 84, 82, 73, 77], 4, 4, true, 1, 1, 1),
  ([76, 82, 69, 77], 4, 4, true, 1, 1, 1),
  ([76, 73, 78, 83, 69, 82, 84], 5, 5, true, 1, 1, 1),
  ([82, 80, 79, 80, 76, 80, 85, 83, 72], 3, 3, true, 1, 2, 1),
  ([72, 83, 69, 84], 4, 0, true, 1, 1, 1),
  ([72, 83, 69, 84, 78, 88], 4, 4, true, 1, 1, 1),
  ([72, 71, 69, 84], 3, 3, false, 1, 1, 1),
  ([72, 77, 71, 69, 84], 3, 0, false, 1, 1, 1),
  ([72, 68, 69, 76], 3, 0, true, 1, 1, 1),
  ([72, 69, 88, 73, 83, 84, 83], 3, 3, false, 1, 1, 1),
  ([72, 76, 69, 78], 2, 2, false, 1, 1, 1),
  ([72, 83, 84, 82, 76, 69, 78], 3, 3, false, 1, 1, 1),
  ([72, 75, 69, 89, 83], 2, 2, false, 1, 1, 1),
  ([72, 86, 65, 76, 83], 2, 2, false, 1, 1, 1),
  ([72, 71, 69, 84, 65, 76, 76], 2, 2, false, 1, 1, 1),
  ([72, 73, 78, 67, 82, 66, 89], 4, 4, true, 1, 1, 1),
  ([90, 65, 68, 68], 4, 0, true, 1, 1, 1),
  ([90, 73, 78, 67, 82, 66, 89], 4, 4, true, 1, 1, 1),
  ([90, 82, 69, 77], 3, 0, true, 1, 1, 1),
  ([90, 83, 67, 79, 82, 69], 3, 3, false, 1, 1, 1),
  ([90, 67, 65, 82, 68], 2, 2, false, 1, 1, 1),
  ([90, 82, 65, 78, 75], 3, 3, false, 1, 1, 1),
  ([90, 82, 69, 86, 82, 65, 78, 75], 3, 3, false, 1, 1, 1),
  ([90, 82, 65, 78, 71, 69], 4, 4, false, 1, 1, 1),
  ([90, 82, 69, 86, 82, 65, 78, 71, 69], 4, 4, false, 1, 1, 1),
  ([90, 82, 65, 78, 71, 69, 66, 89, 83, 67, 79, 82, 69], 4, 4, false, 1, 1, 1),
  ([90, 67, 79, 85, 78, 84], 4, 4, false, 1, 1, 1),
  ([90, 80, 79, 80, 77, 73, 78], 2, 2, true, 1, 1, 1),
  ([90, 80, 79, 80, 77, 65, 88], 2, 2, true, 1, 1, 1),
  ([90, 82, 69, 77, 82, 65, 78, 71, 69, 66, 89, 82, 65, 78, 75], 4, 4, true, 1, 1, 1),
  ([90, 82, 69, 77, 82, 65, 78, 71, 69, 66, 89, 83, 67, 79, 82, 69], 4, 4, true, 1, 1, 1),
  ([80, 65, 68, 68], 5, 0, true, 1, 1, 1),
  ([80, 82, 69, 77], 3, 0, true, 1, 1, 1),
  ([80, 80, 79, 83], 3, 3, false, 1, 1, 1),
  ([80, 67, 65, 82, 68], 2, 2, false, 1, 1, 1),
  ([80, 77, 79, 86, 69], 4, 4, true, 1, 1, 1),
  ([80, 84, 85, 82, 78], 3, 3, true, 1, 1, 1),
  ([80, 83, 67, 65, 76, 69], 4, 4, true, 1, 1, 1),
  ([80, 78, 69, 65, 82], 4, 4, false, 1, 1, 1),
  ([80, 83, 85, 77], 2, 2, false, 1, 1, 1),
  ([80, 65, 76, 76], 2, 2, false, 1, 1, 1),
  ([80, 73, 78, 71], 1, 1, false, 0, 0, 0),
  ([69, 67, 72, 79], 2, 2, false, 0, 0, 0)]
def rowC (r : Row) : List Value := [.string ⟨r.1.toArray⟩, .int .i64 r.2.1, .int .i64 r.2.2.1, .bool r.2.2.2.1, .int .i64 r.2.2.2.2.1, .int .i64 r.2.2.2.2.2.1, .int .i64 r.2.2.2.2.2.2]
def rowsC : Array Value := (rowsT.flatMap rowC).toArray
theorem rowsT_len : rowsT.length = 82 := by kernel_rfl
theorem flat_at (l : List Row) (k j : Nat) (r : Row) (v : Value) (hk : l[k]? = some r) (hv : (rowC r)[j]? = some v) : (l.flatMap rowC)[k * 7 + j]? = some v := by
  induction l generalizing k with
  | nil => cases hk
  | cons q t ih =>
    rw [List.flatMap_cons]
    have hj : j < 7 := (List.getElem?_eq_some_iff.1 hv).1
    have hl : (rowC q).length = 7 := rfl
    cases k with
    | zero =>
      cases hk
      rw [List.getElem?_append_left (by omega), Nat.zero_mul, Nat.zero_add]
      exact hv
    | succ k =>
      rw [List.getElem?_append_right (by omega), hl, show (k + 1) * 7 + j - 7 = k * 7 + j by omega]
      exact ih k hk
theorem rows_at (k j : Nat) (r : Row) (v : Value) (hk : rowsT[k]? = some r) (hv : (rowC r)[j]? = some v) : rowsC[k * 7 + j]? = some v := by
  unfold rowsC
  rw [List.getElem?_toArray]
  exact flat_at _ k j r v hk hv
def nameAt (k : Nat) : List UInt8 := (rowsT.getD k default).1
theorem names_apart : ((List.range 82).all fun k => (List.range k).all fun j => !(nameAt j == nameAt k)) = true := by kernel_rfl
theorem name_ne {k j : Nat} (hk : k < 82) (hj : j < k) : (nameAt j == nameAt k) = false := by
  have h1 := List.all_eq_true.1 names_apart k (List.mem_range.2 hk)
  have h2 := List.all_eq_true.1 h1 j (List.mem_range.2 hj)
  simpa using h2
end Go.CmdT
