/- The commands' table: what command.rows lays in memory. -/
import Derived.Test.YtnfflkappbjoeaaDoorSe4
import Derived.Deep.Cut
namespace Go.Proofs.YtnfflkappbjoeaaDoor
open Go.ChangeShapes Go.WideShapes Go.ChangeAt Go.RowKit Go.Resp

/-- A region's operations, run one behind the other, where none is guarded, none enters a function, none halts. -/
def runOps (P : Program) : List Oper → Act → World → Option (Act × World)
  | [], a, w => some (a, w)
  | o :: rest, a, w =>
    match o.guard with
    | some _ => none
    | none =>
      match (execOp a.eval o).run P w with
      | .ok (.value v) w' => runOps P rest (a.put o.dst v) w'
      | .ok .skip w' => runOps P rest (a.put o.dst undef) w'
      | _ => none
theorem wpList_run {P : Program} {ops : Array Oper} {Q : Exit → Act → World → Prop} : ∀ (l : List Oper) (a : Act) (w : World) (r : Act × World), runOps P l a w = some r → Q .normal r.1 r.2 → wpList P ops Q l a w := by
  intro l
  induction l with
  | nil =>
    intro a w r h k
    unfold runOps at h
    cases h
    exact k
  | cons o rest ih =>
    intro a w r h k
    unfold runOps at h
    split at h
    · cases h
    · rename_i hg
      split at h
      · rename_i v w' hrun
        refine wpList_plain hg fun K hK => ?_
        unfold Oper.wp
        rw [hrun, Oper.upon_value]
        exact hK _ _ (ih _ _ _ h k)
      · rename_i w' hrun
        refine wpList_plain hg fun K hK => ?_
        unfold Oper.wp
        rw [hrun, Oper.upon_skip]
        exact hK _ _ (ih _ _ _ h k)
      · cases h
theorem wpList_run0 {P : Program} {ops : Array Oper} {Q : Exit → Act → World → Prop} {l : List Oper} {a : Act} {w : World} (v0 : Value) (w' : World) (h : (runOps P l a w).map (fun r => (r.1.tmps.getD 0 undef, r.1.defers, r.2)) = some (v0, [], w'))
    (k : ∀ a', a'.tmps.getD 0 undef = v0 → a'.defers = [] → Q .normal a' w') : wpList P ops Q l a w := by
  cases hr : runOps P l a w with
  | none => rw [hr] at h; cases h
  | some r =>
    rw [hr] at h
    simp only [Option.map_some, Option.some.injEq, Prod.mk.injEq] at h
    obtain ⟨h1, h2, h3⟩ := h
    refine wpList_run l a w r hr ?_
    rw [h3]
    exact k _ h1 h2
def rowsL : List (List Value) := [
  [.string ⟨#[68, 69, 76]⟩, .int .i64 2, .int .i64 0, .bool true, .int .i64 1, .int .i64 (-1), .int .i64 1],
  [.string ⟨#[69, 88, 73, 83, 84, 83]⟩, .int .i64 2, .int .i64 0, .bool false, .int .i64 1, .int .i64 (-1), .int .i64 1],
  [.string ⟨#[84, 89, 80, 69]⟩, .int .i64 2, .int .i64 2, .bool false, .int .i64 1, .int .i64 1, .int .i64 1],
  [.string ⟨#[82, 69, 78, 65, 77, 69]⟩, .int .i64 3, .int .i64 3, .bool true, .int .i64 1, .int .i64 2, .int .i64 1],
  [.string ⟨#[82, 69, 78, 65, 77, 69, 78, 88]⟩, .int .i64 3, .int .i64 3, .bool true, .int .i64 1, .int .i64 2, .int .i64 1],
  [.string ⟨#[69, 88, 80, 73, 82, 69]⟩, .int .i64 3, .int .i64 3, .bool true, .int .i64 1, .int .i64 1, .int .i64 1],
  [.string ⟨#[80, 69, 88, 80, 73, 82, 69]⟩, .int .i64 3, .int .i64 3, .bool true, .int .i64 1, .int .i64 1, .int .i64 1],
  [.string ⟨#[80, 69, 88, 80, 73, 82, 69, 65, 84]⟩, .int .i64 3, .int .i64 3, .bool true, .int .i64 1, .int .i64 1, .int .i64 1],
  [.string ⟨#[84, 84, 76]⟩, .int .i64 2, .int .i64 2, .bool false, .int .i64 1, .int .i64 1, .int .i64 1],
  [.string ⟨#[80, 84, 84, 76]⟩, .int .i64 2, .int .i64 2, .bool false, .int .i64 1, .int .i64 1, .int .i64 1],
  [.string ⟨#[80, 69, 82, 83, 73, 83, 84]⟩, .int .i64 2, .int .i64 2, .bool true, .int .i64 1, .int .i64 1, .int .i64 1],
  [.string ⟨#[75, 69, 89, 83]⟩, .int .i64 1, .int .i64 1, .bool false, .int .i64 0, .int .i64 0, .int .i64 0],
  [.string ⟨#[68, 66, 83, 73, 90, 69]⟩, .int .i64 1, .int .i64 1, .bool false, .int .i64 0, .int .i64 0, .int .i64 0],
  [.string ⟨#[70, 76, 85, 83, 72, 65, 76, 76]⟩, .int .i64 1, .int .i64 1, .bool true, .int .i64 0, .int .i64 0, .int .i64 0],
  [.string ⟨#[71, 69, 84]⟩, .int .i64 2, .int .i64 2, .bool false, .int .i64 1, .int .i64 1, .int .i64 1],
  [.string ⟨#[83, 69, 84]⟩, .int .i64 3, .int .i64 6, .bool true, .int .i64 1, .int .i64 1, .int .i64 1],
  [.string ⟨#[83, 69, 84, 78, 88]⟩, .int .i64 3, .int .i64 3, .bool true, .int .i64 1, .int .i64 1, .int .i64 1],
  [.string ⟨#[71, 69, 84, 83, 69, 84]⟩, .int .i64 3, .int .i64 3, .bool true, .int .i64 1, .int .i64 1, .int .i64 1],
  [.string ⟨#[71, 69, 84, 68, 69, 76]⟩, .int .i64 2, .int .i64 2, .bool true, .int .i64 1, .int .i64 1, .int .i64 1],
  [.string ⟨#[65, 80, 80, 69, 78, 68]⟩, .int .i64 3, .int .i64 3, .bool true, .int .i64 1, .int .i64 1, .int .i64 1],
  [.string ⟨#[83, 84, 82, 76, 69, 78]⟩, .int .i64 2, .int .i64 2, .bool false, .int .i64 1, .int .i64 1, .int .i64 1],
  [.string ⟨#[73, 78, 67, 82]⟩, .int .i64 2, .int .i64 2, .bool true, .int .i64 1, .int .i64 1, .int .i64 1],
  [.string ⟨#[68, 69, 67, 82]⟩, .int .i64 2, .int .i64 2, .bool true, .int .i64 1, .int .i64 1, .int .i64 1],
  [.string ⟨#[73, 78, 67, 82, 66, 89]⟩, .int .i64 3, .int .i64 3, .bool true, .int .i64 1, .int .i64 1, .int .i64 1],
  [.string ⟨#[68, 69, 67, 82, 66, 89]⟩, .int .i64 3, .int .i64 3, .bool true, .int .i64 1, .int .i64 1, .int .i64 1],
  [.string ⟨#[71, 69, 84, 82, 65, 78, 71, 69]⟩, .int .i64 4, .int .i64 4, .bool false, .int .i64 1, .int .i64 1, .int .i64 1],
  [.string ⟨#[83, 69, 84, 82, 65, 78, 71, 69]⟩, .int .i64 4, .int .i64 4, .bool true, .int .i64 1, .int .i64 1, .int .i64 1],
  [.string ⟨#[77, 71, 69, 84]⟩, .int .i64 2, .int .i64 0, .bool false, .int .i64 1, .int .i64 (-1), .int .i64 1],
  [.string ⟨#[77, 83, 69, 84]⟩, .int .i64 3, .int .i64 0, .bool true, .int .i64 1, .int .i64 (-2), .int .i64 2],
  [.string ⟨#[76, 80, 85, 83, 72]⟩, .int .i64 3, .int .i64 0, .bool true, .int .i64 1, .int .i64 1, .int .i64 1],
  [.string ⟨#[82, 80, 85, 83, 72]⟩, .int .i64 3, .int .i64 0, .bool true, .int .i64 1, .int .i64 1, .int .i64 1],
  [.string ⟨#[76, 80, 85, 83, 72, 88]⟩, .int .i64 3, .int .i64 0, .bool true, .int .i64 1, .int .i64 1, .int .i64 1],
  [.string ⟨#[82, 80, 85, 83, 72, 88]⟩, .int .i64 3, .int .i64 0, .bool true, .int .i64 1, .int .i64 1, .int .i64 1],
  [.string ⟨#[76, 80, 79, 80]⟩, .int .i64 2, .int .i64 2, .bool true, .int .i64 1, .int .i64 1, .int .i64 1],
  [.string ⟨#[82, 80, 79, 80]⟩, .int .i64 2, .int .i64 2, .bool true, .int .i64 1, .int .i64 1, .int .i64 1],
  [.string ⟨#[76, 76, 69, 78]⟩, .int .i64 2, .int .i64 2, .bool false, .int .i64 1, .int .i64 1, .int .i64 1],
  [.string ⟨#[76, 73, 78, 68, 69, 88]⟩, .int .i64 3, .int .i64 3, .bool false, .int .i64 1, .int .i64 1, .int .i64 1],
  [.string ⟨#[76, 83, 69, 84]⟩, .int .i64 4, .int .i64 4, .bool true, .int .i64 1, .int .i64 1, .int .i64 1],
  [.string ⟨#[76, 82, 65, 78, 71, 69]⟩, .int .i64 4, .int .i64 4, .bool false, .int .i64 1, .int .i64 1, .int .i64 1],
  [.string ⟨#[76, 84, 82, 73, 77]⟩, .int .i64 4, .int .i64 4, .bool true, .int .i64 1, .int .i64 1, .int .i64 1],
  [.string ⟨#[76, 82, 69, 77]⟩, .int .i64 4, .int .i64 4, .bool true, .int .i64 1, .int .i64 1, .int .i64 1],
  [.string ⟨#[76, 73, 78, 83, 69, 82, 84]⟩, .int .i64 5, .int .i64 5, .bool true, .int .i64 1, .int .i64 1, .int .i64 1],
  [.string ⟨#[82, 80, 79, 80, 76, 80, 85, 83, 72]⟩, .int .i64 3, .int .i64 3, .bool true, .int .i64 1, .int .i64 2, .int .i64 1],
  [.string ⟨#[72, 83, 69, 84]⟩, .int .i64 4, .int .i64 0, .bool true, .int .i64 1, .int .i64 1, .int .i64 1],
  [.string ⟨#[72, 83, 69, 84, 78, 88]⟩, .int .i64 4, .int .i64 4, .bool true, .int .i64 1, .int .i64 1, .int .i64 1],
  [.string ⟨#[72, 71, 69, 84]⟩, .int .i64 3, .int .i64 3, .bool false, .int .i64 1, .int .i64 1, .int .i64 1],
  [.string ⟨#[72, 77, 71, 69, 84]⟩, .int .i64 3, .int .i64 0, .bool false, .int .i64 1, .int .i64 1, .int .i64 1],
  [.string ⟨#[72, 68, 69, 76]⟩, .int .i64 3, .int .i64 0, .bool true, .int .i64 1, .int .i64 1, .int .i64 1],
  [.string ⟨#[72, 69, 88, 73, 83, 84, 83]⟩, .int .i64 3, .int .i64 3, .bool false, .int .i64 1, .int .i64 1, .int .i64 1],
  [.string ⟨#[72, 76, 69, 78]⟩, .int .i64 2, .int .i64 2, .bool false, .int .i64 1, .int .i64 1, .int .i64 1],
  [.string ⟨#[72, 83, 84, 82, 76, 69, 78]⟩, .int .i64 3, .int .i64 3, .bool false, .int .i64 1, .int .i64 1, .int .i64 1],
  [.string ⟨#[72, 75, 69, 89, 83]⟩, .int .i64 2, .int .i64 2, .bool false, .int .i64 1, .int .i64 1, .int .i64 1],
  [.string ⟨#[72, 86, 65, 76, 83]⟩, .int .i64 2, .int .i64 2, .bool false, .int .i64 1, .int .i64 1, .int .i64 1],
  [.string ⟨#[72, 71, 69, 84, 65, 76, 76]⟩, .int .i64 2, .int .i64 2, .bool false, .int .i64 1, .int .i64 1, .int .i64 1],
  [.string ⟨#[72, 73, 78, 67, 82, 66, 89]⟩, .int .i64 4, .int .i64 4, .bool true, .int .i64 1, .int .i64 1, .int .i64 1],
  [.string ⟨#[90, 65, 68, 68]⟩, .int .i64 4, .int .i64 0, .bool true, .int .i64 1, .int .i64 1, .int .i64 1],
  [.string ⟨#[90, 73, 78, 67, 82, 66, 89]⟩, .int .i64 4, .int .i64 4, .bool true, .int .i64 1, .int .i64 1, .int .i64 1],
  [.string ⟨#[90, 82, 69, 77]⟩, .int .i64 3, .int .i64 0, .bool true, .int .i64 1, .int .i64 1, .int .i64 1],
  [.string ⟨#[90, 83, 67, 79, 82, 69]⟩, .int .i64 3, .int .i64 3, .bool false, .int .i64 1, .int .i64 1, .int .i64 1],
  [.string ⟨#[90, 67, 65, 82, 68]⟩, .int .i64 2, .int .i64 2, .bool false, .int .i64 1, .int .i64 1, .int .i64 1],
  [.string ⟨#[90, 82, 65, 78, 75]⟩, .int .i64 3, .int .i64 3, .bool false, .int .i64 1, .int .i64 1, .int .i64 1],
  [.string ⟨#[90, 82, 69, 86, 82, 65, 78, 75]⟩, .int .i64 3, .int .i64 3, .bool false, .int .i64 1, .int .i64 1, .int .i64 1],
  [.string ⟨#[90, 82, 65, 78, 71, 69]⟩, .int .i64 4, .int .i64 4, .bool false, .int .i64 1, .int .i64 1, .int .i64 1],
  [.string ⟨#[90, 82, 69, 86, 82, 65, 78, 71, 69]⟩, .int .i64 4, .int .i64 4, .bool false, .int .i64 1, .int .i64 1, .int .i64 1],
  [.string ⟨#[90, 82, 65, 78, 71, 69, 66, 89, 83, 67, 79, 82, 69]⟩, .int .i64 4, .int .i64 4, .bool false, .int .i64 1, .int .i64 1, .int .i64 1],
  [.string ⟨#[90, 67, 79, 85, 78, 84]⟩, .int .i64 4, .int .i64 4, .bool false, .int .i64 1, .int .i64 1, .int .i64 1],
  [.string ⟨#[90, 80, 79, 80, 77, 73, 78]⟩, .int .i64 2, .int .i64 2, .bool true, .int .i64 1, .int .i64 1, .int .i64 1],
  [.string ⟨#[90, 80, 79, 80, 77, 65, 88]⟩, .int .i64 2, .int .i64 2, .bool true, .int .i64 1, .int .i64 1, .int .i64 1],
  [.string ⟨#[90, 82, 69, 77, 82, 65, 78, 71, 69, 66, 89, 82, 65, 78, 75]⟩, .int .i64 4, .int .i64 4, .bool true, .int .i64 1, .int .i64 1, .int .i64 1],
  [.string ⟨#[90, 82, 69, 77, 82, 65, 78, 71, 69, 66, 89, 83, 67, 79, 82, 69]⟩, .int .i64 4, .int .i64 4, .bool true, .int .i64 1, .int .i64 1, .int .i64 1],
  [.string ⟨#[80, 65, 68, 68]⟩, .int .i64 5, .int .i64 0, .bool true, .int .i64 1, .int .i64 1, .int .i64 1],
  [.string ⟨#[80, 82, 69, 77]⟩, .int .i64 3, .int .i64 0, .bool true, .int .i64 1, .int .i64 1, .int .i64 1],
  [.string ⟨#[80, 80, 79, 83]⟩, .int .i64 3, .int .i64 3, .bool false, .int .i64 1, .int .i64 1, .int .i64 1],
  [.string ⟨#[80, 67, 65, 82, 68]⟩, .int .i64 2, .int .i64 2, .bool false, .int .i64 1, .int .i64 1, .int .i64 1],
  [.string ⟨#[80, 77, 79, 86, 69]⟩, .int .i64 4, .int .i64 4, .bool true, .int .i64 1, .int .i64 1, .int .i64 1],
  [.string ⟨#[80, 84, 85, 82, 78]⟩, .int .i64 3, .int .i64 3, .bool true, .int .i64 1, .int .i64 1, .int .i64 1],
  [.string ⟨#[80, 83, 67, 65, 76, 69]⟩, .int .i64 4, .int .i64 4, .bool true, .int .i64 1, .int .i64 1, .int .i64 1],
  [.string ⟨#[80, 78, 69, 65, 82]⟩, .int .i64 4, .int .i64 4, .bool false, .int .i64 1, .int .i64 1, .int .i64 1],
  [.string ⟨#[80, 83, 85, 77]⟩, .int .i64 2, .int .i64 2, .bool false, .int .i64 1, .int .i64 1, .int .i64 1],
  [.string ⟨#[80, 65, 76, 76]⟩, .int .i64 2, .int .i64 2, .bool false, .int .i64 1, .int .i64 1, .int .i64 1],
  [.string ⟨#[80, 73, 78, 71]⟩, .int .i64 1, .int .i64 1, .bool false, .int .i64 0, .int .i64 0, .int .i64 0],
  [.string ⟨#[69, 67, 72, 79]⟩, .int .i64 2, .int .i64 2, .bool false, .int .i64 0, .int .i64 0, .int .i64 0]]
def rowsC : Array Value := rowsL.flatten.toArray
set_option maxRecDepth 100000 in
set_option maxHeartbeats 4000000 in
theorem rows24 (w : World) : Calls Tryd.prog 30 #[] w fun e w' => e = .returned (.slice (some ⟨w.heap.size, 0, none⟩) 82 82) ∧ w.alloc (.cells rowsC 60) = w' := by
  go_enter Tryd.func30, Tryd.ntmps30
  go_step
  apply wp_seq_k
  intro K1 hK1
  apply wp_region_lit
  refine wpList_run _ _ _ _ rfl ?_
  simp only [Exit.then]
  apply hK1
  apply wp_seq_k
  intro K2 hK2
  apply wp_region_list
  refine wpList_run0 (.slice (some ⟨w.heap.size, 0, none⟩) 82 82) (w.alloc (.cells rowsC 60)) (by kernel_rfl) ?_
  intro a' h1 h2
  simp only [Exit.then]
  apply hK2
  clear hK1 hK2
  go_step
  exact bodyPost_ret (v := .slice (some ⟨w.heap.size, 0, none⟩) 82 82) (by simp [results, Tryd.results30, go_sem]; simpa using h1) h2 ⟨rfl, rfl⟩
end Go.Proofs.YtnfflkappbjoeaaDoor
