/- The commands' table: what command.rows lays in memory. -/
import Derived.Test.YtllaeocclpaiaaaGreatDoorSt1
import Derived.Test.YtllaeocclpaiaaaGreatDoorCmdT
import Derived.Deep.Cut
namespace Go.Proofs.YtllaeocclpaiaaaGreatDoor
open Go.ChangeShapes Go.WideShapes Go.ChangeAt Go.RowKit

/-- A region's operations, run one behind the other, where none is guarded, none enters a function, none halts. -/
def runOps (P : Program) : List Oper → Act → World → Option (Act × World)
  | [], a, w => some (a, w)
  | o :: rest, a, w =>
    match o.guard with
    | some _ => none
    | none =>
      match (execOp a.eval o).run P w with
      | .ok (.value v) w' => runOps P rest (a.put o.dst v) w'
      | .ok .skip w' => runOps P rest (a.put o.dst undef) w'
      | _ => none
theorem wpList_run {P : Program} {ops : Array Oper} {Q : Exit → Act → World → Prop} : ∀ (l : List Oper) (a : Act) (w : World) (r : Act × World), runOps P l a w = some r → Q .normal r.1 r.2 → wpList P ops Q l a w := by
  intro l
  induction l with
  | nil =>
    intro a w r h k
    unfold runOps at h
    cases h
    exact k
  | cons o rest ih =>
    intro a w r h k
    unfold runOps at h
    split at h
    · cases h
    · rename_i hg
      split at h
      · rename_i v w' hrun
        refine wpList_plain hg fun K hK => ?_
        unfold Oper.wp
        rw [hrun, Oper.upon_value]
        exact hK _ _ (ih _ _ _ h k)
      · rename_i w' hrun
        refine wpList_plain hg fun K hK => ?_
        unfold Oper.wp
        rw [hrun, Oper.upon_skip]
        exact hK _ _ (ih _ _ _ h k)
      · cases h
theorem wpList_run0 {P : Program} {ops : Array Oper} {Q : Exit → Act → World → Prop} {l : List Oper} {a : Act} {w : World} (v0 : Value) (w' : World) (h : (runOps P l a w).map (fun r => (r.1.tmps.getD 0 undef, r.1.defers, r.2)) = some (v0, [], w'))
    (k : ∀ a', a'.tmps.getD 0 undef = v0 → a'.defers = [] → Q .normal a' w') : wpList P ops Q l a w := by
  cases hr : runOps P l a w with
  | none => rw [hr] at h; cases h
  | some r =>
    rw [hr] at h
    simp only [Option.map_some, Option.some.injEq, Prod.mk.injEq] at h
    obtain ⟨h1, h2, h3⟩ := h
    refine wpList_run l a w r hr ?_
    rw [h3]
    exact k _ h1 h2
set_option maxRecDepth 100000 in
set_option maxHeartbeats 4000000 in
theorem rows96 (w : World) : Calls Tryz.prog 89 #[] w fun e w' => e = .returned (.slice (some ⟨w.heap.size, 0, none⟩) 82 82) ∧ w.alloc (.cells CmdT.rowsC 112) = w' := by
  go_enter Tryz.func89, Tryz.ntmps89
  go_step
  apply wp_seq_k
  intro K1 hK1
  apply wp_region_lit
  refine wpList_run _ _ _ _ rfl ?_
  simp only [Exit.then]
  apply hK1
  apply wp_seq_k
  intro K2 hK2
  apply wp_region_list
  refine wpList_run0 (.slice (some ⟨w.heap.size, 0, none⟩) 82 82) (w.alloc (.cells CmdT.rowsC 112)) (by kernel_rfl) ?_
  intro a' h1 h2
  simp only [Exit.then]
  apply hK2
  clear hK1 hK2
  go_step
  exact bodyPost_ret (v := .slice (some ⟨w.heap.size, 0, none⟩) 82 82) (by simp [results, Tryz.results89, go_sem]; simpa using h1) h2 ⟨rfl, rfl⟩
end Go.Proofs.YtllaeocclpaiaaaGreatDoor
