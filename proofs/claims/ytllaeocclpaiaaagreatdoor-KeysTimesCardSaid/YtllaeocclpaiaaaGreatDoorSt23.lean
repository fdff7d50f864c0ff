/- What a command that is refused becomes: the deferred closure. -/
import Derived.Test.YtllaeocclpaiaaaGreatDoorSt22
import Derived.Defers
import Derived.Recover
import Derived.Laws.Pointers
namespace Go.Proofs.YtllaeocclpaiaaaGreatDoor
open Go.ChangeShapes Go.WideShapes Go.ChangeAt Go.RowKit

set_option maxRecDepth 100000 in
set_option maxHeartbeats 1000000 in
theorem catch_idle (p8 p9 p10 : Addr) (w : World) :
    CallsD Tryz.prog 41 #[.pointer (some p8), .pointer (some p9), .pointer (some p10)] .returning w fun e u' w' => e = .returned (.tuple #[]) ∧ u' = .returning ∧ Below w.heap.size w w' := by
  have hT : ∀ w, (Instr.typeAssert .nilIface 20 71 true).run Tryz.prog w = .ok (.tuple #[.agg #[.int .i64 0], .bool false]) w := fun w => by kernel_rfl
  refine callsD_of_wpS Tryz.func41 rfl fun c₀ cs hu => ?_
  change Code.wpS _ _ _ { tmps := #[.pointer (some p8), .pointer (some p9), .pointer (some p10), undef, undef, undef, undef, undef, undef, undef, undef, undef, undef, undef], defers := [] } _ _
  apply wpS_seq
  apply wpS_region
  simp [wpOpsS, go_sem, recoverD, hu, Exit.thenS, hT]
  refine wpS_of_wp ?_
  go_wp2
  refine ⟨rfl, .returning, ?_, _, results_none rfl _ _ _, rfl, rfl, alloc_old⟩
  rw [← hu]
theorem cells4 {X : World} {b : Nat} {a0 a1 a2 a3 : Value} {t : TypeId} (h : X.heap[b]? = some (.cells #[a0, a1, a2, a3] t)) :
    (X.cell? ⟨b, 0, none⟩ = some a0 ∧ X.cell? ⟨b, 1, none⟩ = some a1 ∧ X.cell? ⟨b, 2, none⟩ = some a2 ∧ X.cell? ⟨b, 3, none⟩ = some a3) ∧
    (X.frozen? ⟨b, 0, none⟩ = false ∧ X.frozen? ⟨b, 1, none⟩ = false ∧ X.frozen? ⟨b, 2, none⟩ = false ∧ X.frozen? ⟨b, 3, none⟩ = false) := by
  refine ⟨⟨?_, ?_, ?_, ?_⟩, ⟨?_, ?_, ?_, ?_⟩⟩ <;> simp [World.cell?, World.frozen?, h]
theorem set4 {X : World} {b : Nat} {a0 a1 a2 a3 : Value} {t : TypeId} (h : X.heap[b]? = some (.cells #[a0, a1, a2, a3] t)) (v0 v1 v2 v3 : Value) : ((((X.setCell ⟨b, 0, none⟩ v0).setCell ⟨b, 1, none⟩ v1).setCell ⟨b, 2, none⟩ v2).setCell ⟨b, 3, none⟩ v3).heap[b]? = some (.cells #[v0, v1, v2, v3] t) := by
  simp [World.setCell, Array.getElem?_modify, h]
theorem far4 {X : World} {b i : Nat} (v0 v1 v2 v3 : Value) (hi : i ≠ b) : ((((X.setCell ⟨b, 0, none⟩ v0).setCell ⟨b, 1, none⟩ v1).setCell ⟨b, 2, none⟩ v2).setCell ⟨b, 3, none⟩ v3).heap[i]? = X.heap[i]? :=
  (Below.heap_setCell _ ⟨b, 3, none⟩ _ _ hi).trans ((Below.heap_setCell _ ⟨b, 2, none⟩ _ _ hi).trans ((Below.heap_setCell _ ⟨b, 1, none⟩ _ _ hi).trans (Below.heap_setCell _ ⟨b, 0, none⟩ _ _ hi)))
theorem set1 {X : World} {b : Nat} {a0 : Value} {t : TypeId} (h : X.heap[b]? = some (.cells #[a0] t)) (v0 : Value) : (X.setCell ⟨b, 0, none⟩ v0).heap[b]? = some (.cells #[v0] t) := by
  simp [World.setCell, Array.getElem?_modify, h]
theorem cells1 {X : World} {b : Nat} {a0 : Value} {t : TypeId} (h : X.heap[b]? = some (.cells #[a0] t)) : X.cell? ⟨b, 0, none⟩ = some a0 ∧ X.frozen? ⟨b, 0, none⟩ = false := by
  refine ⟨?_, ?_⟩ <;> simp [World.cell?, World.frozen?, h]
set_option maxRecDepth 100000 in
set_option maxHeartbeats 1000000 in
theorem catch_fail (b8 b9 b10 : Nat) (hd : b8 ≠ b9 ∧ b8 ≠ b10 ∧ b9 ≠ b10) (c0 c1 c2 c3 c4 c5 : Value) (n : Int) (older : List PanicEntry) (w : World) (h8 : w.heap[b8]? = some (.cells #[c0, c1, c2, c3] 36)) (h9 : w.heap[b9]? = some (.cells #[c4] 39)) (h10 : w.heap[b10]? = some (.cells #[c5] 4)) :
    CallsD Tryz.prog 41 #[.pointer (some ⟨b8, 0, none⟩), .pointer (some ⟨b9, 0, none⟩), .pointer (some ⟨b10, 0, none⟩)] (.panicking ({ v := .iface 71 (.agg #[.int .i64 n]), recovered := false } :: older)) w fun e u' w' => e = .returned (.tuple #[]) ∧ u' = .panicking ({ v := .iface 71 (.agg #[.int .i64 n]), recovered := true } :: older) ∧ w'.heap[b8]? = some (.cells #[.int .i64 2, .int .i64 n, .string ⟨#[]⟩, .slice none 0 0] 36) ∧ w'.heap[b9]? = some (.cells #[.slice none 0 0] 39) ∧ w'.heap[b10]? = some (.cells #[.bool true] 4) ∧ Kp w.heap.size (fun i => i ≠ b8 ∧ i ≠ b9 ∧ i ≠ b10) w w' := by
  have hT : ∀ w, (Instr.typeAssert (.iface 71 (.agg #[.int .i64 n])) 20 71 true).run Tryz.prog w = .ok (.tuple #[.agg #[.int .i64 n], .bool true]) w := fun w => by kernel_rfl
  have H8 := Lib.hid h8
  have H9 := Lib.hid h9
  have H10 := Lib.hid h10
  clear h8 h9 h10
  obtain ⟨hd1, hd2, hd3⟩ := hd
  refine callsD_of_wpS Tryz.func41 rfl fun c₀ cs hu => ?_
  change Code.wpS _ _ _ { tmps := #[.pointer (some ⟨b8, 0, none⟩), .pointer (some ⟨b9, 0, none⟩), .pointer (some ⟨b10, 0, none⟩), undef, undef, undef, undef, undef, undef, undef, undef, undef, undef, undef], defers := [] } _ _
  apply wpS_seq
  apply wpS_region
  simp [wpOpsS, go_sem, recoverD, hu, Exit.thenS, hT]
  refine wpS_of_wp ?_
  have Er := Lib.hid (fun w => Err64 n w)
  have hx0 : (w.alloc (.cells #[.int .i64 n] 71)).cell? ⟨w.heap.size, 0, none⟩ = some (.int .i64 n) := by simp
  have AO := Lib.hid (alloc_old (w := w) (o := .cells #[.int .i64 n] 71))
  go_wp2_with (first | (go_at_call 42; (with_reducible refine (Er.out _).mono ?_); rintro e w1 ⟨rfl, h1⟩; have B1 := Lib.hid (AO.out.trans (h1.mono (Below.size AO.out))); clear h1; have k8 := cells4 (blk_below H8.out B1.out); have k9 := cells1 (blk_below H9.out B1.out); have k10 := cells1 (blk_below H10.out B1.out); obtain ⟨⟨a0, a1, a2, a3⟩, ⟨f0, f1, f2, f3⟩⟩ := k8; obtain ⟨g0, g1⟩ := k9; obtain ⟨l0, l1⟩ := k10))
  refine ⟨rfl, _, rfl, _, results_none rfl _ _ _, rfl, rfl, ?_, ?_, ?_, ?_⟩
  · exact (Below.heap_setCell _ ⟨b10, 0, none⟩ _ _ hd2).trans ((Below.heap_setCell _ ⟨b9, 0, none⟩ _ _ hd1).trans (set4 (blk_below H8.out B1.out) _ _ _ _))
  · exact (Below.heap_setCell _ ⟨b10, 0, none⟩ _ _ hd3).trans (set1 ((far4 _ _ _ _ (Ne.symm hd1)).trans (blk_below H9.out B1.out)) _)
  · exact set1 ((Below.heap_setCell _ ⟨b9, 0, none⟩ _ _ (Ne.symm hd3)).trans ((far4 _ _ _ _ (Ne.symm hd2)).trans (blk_below H10.out B1.out))) _
  · exact ((((((Kp.of B1.out).setCell (p := ⟨b8, 0, none⟩) (by simp) _).setCell (p := ⟨b8, 1, none⟩) (by simp) _).setCell (p := ⟨b8, 2, none⟩) (by simp) _).setCell (p := ⟨b8, 3, none⟩) (by simp) _).setCell (p := ⟨b9, 0, none⟩) (by simp) _).setCell (p := ⟨b10, 0, none⟩) (by simp) _
end Go.Proofs.YtllaeocclpaiaaaGreatDoor
