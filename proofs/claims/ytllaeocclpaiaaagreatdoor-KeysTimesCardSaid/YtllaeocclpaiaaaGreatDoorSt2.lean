/- Copies and sizes of entries that are texts; which may be. -/
import Derived.Test.YtllaeocclpaiaaaGreatDoorSt1
import Derived.Deep.RegionHeld3
import Derived.StillTailTactics
namespace Go.Proofs.YtllaeocclpaiaaaGreatDoor
open Go.ChangeShapes Go.WideShapes Go.ChangeAt Go.RowKit

/-- A block of six cells that is known whole. -/
theorem cells6 {X : World} {b : Nat} {a0 a1 a2 a3 a4 a5 : Value} {t : TypeId} (h : X.heap[b]? = some (.cells #[a0, a1, a2, a3, a4, a5] t)) :
    (X.cell? ⟨b, 0, none⟩ = some a0 ∧ X.cell? ⟨b, 1, none⟩ = some a1 ∧ X.cell? ⟨b, 2, none⟩ = some a2 ∧ X.cell? ⟨b, 3, none⟩ = some a3 ∧ X.cell? ⟨b, 4, none⟩ = some a4 ∧ X.cell? ⟨b, 5, none⟩ = some a5) ∧
    (X.frozen? ⟨b, 0, none⟩ = false ∧ X.frozen? ⟨b, 1, none⟩ = false ∧ X.frozen? ⟨b, 2, none⟩ = false ∧ X.frozen? ⟨b, 3, none⟩ = false ∧ X.frozen? ⟨b, 4, none⟩ = false ∧ X.frozen? ⟨b, 5, none⟩ = false) := by
  refine ⟨⟨?_, ?_, ?_, ?_, ?_, ?_⟩, ⟨?_, ?_, ?_, ?_, ?_, ?_⟩⟩ <;> simp [World.cell?, World.frozen?, h]
set_option maxRecDepth 100000 in
set_option maxHeartbeats 2000000 in
theorem VClone25 (kd : Int) (t : ByteArray) (w : World) : Calls Tryz.prog 37 #[.agg #[.int .i64 kd, .string t, .slice none 0 0, .slice none 0 0, .slice none 0 0, .slice none 0 0]] w fun e w' => e = .returned (.agg #[.int .i64 kd, .string t, .slice none 0 0, .slice none 0 0, .slice none 0 0, .slice none 0 0]) ∧ Below w.heap.size w w' := by
  go_enter Tryz.func37, Tryz.ntmps37
  go_wp2
  obtain ⟨W, hW⟩ : ∃ W, ((w.alloc (.cells #[.int .i64 kd, .string t, .slice none 0 0, .slice none 0 0, .slice none 0 0, .slice none 0 0] 31)).alloc (.cells #[.int .i64 0, .string ⟨#[]⟩, .slice none 0 0, .slice none 0 0, .slice none 0 0, .slice none 0 0] 31)) = W := ⟨_, rfl⟩
  have hz : W.heap.size = w.heap.size + 2 := by rw [← hW]; simp
  have hB : Below w.heap.size w W := by rw [← hW]; exact ((Below.refl _ _).alloc (Nat.le_refl _) _).alloc (by simp) _
  have S0 : W.drew.cell? ⟨w.heap.size, 0, none⟩ = some (.int .i64 kd) ∧ W.drew.cell? ⟨w.heap.size, 1, none⟩ = some (.string t) ∧ W.drew.cell? ⟨w.heap.size, 2, none⟩ = some (.slice none 0 0) ∧ W.drew.cell? ⟨w.heap.size, 3, none⟩ = some (.slice none 0 0) ∧ W.drew.cell? ⟨w.heap.size, 4, none⟩ = some (.slice none 0 0) ∧ W.drew.cell? ⟨w.heap.size, 5, none⟩ = some (.slice none 0 0) := by
    rw [← hW]; refine ⟨?_, ?_, ?_, ?_, ?_, ?_⟩ <;> simp
  have hb1 : W.heap[w.heap.size + 1]? = some (.cells #[.int .i64 0, .string ⟨#[]⟩, .slice none 0 0, .slice none 0 0, .slice none 0 0, .slice none 0 0] 31) := by
    rw [← hW]
    have := heap_alloc_new (w.alloc (.cells #[.int .i64 kd, .string t, .slice none 0 0, .slice none 0 0, .slice none 0 0, .slice none 0 0] 31)) (.cells #[.int .i64 0, .string ⟨#[]⟩, .slice none 0 0, .slice none 0 0, .slice none 0 0, .slice none 0 0] 31)
    rw [World.size_alloc] at this
    exact this
  obtain ⟨c0, f0⟩ := cells6 hb1
  rw [hW]
  clear hW
  obtain ⟨s0, s1, s2, s3, s4, s5⟩ := S0
  have HB := Lib.hid hB
  clear hB
  go_still_tail 17, (by kernel_rfl)
  still_call (Clone57 _)
  repeat still_step
  still_call (Clone58 _)
  repeat still_step
  still_call (Clone59 _)
  repeat still_step
  still_call (Clone60 _)
  repeat still_step
  refine wpStill_nil ?_
  have hz2 : w.heap.size + 1 < W.drew.heap.size := by show _ < W.heap.size; omega
  have hb2 : W.drew.heap[w.heap.size + 1]? = some (.cells #[.int .i64 0, .string ⟨#[]⟩, .slice none 0 0, .slice none 0 0, .slice none 0 0, .slice none 0 0] 31) := hb1
  have HD := Lib.hid HB.out.drew
  clear c0 f0
  obtain ⟨⟨c0, c1, c2, c3, c4, c5⟩, ⟨f0, f1, f2, f3, f4, f5⟩⟩ := cells6 hb2
  clear s0 s1 s2 s3 s4 s5 hz hb1 hb2
  change wpList _ _ _ _ _ W.drew
  generalize W.drew = w2 at hz2 HD c0 c1 c2 c3 c4 c5 f0 f1 f2 f3 f4 f5 ⊢
  go_wp2

  exact bodyPost_ret (v := .agg #[.int .i64 kd, .string t, .slice none 0 0, .slice none 0 0, .slice none 0 0, .slice none 0 0]) (by simp [results, Tryz.results37, go_sem, c0, c1, c2, c3, c4, c5]) rfl ⟨rfl, ((((((HD.out.setCell (Nat.le_succ _) _).setCell (Nat.le_succ _) _).setCell (Nat.le_succ _) _).setCell (Nat.le_succ _) _).setCell (Nat.le_succ _) _).setCell (Nat.le_succ _) _)⟩
end Go.Proofs.YtllaeocclpaiaaaGreatDoor
