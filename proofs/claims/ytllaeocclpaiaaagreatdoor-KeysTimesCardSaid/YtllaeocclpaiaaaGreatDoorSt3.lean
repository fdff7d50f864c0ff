/- Entries that are texts: copy, size, which may be. -/
import Derived.Test.YtllaeocclpaiaaaGreatDoorSt2
namespace Go.Proofs.YtllaeocclpaiaaaGreatDoor
open Go.ChangeShapes Go.WideShapes Go.ChangeAt Go.RowKit

/-- A block of eight cells that is known whole. -/
theorem cells8 {X : World} {b : Nat} {a0 a1 a2 a3 a4 a5 a6 a7 : Value} {t : TypeId} (h : X.heap[b]? = some (.cells #[a0, a1, a2, a3, a4, a5, a6, a7] t)) :
    (X.cell? ⟨b, 0, none⟩ = some a0 ∧ X.cell? ⟨b, 1, none⟩ = some a1 ∧ X.cell? ⟨b, 2, none⟩ = some a2 ∧ X.cell? ⟨b, 3, none⟩ = some a3 ∧ X.cell? ⟨b, 4, none⟩ = some a4 ∧ X.cell? ⟨b, 5, none⟩ = some a5 ∧ X.cell? ⟨b, 6, none⟩ = some a6 ∧ X.cell? ⟨b, 7, none⟩ = some a7) ∧
    (X.frozen? ⟨b, 0, none⟩ = false ∧ X.frozen? ⟨b, 1, none⟩ = false ∧ X.frozen? ⟨b, 2, none⟩ = false ∧ X.frozen? ⟨b, 3, none⟩ = false ∧ X.frozen? ⟨b, 4, none⟩ = false ∧ X.frozen? ⟨b, 5, none⟩ = false ∧ X.frozen? ⟨b, 6, none⟩ = false ∧ X.frozen? ⟨b, 7, none⟩ = false) ∧ b < X.heap.size := by
  refine ⟨⟨?_, ?_, ?_, ?_, ?_, ?_, ?_, ?_⟩, ⟨?_, ?_, ?_, ?_, ?_, ?_, ?_, ?_⟩, (Array.getElem?_eq_some_iff.1 h).1⟩ <;> simp [World.cell?, World.frozen?, h]
theorem blk_below {W w : World} {b : Nat} {o : Obj} (h : W.heap[b]? = some o) (hb : Below W.heap.size W w) : w.heap[b]? = some o := (hb.block b (Array.getElem?_eq_some_iff.1 h).1).trans h
set_option maxRecDepth 100000 in
set_option maxHeartbeats 2000000 in
theorem clone17 (k : ByteArray) (kd : Int) (t : ByteArray) (u : Int) (w : World) : Calls Tryz.prog 12 #[.agg #[.string k, .int .i64 kd, .string t, .slice none 0 0, .slice none 0 0, .slice none 0 0, .slice none 0 0, .int .i64 u]] w fun e w' => e = .returned (.agg #[.string k, .int .i64 kd, .string t, .slice none 0 0, .slice none 0 0, .slice none 0 0, .slice none 0 0, .int .i64 u]) ∧ Below w.heap.size w w' := by
  have V := Lib.hid (fun w => VClone25 kd t w)
  have hb1 := Lib.hid (show ((w.alloc (.cells #[.string k, .int .i64 kd, .string t, .slice none 0 0, .slice none 0 0, .slice none 0 0, .slice none 0 0, .int .i64 u] 33)).alloc (.cells #[.string ⟨#[]⟩, .int .i64 0, .string ⟨#[]⟩, .slice none 0 0, .slice none 0 0, .slice none 0 0, .slice none 0 0, .int .i64 0] 33)).heap[w.heap.size]? = some (.cells #[.string k, .int .i64 kd, .string t, .slice none 0 0, .slice none 0 0, .slice none 0 0, .slice none 0 0, .int .i64 u] 33) from blk_below (heap_alloc_new w _) alloc_old)
  have hb2 := Lib.hid (show ((w.alloc (.cells #[.string k, .int .i64 kd, .string t, .slice none 0 0, .slice none 0 0, .slice none 0 0, .slice none 0 0, .int .i64 u] 33)).alloc (.cells #[.string ⟨#[]⟩, .int .i64 0, .string ⟨#[]⟩, .slice none 0 0, .slice none 0 0, .slice none 0 0, .slice none 0 0, .int .i64 0] 33)).heap[w.heap.size + 1]? = some (.cells #[.string ⟨#[]⟩, .int .i64 0, .string ⟨#[]⟩, .slice none 0 0, .slice none 0 0, .slice none 0 0, .slice none 0 0, .int .i64 0] 33) from by have := heap_alloc_new (w.alloc (.cells #[.string k, .int .i64 kd, .string t, .slice none 0 0, .slice none 0 0, .slice none 0 0, .slice none 0 0, .int .i64 u] 33)) (.cells #[.string ⟨#[]⟩, .int .i64 0, .string ⟨#[]⟩, .slice none 0 0, .slice none 0 0, .slice none 0 0, .slice none 0 0, .int .i64 0] 33); rw [World.size_alloc] at this; exact this)
  have hb3 := Lib.hid (show Below w.heap.size w ((w.alloc (.cells #[.string k, .int .i64 kd, .string t, .slice none 0 0, .slice none 0 0, .slice none 0 0, .slice none 0 0, .int .i64 u] 33)).alloc (.cells #[.string ⟨#[]⟩, .int .i64 0, .string ⟨#[]⟩, .slice none 0 0, .slice none 0 0, .slice none 0 0, .slice none 0 0, .int .i64 0] 33)) from alloc_old.trans (alloc_old.mono (by simp)))
  go_enter Tryz.func12, Tryz.ntmps12
  go_wp2_with (first | (go_at_call 37; (with_reducible refine (V.out _).mono ?_); rintro e w1 ⟨rfl, h1⟩; have B1 := Lib.hid h1; clear h1; obtain ⟨⟨c0, c1, c2, c3, c4, c5, c6, c7⟩, ⟨f0, f1, f2, f3, f4, f5, f6, f7⟩, z1⟩ := cells8 (blk_below hb1.out B1.out); obtain ⟨⟨d0, d1, d2, d3, d4, d5, d6, d7⟩, ⟨g0, g1, g2, g3, g4, g5, g6, g7⟩, z2⟩ := cells8 (blk_below hb2.out B1.out)))
  exact bodyPost_ret (v := .agg #[.string k, .int .i64 kd, .string t, .slice none 0 0, .slice none 0 0, .slice none 0 0, .slice none 0 0, .int .i64 u]) (by simp [results, Tryz.results12, go_sem, d0, d1, d2, d3, d4, d5, d6, d7]) rfl ⟨rfl, ((((((((((((((hb3.out.trans (B1.out.mono (by simp; omega))).setCell (Nat.le_refl _) _).setCell (Nat.le_refl _) _).setCell (Nat.le_refl _) _).setCell (Nat.le_refl _) _).setCell (Nat.le_refl _) _).setCell (Nat.le_refl _) _).setCell (Nat.le_succ _) _).setCell (Nat.le_succ _) _).setCell (Nat.le_succ _) _).setCell (Nat.le_succ _) _).setCell (Nat.le_succ _) _).setCell (Nat.le_succ _) _).setCell (Nat.le_succ _) _).setCell (Nat.le_succ _) _⟩
set_option maxRecDepth 100000 in
set_option maxHeartbeats 4000000 in
theorem size16 (k t : ByteArray) (hk : k.size ≤ 1000000) (ht : t.size ≤ 1000000) (u : Int) (w : World) : Calls Tryz.prog 11 #[.agg #[.string k, .int .i64 1, .string t, .slice none 0 0, .slice none 0 0, .slice none 0 0, .slice none 0 0, .int .i64 u]] w fun e w' => e = .returned (.int .i64 (48 + (k.size : Int) + t.size)) ∧ Below w.heap.size w w' := by
  have Q := Lib.hid (fun w => Size24 t ht w)
  have q1 : IntKind.i64.wrap (32 + (k.size : Int)) = 32 + (k.size : Int) := IntWalk.i64_in _ (by omega)
  have q2 : IntKind.i64.wrap (32 + (k.size : Int) + (16 + (t.size : Int))) = 48 + (k.size : Int) + t.size := (IntWalk.i64_in _ (by omega)).trans (by omega)
  obtain ⟨W, hW⟩ : ∃ W, w.alloc (.cells #[.string k, .int .i64 1, .string t, .slice none 0 0, .slice none 0 0, .slice none 0 0, .slice none 0 0, .int .i64 u] 33) = W := ⟨_, rfl⟩
  have hb1 : W.heap[w.heap.size]? = some (.cells #[.string k, .int .i64 1, .string t, .slice none 0 0, .slice none 0 0, .slice none 0 0, .slice none 0 0, .int .i64 u] 33) := by rw [← hW]; exact heap_alloc_new w _
  have hb3 : Below w.heap.size w W := by rw [← hW]; exact alloc_old
  have hz : w.heap.size ≤ W.heap.size := Below.size hb3
  have K := Lib.hid (show ∀ X, Below W.heap.size W X → (X.cell? ⟨w.heap.size, 0, none⟩ = some (.string k) ∧ X.cell? ⟨w.heap.size, 1, none⟩ = some (.int .i64 1) ∧ X.cell? ⟨w.heap.size, 2, none⟩ = some (.string t) ∧ X.cell? ⟨w.heap.size, 3, none⟩ = some (.slice none 0 0) ∧ X.cell? ⟨w.heap.size, 4, none⟩ = some (.slice none 0 0) ∧ X.cell? ⟨w.heap.size, 5, none⟩ = some (.slice none 0 0) ∧ X.cell? ⟨w.heap.size, 6, none⟩ = some (.slice none 0 0)) from fun X hb => by
    obtain ⟨⟨c0, c1, c2, c3, c4, c5, c6, c7⟩, _⟩ := cells8 (blk_below hb1 hb)
    exact ⟨c0, c1, c2, c3, c4, c5, c6⟩)
  have S0 : ((W.drew.cell? ⟨w.heap.size, 0, none⟩ = some (.string k) ∧ W.drew.cell? ⟨w.heap.size, 1, none⟩ = some (.int .i64 1) ∧ W.drew.cell? ⟨w.heap.size, 2, none⟩ = some (.string t) ∧ W.drew.cell? ⟨w.heap.size, 3, none⟩ = some (.slice none 0 0) ∧ W.drew.cell? ⟨w.heap.size, 4, none⟩ = some (.slice none 0 0) ∧ W.drew.cell? ⟨w.heap.size, 5, none⟩ = some (.slice none 0 0) ∧ W.drew.cell? ⟨w.heap.size, 6, none⟩ = some (.slice none 0 0)) ∧ Below W.heap.size W W.drew) := ⟨K.out _ (Below.refl W.heap.size W).drew, (Below.refl W.heap.size W).drew⟩
  have SK := Lib.hid (show ∀ Y X : World, Below X.heap.size X Y → ((X.cell? ⟨w.heap.size, 0, none⟩ = some (.string k) ∧ X.cell? ⟨w.heap.size, 1, none⟩ = some (.int .i64 1) ∧ X.cell? ⟨w.heap.size, 2, none⟩ = some (.string t) ∧ X.cell? ⟨w.heap.size, 3, none⟩ = some (.slice none 0 0) ∧ X.cell? ⟨w.heap.size, 4, none⟩ = some (.slice none 0 0) ∧ X.cell? ⟨w.heap.size, 5, none⟩ = some (.slice none 0 0) ∧ X.cell? ⟨w.heap.size, 6, none⟩ = some (.slice none 0 0)) ∧ Below W.heap.size W X) → ((Y.cell? ⟨w.heap.size, 0, none⟩ = some (.string k) ∧ Y.cell? ⟨w.heap.size, 1, none⟩ = some (.int .i64 1) ∧ Y.cell? ⟨w.heap.size, 2, none⟩ = some (.string t) ∧ Y.cell? ⟨w.heap.size, 3, none⟩ = some (.slice none 0 0) ∧ Y.cell? ⟨w.heap.size, 4, none⟩ = some (.slice none 0 0) ∧ Y.cell? ⟨w.heap.size, 5, none⟩ = some (.slice none 0 0) ∧ Y.cell? ⟨w.heap.size, 6, none⟩ = some (.slice none 0 0)) ∧ Below W.heap.size W Y) from fun Y X hb h => ⟨K.out _ (belT h.2 hb), belT h.2 hb⟩)
  have HB := Lib.hid hb3
  clear hb1 hb3
  go_enter Tryz.func11, Tryz.ntmps11
  go_wp2

  clear hW
  go_region_held3 (fun X => ((X.cell? ⟨w.heap.size, 0, none⟩ = some (.string k) ∧ X.cell? ⟨w.heap.size, 1, none⟩ = some (.int .i64 1) ∧ X.cell? ⟨w.heap.size, 2, none⟩ = some (.string t) ∧ X.cell? ⟨w.heap.size, 3, none⟩ = some (.slice none 0 0) ∧ X.cell? ⟨w.heap.size, 4, none⟩ = some (.slice none 0 0) ∧ X.cell? ⟨w.heap.size, 5, none⟩ = some (.slice none 0 0) ∧ X.cell? ⟨w.heap.size, 6, none⟩ = some (.slice none 0 0)) ∧ Below W.heap.size W X)) (first | exact S0 | exact SK.out _ _ (by assumption) (by assumption) | exact SK.out _ _ (by assumption) ⟨by assumption, by assumption⟩)
    (first | (go_at_call 36; refine (Q.out _).mono ?_; rintro e w5 ⟨rfl, hb5⟩))
  go_wp2
  go_ret
  exact ⟨by simp, HB.out.trans ((belT S0.2 hb5).mono hz)⟩
end Go.Proofs.YtllaeocclpaiaaaGreatDoor
