/- SET's options are read: lists of options that the laws use. -/
import Derived.Test.YtaomiglmahklfaaGreatDoorSt27
import Derived.Test.YtaomiglmahklfaaGreatDoorSt23
import Derived.ScopeJumps
import Derived.WalkMore
namespace Go.Proofs.YtaomiglmahklfaaGreatDoor
open Go.ChangeShapes Go.WideShapes Go.ChangeAt Go.RowKit

theorem cells5 {X : World} {b : Nat} {a0 a1 a2 a3 a4 : Value} {t : TypeId} (h : X.heap[b]? = some (.cells #[a0, a1, a2, a3, a4] t)) :
    (X.cell? ⟨b, 0, none⟩ = some a0 ∧ X.cell? ⟨b, 1, none⟩ = some a1 ∧ X.cell? ⟨b, 2, none⟩ = some a2 ∧ X.cell? ⟨b, 3, none⟩ = some a3 ∧ X.cell? ⟨b, 4, none⟩ = some a4) ∧
    (X.frozen? ⟨b, 0, none⟩ = false ∧ X.frozen? ⟨b, 1, none⟩ = false ∧ X.frozen? ⟨b, 2, none⟩ = false ∧ X.frozen? ⟨b, 3, none⟩ = false ∧ X.frozen? ⟨b, 4, none⟩ = false) := by
  refine ⟨⟨?_, ?_, ?_, ?_, ?_⟩, ⟨?_, ?_, ?_, ?_, ?_⟩⟩ <;> simp [World.cell?, World.frozen?, h]
theorem set5 {X : World} {b : Nat} {cs : Array Value} {t : TypeId} (h : X.heap[b]? = some (.cells cs t)) (i : Nat) (v : Value) : (X.setCell ⟨b, i, none⟩ v).heap[b]? = some (.cells (cs.setIfInBounds i v) t) := by
  simp [World.setCell, Array.getElem?_modify, h]
theorem tmps_fn (t : Array Value) (n : Nat) (h : t.size = n) : t = (Array.range n).map (fun i => t.getD i undef) := by
  apply Array.ext
  · simp [h]
  · intro i h1 h2
    simp [Array.getD, h1]
theorem tmps100 (f : Nat → Value) : (Array.range 100).map f = #[f 0, f 1, f 2, f 3, f 4, f 5, f 6, f 7, f 8, f 9, f 10, f 11, f 12, f 13, f 14, f 15, f 16, f 17, f 18, f 19, f 20, f 21, f 22, f 23, f 24, f 25, f 26, f 27, f 28, f 29, f 30, f 31, f 32, f 33, f 34, f 35, f 36, f 37, f 38, f 39, f 40, f 41, f 42, f 43, f 44, f 45, f 46, f 47, f 48, f 49, f 50, f 51, f 52, f 53, f 54, f 55, f 56, f 57, f 58, f 59, f 60, f 61, f 62, f 63, f 64, f 65, f 66, f 67, f 68, f 69, f 70, f 71, f 72, f 73, f 74, f 75, f 76, f 77, f 78, f 79, f 80, f 81, f 82, f 83, f 84, f 85, f 86, f 87, f 88, f 89, f 90, f 91, f 92, f 93, f 94, f 95, f 96, f 97, f 98, f 99] := by kernel_rfl
/-- A round of the reading: at option i, what was read. -/
def AtR (v : Value) (w : World) (i px : Int) (nx xx keep ok : Bool) (a' : Act) (w' : World) : Prop := a'.defers = [] ∧ a'.tmps.size = 100 ∧ a'.tmps.getD 0 undef = v ∧ a'.tmps.getD 2 undef = .pointer (some ⟨w.heap.size, 0, none⟩) ∧ a'.tmps.getD 3 undef = .pointer (some ⟨w.heap.size + 1, 0, none⟩) ∧ a'.tmps.getD 4 undef = .int .i64 i ∧
  w'.heap[w.heap.size]? = some (.cells #[.int .i64 0, .bool false, .bool false, .bool false, .bool false] 108) ∧ w'.heap[w.heap.size + 1]? = some (.cells #[.int .i64 px, .bool nx, .bool xx, .bool keep, .bool ok] 108) ∧ Below w.heap.size w w'
theorem AtR.open_ {v : Value} {w : World} {i px : Int} {nx xx keep ok : Bool} {a' : Act} {w' : World} (h : AtR v w i px nx xx keep ok a' w') : ∃ f : Nat → Value, a' = { tmps := #[v, f 1, .pointer (some ⟨w.heap.size, 0, none⟩), .pointer (some ⟨w.heap.size + 1, 0, none⟩), .int .i64 i, f 5, f 6, f 7, f 8, f 9, f 10, f 11, f 12, f 13, f 14, f 15, f 16, f 17, f 18, f 19, f 20, f 21, f 22, f 23, f 24, f 25, f 26, f 27, f 28, f 29, f 30, f 31, f 32, f 33, f 34, f 35, f 36, f 37, f 38, f 39, f 40, f 41, f 42, f 43, f 44, f 45, f 46, f 47, f 48, f 49, f 50, f 51, f 52, f 53, f 54, f 55, f 56, f 57, f 58, f 59, f 60, f 61, f 62, f 63, f 64, f 65, f 66, f 67, f 68, f 69, f 70, f 71, f 72, f 73, f 74, f 75, f 76, f 77, f 78, f 79, f 80, f 81, f 82, f 83, f 84, f 85, f 86, f 87, f 88, f 89, f 90, f 91, f 92, f 93, f 94, f 95, f 96, f 97, f 98, f 99], defers := [] } ∧
  w'.heap[w.heap.size]? = some (.cells #[.int .i64 0, .bool false, .bool false, .bool false, .bool false] 108) ∧ w'.heap[w.heap.size + 1]? = some (.cells #[.int .i64 px, .bool nx, .bool xx, .bool keep, .bool ok] 108) ∧ Below w.heap.size w w' := by
  obtain ⟨hd, hs, e0, e2, e3, e4, h1, h2, h3⟩ := h
  refine ⟨fun i => a'.tmps.getD i undef, ?_, h1, h2, h3⟩
  have ht := tmps_fn a'.tmps 100 hs
  rw [tmps100] at ht
  obtain ⟨t, d⟩ := a'
  simp only at *
  subst hd
  congr 1
  rw [e0, e2, e3, e4] at ht
  exact ht
set_option maxRecDepth 100000 in
set_option maxHeartbeats 8000000 in
theorem read_none (v : Value) (w : World) (hA : SSl w v []) : Calls Tryz.prog 68 #[v] w fun e w' => e = .returned (.agg #[.int .i64 0, .bool false, .bool false, .bool false, .bool true]) ∧ Below w.heap.size w w' := by
  obtain ⟨aA, cap, rfl, p1, p2, p3⟩ := hA
  clear p3
  have k0 := Lib.hid (show ((w.alloc (.cells #[.int .i64 0, .bool false, .bool false, .bool false, .bool false] 108)).alloc (.cells #[.int .i64 0, .bool false, .bool false, .bool false, .bool true] 108)).heap[w.heap.size]? = some (.cells #[.int .i64 0, .bool false, .bool false, .bool false, .bool false] 108) from blk_below (heap_alloc_new w _) alloc_old)
  have k1 := Lib.hid (show ((w.alloc (.cells #[.int .i64 0, .bool false, .bool false, .bool false, .bool false] 108)).alloc (.cells #[.int .i64 0, .bool false, .bool false, .bool false, .bool true] 108)).heap[w.heap.size + 1]? = some (.cells #[.int .i64 0, .bool false, .bool false, .bool false, .bool true] 108) from new_next w _ _)
  have kb := Lib.hid (show Below w.heap.size w ((w.alloc (.cells #[.int .i64 0, .bool false, .bool false, .bool false, .bool false] 108)).alloc (.cells #[.int .i64 0, .bool false, .bool false, .bool false, .bool true] 108)) from alloc_old.trans (alloc_old.mono (by simp)))
  go_enter Tryz.func68, Tryz.ntmps68
  go_wp2
  refine wp_scope_jumps 0 (fun a' w' => False) (fun a' _ => 1 - (intOf (a'.tmps.getD 4 undef)).toNat) rfl ?_ ?_
  · go_wp2
    go_step3
    obtain ⟨⟨c0, c1, c2, c3, c4⟩, ⟨f0, f1, f2, f3, f4⟩⟩ := cells5 k1.out
    obtain ⟨⟨z0, z1, z2, z3, z4⟩, ⟨y0, y1, y2, y3, y4⟩⟩ := cells5 k0.out
    go_wp2
    simp only [Exit.jump]
    exact bodyPost_ret (v := .agg #[.int .i64 0, .bool false, .bool false, .bool false, .bool true]) (by simp [results, Tryz.results68, go_sem]) rfl ⟨rfl, alloc_old.trans (alloc_old.mono (by simp))⟩
  · intro a' w' h
    exact h.elim
set_option maxRecDepth 100000 in
set_option maxHeartbeats 8000000 in
theorem read_NX (v : Value) (w : World) (hA : SSl w v [⟨#[78, 88]⟩]) : Calls Tryz.prog 68 #[v] w fun e w' => e = .returned (.agg #[.int .i64 0, .bool true, .bool false, .bool false, .bool true]) ∧ Below w.heap.size w w' := by
  obtain ⟨aA, cap, rfl, p1, p2, p3⟩ := hA
  obtain ⟨blk, off, rfl, hblt, hc⟩ := p3 (by simp)
  have ca0 := Lib.hid (show ∀ Y, Below w.heap.size w Y → Y.cell? ⟨blk, off, none⟩ = some (.string ⟨#[78, 88]⟩) from fun Y hb => (hb.cell (p := ⟨blk, off, none⟩) hblt).trans (hc 0 _ rfl))
  have U0 := Lib.hid (show ∀ w, Calls Tryz.prog 62 #[.string ⟨#[78, 88]⟩] w (fun e w' => e = .returned (.string ⟨#[78, 88]⟩) ∧ Below w.heap.size w w') from fun w => by have := UpperG ⟨#[78, 88]⟩ (by decide) w; rwa [show upT ⟨#[78, 88]⟩ = ⟨#[78, 88]⟩ from by kernel_rfl] at this)
  clear hc p3
  have k0 := Lib.hid (show ((w.alloc (.cells #[.int .i64 0, .bool false, .bool false, .bool false, .bool false] 108)).alloc (.cells #[.int .i64 0, .bool false, .bool false, .bool false, .bool true] 108)).heap[w.heap.size]? = some (.cells #[.int .i64 0, .bool false, .bool false, .bool false, .bool false] 108) from blk_below (heap_alloc_new w _) alloc_old)
  have k1 := Lib.hid (show ((w.alloc (.cells #[.int .i64 0, .bool false, .bool false, .bool false, .bool false] 108)).alloc (.cells #[.int .i64 0, .bool false, .bool false, .bool false, .bool true] 108)).heap[w.heap.size + 1]? = some (.cells #[.int .i64 0, .bool false, .bool false, .bool false, .bool true] 108) from new_next w _ _)
  have kb := Lib.hid (show Below w.heap.size w ((w.alloc (.cells #[.int .i64 0, .bool false, .bool false, .bool false, .bool false] 108)).alloc (.cells #[.int .i64 0, .bool false, .bool false, .bool false, .bool true] 108)) from alloc_old.trans (alloc_old.mono (by simp)))
  go_enter Tryz.func68, Tryz.ntmps68
  go_wp2
  refine wp_scope_jumps 0 (fun a' w' => AtR (.slice (some ⟨blk, off, none⟩) 1 cap) w 1 0 true false false true a' w') (fun a' _ => 2 - (intOf (a'.tmps.getD 4 undef)).toNat) rfl ?_ ?_
  · go_wp2
    go_step3
    have ca := ca0.out _ kb.out
    go_wp2_with (first | (go_at_call 62; (with_reducible refine (U0.out _).mono ?_); rintro e w5 ⟨rfl, h5⟩; have B5 := Lib.hid h5; clear h5; obtain ⟨⟨c0, c1, c2, c3, c4⟩, ⟨f0, f1, f2, f3, f4⟩⟩ := cells5 (blk_below k1.out B5.out); refine Hid.out ?_))
    refine Lib.hid ?_
    have X0 := Lib.hid (blk_below k0.out B5.out)
    have X1 := Lib.hid (blk_below k1.out B5.out)
    have KB := Lib.hid (belT kb.out B5.out)
    clear k0 k1 kb B5
    go_wp2
    go_step3
    refine ⟨rfl, ⟨rfl, rfl, rfl, rfl, rfl, rfl, ?_, ?_, ?_⟩⟩
    · exact (Below.heap_setCell _ ⟨w.heap.size + 1, 1, none⟩ _ w.heap.size (show w.heap.size ≠ w.heap.size + 1 by omega)).trans ((Below.heap_setCell _ ⟨w.heap.size + 1, 4, none⟩ _ w.heap.size (show w.heap.size ≠ w.heap.size + 1 by omega)).trans X0.out)
    · exact set5 (set5 X1.out 4 _) 1 _
    · exact (KB.out.setCell (p := ⟨w.heap.size + 1, 4, none⟩) (show w.heap.size ≤ w.heap.size + 1 by omega) _).setCell (p := ⟨w.heap.size + 1, 1, none⟩) (show w.heap.size ≤ w.heap.size + 1 by omega) _
  · intro a' w' h
    clear k0 k1 kb
    rcases h with h
    · obtain ⟨f, rfl, k0, k1, kb⟩ := h.open_
      have k0 := Lib.hid k0
      have k1 := Lib.hid k1
      have kb := Lib.hid kb
      clear h
      obtain ⟨⟨c0, c1, c2, c3, c4⟩, ⟨f0, f1, f2, f3, f4⟩⟩ := cells5 k1.out
      obtain ⟨⟨z0, z1, z2, z3, z4⟩, ⟨y0, y1, y2, y3, y4⟩⟩ := cells5 k0.out
      go_wp2
      simp only [Exit.jump]
      exact bodyPost_ret (v := .agg #[.int .i64 0, .bool true, .bool false, .bool false, .bool true]) (by simp [results, Tryz.results68, go_sem, z0, z1, z2, z3, z4]) rfl ⟨rfl, (((((kb.out.setCell (p := ⟨w.heap.size + 1, 4, none⟩) (show w.heap.size ≤ w.heap.size + 1 by omega) _).setCell (Nat.le_refl _) _).setCell (Nat.le_refl _) _).setCell (Nat.le_refl _) _).setCell (Nat.le_refl _) _).setCell (Nat.le_refl _) _⟩
set_option maxRecDepth 100000 in
set_option maxHeartbeats 8000000 in
theorem read_px_NX (s : ByteArray) (v : Value) (w : World) (hA : SSl w v [⟨#[112, 120]⟩, s, ⟨#[78, 88]⟩]) : Calls Tryz.prog 68 #[v] w fun e w' => e = .returned (.agg #[.int .i64 1, .bool true, .bool false, .bool false, .bool true]) ∧ Below w.heap.size w w' := by
  obtain ⟨aA, cap, rfl, p1, p2, p3⟩ := hA
  obtain ⟨blk, off, rfl, hblt, hc⟩ := p3 (by simp)
  have ca0 := Lib.hid (show ∀ Y, Below w.heap.size w Y → Y.cell? ⟨blk, off, none⟩ = some (.string ⟨#[112, 120]⟩) from fun Y hb => (hb.cell (p := ⟨blk, off, none⟩) hblt).trans (hc 0 _ rfl))
  have U0 := Lib.hid (show ∀ w, Calls Tryz.prog 62 #[.string ⟨#[112, 120]⟩] w (fun e w' => e = .returned (.string ⟨#[80, 88]⟩) ∧ Below w.heap.size w w') from fun w => by have := UpperG ⟨#[112, 120]⟩ (by decide) w; rwa [show upT ⟨#[112, 120]⟩ = ⟨#[80, 88]⟩ from by kernel_rfl] at this)
  have ca2 := Lib.hid (show ∀ Y, Below w.heap.size w Y → Y.cell? ⟨blk, off + 2, none⟩ = some (.string ⟨#[78, 88]⟩) from fun Y hb => (hb.cell (p := ⟨blk, off + 2, none⟩) hblt).trans (hc 2 _ rfl))
  have U2 := Lib.hid (show ∀ w, Calls Tryz.prog 62 #[.string ⟨#[78, 88]⟩] w (fun e w' => e = .returned (.string ⟨#[78, 88]⟩) ∧ Below w.heap.size w w') from fun w => by have := UpperG ⟨#[78, 88]⟩ (by decide) w; rwa [show upT ⟨#[78, 88]⟩ = ⟨#[78, 88]⟩ from by kernel_rfl] at this)
  clear hc p3
  have k0 := Lib.hid (show ((w.alloc (.cells #[.int .i64 0, .bool false, .bool false, .bool false, .bool false] 108)).alloc (.cells #[.int .i64 0, .bool false, .bool false, .bool false, .bool true] 108)).heap[w.heap.size]? = some (.cells #[.int .i64 0, .bool false, .bool false, .bool false, .bool false] 108) from blk_below (heap_alloc_new w _) alloc_old)
  have k1 := Lib.hid (show ((w.alloc (.cells #[.int .i64 0, .bool false, .bool false, .bool false, .bool false] 108)).alloc (.cells #[.int .i64 0, .bool false, .bool false, .bool false, .bool true] 108)).heap[w.heap.size + 1]? = some (.cells #[.int .i64 0, .bool false, .bool false, .bool false, .bool true] 108) from new_next w _ _)
  have kb := Lib.hid (show Below w.heap.size w ((w.alloc (.cells #[.int .i64 0, .bool false, .bool false, .bool false, .bool false] 108)).alloc (.cells #[.int .i64 0, .bool false, .bool false, .bool false, .bool true] 108)) from alloc_old.trans (alloc_old.mono (by simp)))
  go_enter Tryz.func68, Tryz.ntmps68
  go_wp2
  refine wp_scope_jumps 0 (fun a' w' => AtR (.slice (some ⟨blk, off, none⟩) 3 cap) w 2 1 false false false true a' w' ∨ AtR (.slice (some ⟨blk, off, none⟩) 3 cap) w 3 1 true false false true a' w') (fun a' _ => 4 - (intOf (a'.tmps.getD 4 undef)).toNat) rfl ?_ ?_
  · go_wp2
    go_step3
    have ca := ca0.out _ kb.out
    go_wp2_with (first | (go_at_call 62; (with_reducible refine (U0.out _).mono ?_); rintro e w5 ⟨rfl, h5⟩; have B5 := Lib.hid h5; clear h5; obtain ⟨⟨c0, c1, c2, c3, c4⟩, ⟨f0, f1, f2, f3, f4⟩⟩ := cells5 (blk_below k1.out B5.out); refine Hid.out ?_))
    refine Lib.hid ?_
    have X0 := Lib.hid (blk_below k0.out B5.out)
    have X1 := Lib.hid (blk_below k1.out B5.out)
    have KB := Lib.hid (belT kb.out B5.out)
    clear k0 k1 kb B5
    go_wp2
    go_step3
    refine ⟨rfl, Or.inl ⟨rfl, rfl, rfl, rfl, rfl, rfl, ?_, ?_, ?_⟩⟩
    · exact (Below.heap_setCell _ ⟨w.heap.size + 1, 0, none⟩ _ w.heap.size (show w.heap.size ≠ w.heap.size + 1 by omega)).trans ((Below.heap_setCell _ ⟨w.heap.size + 1, 4, none⟩ _ w.heap.size (show w.heap.size ≠ w.heap.size + 1 by omega)).trans X0.out)
    · exact set5 (set5 X1.out 4 _) 0 _
    · exact (KB.out.setCell (p := ⟨w.heap.size + 1, 4, none⟩) (show w.heap.size ≤ w.heap.size + 1 by omega) _).setCell (p := ⟨w.heap.size + 1, 0, none⟩) (show w.heap.size ≤ w.heap.size + 1 by omega) _
  · intro a' w' h
    clear k0 k1 kb
    rcases h with h | h
    · obtain ⟨f, rfl, k0, k1, kb⟩ := h.open_
      have k0 := Lib.hid k0
      have k1 := Lib.hid k1
      have kb := Lib.hid kb
      clear h
      have ca := ca2.out _ kb.out
      go_wp2_with (first | (go_at_call 62; (with_reducible refine (U2.out _).mono ?_); rintro e w5 ⟨rfl, h5⟩; have B5 := Lib.hid h5; clear h5; obtain ⟨⟨c0, c1, c2, c3, c4⟩, ⟨f0, f1, f2, f3, f4⟩⟩ := cells5 (blk_below k1.out B5.out); refine Hid.out ?_))
      refine Lib.hid ?_
      have X0 := Lib.hid (blk_below k0.out B5.out)
      have X1 := Lib.hid (blk_below k1.out B5.out)
      have KB := Lib.hid (belT kb.out B5.out)
      clear k0 k1 kb B5
      go_wp2
      go_step3
      refine ⟨rfl, Or.inr (⟨rfl, rfl, rfl, rfl, rfl, rfl, ?_, ?_, ?_⟩), by simp [intOf]⟩
      · exact (Below.heap_setCell _ ⟨w.heap.size + 1, 1, none⟩ _ w.heap.size (show w.heap.size ≠ w.heap.size + 1 by omega)).trans ((Below.heap_setCell _ ⟨w.heap.size + 1, 4, none⟩ _ w.heap.size (show w.heap.size ≠ w.heap.size + 1 by omega)).trans X0.out)
      · exact set5 (set5 X1.out 4 _) 1 _
      · exact (KB.out.setCell (p := ⟨w.heap.size + 1, 4, none⟩) (show w.heap.size ≤ w.heap.size + 1 by omega) _).setCell (p := ⟨w.heap.size + 1, 1, none⟩) (show w.heap.size ≤ w.heap.size + 1 by omega) _
    · obtain ⟨f, rfl, k0, k1, kb⟩ := h.open_
      have k0 := Lib.hid k0
      have k1 := Lib.hid k1
      have kb := Lib.hid kb
      clear h
      obtain ⟨⟨c0, c1, c2, c3, c4⟩, ⟨f0, f1, f2, f3, f4⟩⟩ := cells5 k1.out
      obtain ⟨⟨z0, z1, z2, z3, z4⟩, ⟨y0, y1, y2, y3, y4⟩⟩ := cells5 k0.out
      go_wp2
      simp only [Exit.jump]
      exact bodyPost_ret (v := .agg #[.int .i64 1, .bool true, .bool false, .bool false, .bool true]) (by simp [results, Tryz.results68, go_sem, z0, z1, z2, z3, z4]) rfl ⟨rfl, (((((kb.out.setCell (p := ⟨w.heap.size + 1, 4, none⟩) (show w.heap.size ≤ w.heap.size + 1 by omega) _).setCell (Nat.le_refl _) _).setCell (Nat.le_refl _) _).setCell (Nat.le_refl _) _).setCell (Nat.le_refl _) _).setCell (Nat.le_refl _) _⟩
end Go.Proofs.YtaomiglmahklfaaGreatDoor
