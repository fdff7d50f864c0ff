/- Texts joined: Op1a, Op1b, Op3a, Op3b, Op3c, Op3d, Op4 (SET's options are read: the other lists of StringsOptions (a).) -/
import Derived.Test.YtaomiglmahklfaaGreatDoorSt28
import Derived.Test.YtaomiglmahklfaaGreatDoorSt29
import Derived.Test.YtaomiglmahklfaaGreatDoorLi
namespace Go.Proofs.YtaomiglmahklfaaGreatDoor
open Go.ChangeShapes Go.WideShapes Go.ChangeAt Go.RowKit

set_option maxRecDepth 100000 in
set_option maxHeartbeats 8000000 in
theorem read_o2 (v : Value) (w : World) (hA : SSl w v [⟨#[88, 88]⟩]) : Calls Tryz.prog 68 #[v] w fun e w' => e = .returned (.agg #[.int .i64 0, .bool false, .bool true, .bool false, .bool true]) ∧ Below w.heap.size w w' := by
  obtain ⟨aA, cap, rfl, p1, p2, p3⟩ := hA
  obtain ⟨blk, off, rfl, hblt, hc⟩ := p3 (by simp)
  have ca0 := Lib.hid (show ∀ Y, Below w.heap.size w Y → Y.cell? ⟨blk, off, none⟩ = some (.string ⟨#[88, 88]⟩) from fun Y hb => (hb.cell (p := ⟨blk, off, none⟩) hblt).trans (hc 0 _ rfl))
  have U0 := Lib.hid (show ∀ w, Calls Tryz.prog 62 #[.string ⟨#[88, 88]⟩] w (fun e w' => e = .returned (.string ⟨#[88, 88]⟩) ∧ Below w.heap.size w w') from fun w => by have := UpperG ⟨#[88, 88]⟩ (by decide) w; rwa [show upT ⟨#[88, 88]⟩ = ⟨#[88, 88]⟩ from by kernel_rfl] at this)
  clear hc p3
  have k0 := Lib.hid (show ((w.alloc (.cells #[.int .i64 0, .bool false, .bool false, .bool false, .bool false] 108)).alloc (.cells #[.int .i64 0, .bool false, .bool false, .bool false, .bool true] 108)).heap[w.heap.size]? = some (.cells #[.int .i64 0, .bool false, .bool false, .bool false, .bool false] 108) from blk_below (heap_alloc_new w _) alloc_old)
  have k1 := Lib.hid (show ((w.alloc (.cells #[.int .i64 0, .bool false, .bool false, .bool false, .bool false] 108)).alloc (.cells #[.int .i64 0, .bool false, .bool false, .bool false, .bool true] 108)).heap[w.heap.size + 1]? = some (.cells #[.int .i64 0, .bool false, .bool false, .bool false, .bool true] 108) from new_next w _ _)
  have kb := Lib.hid (show Below w.heap.size w ((w.alloc (.cells #[.int .i64 0, .bool false, .bool false, .bool false, .bool false] 108)).alloc (.cells #[.int .i64 0, .bool false, .bool false, .bool false, .bool true] 108)) from alloc_old.trans (alloc_old.mono (by simp)))
  go_enter Tryz.func68, Tryz.ntmps68
  go_wp2
  refine wp_scope_jumps 0 (fun a' w' => AtR (.slice (some ⟨blk, off, none⟩) 1 cap) w 1 0 false true false true a' w') (fun a' _ => 2 - (intOf (a'.tmps.getD 4 undef)).toNat) rfl ?_ ?_
  · go_wp2
    go_step3
    have ca := ca0.out _ kb.out
    go_wp2_with (first | (go_at_call 62; (with_reducible refine (U0.out _).mono ?_); rintro e w5 ⟨rfl, h5⟩; have B5 := Lib.hid h5; clear h5; obtain ⟨⟨c0, c1, c2, c3, c4⟩, ⟨f0, f1, f2, f3, f4⟩⟩ := cells5 (blk_below k1.out B5.out); refine Hid.out ?_))
    refine Lib.hid ?_
    have X0 := Lib.hid (blk_below k0.out B5.out)
    have X1 := Lib.hid (blk_below k1.out B5.out)
    have KB := Lib.hid (belT kb.out B5.out)
    clear k0 k1 kb B5
    go_wp2
    go_step3
    refine ⟨rfl, ⟨rfl, rfl, rfl, rfl, rfl, rfl, ?_, ?_, ?_⟩⟩
    · exact (Below.heap_setCell _ ⟨w.heap.size + 1, 2, none⟩ _ w.heap.size (show w.heap.size ≠ w.heap.size + 1 by omega)).trans ((Below.heap_setCell _ ⟨w.heap.size + 1, 4, none⟩ _ w.heap.size (show w.heap.size ≠ w.heap.size + 1 by omega)).trans X0.out)
    · exact set5 (set5 X1.out 4 _) 2 _
    · exact (KB.out.setCell (p := ⟨w.heap.size + 1, 4, none⟩) (show w.heap.size ≤ w.heap.size + 1 by omega) _).setCell (p := ⟨w.heap.size + 1, 2, none⟩) (show w.heap.size ≤ w.heap.size + 1 by omega) _
  · intro a' w' h
    clear k0 k1 kb
    rcases h with h
    · obtain ⟨f, rfl, k0, k1, kb⟩ := h.open_
      have k0 := Lib.hid k0
      have k1 := Lib.hid k1
      have kb := Lib.hid kb
      clear h
      obtain ⟨⟨c0, c1, c2, c3, c4⟩, ⟨f0, f1, f2, f3, f4⟩⟩ := cells5 k1.out
      obtain ⟨⟨z0, z1, z2, z3, z4⟩, ⟨y0, y1, y2, y3, y4⟩⟩ := cells5 k0.out
      go_wp2
      simp only [Exit.jump]
      exact bodyPost_ret (v := .agg #[.int .i64 0, .bool false, .bool true, .bool false, .bool true]) (by simp [results, Tryz.results68, go_sem, z0, z1, z2, z3, z4]) rfl ⟨rfl, (((((kb.out.setCell (p := ⟨w.heap.size + 1, 4, none⟩) (show w.heap.size ≤ w.heap.size + 1 by omega) _).setCell (Nat.le_refl _) _).setCell (Nat.le_refl _) _).setCell (Nat.le_refl _) _).setCell (Nat.le_refl _) _).setCell (Nat.le_refl _) _⟩
set_option maxRecDepth 100000 in
set_option maxHeartbeats 8000000 in
theorem read_o3 (v : Value) (w : World) (hA : SSl w v [⟨#[80, 88]⟩, ⟨#[49, 48, 48]⟩]) : Calls Tryz.prog 68 #[v] w fun e w' => e = .returned (.agg #[.int .i64 1, .bool false, .bool false, .bool false, .bool true]) ∧ Below w.heap.size w w' := by
  obtain ⟨aA, cap, rfl, p1, p2, p3⟩ := hA
  obtain ⟨blk, off, rfl, hblt, hc⟩ := p3 (by simp)
  have ca0 := Lib.hid (show ∀ Y, Below w.heap.size w Y → Y.cell? ⟨blk, off, none⟩ = some (.string ⟨#[80, 88]⟩) from fun Y hb => (hb.cell (p := ⟨blk, off, none⟩) hblt).trans (hc 0 _ rfl))
  have U0 := Lib.hid (show ∀ w, Calls Tryz.prog 62 #[.string ⟨#[80, 88]⟩] w (fun e w' => e = .returned (.string ⟨#[80, 88]⟩) ∧ Below w.heap.size w w') from fun w => by have := UpperG ⟨#[80, 88]⟩ (by decide) w; rwa [show upT ⟨#[80, 88]⟩ = ⟨#[80, 88]⟩ from by kernel_rfl] at this)
  clear hc p3
  have k0 := Lib.hid (show ((w.alloc (.cells #[.int .i64 0, .bool false, .bool false, .bool false, .bool false] 108)).alloc (.cells #[.int .i64 0, .bool false, .bool false, .bool false, .bool true] 108)).heap[w.heap.size]? = some (.cells #[.int .i64 0, .bool false, .bool false, .bool false, .bool false] 108) from blk_below (heap_alloc_new w _) alloc_old)
  have k1 := Lib.hid (show ((w.alloc (.cells #[.int .i64 0, .bool false, .bool false, .bool false, .bool false] 108)).alloc (.cells #[.int .i64 0, .bool false, .bool false, .bool false, .bool true] 108)).heap[w.heap.size + 1]? = some (.cells #[.int .i64 0, .bool false, .bool false, .bool false, .bool true] 108) from new_next w _ _)
  have kb := Lib.hid (show Below w.heap.size w ((w.alloc (.cells #[.int .i64 0, .bool false, .bool false, .bool false, .bool false] 108)).alloc (.cells #[.int .i64 0, .bool false, .bool false, .bool false, .bool true] 108)) from alloc_old.trans (alloc_old.mono (by simp)))
  go_enter Tryz.func68, Tryz.ntmps68
  go_wp2
  refine wp_scope_jumps 0 (fun a' w' => AtR (.slice (some ⟨blk, off, none⟩) 2 cap) w 2 1 false false false true a' w') (fun a' _ => 3 - (intOf (a'.tmps.getD 4 undef)).toNat) rfl ?_ ?_
  · go_wp2
    go_step3
    have ca := ca0.out _ kb.out
    go_wp2_with (first | (go_at_call 62; (with_reducible refine (U0.out _).mono ?_); rintro e w5 ⟨rfl, h5⟩; have B5 := Lib.hid h5; clear h5; obtain ⟨⟨c0, c1, c2, c3, c4⟩, ⟨f0, f1, f2, f3, f4⟩⟩ := cells5 (blk_below k1.out B5.out); refine Hid.out ?_))
    refine Lib.hid ?_
    have X0 := Lib.hid (blk_below k0.out B5.out)
    have X1 := Lib.hid (blk_below k1.out B5.out)
    have KB := Lib.hid (belT kb.out B5.out)
    clear k0 k1 kb B5
    go_wp2
    go_step3
    refine ⟨rfl, ⟨rfl, rfl, rfl, rfl, rfl, rfl, ?_, ?_, ?_⟩⟩
    · exact (Below.heap_setCell _ ⟨w.heap.size + 1, 0, none⟩ _ w.heap.size (show w.heap.size ≠ w.heap.size + 1 by omega)).trans ((Below.heap_setCell _ ⟨w.heap.size + 1, 4, none⟩ _ w.heap.size (show w.heap.size ≠ w.heap.size + 1 by omega)).trans X0.out)
    · exact set5 (set5 X1.out 4 _) 0 _
    · exact (KB.out.setCell (p := ⟨w.heap.size + 1, 4, none⟩) (show w.heap.size ≤ w.heap.size + 1 by omega) _).setCell (p := ⟨w.heap.size + 1, 0, none⟩) (show w.heap.size ≤ w.heap.size + 1 by omega) _
  · intro a' w' h
    clear k0 k1 kb
    rcases h with h
    · obtain ⟨f, rfl, k0, k1, kb⟩ := h.open_
      have k0 := Lib.hid k0
      have k1 := Lib.hid k1
      have kb := Lib.hid kb
      clear h
      obtain ⟨⟨c0, c1, c2, c3, c4⟩, ⟨f0, f1, f2, f3, f4⟩⟩ := cells5 k1.out
      obtain ⟨⟨z0, z1, z2, z3, z4⟩, ⟨y0, y1, y2, y3, y4⟩⟩ := cells5 k0.out
      go_wp2
      simp only [Exit.jump]
      exact bodyPost_ret (v := .agg #[.int .i64 1, .bool false, .bool false, .bool false, .bool true]) (by simp [results, Tryz.results68, go_sem, z0, z1, z2, z3, z4]) rfl ⟨rfl, (((((kb.out.setCell (p := ⟨w.heap.size + 1, 4, none⟩) (show w.heap.size ≤ w.heap.size + 1 by omega) _).setCell (Nat.le_refl _) _).setCell (Nat.le_refl _) _).setCell (Nat.le_refl _) _).setCell (Nat.le_refl _) _).setCell (Nat.le_refl _) _⟩
set_option maxRecDepth 100000 in
set_option maxHeartbeats 8000000 in
theorem read_o4 (v : Value) (w : World) (hA : SSl w v [⟨#[75, 69, 69, 80, 84, 84, 76]⟩]) : Calls Tryz.prog 68 #[v] w fun e w' => e = .returned (.agg #[.int .i64 0, .bool false, .bool false, .bool true, .bool true]) ∧ Below w.heap.size w w' := by
  obtain ⟨aA, cap, rfl, p1, p2, p3⟩ := hA
  obtain ⟨blk, off, rfl, hblt, hc⟩ := p3 (by simp)
  have ca0 := Lib.hid (show ∀ Y, Below w.heap.size w Y → Y.cell? ⟨blk, off, none⟩ = some (.string ⟨#[75, 69, 69, 80, 84, 84, 76]⟩) from fun Y hb => (hb.cell (p := ⟨blk, off, none⟩) hblt).trans (hc 0 _ rfl))
  have U0 := Lib.hid (show ∀ w, Calls Tryz.prog 62 #[.string ⟨#[75, 69, 69, 80, 84, 84, 76]⟩] w (fun e w' => e = .returned (.string ⟨#[75, 69, 69, 80, 84, 84, 76]⟩) ∧ Below w.heap.size w w') from fun w => by have := UpperG ⟨#[75, 69, 69, 80, 84, 84, 76]⟩ (by decide) w; rwa [show upT ⟨#[75, 69, 69, 80, 84, 84, 76]⟩ = ⟨#[75, 69, 69, 80, 84, 84, 76]⟩ from by kernel_rfl] at this)
  clear hc p3
  have k0 := Lib.hid (show ((w.alloc (.cells #[.int .i64 0, .bool false, .bool false, .bool false, .bool false] 108)).alloc (.cells #[.int .i64 0, .bool false, .bool false, .bool false, .bool true] 108)).heap[w.heap.size]? = some (.cells #[.int .i64 0, .bool false, .bool false, .bool false, .bool false] 108) from blk_below (heap_alloc_new w _) alloc_old)
  have k1 := Lib.hid (show ((w.alloc (.cells #[.int .i64 0, .bool false, .bool false, .bool false, .bool false] 108)).alloc (.cells #[.int .i64 0, .bool false, .bool false, .bool false, .bool true] 108)).heap[w.heap.size + 1]? = some (.cells #[.int .i64 0, .bool false, .bool false, .bool false, .bool true] 108) from new_next w _ _)
  have kb := Lib.hid (show Below w.heap.size w ((w.alloc (.cells #[.int .i64 0, .bool false, .bool false, .bool false, .bool false] 108)).alloc (.cells #[.int .i64 0, .bool false, .bool false, .bool false, .bool true] 108)) from alloc_old.trans (alloc_old.mono (by simp)))
  go_enter Tryz.func68, Tryz.ntmps68
  go_wp2
  refine wp_scope_jumps 0 (fun a' w' => AtR (.slice (some ⟨blk, off, none⟩) 1 cap) w 1 0 false false true true a' w') (fun a' _ => 2 - (intOf (a'.tmps.getD 4 undef)).toNat) rfl ?_ ?_
  · go_wp2
    go_step3
    have ca := ca0.out _ kb.out
    go_wp2_with (first | (go_at_call 62; (with_reducible refine (U0.out _).mono ?_); rintro e w5 ⟨rfl, h5⟩; have B5 := Lib.hid h5; clear h5; obtain ⟨⟨c0, c1, c2, c3, c4⟩, ⟨f0, f1, f2, f3, f4⟩⟩ := cells5 (blk_below k1.out B5.out); refine Hid.out ?_))
    refine Lib.hid ?_
    have X0 := Lib.hid (blk_below k0.out B5.out)
    have X1 := Lib.hid (blk_below k1.out B5.out)
    have KB := Lib.hid (belT kb.out B5.out)
    clear k0 k1 kb B5
    go_wp2
    go_step3
    refine ⟨rfl, ⟨rfl, rfl, rfl, rfl, rfl, rfl, ?_, ?_, ?_⟩⟩
    · exact (Below.heap_setCell _ ⟨w.heap.size + 1, 3, none⟩ _ w.heap.size (show w.heap.size ≠ w.heap.size + 1 by omega)).trans ((Below.heap_setCell _ ⟨w.heap.size + 1, 4, none⟩ _ w.heap.size (show w.heap.size ≠ w.heap.size + 1 by omega)).trans X0.out)
    · exact set5 (set5 X1.out 4 _) 3 _
    · exact (KB.out.setCell (p := ⟨w.heap.size + 1, 4, none⟩) (show w.heap.size ≤ w.heap.size + 1 by omega) _).setCell (p := ⟨w.heap.size + 1, 3, none⟩) (show w.heap.size ≤ w.heap.size + 1 by omega) _
  · intro a' w' h
    clear k0 k1 kb
    rcases h with h
    · obtain ⟨f, rfl, k0, k1, kb⟩ := h.open_
      have k0 := Lib.hid k0
      have k1 := Lib.hid k1
      have kb := Lib.hid kb
      clear h
      obtain ⟨⟨c0, c1, c2, c3, c4⟩, ⟨f0, f1, f2, f3, f4⟩⟩ := cells5 k1.out
      obtain ⟨⟨z0, z1, z2, z3, z4⟩, ⟨y0, y1, y2, y3, y4⟩⟩ := cells5 k0.out
      go_wp2
      simp only [Exit.jump]
      exact bodyPost_ret (v := .agg #[.int .i64 0, .bool false, .bool false, .bool true, .bool true]) (by simp [results, Tryz.results68, go_sem, z0, z1, z2, z3, z4]) rfl ⟨rfl, (((((kb.out.setCell (p := ⟨w.heap.size + 1, 4, none⟩) (show w.heap.size ≤ w.heap.size + 1 by omega) _).setCell (Nat.le_refl _) _).setCell (Nat.le_refl _) _).setCell (Nat.le_refl _) _).setCell (Nat.le_refl _) _).setCell (Nat.le_refl _) _⟩
set_option maxRecDepth 100000 in
set_option maxHeartbeats 8000000 in
theorem read_o5 (v : Value) (w : World) (hA : SSl w v [⟨#[110, 120]⟩, ⟨#[112, 120]⟩, ⟨#[49, 48, 48]⟩]) : Calls Tryz.prog 68 #[v] w fun e w' => e = .returned (.agg #[.int .i64 2, .bool true, .bool false, .bool false, .bool true]) ∧ Below w.heap.size w w' := by
  obtain ⟨aA, cap, rfl, p1, p2, p3⟩ := hA
  obtain ⟨blk, off, rfl, hblt, hc⟩ := p3 (by simp)
  have ca0 := Lib.hid (show ∀ Y, Below w.heap.size w Y → Y.cell? ⟨blk, off, none⟩ = some (.string ⟨#[110, 120]⟩) from fun Y hb => (hb.cell (p := ⟨blk, off, none⟩) hblt).trans (hc 0 _ rfl))
  have U0 := Lib.hid (show ∀ w, Calls Tryz.prog 62 #[.string ⟨#[110, 120]⟩] w (fun e w' => e = .returned (.string ⟨#[78, 88]⟩) ∧ Below w.heap.size w w') from fun w => by have := UpperG ⟨#[110, 120]⟩ (by decide) w; rwa [show upT ⟨#[110, 120]⟩ = ⟨#[78, 88]⟩ from by kernel_rfl] at this)
  have ca1 := Lib.hid (show ∀ Y, Below w.heap.size w Y → Y.cell? ⟨blk, off + 1, none⟩ = some (.string ⟨#[112, 120]⟩) from fun Y hb => (hb.cell (p := ⟨blk, off + 1, none⟩) hblt).trans (hc 1 _ rfl))
  have U1 := Lib.hid (show ∀ w, Calls Tryz.prog 62 #[.string ⟨#[112, 120]⟩] w (fun e w' => e = .returned (.string ⟨#[80, 88]⟩) ∧ Below w.heap.size w w') from fun w => by have := UpperG ⟨#[112, 120]⟩ (by decide) w; rwa [show upT ⟨#[112, 120]⟩ = ⟨#[80, 88]⟩ from by kernel_rfl] at this)
  clear hc p3
  have k0 := Lib.hid (show ((w.alloc (.cells #[.int .i64 0, .bool false, .bool false, .bool false, .bool false] 108)).alloc (.cells #[.int .i64 0, .bool false, .bool false, .bool false, .bool true] 108)).heap[w.heap.size]? = some (.cells #[.int .i64 0, .bool false, .bool false, .bool false, .bool false] 108) from blk_below (heap_alloc_new w _) alloc_old)
  have k1 := Lib.hid (show ((w.alloc (.cells #[.int .i64 0, .bool false, .bool false, .bool false, .bool false] 108)).alloc (.cells #[.int .i64 0, .bool false, .bool false, .bool false, .bool true] 108)).heap[w.heap.size + 1]? = some (.cells #[.int .i64 0, .bool false, .bool false, .bool false, .bool true] 108) from new_next w _ _)
  have kb := Lib.hid (show Below w.heap.size w ((w.alloc (.cells #[.int .i64 0, .bool false, .bool false, .bool false, .bool false] 108)).alloc (.cells #[.int .i64 0, .bool false, .bool false, .bool false, .bool true] 108)) from alloc_old.trans (alloc_old.mono (by simp)))
  go_enter Tryz.func68, Tryz.ntmps68
  go_wp2
  refine wp_scope_jumps 0 (fun a' w' => AtR (.slice (some ⟨blk, off, none⟩) 3 cap) w 1 0 true false false true a' w' ∨ AtR (.slice (some ⟨blk, off, none⟩) 3 cap) w 3 2 true false false true a' w') (fun a' _ => 4 - (intOf (a'.tmps.getD 4 undef)).toNat) rfl ?_ ?_
  · go_wp2
    go_step3
    have ca := ca0.out _ kb.out
    go_wp2_with (first | (go_at_call 62; (with_reducible refine (U0.out _).mono ?_); rintro e w5 ⟨rfl, h5⟩; have B5 := Lib.hid h5; clear h5; obtain ⟨⟨c0, c1, c2, c3, c4⟩, ⟨f0, f1, f2, f3, f4⟩⟩ := cells5 (blk_below k1.out B5.out); refine Hid.out ?_))
    refine Lib.hid ?_
    have X0 := Lib.hid (blk_below k0.out B5.out)
    have X1 := Lib.hid (blk_below k1.out B5.out)
    have KB := Lib.hid (belT kb.out B5.out)
    clear k0 k1 kb B5
    go_wp2
    go_step3
    refine ⟨rfl, Or.inl ⟨rfl, rfl, rfl, rfl, rfl, rfl, ?_, ?_, ?_⟩⟩
    · exact (Below.heap_setCell _ ⟨w.heap.size + 1, 1, none⟩ _ w.heap.size (show w.heap.size ≠ w.heap.size + 1 by omega)).trans ((Below.heap_setCell _ ⟨w.heap.size + 1, 4, none⟩ _ w.heap.size (show w.heap.size ≠ w.heap.size + 1 by omega)).trans X0.out)
    · exact set5 (set5 X1.out 4 _) 1 _
    · exact (KB.out.setCell (p := ⟨w.heap.size + 1, 4, none⟩) (show w.heap.size ≤ w.heap.size + 1 by omega) _).setCell (p := ⟨w.heap.size + 1, 1, none⟩) (show w.heap.size ≤ w.heap.size + 1 by omega) _
  · intro a' w' h
    clear k0 k1 kb
    rcases h with h | h
    · obtain ⟨f, rfl, k0, k1, kb⟩ := h.open_
      have k0 := Lib.hid k0
      have k1 := Lib.hid k1
      have kb := Lib.hid kb
      clear h
      have ca := ca1.out _ kb.out
      go_wp2_with (first | (go_at_call 62; (with_reducible refine (U1.out _).mono ?_); rintro e w5 ⟨rfl, h5⟩; have B5 := Lib.hid h5; clear h5; obtain ⟨⟨c0, c1, c2, c3, c4⟩, ⟨f0, f1, f2, f3, f4⟩⟩ := cells5 (blk_below k1.out B5.out); refine Hid.out ?_))
      refine Lib.hid ?_
      have X0 := Lib.hid (blk_below k0.out B5.out)
      have X1 := Lib.hid (blk_below k1.out B5.out)
      have KB := Lib.hid (belT kb.out B5.out)
      clear k0 k1 kb B5
      go_wp2
      go_step3
      refine ⟨rfl, Or.inr (⟨rfl, rfl, rfl, rfl, rfl, rfl, ?_, ?_, ?_⟩), by simp [intOf]⟩
      · exact (Below.heap_setCell _ ⟨w.heap.size + 1, 0, none⟩ _ w.heap.size (show w.heap.size ≠ w.heap.size + 1 by omega)).trans ((Below.heap_setCell _ ⟨w.heap.size + 1, 4, none⟩ _ w.heap.size (show w.heap.size ≠ w.heap.size + 1 by omega)).trans X0.out)
      · exact set5 (set5 X1.out 4 _) 0 _
      · exact (KB.out.setCell (p := ⟨w.heap.size + 1, 4, none⟩) (show w.heap.size ≤ w.heap.size + 1 by omega) _).setCell (p := ⟨w.heap.size + 1, 0, none⟩) (show w.heap.size ≤ w.heap.size + 1 by omega) _
    · obtain ⟨f, rfl, k0, k1, kb⟩ := h.open_
      have k0 := Lib.hid k0
      have k1 := Lib.hid k1
      have kb := Lib.hid kb
      clear h
      obtain ⟨⟨c0, c1, c2, c3, c4⟩, ⟨f0, f1, f2, f3, f4⟩⟩ := cells5 k1.out
      obtain ⟨⟨z0, z1, z2, z3, z4⟩, ⟨y0, y1, y2, y3, y4⟩⟩ := cells5 k0.out
      go_wp2
      simp only [Exit.jump]
      exact bodyPost_ret (v := .agg #[.int .i64 2, .bool true, .bool false, .bool false, .bool true]) (by simp [results, Tryz.results68, go_sem, z0, z1, z2, z3, z4]) rfl ⟨rfl, (((((kb.out.setCell (p := ⟨w.heap.size + 1, 4, none⟩) (show w.heap.size ≤ w.heap.size + 1 by omega) _).setCell (Nat.le_refl _) _).setCell (Nat.le_refl _) _).setCell (Nat.le_refl _) _).setCell (Nat.le_refl _) _).setCell (Nat.le_refl _) _⟩
set_option maxRecDepth 100000 in
set_option maxHeartbeats 8000000 in
theorem read_o6 (v : Value) (w : World) (hA : SSl w v [⟨#[120, 120]⟩, ⟨#[107, 101, 101, 112, 116, 116, 108]⟩]) : Calls Tryz.prog 68 #[v] w fun e w' => e = .returned (.agg #[.int .i64 0, .bool false, .bool true, .bool true, .bool true]) ∧ Below w.heap.size w w' := by
  obtain ⟨aA, cap, rfl, p1, p2, p3⟩ := hA
  obtain ⟨blk, off, rfl, hblt, hc⟩ := p3 (by simp)
  have ca0 := Lib.hid (show ∀ Y, Below w.heap.size w Y → Y.cell? ⟨blk, off, none⟩ = some (.string ⟨#[120, 120]⟩) from fun Y hb => (hb.cell (p := ⟨blk, off, none⟩) hblt).trans (hc 0 _ rfl))
  have U0 := Lib.hid (show ∀ w, Calls Tryz.prog 62 #[.string ⟨#[120, 120]⟩] w (fun e w' => e = .returned (.string ⟨#[88, 88]⟩) ∧ Below w.heap.size w w') from fun w => by have := UpperG ⟨#[120, 120]⟩ (by decide) w; rwa [show upT ⟨#[120, 120]⟩ = ⟨#[88, 88]⟩ from by kernel_rfl] at this)
  have ca1 := Lib.hid (show ∀ Y, Below w.heap.size w Y → Y.cell? ⟨blk, off + 1, none⟩ = some (.string ⟨#[107, 101, 101, 112, 116, 116, 108]⟩) from fun Y hb => (hb.cell (p := ⟨blk, off + 1, none⟩) hblt).trans (hc 1 _ rfl))
  have U1 := Lib.hid (show ∀ w, Calls Tryz.prog 62 #[.string ⟨#[107, 101, 101, 112, 116, 116, 108]⟩] w (fun e w' => e = .returned (.string ⟨#[75, 69, 69, 80, 84, 84, 76]⟩) ∧ Below w.heap.size w w') from fun w => by have := UpperG ⟨#[107, 101, 101, 112, 116, 116, 108]⟩ (by decide) w; rwa [show upT ⟨#[107, 101, 101, 112, 116, 116, 108]⟩ = ⟨#[75, 69, 69, 80, 84, 84, 76]⟩ from by kernel_rfl] at this)
  clear hc p3
  have k0 := Lib.hid (show ((w.alloc (.cells #[.int .i64 0, .bool false, .bool false, .bool false, .bool false] 108)).alloc (.cells #[.int .i64 0, .bool false, .bool false, .bool false, .bool true] 108)).heap[w.heap.size]? = some (.cells #[.int .i64 0, .bool false, .bool false, .bool false, .bool false] 108) from blk_below (heap_alloc_new w _) alloc_old)
  have k1 := Lib.hid (show ((w.alloc (.cells #[.int .i64 0, .bool false, .bool false, .bool false, .bool false] 108)).alloc (.cells #[.int .i64 0, .bool false, .bool false, .bool false, .bool true] 108)).heap[w.heap.size + 1]? = some (.cells #[.int .i64 0, .bool false, .bool false, .bool false, .bool true] 108) from new_next w _ _)
  have kb := Lib.hid (show Below w.heap.size w ((w.alloc (.cells #[.int .i64 0, .bool false, .bool false, .bool false, .bool false] 108)).alloc (.cells #[.int .i64 0, .bool false, .bool false, .bool false, .bool true] 108)) from alloc_old.trans (alloc_old.mono (by simp)))
  go_enter Tryz.func68, Tryz.ntmps68
  go_wp2
  refine wp_scope_jumps 0 (fun a' w' => AtR (.slice (some ⟨blk, off, none⟩) 2 cap) w 1 0 false true false true a' w' ∨ AtR (.slice (some ⟨blk, off, none⟩) 2 cap) w 2 0 false true true true a' w') (fun a' _ => 3 - (intOf (a'.tmps.getD 4 undef)).toNat) rfl ?_ ?_
  · go_wp2
    go_step3
    have ca := ca0.out _ kb.out
    go_wp2_with (first | (go_at_call 62; (with_reducible refine (U0.out _).mono ?_); rintro e w5 ⟨rfl, h5⟩; have B5 := Lib.hid h5; clear h5; obtain ⟨⟨c0, c1, c2, c3, c4⟩, ⟨f0, f1, f2, f3, f4⟩⟩ := cells5 (blk_below k1.out B5.out); refine Hid.out ?_))
    refine Lib.hid ?_
    have X0 := Lib.hid (blk_below k0.out B5.out)
    have X1 := Lib.hid (blk_below k1.out B5.out)
    have KB := Lib.hid (belT kb.out B5.out)
    clear k0 k1 kb B5
    go_wp2
    go_step3
    refine ⟨rfl, Or.inl ⟨rfl, rfl, rfl, rfl, rfl, rfl, ?_, ?_, ?_⟩⟩
    · exact (Below.heap_setCell _ ⟨w.heap.size + 1, 2, none⟩ _ w.heap.size (show w.heap.size ≠ w.heap.size + 1 by omega)).trans ((Below.heap_setCell _ ⟨w.heap.size + 1, 4, none⟩ _ w.heap.size (show w.heap.size ≠ w.heap.size + 1 by omega)).trans X0.out)
    · exact set5 (set5 X1.out 4 _) 2 _
    · exact (KB.out.setCell (p := ⟨w.heap.size + 1, 4, none⟩) (show w.heap.size ≤ w.heap.size + 1 by omega) _).setCell (p := ⟨w.heap.size + 1, 2, none⟩) (show w.heap.size ≤ w.heap.size + 1 by omega) _
  · intro a' w' h
    clear k0 k1 kb
    rcases h with h | h
    · obtain ⟨f, rfl, k0, k1, kb⟩ := h.open_
      have k0 := Lib.hid k0
      have k1 := Lib.hid k1
      have kb := Lib.hid kb
      clear h
      have ca := ca1.out _ kb.out
      go_wp2_with (first | (go_at_call 62; (with_reducible refine (U1.out _).mono ?_); rintro e w5 ⟨rfl, h5⟩; have B5 := Lib.hid h5; clear h5; obtain ⟨⟨c0, c1, c2, c3, c4⟩, ⟨f0, f1, f2, f3, f4⟩⟩ := cells5 (blk_below k1.out B5.out); refine Hid.out ?_))
      refine Lib.hid ?_
      have X0 := Lib.hid (blk_below k0.out B5.out)
      have X1 := Lib.hid (blk_below k1.out B5.out)
      have KB := Lib.hid (belT kb.out B5.out)
      clear k0 k1 kb B5
      go_wp2
      go_step3
      refine ⟨rfl, Or.inr (⟨rfl, rfl, rfl, rfl, rfl, rfl, ?_, ?_, ?_⟩), by simp [intOf]⟩
      · exact (Below.heap_setCell _ ⟨w.heap.size + 1, 3, none⟩ _ w.heap.size (show w.heap.size ≠ w.heap.size + 1 by omega)).trans ((Below.heap_setCell _ ⟨w.heap.size + 1, 4, none⟩ _ w.heap.size (show w.heap.size ≠ w.heap.size + 1 by omega)).trans X0.out)
      · exact set5 (set5 X1.out 4 _) 3 _
      · exact (KB.out.setCell (p := ⟨w.heap.size + 1, 4, none⟩) (show w.heap.size ≤ w.heap.size + 1 by omega) _).setCell (p := ⟨w.heap.size + 1, 3, none⟩) (show w.heap.size ≤ w.heap.size + 1 by omega) _
    · obtain ⟨f, rfl, k0, k1, kb⟩ := h.open_
      have k0 := Lib.hid k0
      have k1 := Lib.hid k1
      have kb := Lib.hid kb
      clear h
      obtain ⟨⟨c0, c1, c2, c3, c4⟩, ⟨f0, f1, f2, f3, f4⟩⟩ := cells5 k1.out
      obtain ⟨⟨z0, z1, z2, z3, z4⟩, ⟨y0, y1, y2, y3, y4⟩⟩ := cells5 k0.out
      go_wp2
      simp only [Exit.jump]
      exact bodyPost_ret (v := .agg #[.int .i64 0, .bool false, .bool true, .bool true, .bool true]) (by simp [results, Tryz.results68, go_sem, z0, z1, z2, z3, z4]) rfl ⟨rfl, (((((kb.out.setCell (p := ⟨w.heap.size + 1, 4, none⟩) (show w.heap.size ≤ w.heap.size + 1 by omega) _).setCell (Nat.le_refl _) _).setCell (Nat.le_refl _) _).setCell (Nat.le_refl _) _).setCell (Nat.le_refl _) _).setCell (Nat.le_refl _) _⟩
set_option maxRecDepth 100000 in
set_option maxHeartbeats 8000000 in
theorem read_o7 (v : Value) (w : World) (hA : SSl w v [⟨#[78, 88]⟩, ⟨#[88, 88]⟩]) : Calls Tryz.prog 68 #[v] w fun e w' => e = .returned (.agg #[.int .i64 0, .bool true, .bool true, .bool false, .bool false]) ∧ Below w.heap.size w w' := by
  obtain ⟨aA, cap, rfl, p1, p2, p3⟩ := hA
  obtain ⟨blk, off, rfl, hblt, hc⟩ := p3 (by simp)
  have ca0 := Lib.hid (show ∀ Y, Below w.heap.size w Y → Y.cell? ⟨blk, off, none⟩ = some (.string ⟨#[78, 88]⟩) from fun Y hb => (hb.cell (p := ⟨blk, off, none⟩) hblt).trans (hc 0 _ rfl))
  have U0 := Lib.hid (show ∀ w, Calls Tryz.prog 62 #[.string ⟨#[78, 88]⟩] w (fun e w' => e = .returned (.string ⟨#[78, 88]⟩) ∧ Below w.heap.size w w') from fun w => by have := UpperG ⟨#[78, 88]⟩ (by decide) w; rwa [show upT ⟨#[78, 88]⟩ = ⟨#[78, 88]⟩ from by kernel_rfl] at this)
  have ca1 := Lib.hid (show ∀ Y, Below w.heap.size w Y → Y.cell? ⟨blk, off + 1, none⟩ = some (.string ⟨#[88, 88]⟩) from fun Y hb => (hb.cell (p := ⟨blk, off + 1, none⟩) hblt).trans (hc 1 _ rfl))
  have U1 := Lib.hid (show ∀ w, Calls Tryz.prog 62 #[.string ⟨#[88, 88]⟩] w (fun e w' => e = .returned (.string ⟨#[88, 88]⟩) ∧ Below w.heap.size w w') from fun w => by have := UpperG ⟨#[88, 88]⟩ (by decide) w; rwa [show upT ⟨#[88, 88]⟩ = ⟨#[88, 88]⟩ from by kernel_rfl] at this)
  clear hc p3
  have k0 := Lib.hid (show ((w.alloc (.cells #[.int .i64 0, .bool false, .bool false, .bool false, .bool false] 108)).alloc (.cells #[.int .i64 0, .bool false, .bool false, .bool false, .bool true] 108)).heap[w.heap.size]? = some (.cells #[.int .i64 0, .bool false, .bool false, .bool false, .bool false] 108) from blk_below (heap_alloc_new w _) alloc_old)
  have k1 := Lib.hid (show ((w.alloc (.cells #[.int .i64 0, .bool false, .bool false, .bool false, .bool false] 108)).alloc (.cells #[.int .i64 0, .bool false, .bool false, .bool false, .bool true] 108)).heap[w.heap.size + 1]? = some (.cells #[.int .i64 0, .bool false, .bool false, .bool false, .bool true] 108) from new_next w _ _)
  have kb := Lib.hid (show Below w.heap.size w ((w.alloc (.cells #[.int .i64 0, .bool false, .bool false, .bool false, .bool false] 108)).alloc (.cells #[.int .i64 0, .bool false, .bool false, .bool false, .bool true] 108)) from alloc_old.trans (alloc_old.mono (by simp)))
  go_enter Tryz.func68, Tryz.ntmps68
  go_wp2
  refine wp_scope_jumps 0 (fun a' w' => AtR (.slice (some ⟨blk, off, none⟩) 2 cap) w 1 0 true false false true a' w' ∨ AtR (.slice (some ⟨blk, off, none⟩) 2 cap) w 2 0 true true false true a' w') (fun a' _ => 3 - (intOf (a'.tmps.getD 4 undef)).toNat) rfl ?_ ?_
  · go_wp2
    go_step3
    have ca := ca0.out _ kb.out
    go_wp2_with (first | (go_at_call 62; (with_reducible refine (U0.out _).mono ?_); rintro e w5 ⟨rfl, h5⟩; have B5 := Lib.hid h5; clear h5; obtain ⟨⟨c0, c1, c2, c3, c4⟩, ⟨f0, f1, f2, f3, f4⟩⟩ := cells5 (blk_below k1.out B5.out); refine Hid.out ?_))
    refine Lib.hid ?_
    have X0 := Lib.hid (blk_below k0.out B5.out)
    have X1 := Lib.hid (blk_below k1.out B5.out)
    have KB := Lib.hid (belT kb.out B5.out)
    clear k0 k1 kb B5
    go_wp2
    go_step3
    refine ⟨rfl, Or.inl ⟨rfl, rfl, rfl, rfl, rfl, rfl, ?_, ?_, ?_⟩⟩
    · exact (Below.heap_setCell _ ⟨w.heap.size + 1, 1, none⟩ _ w.heap.size (show w.heap.size ≠ w.heap.size + 1 by omega)).trans ((Below.heap_setCell _ ⟨w.heap.size + 1, 4, none⟩ _ w.heap.size (show w.heap.size ≠ w.heap.size + 1 by omega)).trans X0.out)
    · exact set5 (set5 X1.out 4 _) 1 _
    · exact (KB.out.setCell (p := ⟨w.heap.size + 1, 4, none⟩) (show w.heap.size ≤ w.heap.size + 1 by omega) _).setCell (p := ⟨w.heap.size + 1, 1, none⟩) (show w.heap.size ≤ w.heap.size + 1 by omega) _
  · intro a' w' h
    clear k0 k1 kb
    rcases h with h | h
    · obtain ⟨f, rfl, k0, k1, kb⟩ := h.open_
      have k0 := Lib.hid k0
      have k1 := Lib.hid k1
      have kb := Lib.hid kb
      clear h
      have ca := ca1.out _ kb.out
      go_wp2_with (first | (go_at_call 62; (with_reducible refine (U1.out _).mono ?_); rintro e w5 ⟨rfl, h5⟩; have B5 := Lib.hid h5; clear h5; obtain ⟨⟨c0, c1, c2, c3, c4⟩, ⟨f0, f1, f2, f3, f4⟩⟩ := cells5 (blk_below k1.out B5.out); refine Hid.out ?_))
      refine Lib.hid ?_
      have X0 := Lib.hid (blk_below k0.out B5.out)
      have X1 := Lib.hid (blk_below k1.out B5.out)
      have KB := Lib.hid (belT kb.out B5.out)
      clear k0 k1 kb B5
      go_wp2
      go_step3
      refine ⟨rfl, Or.inr (⟨rfl, rfl, rfl, rfl, rfl, rfl, ?_, ?_, ?_⟩), by simp [intOf]⟩
      · exact (Below.heap_setCell _ ⟨w.heap.size + 1, 2, none⟩ _ w.heap.size (show w.heap.size ≠ w.heap.size + 1 by omega)).trans ((Below.heap_setCell _ ⟨w.heap.size + 1, 4, none⟩ _ w.heap.size (show w.heap.size ≠ w.heap.size + 1 by omega)).trans X0.out)
      · exact set5 (set5 X1.out 4 _) 2 _
      · exact (KB.out.setCell (p := ⟨w.heap.size + 1, 4, none⟩) (show w.heap.size ≤ w.heap.size + 1 by omega) _).setCell (p := ⟨w.heap.size + 1, 2, none⟩) (show w.heap.size ≤ w.heap.size + 1 by omega) _
    · obtain ⟨f, rfl, k0, k1, kb⟩ := h.open_
      have k0 := Lib.hid k0
      have k1 := Lib.hid k1
      have kb := Lib.hid kb
      clear h
      obtain ⟨⟨c0, c1, c2, c3, c4⟩, ⟨f0, f1, f2, f3, f4⟩⟩ := cells5 k1.out
      obtain ⟨⟨z0, z1, z2, z3, z4⟩, ⟨y0, y1, y2, y3, y4⟩⟩ := cells5 k0.out
      go_wp2
      simp only [Exit.jump]
      exact bodyPost_ret (v := .agg #[.int .i64 0, .bool true, .bool true, .bool false, .bool false]) (by simp [results, Tryz.results68, go_sem, z0, z1, z2, z3, z4]) rfl ⟨rfl, (((((kb.out.setCell (p := ⟨w.heap.size + 1, 4, none⟩) (show w.heap.size ≤ w.heap.size + 1 by omega) _).setCell (Nat.le_refl _) _).setCell (Nat.le_refl _) _).setCell (Nat.le_refl _) _).setCell (Nat.le_refl _) _).setCell (Nat.le_refl _) _⟩
set_option maxRecDepth 100000 in
set_option maxHeartbeats 8000000 in
theorem read_o8 (v : Value) (w : World) (hA : SSl w v [⟨#[80, 88]⟩, ⟨#[49]⟩, ⟨#[75, 69, 69, 80, 84, 84, 76]⟩]) : Calls Tryz.prog 68 #[v] w fun e w' => e = .returned (.agg #[.int .i64 1, .bool false, .bool false, .bool true, .bool false]) ∧ Below w.heap.size w w' := by
  obtain ⟨aA, cap, rfl, p1, p2, p3⟩ := hA
  obtain ⟨blk, off, rfl, hblt, hc⟩ := p3 (by simp)
  have ca0 := Lib.hid (show ∀ Y, Below w.heap.size w Y → Y.cell? ⟨blk, off, none⟩ = some (.string ⟨#[80, 88]⟩) from fun Y hb => (hb.cell (p := ⟨blk, off, none⟩) hblt).trans (hc 0 _ rfl))
  have U0 := Lib.hid (show ∀ w, Calls Tryz.prog 62 #[.string ⟨#[80, 88]⟩] w (fun e w' => e = .returned (.string ⟨#[80, 88]⟩) ∧ Below w.heap.size w w') from fun w => by have := UpperG ⟨#[80, 88]⟩ (by decide) w; rwa [show upT ⟨#[80, 88]⟩ = ⟨#[80, 88]⟩ from by kernel_rfl] at this)
  have ca2 := Lib.hid (show ∀ Y, Below w.heap.size w Y → Y.cell? ⟨blk, off + 2, none⟩ = some (.string ⟨#[75, 69, 69, 80, 84, 84, 76]⟩) from fun Y hb => (hb.cell (p := ⟨blk, off + 2, none⟩) hblt).trans (hc 2 _ rfl))
  have U2 := Lib.hid (show ∀ w, Calls Tryz.prog 62 #[.string ⟨#[75, 69, 69, 80, 84, 84, 76]⟩] w (fun e w' => e = .returned (.string ⟨#[75, 69, 69, 80, 84, 84, 76]⟩) ∧ Below w.heap.size w w') from fun w => by have := UpperG ⟨#[75, 69, 69, 80, 84, 84, 76]⟩ (by decide) w; rwa [show upT ⟨#[75, 69, 69, 80, 84, 84, 76]⟩ = ⟨#[75, 69, 69, 80, 84, 84, 76]⟩ from by kernel_rfl] at this)
  clear hc p3
  have k0 := Lib.hid (show ((w.alloc (.cells #[.int .i64 0, .bool false, .bool false, .bool false, .bool false] 108)).alloc (.cells #[.int .i64 0, .bool false, .bool false, .bool false, .bool true] 108)).heap[w.heap.size]? = some (.cells #[.int .i64 0, .bool false, .bool false, .bool false, .bool false] 108) from blk_below (heap_alloc_new w _) alloc_old)
  have k1 := Lib.hid (show ((w.alloc (.cells #[.int .i64 0, .bool false, .bool false, .bool false, .bool false] 108)).alloc (.cells #[.int .i64 0, .bool false, .bool false, .bool false, .bool true] 108)).heap[w.heap.size + 1]? = some (.cells #[.int .i64 0, .bool false, .bool false, .bool false, .bool true] 108) from new_next w _ _)
  have kb := Lib.hid (show Below w.heap.size w ((w.alloc (.cells #[.int .i64 0, .bool false, .bool false, .bool false, .bool false] 108)).alloc (.cells #[.int .i64 0, .bool false, .bool false, .bool false, .bool true] 108)) from alloc_old.trans (alloc_old.mono (by simp)))
  go_enter Tryz.func68, Tryz.ntmps68
  go_wp2
  refine wp_scope_jumps 0 (fun a' w' => AtR (.slice (some ⟨blk, off, none⟩) 3 cap) w 2 1 false false false true a' w' ∨ AtR (.slice (some ⟨blk, off, none⟩) 3 cap) w 3 1 false false true true a' w') (fun a' _ => 4 - (intOf (a'.tmps.getD 4 undef)).toNat) rfl ?_ ?_
  · go_wp2
    go_step3
    have ca := ca0.out _ kb.out
    go_wp2_with (first | (go_at_call 62; (with_reducible refine (U0.out _).mono ?_); rintro e w5 ⟨rfl, h5⟩; have B5 := Lib.hid h5; clear h5; obtain ⟨⟨c0, c1, c2, c3, c4⟩, ⟨f0, f1, f2, f3, f4⟩⟩ := cells5 (blk_below k1.out B5.out); refine Hid.out ?_))
    refine Lib.hid ?_
    have X0 := Lib.hid (blk_below k0.out B5.out)
    have X1 := Lib.hid (blk_below k1.out B5.out)
    have KB := Lib.hid (belT kb.out B5.out)
    clear k0 k1 kb B5
    go_wp2
    go_step3
    refine ⟨rfl, Or.inl ⟨rfl, rfl, rfl, rfl, rfl, rfl, ?_, ?_, ?_⟩⟩
    · exact (Below.heap_setCell _ ⟨w.heap.size + 1, 0, none⟩ _ w.heap.size (show w.heap.size ≠ w.heap.size + 1 by omega)).trans ((Below.heap_setCell _ ⟨w.heap.size + 1, 4, none⟩ _ w.heap.size (show w.heap.size ≠ w.heap.size + 1 by omega)).trans X0.out)
    · exact set5 (set5 X1.out 4 _) 0 _
    · exact (KB.out.setCell (p := ⟨w.heap.size + 1, 4, none⟩) (show w.heap.size ≤ w.heap.size + 1 by omega) _).setCell (p := ⟨w.heap.size + 1, 0, none⟩) (show w.heap.size ≤ w.heap.size + 1 by omega) _
  · intro a' w' h
    clear k0 k1 kb
    rcases h with h | h
    · obtain ⟨f, rfl, k0, k1, kb⟩ := h.open_
      have k0 := Lib.hid k0
      have k1 := Lib.hid k1
      have kb := Lib.hid kb
      clear h
      have ca := ca2.out _ kb.out
      go_wp2_with (first | (go_at_call 62; (with_reducible refine (U2.out _).mono ?_); rintro e w5 ⟨rfl, h5⟩; have B5 := Lib.hid h5; clear h5; obtain ⟨⟨c0, c1, c2, c3, c4⟩, ⟨f0, f1, f2, f3, f4⟩⟩ := cells5 (blk_below k1.out B5.out); refine Hid.out ?_))
      refine Lib.hid ?_
      have X0 := Lib.hid (blk_below k0.out B5.out)
      have X1 := Lib.hid (blk_below k1.out B5.out)
      have KB := Lib.hid (belT kb.out B5.out)
      clear k0 k1 kb B5
      go_wp2
      go_step3
      refine ⟨rfl, Or.inr (⟨rfl, rfl, rfl, rfl, rfl, rfl, ?_, ?_, ?_⟩), by simp [intOf]⟩
      · exact (Below.heap_setCell _ ⟨w.heap.size + 1, 3, none⟩ _ w.heap.size (show w.heap.size ≠ w.heap.size + 1 by omega)).trans ((Below.heap_setCell _ ⟨w.heap.size + 1, 4, none⟩ _ w.heap.size (show w.heap.size ≠ w.heap.size + 1 by omega)).trans X0.out)
      · exact set5 (set5 X1.out 4 _) 3 _
      · exact (KB.out.setCell (p := ⟨w.heap.size + 1, 4, none⟩) (show w.heap.size ≤ w.heap.size + 1 by omega) _).setCell (p := ⟨w.heap.size + 1, 3, none⟩) (show w.heap.size ≤ w.heap.size + 1 by omega) _
    · obtain ⟨f, rfl, k0, k1, kb⟩ := h.open_
      have k0 := Lib.hid k0
      have k1 := Lib.hid k1
      have kb := Lib.hid kb
      clear h
      obtain ⟨⟨c0, c1, c2, c3, c4⟩, ⟨f0, f1, f2, f3, f4⟩⟩ := cells5 k1.out
      obtain ⟨⟨z0, z1, z2, z3, z4⟩, ⟨y0, y1, y2, y3, y4⟩⟩ := cells5 k0.out
      go_wp2
      simp only [Exit.jump]
      exact bodyPost_ret (v := .agg #[.int .i64 1, .bool false, .bool false, .bool true, .bool false]) (by simp [results, Tryz.results68, go_sem, z0, z1, z2, z3, z4]) rfl ⟨rfl, (((((kb.out.setCell (p := ⟨w.heap.size + 1, 4, none⟩) (show w.heap.size ≤ w.heap.size + 1 by omega) _).setCell (Nat.le_refl _) _).setCell (Nat.le_refl _) _).setCell (Nat.le_refl _) _).setCell (Nat.le_refl _) _).setCell (Nat.le_refl _) _⟩
set_option maxRecDepth 100000 in
set_option maxHeartbeats 8000000 in
theorem read_o9 (v : Value) (w : World) (hA : SSl w v [⟨#[80, 88]⟩]) : Calls Tryz.prog 68 #[v] w fun e w' => e = .returned (.agg #[.int .i64 1, .bool false, .bool false, .bool false, .bool false]) ∧ Below w.heap.size w w' := by
  obtain ⟨aA, cap, rfl, p1, p2, p3⟩ := hA
  obtain ⟨blk, off, rfl, hblt, hc⟩ := p3 (by simp)
  have ca0 := Lib.hid (show ∀ Y, Below w.heap.size w Y → Y.cell? ⟨blk, off, none⟩ = some (.string ⟨#[80, 88]⟩) from fun Y hb => (hb.cell (p := ⟨blk, off, none⟩) hblt).trans (hc 0 _ rfl))
  have U0 := Lib.hid (show ∀ w, Calls Tryz.prog 62 #[.string ⟨#[80, 88]⟩] w (fun e w' => e = .returned (.string ⟨#[80, 88]⟩) ∧ Below w.heap.size w w') from fun w => by have := UpperG ⟨#[80, 88]⟩ (by decide) w; rwa [show upT ⟨#[80, 88]⟩ = ⟨#[80, 88]⟩ from by kernel_rfl] at this)
  clear hc p3
  have k0 := Lib.hid (show ((w.alloc (.cells #[.int .i64 0, .bool false, .bool false, .bool false, .bool false] 108)).alloc (.cells #[.int .i64 0, .bool false, .bool false, .bool false, .bool true] 108)).heap[w.heap.size]? = some (.cells #[.int .i64 0, .bool false, .bool false, .bool false, .bool false] 108) from blk_below (heap_alloc_new w _) alloc_old)
  have k1 := Lib.hid (show ((w.alloc (.cells #[.int .i64 0, .bool false, .bool false, .bool false, .bool false] 108)).alloc (.cells #[.int .i64 0, .bool false, .bool false, .bool false, .bool true] 108)).heap[w.heap.size + 1]? = some (.cells #[.int .i64 0, .bool false, .bool false, .bool false, .bool true] 108) from new_next w _ _)
  have kb := Lib.hid (show Below w.heap.size w ((w.alloc (.cells #[.int .i64 0, .bool false, .bool false, .bool false, .bool false] 108)).alloc (.cells #[.int .i64 0, .bool false, .bool false, .bool false, .bool true] 108)) from alloc_old.trans (alloc_old.mono (by simp)))
  go_enter Tryz.func68, Tryz.ntmps68
  go_wp2
  refine wp_scope_jumps 0 (fun a' w' => AtR (.slice (some ⟨blk, off, none⟩) 1 cap) w 1 1 false false false false a' w') (fun a' _ => 2 - (intOf (a'.tmps.getD 4 undef)).toNat) rfl ?_ ?_
  · go_wp2
    go_step3
    have ca := ca0.out _ kb.out
    go_wp2_with (first | (go_at_call 62; (with_reducible refine (U0.out _).mono ?_); rintro e w5 ⟨rfl, h5⟩; have B5 := Lib.hid h5; clear h5; obtain ⟨⟨c0, c1, c2, c3, c4⟩, ⟨f0, f1, f2, f3, f4⟩⟩ := cells5 (blk_below k1.out B5.out); refine Hid.out ?_))
    refine Lib.hid ?_
    have X0 := Lib.hid (blk_below k0.out B5.out)
    have X1 := Lib.hid (blk_below k1.out B5.out)
    have KB := Lib.hid (belT kb.out B5.out)
    clear k0 k1 kb B5
    go_wp2
    go_step3
    refine ⟨rfl, ⟨rfl, rfl, rfl, rfl, rfl, rfl, ?_, ?_, ?_⟩⟩
    · exact (Below.heap_setCell _ ⟨w.heap.size + 1, 0, none⟩ _ w.heap.size (show w.heap.size ≠ w.heap.size + 1 by omega)).trans ((Below.heap_setCell _ ⟨w.heap.size + 1, 4, none⟩ _ w.heap.size (show w.heap.size ≠ w.heap.size + 1 by omega)).trans X0.out)
    · exact set5 (set5 X1.out 4 _) 0 _
    · exact (KB.out.setCell (p := ⟨w.heap.size + 1, 4, none⟩) (show w.heap.size ≤ w.heap.size + 1 by omega) _).setCell (p := ⟨w.heap.size + 1, 0, none⟩) (show w.heap.size ≤ w.heap.size + 1 by omega) _
  · intro a' w' h
    clear k0 k1 kb
    rcases h with h
    · obtain ⟨f, rfl, k0, k1, kb⟩ := h.open_
      have k0 := Lib.hid k0
      have k1 := Lib.hid k1
      have kb := Lib.hid kb
      clear h
      obtain ⟨⟨c0, c1, c2, c3, c4⟩, ⟨f0, f1, f2, f3, f4⟩⟩ := cells5 k1.out
      obtain ⟨⟨z0, z1, z2, z3, z4⟩, ⟨y0, y1, y2, y3, y4⟩⟩ := cells5 k0.out
      go_wp2
      simp only [Exit.jump]
      exact bodyPost_ret (v := .agg #[.int .i64 1, .bool false, .bool false, .bool false, .bool false]) (by simp [results, Tryz.results68, go_sem, z0, z1, z2, z3, z4]) rfl ⟨rfl, (((((kb.out.setCell (p := ⟨w.heap.size + 1, 4, none⟩) (show w.heap.size ≤ w.heap.size + 1 by omega) _).setCell (Nat.le_refl _) _).setCell (Nat.le_refl _) _).setCell (Nat.le_refl _) _).setCell (Nat.le_refl _) _).setCell (Nat.le_refl _) _⟩
set_option maxRecDepth 100000 in
set_option maxHeartbeats 8000000 in
theorem read_o10 (v : Value) (w : World) (hA : SSl w v [⟨#[80, 88]⟩, ⟨#[48]⟩]) : Calls Tryz.prog 68 #[v] w fun e w' => e = .returned (.agg #[.int .i64 1, .bool false, .bool false, .bool false, .bool true]) ∧ Below w.heap.size w w' := by
  obtain ⟨aA, cap, rfl, p1, p2, p3⟩ := hA
  obtain ⟨blk, off, rfl, hblt, hc⟩ := p3 (by simp)
  have ca0 := Lib.hid (show ∀ Y, Below w.heap.size w Y → Y.cell? ⟨blk, off, none⟩ = some (.string ⟨#[80, 88]⟩) from fun Y hb => (hb.cell (p := ⟨blk, off, none⟩) hblt).trans (hc 0 _ rfl))
  have U0 := Lib.hid (show ∀ w, Calls Tryz.prog 62 #[.string ⟨#[80, 88]⟩] w (fun e w' => e = .returned (.string ⟨#[80, 88]⟩) ∧ Below w.heap.size w w') from fun w => by have := UpperG ⟨#[80, 88]⟩ (by decide) w; rwa [show upT ⟨#[80, 88]⟩ = ⟨#[80, 88]⟩ from by kernel_rfl] at this)
  clear hc p3
  have k0 := Lib.hid (show ((w.alloc (.cells #[.int .i64 0, .bool false, .bool false, .bool false, .bool false] 108)).alloc (.cells #[.int .i64 0, .bool false, .bool false, .bool false, .bool true] 108)).heap[w.heap.size]? = some (.cells #[.int .i64 0, .bool false, .bool false, .bool false, .bool false] 108) from blk_below (heap_alloc_new w _) alloc_old)
  have k1 := Lib.hid (show ((w.alloc (.cells #[.int .i64 0, .bool false, .bool false, .bool false, .bool false] 108)).alloc (.cells #[.int .i64 0, .bool false, .bool false, .bool false, .bool true] 108)).heap[w.heap.size + 1]? = some (.cells #[.int .i64 0, .bool false, .bool false, .bool false, .bool true] 108) from new_next w _ _)
  have kb := Lib.hid (show Below w.heap.size w ((w.alloc (.cells #[.int .i64 0, .bool false, .bool false, .bool false, .bool false] 108)).alloc (.cells #[.int .i64 0, .bool false, .bool false, .bool false, .bool true] 108)) from alloc_old.trans (alloc_old.mono (by simp)))
  go_enter Tryz.func68, Tryz.ntmps68
  go_wp2
  refine wp_scope_jumps 0 (fun a' w' => AtR (.slice (some ⟨blk, off, none⟩) 2 cap) w 2 1 false false false true a' w') (fun a' _ => 3 - (intOf (a'.tmps.getD 4 undef)).toNat) rfl ?_ ?_
  · go_wp2
    go_step3
    have ca := ca0.out _ kb.out
    go_wp2_with (first | (go_at_call 62; (with_reducible refine (U0.out _).mono ?_); rintro e w5 ⟨rfl, h5⟩; have B5 := Lib.hid h5; clear h5; obtain ⟨⟨c0, c1, c2, c3, c4⟩, ⟨f0, f1, f2, f3, f4⟩⟩ := cells5 (blk_below k1.out B5.out); refine Hid.out ?_))
    refine Lib.hid ?_
    have X0 := Lib.hid (blk_below k0.out B5.out)
    have X1 := Lib.hid (blk_below k1.out B5.out)
    have KB := Lib.hid (belT kb.out B5.out)
    clear k0 k1 kb B5
    go_wp2
    go_step3
    refine ⟨rfl, ⟨rfl, rfl, rfl, rfl, rfl, rfl, ?_, ?_, ?_⟩⟩
    · exact (Below.heap_setCell _ ⟨w.heap.size + 1, 0, none⟩ _ w.heap.size (show w.heap.size ≠ w.heap.size + 1 by omega)).trans ((Below.heap_setCell _ ⟨w.heap.size + 1, 4, none⟩ _ w.heap.size (show w.heap.size ≠ w.heap.size + 1 by omega)).trans X0.out)
    · exact set5 (set5 X1.out 4 _) 0 _
    · exact (KB.out.setCell (p := ⟨w.heap.size + 1, 4, none⟩) (show w.heap.size ≤ w.heap.size + 1 by omega) _).setCell (p := ⟨w.heap.size + 1, 0, none⟩) (show w.heap.size ≤ w.heap.size + 1 by omega) _
  · intro a' w' h
    clear k0 k1 kb
    rcases h with h
    · obtain ⟨f, rfl, k0, k1, kb⟩ := h.open_
      have k0 := Lib.hid k0
      have k1 := Lib.hid k1
      have kb := Lib.hid kb
      clear h
      obtain ⟨⟨c0, c1, c2, c3, c4⟩, ⟨f0, f1, f2, f3, f4⟩⟩ := cells5 k1.out
      obtain ⟨⟨z0, z1, z2, z3, z4⟩, ⟨y0, y1, y2, y3, y4⟩⟩ := cells5 k0.out
      go_wp2
      simp only [Exit.jump]
      exact bodyPost_ret (v := .agg #[.int .i64 1, .bool false, .bool false, .bool false, .bool true]) (by simp [results, Tryz.results68, go_sem, z0, z1, z2, z3, z4]) rfl ⟨rfl, (((((kb.out.setCell (p := ⟨w.heap.size + 1, 4, none⟩) (show w.heap.size ≤ w.heap.size + 1 by omega) _).setCell (Nat.le_refl _) _).setCell (Nat.le_refl _) _).setCell (Nat.le_refl _) _).setCell (Nat.le_refl _) _).setCell (Nat.le_refl _) _⟩
set_option maxRecDepth 100000 in
set_option maxHeartbeats 8000000 in
theorem read_o11 (v : Value) (w : World) (hA : SSl w v [⟨#[80, 88]⟩, ⟨#[120]⟩]) : Calls Tryz.prog 68 #[v] w fun e w' => e = .returned (.agg #[.int .i64 1, .bool false, .bool false, .bool false, .bool true]) ∧ Below w.heap.size w w' := by
  obtain ⟨aA, cap, rfl, p1, p2, p3⟩ := hA
  obtain ⟨blk, off, rfl, hblt, hc⟩ := p3 (by simp)
  have ca0 := Lib.hid (show ∀ Y, Below w.heap.size w Y → Y.cell? ⟨blk, off, none⟩ = some (.string ⟨#[80, 88]⟩) from fun Y hb => (hb.cell (p := ⟨blk, off, none⟩) hblt).trans (hc 0 _ rfl))
  have U0 := Lib.hid (show ∀ w, Calls Tryz.prog 62 #[.string ⟨#[80, 88]⟩] w (fun e w' => e = .returned (.string ⟨#[80, 88]⟩) ∧ Below w.heap.size w w') from fun w => by have := UpperG ⟨#[80, 88]⟩ (by decide) w; rwa [show upT ⟨#[80, 88]⟩ = ⟨#[80, 88]⟩ from by kernel_rfl] at this)
  clear hc p3
  have k0 := Lib.hid (show ((w.alloc (.cells #[.int .i64 0, .bool false, .bool false, .bool false, .bool false] 108)).alloc (.cells #[.int .i64 0, .bool false, .bool false, .bool false, .bool true] 108)).heap[w.heap.size]? = some (.cells #[.int .i64 0, .bool false, .bool false, .bool false, .bool false] 108) from blk_below (heap_alloc_new w _) alloc_old)
  have k1 := Lib.hid (show ((w.alloc (.cells #[.int .i64 0, .bool false, .bool false, .bool false, .bool false] 108)).alloc (.cells #[.int .i64 0, .bool false, .bool false, .bool false, .bool true] 108)).heap[w.heap.size + 1]? = some (.cells #[.int .i64 0, .bool false, .bool false, .bool false, .bool true] 108) from new_next w _ _)
  have kb := Lib.hid (show Below w.heap.size w ((w.alloc (.cells #[.int .i64 0, .bool false, .bool false, .bool false, .bool false] 108)).alloc (.cells #[.int .i64 0, .bool false, .bool false, .bool false, .bool true] 108)) from alloc_old.trans (alloc_old.mono (by simp)))
  go_enter Tryz.func68, Tryz.ntmps68
  go_wp2
  refine wp_scope_jumps 0 (fun a' w' => AtR (.slice (some ⟨blk, off, none⟩) 2 cap) w 2 1 false false false true a' w') (fun a' _ => 3 - (intOf (a'.tmps.getD 4 undef)).toNat) rfl ?_ ?_
  · go_wp2
    go_step3
    have ca := ca0.out _ kb.out
    go_wp2_with (first | (go_at_call 62; (with_reducible refine (U0.out _).mono ?_); rintro e w5 ⟨rfl, h5⟩; have B5 := Lib.hid h5; clear h5; obtain ⟨⟨c0, c1, c2, c3, c4⟩, ⟨f0, f1, f2, f3, f4⟩⟩ := cells5 (blk_below k1.out B5.out); refine Hid.out ?_))
    refine Lib.hid ?_
    have X0 := Lib.hid (blk_below k0.out B5.out)
    have X1 := Lib.hid (blk_below k1.out B5.out)
    have KB := Lib.hid (belT kb.out B5.out)
    clear k0 k1 kb B5
    go_wp2
    go_step3
    refine ⟨rfl, ⟨rfl, rfl, rfl, rfl, rfl, rfl, ?_, ?_, ?_⟩⟩
    · exact (Below.heap_setCell _ ⟨w.heap.size + 1, 0, none⟩ _ w.heap.size (show w.heap.size ≠ w.heap.size + 1 by omega)).trans ((Below.heap_setCell _ ⟨w.heap.size + 1, 4, none⟩ _ w.heap.size (show w.heap.size ≠ w.heap.size + 1 by omega)).trans X0.out)
    · exact set5 (set5 X1.out 4 _) 0 _
    · exact (KB.out.setCell (p := ⟨w.heap.size + 1, 4, none⟩) (show w.heap.size ≤ w.heap.size + 1 by omega) _).setCell (p := ⟨w.heap.size + 1, 0, none⟩) (show w.heap.size ≤ w.heap.size + 1 by omega) _
  · intro a' w' h
    clear k0 k1 kb
    rcases h with h
    · obtain ⟨f, rfl, k0, k1, kb⟩ := h.open_
      have k0 := Lib.hid k0
      have k1 := Lib.hid k1
      have kb := Lib.hid kb
      clear h
      obtain ⟨⟨c0, c1, c2, c3, c4⟩, ⟨f0, f1, f2, f3, f4⟩⟩ := cells5 k1.out
      obtain ⟨⟨z0, z1, z2, z3, z4⟩, ⟨y0, y1, y2, y3, y4⟩⟩ := cells5 k0.out
      go_wp2
      simp only [Exit.jump]
      exact bodyPost_ret (v := .agg #[.int .i64 1, .bool false, .bool false, .bool false, .bool true]) (by simp [results, Tryz.results68, go_sem, z0, z1, z2, z3, z4]) rfl ⟨rfl, (((((kb.out.setCell (p := ⟨w.heap.size + 1, 4, none⟩) (show w.heap.size ≤ w.heap.size + 1 by omega) _).setCell (Nat.le_refl _) _).setCell (Nat.le_refl _) _).setCell (Nat.le_refl _) _).setCell (Nat.le_refl _) _).setCell (Nat.le_refl _) _⟩
set_option maxRecDepth 100000 in
set_option maxHeartbeats 8000000 in
theorem read_o12 (v : Value) (w : World) (hA : SSl w v [⟨#[69, 88]⟩, ⟨#[49]⟩]) : Calls Tryz.prog 68 #[v] w fun e w' => e = .returned (.agg #[.int .i64 0, .bool false, .bool false, .bool false, .bool false]) ∧ Below w.heap.size w w' := by
  obtain ⟨aA, cap, rfl, p1, p2, p3⟩ := hA
  obtain ⟨blk, off, rfl, hblt, hc⟩ := p3 (by simp)
  have ca0 := Lib.hid (show ∀ Y, Below w.heap.size w Y → Y.cell? ⟨blk, off, none⟩ = some (.string ⟨#[69, 88]⟩) from fun Y hb => (hb.cell (p := ⟨blk, off, none⟩) hblt).trans (hc 0 _ rfl))
  have U0 := Lib.hid (show ∀ w, Calls Tryz.prog 62 #[.string ⟨#[69, 88]⟩] w (fun e w' => e = .returned (.string ⟨#[69, 88]⟩) ∧ Below w.heap.size w w') from fun w => by have := UpperG ⟨#[69, 88]⟩ (by decide) w; rwa [show upT ⟨#[69, 88]⟩ = ⟨#[69, 88]⟩ from by kernel_rfl] at this)
  have ca1 := Lib.hid (show ∀ Y, Below w.heap.size w Y → Y.cell? ⟨blk, off + 1, none⟩ = some (.string ⟨#[49]⟩) from fun Y hb => (hb.cell (p := ⟨blk, off + 1, none⟩) hblt).trans (hc 1 _ rfl))
  have U1 := Lib.hid (show ∀ w, Calls Tryz.prog 62 #[.string ⟨#[49]⟩] w (fun e w' => e = .returned (.string ⟨#[49]⟩) ∧ Below w.heap.size w w') from fun w => by have := UpperG ⟨#[49]⟩ (by decide) w; rwa [show upT ⟨#[49]⟩ = ⟨#[49]⟩ from by kernel_rfl] at this)
  clear hc p3
  have k0 := Lib.hid (show ((w.alloc (.cells #[.int .i64 0, .bool false, .bool false, .bool false, .bool false] 108)).alloc (.cells #[.int .i64 0, .bool false, .bool false, .bool false, .bool true] 108)).heap[w.heap.size]? = some (.cells #[.int .i64 0, .bool false, .bool false, .bool false, .bool false] 108) from blk_below (heap_alloc_new w _) alloc_old)
  have k1 := Lib.hid (show ((w.alloc (.cells #[.int .i64 0, .bool false, .bool false, .bool false, .bool false] 108)).alloc (.cells #[.int .i64 0, .bool false, .bool false, .bool false, .bool true] 108)).heap[w.heap.size + 1]? = some (.cells #[.int .i64 0, .bool false, .bool false, .bool false, .bool true] 108) from new_next w _ _)
  have kb := Lib.hid (show Below w.heap.size w ((w.alloc (.cells #[.int .i64 0, .bool false, .bool false, .bool false, .bool false] 108)).alloc (.cells #[.int .i64 0, .bool false, .bool false, .bool false, .bool true] 108)) from alloc_old.trans (alloc_old.mono (by simp)))
  go_enter Tryz.func68, Tryz.ntmps68
  go_wp2
  refine wp_scope_jumps 0 (fun a' w' => AtR (.slice (some ⟨blk, off, none⟩) 2 cap) w 1 0 false false false false a' w' ∨ AtR (.slice (some ⟨blk, off, none⟩) 2 cap) w 2 0 false false false false a' w') (fun a' _ => 3 - (intOf (a'.tmps.getD 4 undef)).toNat) rfl ?_ ?_
  · go_wp2
    go_step3
    have ca := ca0.out _ kb.out
    go_wp2_with (first | (go_at_call 62; (with_reducible refine (U0.out _).mono ?_); rintro e w5 ⟨rfl, h5⟩; have B5 := Lib.hid h5; clear h5; obtain ⟨⟨c0, c1, c2, c3, c4⟩, ⟨f0, f1, f2, f3, f4⟩⟩ := cells5 (blk_below k1.out B5.out); refine Hid.out ?_))
    refine Lib.hid ?_
    have X0 := Lib.hid (blk_below k0.out B5.out)
    have X1 := Lib.hid (blk_below k1.out B5.out)
    have KB := Lib.hid (belT kb.out B5.out)
    clear k0 k1 kb B5
    go_wp2
    go_step3
    refine ⟨rfl, Or.inl ⟨rfl, rfl, rfl, rfl, rfl, rfl, ?_, ?_, ?_⟩⟩
    · exact (Below.heap_setCell _ ⟨w.heap.size + 1, 4, none⟩ _ w.heap.size (show w.heap.size ≠ w.heap.size + 1 by omega)).trans X0.out
    · exact set5 X1.out 4 _
    · exact KB.out.setCell (p := ⟨w.heap.size + 1, 4, none⟩) (show w.heap.size ≤ w.heap.size + 1 by omega) _
  · intro a' w' h
    clear k0 k1 kb
    rcases h with h | h
    · obtain ⟨f, rfl, k0, k1, kb⟩ := h.open_
      have k0 := Lib.hid k0
      have k1 := Lib.hid k1
      have kb := Lib.hid kb
      clear h
      have ca := ca1.out _ kb.out
      go_wp2_with (first | (go_at_call 62; (with_reducible refine (U1.out _).mono ?_); rintro e w5 ⟨rfl, h5⟩; have B5 := Lib.hid h5; clear h5; obtain ⟨⟨c0, c1, c2, c3, c4⟩, ⟨f0, f1, f2, f3, f4⟩⟩ := cells5 (blk_below k1.out B5.out); refine Hid.out ?_))
      refine Lib.hid ?_
      have X0 := Lib.hid (blk_below k0.out B5.out)
      have X1 := Lib.hid (blk_below k1.out B5.out)
      have KB := Lib.hid (belT kb.out B5.out)
      clear k0 k1 kb B5
      go_wp2
      go_step3
      refine ⟨rfl, Or.inr (⟨rfl, rfl, rfl, rfl, rfl, rfl, ?_, ?_, ?_⟩), by simp [intOf]⟩
      · exact (Below.heap_setCell _ ⟨w.heap.size + 1, 4, none⟩ _ w.heap.size (show w.heap.size ≠ w.heap.size + 1 by omega)).trans X0.out
      · exact set5 X1.out 4 _
      · exact KB.out.setCell (p := ⟨w.heap.size + 1, 4, none⟩) (show w.heap.size ≤ w.heap.size + 1 by omega) _
    · obtain ⟨f, rfl, k0, k1, kb⟩ := h.open_
      have k0 := Lib.hid k0
      have k1 := Lib.hid k1
      have kb := Lib.hid kb
      clear h
      obtain ⟨⟨c0, c1, c2, c3, c4⟩, ⟨f0, f1, f2, f3, f4⟩⟩ := cells5 k1.out
      obtain ⟨⟨z0, z1, z2, z3, z4⟩, ⟨y0, y1, y2, y3, y4⟩⟩ := cells5 k0.out
      go_wp2
      simp only [Exit.jump]
      exact bodyPost_ret (v := .agg #[.int .i64 0, .bool false, .bool false, .bool false, .bool false]) (by simp [results, Tryz.results68, go_sem, z0, z1, z2, z3, z4]) rfl ⟨rfl, (((((kb.out.setCell (p := ⟨w.heap.size + 1, 4, none⟩) (show w.heap.size ≤ w.heap.size + 1 by omega) _).setCell (Nat.le_refl _) _).setCell (Nat.le_refl _) _).setCell (Nat.le_refl _) _).setCell (Nat.le_refl _) _).setCell (Nat.le_refl _) _⟩
set_option maxRecDepth 100000 in
set_option maxHeartbeats 8000000 in
theorem setN_o1 (W0 : World) (bS bM : Nat) (l : MapT.Ents) (k v : ByteArray) (hk1 : 1 ≤ k.size) (hk : k.size ≤ 512) (hv : v.size ≤ 4096) (hf : MapT.find k l = none) : CmdOk W0 28 bS bM l 1 [⟨#[83, 69, 84]⟩, k, v, ⟨#[78, 88]⟩] 1 0 ⟨#[79, 75]⟩ R0 [⟨k, 1, v, 0⟩] := by
  intro w j vA hW hS hj hA
  have A1 := Lib.hid (alloc_old (w := w) (o := .cells #[.int .i64 0, .int .i64 0, .string ⟨#[]⟩, .slice none 0 0] 37))
  have hr := Lib.hid (heap_alloc_new w (.cells #[.int .i64 0, .int .i64 0, .string ⟨#[]⟩, .slice none 0 0] 37))
  obtain ⟨aA, cap, hv, p1, p2, p3⟩ := hA
  replace hv : vA = .slice aA 4 cap := hv
  subst hv
  replace p1 : 4 ≤ cap := p1
  obtain ⟨blk, off, rfl, hblt, hc⟩ := p3 (by simp)
  have ca1 := Lib.hid (show ∀ Y, Below w.heap.size w Y → Y.cell? ⟨blk, off + 1, none⟩ = some (.string k) from fun Y hb => (hb.cell (p := ⟨blk, off + 1, none⟩) hblt).trans (hc 1 _ rfl))
  have ca2 := Lib.hid (show ∀ Y, Below w.heap.size w Y → Y.cell? ⟨blk, off + 2, none⟩ = some (.string v) from fun Y hb => (hb.cell (p := ⟨blk, off + 2, none⟩) hblt).trans (hc 2 _ rfl))
  have cj := Lib.hid (show ∀ Y, Below w.heap.size w Y → Y.cell? ⟨j, 2, none⟩ = some (.slice (some ⟨blk, off, none⟩) 4 cap) ∧ Y.cell? ⟨j, 1, none⟩ = some (.int .i64 1) from fun Y hb => ⟨(hj.below hb).cells.2.2.1, (hj.below hb).cells.2.1⟩)
  have nj := Lib.hid (ne_job_str hj (hc 1 _ rfl))
  have HJ := Lib.hid hj
  have HS := Lib.hid hS
  have hA0 : SSl w (.slice (some ⟨blk, off, none⟩) 4 cap) [⟨#[83, 69, 84]⟩, k, v, ⟨#[78, 88]⟩] := ⟨_, _, rfl, p1, p2, fun _ => ⟨blk, off, rfl, hblt, hc⟩⟩
  have RD := Lib.hid (read_NX (.slice (some ⟨blk, off + 3, none⟩) 1 (cap - 3)) _ ((hA0.below A1.out).tail3 rfl (by omega)))
  have hcap : ¬ cap = 3 := by omega
  clear hA0
  have i3 : (3 : Int) ≤ (cap : Int) := by omega
  clear p3 hc
  have y2 := (cj.out _ A1.out).1
  have G := Lib.hid (fun X (hX : Below w.heap.size w X) => JGet_no bS bM j l k 1 _ _ hf X (hS.below hX) (hj.below hX))
  clear hj hS hW
  have PU := Lib.hid (fun X (hX : Below w.heap.size w X) => Put72 j bS 1 (.slice (some ⟨blk, off, none⟩) 4 cap) none 0 0 [] X.heap.size X (HJ.out.below hX) (EF.nil _ _) (Nat.le_refl _) (by simp) k v hk1 hk hv 0 (by omega) (by omega))
  have OKK := Lib.hid (fun w => OK74 w)
  have TX := Lib.hid (fun w => text73 v w)
  go_enter Tryz.func28, Tryz.ntmps28
  go_wp2_with (first | (go_at_call 68; (with_reducible refine (RD.out).mono ?_); rintro e w1 ⟨rfl, h1⟩; have B1 := Lib.hid (A1.out.trans (h1.mono (Below.size A1.out))); have R1 := Lib.hid (blk_below hr.out h1); clear h1; refine Hid.out ?_))
  refine Lib.hid ?_
  have o1 := Lib.hid (heap_alloc_new w1 (.cells #[.int .i64 0, .bool true, .bool false, .bool false, .bool true] 108))
  have B2 := Lib.hid (show Below w.heap.size w (w1.alloc (.cells #[.int .i64 0, .bool true, .bool false, .bool false, .bool true] 108)) from B1.out.trans (alloc_old.mono (Below.size B1.out)))
  have G1 := Lib.hid (G.out _ B2.out)
  have y2 := (cj.out _ B2.out).1
  have z1 := ca1.out _ B2.out
  obtain ⟨⟨o0, o1c, o2, o3, o4⟩, _⟩ := cells5 o1.out
  go_wp2_with (first | (go_at_call 70; (with_reducible refine (G1.out).mono ?_); rintro e w3 ⟨rfl, h3⟩; have B3 := Lib.hid (B2.out.trans (h3.mono (Below.size B2.out))); have O3 := Lib.hid (blk_below o1.out h3); have R3 := Lib.hid (blk_below R1.out (belA (Below.refl _ _) h3)); clear h3; refine Hid.out ?_))
  refine Lib.hid ?_
  clear o0 o1c o2 o3 o4 y2 z1
  have B4 := Lib.hid (show Below w.heap.size w (w3.alloc (.cells #[.string k, .int .i64 0, .string ⟨#[]⟩, .slice none 0 0, .slice none 0 0, .slice none 0 0, .slice none 0 0, .int .i64 0] 33)) from B3.out.trans (alloc_old.mono (Below.size B3.out)))
  have O4 := Lib.hid (blk_below O3.out (alloc_old (o := .cells #[.string k, .int .i64 0, .string ⟨#[]⟩, .slice none 0 0, .slice none 0 0, .slice none 0 0, .slice none 0 0, .int .i64 0] 33)))
  have R4 := Lib.hid (blk_below R3.out (alloc_old (o := .cells #[.string k, .int .i64 0, .string ⟨#[]⟩, .slice none 0 0, .slice none 0 0, .slice none 0 0, .slice none 0 0, .int .i64 0] 33)))
  obtain ⟨⟨o0, o1c, o2, o3, o4⟩, _⟩ := cells5 O4.out
  have E4 := heap_alloc_new w3 (.cells #[.string k, .int .i64 0, .string ⟨#[]⟩, .slice none 0 0, .slice none 0 0, .slice none 0 0, .slice none 0 0, .int .i64 0] 33)
  obtain ⟨⟨e0, e1, e2, e3, e4, e5, e6, e7⟩, _, ez⟩ := cells8 E4
  clear ez E4
  go_wp2
  clear o0 o1c o2 o3 o4 e0 e1 e2 e3 e4 e5 e6 e7
  generalize (w3.alloc (.cells #[.string k, .int .i64 0, .string ⟨#[]⟩, .slice none 0 0, .slice none 0 0, .slice none 0 0, .slice none 0 0, .int .i64 0] 33)) = w4 at B4 R4 O4 ⊢
  have KQ := Lib.hid (show ∀ X, Below w.heap.size w X → (X.cell? ⟨j, 2, none⟩ = some (.slice (some ⟨blk, off, none⟩) 4 cap) ∧ X.cell? ⟨blk, off + 1, none⟩ = some (.string k) ∧ X.cell? ⟨blk, off + 2, none⟩ = some (.string v)) from fun X hb => ⟨(cj.out X hb).1, ca1.out X hb, ca2.out X hb⟩)
  have K0 := Lib.hid (KQ.out w4.drew B4.out.drew)
  have T4 := Lib.hid (TX.out w4.drew)
  go_region_held3 (fun X => X.cell? ⟨j, 2, none⟩ = some (.slice (some ⟨blk, off, none⟩) 4 cap) ∧ X.cell? ⟨blk, off + 1, none⟩ = some (.string k) ∧ X.cell? ⟨blk, off + 2, none⟩ = some (.string v)) (first | assumption | (with_reducible exact K0.out) | (with_reducible exact KQ.out _ (by assumption))) (first | (go_at_call 73; (with_reducible refine (T4.out).mono ?_); rintro e w5 ⟨rfl, h5⟩; have B5 : Below w.heap.size w w5 := B4.out.trans ((belT (Below.refl w4.heap.size w4).drew h5).mono (Below.size B4.out)); have R5 := Lib.hid (blk_below R4.out (belT (Below.refl w4.heap.size w4).drew h5)); clear h5; have P5 := Lib.hid (PU.out w5 B5)) | (go_at_call 72; (with_reducible refine (P5.out).mono ?_); rintro e w6 ⟨rfl, hR6, hK6⟩; have S6 := set_keep B5 hK6 hR6 hblt nj.out (ca1.out _ B5) (ca2.out _ B5)))
  have B5h := Lib.hid B5
  have HR6 := Lib.hid hR6
  have HK6 := Lib.hid hK6
  have hjw := lt_blk HJ.out
  have R6 := Lib.hid ((hK6.block w.heap.size (lt_blk R5.out) (by omega)).trans R5.out)
  clear B5 hR6 hK6 P5 T4 KQ K0 S6
  go_wp2_with (first | (go_at_call 74; (with_reducible refine (OKK.out _).mono ?_); rintro e w7 ⟨rfl, h7⟩; have B7 := Lib.hid h7; clear h7; obtain ⟨⟨c0, c1, c2, c3⟩, ⟨f0, f1, f2, f3⟩⟩ := cells4 (blk_below R6.out B7.out)))
  obtain ⟨A', n', c', hJ6, hE6⟩ := HR6.out
  obtain ⟨hJ7, hE7, hK7⟩ := eff_after hJ6 hE6 HK6.out B7.out
  exact bodyPost_ret (v := .agg #[.int .i64 1, .int .i64 0, .string ⟨#[79, 75]⟩, .slice none 0 0]) (by simp [results, Tryz.results28, go_sem, c0, c1, c2, c3]) rfl (eff_end hjw (Nat.le_refl _) (lt_blk R5.out) B5h.out hJ7 hE7 hK7 _ _ _ _)
set_option maxRecDepth 100000 in
set_option maxHeartbeats 8000000 in
theorem setN_o2 (W0 : World) (bS bM : Nat) (l : MapT.Ents) (k v : ByteArray) (hf : MapT.find k l = none) : CmdOk W0 28 bS bM l 1 [⟨#[83, 69, 84]⟩, k, v, ⟨#[88, 88]⟩] 5 0 ⟨#[]⟩ R0 [] := by
  intro w j vA hW hS hj hA
  have A1 := Lib.hid (alloc_old (w := w) (o := .cells #[.int .i64 0, .int .i64 0, .string ⟨#[]⟩, .slice none 0 0] 37))
  have hr := Lib.hid (heap_alloc_new w (.cells #[.int .i64 0, .int .i64 0, .string ⟨#[]⟩, .slice none 0 0] 37))
  obtain ⟨aA, cap, hv, p1, p2, p3⟩ := hA
  replace hv : vA = .slice aA 4 cap := hv
  subst hv
  replace p1 : 4 ≤ cap := p1
  obtain ⟨blk, off, rfl, hblt, hc⟩ := p3 (by simp)
  have ca1 := Lib.hid (show ∀ Y, Below w.heap.size w Y → Y.cell? ⟨blk, off + 1, none⟩ = some (.string k) from fun Y hb => (hb.cell (p := ⟨blk, off + 1, none⟩) hblt).trans (hc 1 _ rfl))
  have ca2 := Lib.hid (show ∀ Y, Below w.heap.size w Y → Y.cell? ⟨blk, off + 2, none⟩ = some (.string v) from fun Y hb => (hb.cell (p := ⟨blk, off + 2, none⟩) hblt).trans (hc 2 _ rfl))
  have cj := Lib.hid (show ∀ Y, Below w.heap.size w Y → Y.cell? ⟨j, 2, none⟩ = some (.slice (some ⟨blk, off, none⟩) 4 cap) ∧ Y.cell? ⟨j, 1, none⟩ = some (.int .i64 1) from fun Y hb => ⟨(hj.below hb).cells.2.2.1, (hj.below hb).cells.2.1⟩)
  have nj := Lib.hid (ne_job_str hj (hc 1 _ rfl))
  have HJ := Lib.hid hj
  have HS := Lib.hid hS
  have hA0 : SSl w (.slice (some ⟨blk, off, none⟩) 4 cap) [⟨#[83, 69, 84]⟩, k, v, ⟨#[88, 88]⟩] := ⟨_, _, rfl, p1, p2, fun _ => ⟨blk, off, rfl, hblt, hc⟩⟩
  have RD := Lib.hid (read_o2 (.slice (some ⟨blk, off + 3, none⟩) 1 (cap - 3)) _ ((hA0.below A1.out).tail3 rfl (by omega)))
  have hcap : ¬ cap = 3 := by omega
  clear hA0
  have i3 : (3 : Int) ≤ (cap : Int) := by omega
  clear p3 hc
  have y2 := (cj.out _ A1.out).1
  have G := Lib.hid (fun X (hX : Below w.heap.size w X) => JGet_no bS bM j l k 1 _ _ hf X (hS.below hX) (hj.below hX))
  clear hj hS hW
  have NIL := Lib.hid (fun w => Nil66 w)
  go_enter Tryz.func28, Tryz.ntmps28
  go_wp2_with (first | (go_at_call 68; (with_reducible refine (RD.out).mono ?_); rintro e w1 ⟨rfl, h1⟩; have B1 := Lib.hid (A1.out.trans (h1.mono (Below.size A1.out))); have R1 := Lib.hid (blk_below hr.out h1); clear h1; refine Hid.out ?_))
  refine Lib.hid ?_
  have o1 := Lib.hid (heap_alloc_new w1 (.cells #[.int .i64 0, .bool false, .bool true, .bool false, .bool true] 108))
  have B2 := Lib.hid (show Below w.heap.size w (w1.alloc (.cells #[.int .i64 0, .bool false, .bool true, .bool false, .bool true] 108)) from B1.out.trans (alloc_old.mono (Below.size B1.out)))
  have G1 := Lib.hid (G.out _ B2.out)
  have y2 := (cj.out _ B2.out).1
  have z1 := ca1.out _ B2.out
  obtain ⟨⟨o0, o1c, o2, o3, o4⟩, _⟩ := cells5 o1.out
  go_wp2_with (first | (go_at_call 70; (with_reducible refine (G1.out).mono ?_); rintro e w3 ⟨rfl, h3⟩; have B3 := Lib.hid (B2.out.trans (h3.mono (Below.size B2.out))); have O3 := Lib.hid (blk_below o1.out h3); have R3 := Lib.hid (blk_below R1.out (belA (Below.refl _ _) h3)); clear h3; refine Hid.out ?_))
  refine Lib.hid ?_
  clear o0 o1c o2 o3 o4 y2 z1
  have B4 := Lib.hid (show Below w.heap.size w (w3.alloc (.cells #[.string k, .int .i64 0, .string ⟨#[]⟩, .slice none 0 0, .slice none 0 0, .slice none 0 0, .slice none 0 0, .int .i64 0] 33)) from B3.out.trans (alloc_old.mono (Below.size B3.out)))
  have O4 := Lib.hid (blk_below O3.out (alloc_old (o := .cells #[.string k, .int .i64 0, .string ⟨#[]⟩, .slice none 0 0, .slice none 0 0, .slice none 0 0, .slice none 0 0, .int .i64 0] 33)))
  have R4 := Lib.hid (blk_below R3.out (alloc_old (o := .cells #[.string k, .int .i64 0, .string ⟨#[]⟩, .slice none 0 0, .slice none 0 0, .slice none 0 0, .slice none 0 0, .int .i64 0] 33)))
  obtain ⟨⟨o0, o1c, o2, o3, o4⟩, _⟩ := cells5 O4.out
  have E4 := heap_alloc_new w3 (.cells #[.string k, .int .i64 0, .string ⟨#[]⟩, .slice none 0 0, .slice none 0 0, .slice none 0 0, .slice none 0 0, .int .i64 0] 33)
  obtain ⟨⟨e0, e1, e2, e3, e4, e5, e6, e7⟩, _, ez⟩ := cells8 E4
  clear ez E4
  go_wp2_with (first | (go_at_call 66; (with_reducible refine (NIL.out _).mono ?_); rintro e w7 ⟨rfl, h7⟩; have B7 := Lib.hid (B4.out.trans (h7.mono (Below.size B4.out))); obtain ⟨⟨c0, c1, c2, c3⟩, ⟨f0, f1, f2, f3⟩⟩ := cells4 (blk_below R4.out h7); clear h7))
  exact bodyPost_ret (v := .agg #[.int .i64 5, .int .i64 0, .string ⟨#[]⟩, .slice none 0 0]) (by simp [results, Tryz.results28, go_sem, c0, c1, c2, c3]) rfl (read_end HJ.out ((((B7.out.setCell (Nat.le_refl _) _).setCell (Nat.le_refl _) _).setCell (Nat.le_refl _) _).setCell (Nat.le_refl _) _))
set_option maxRecDepth 100000 in
set_option maxHeartbeats 8000000 in
theorem setN_o4 (W0 : World) (bS bM : Nat) (l : MapT.Ents) (k v : ByteArray) (hk1 : 1 ≤ k.size) (hk : k.size ≤ 512) (hv : v.size ≤ 4096) (hf : MapT.find k l = none) : CmdOk W0 28 bS bM l 1 [⟨#[83, 69, 84]⟩, k, v, ⟨#[75, 69, 69, 80, 84, 84, 76]⟩] 1 0 ⟨#[79, 75]⟩ R0 [⟨k, 1, v, 0⟩] := by
  intro w j vA hW hS hj hA
  have A1 := Lib.hid (alloc_old (w := w) (o := .cells #[.int .i64 0, .int .i64 0, .string ⟨#[]⟩, .slice none 0 0] 37))
  have hr := Lib.hid (heap_alloc_new w (.cells #[.int .i64 0, .int .i64 0, .string ⟨#[]⟩, .slice none 0 0] 37))
  obtain ⟨aA, cap, hv, p1, p2, p3⟩ := hA
  replace hv : vA = .slice aA 4 cap := hv
  subst hv
  replace p1 : 4 ≤ cap := p1
  obtain ⟨blk, off, rfl, hblt, hc⟩ := p3 (by simp)
  have ca1 := Lib.hid (show ∀ Y, Below w.heap.size w Y → Y.cell? ⟨blk, off + 1, none⟩ = some (.string k) from fun Y hb => (hb.cell (p := ⟨blk, off + 1, none⟩) hblt).trans (hc 1 _ rfl))
  have ca2 := Lib.hid (show ∀ Y, Below w.heap.size w Y → Y.cell? ⟨blk, off + 2, none⟩ = some (.string v) from fun Y hb => (hb.cell (p := ⟨blk, off + 2, none⟩) hblt).trans (hc 2 _ rfl))
  have cj := Lib.hid (show ∀ Y, Below w.heap.size w Y → Y.cell? ⟨j, 2, none⟩ = some (.slice (some ⟨blk, off, none⟩) 4 cap) ∧ Y.cell? ⟨j, 1, none⟩ = some (.int .i64 1) from fun Y hb => ⟨(hj.below hb).cells.2.2.1, (hj.below hb).cells.2.1⟩)
  have nj := Lib.hid (ne_job_str hj (hc 1 _ rfl))
  have HJ := Lib.hid hj
  have HS := Lib.hid hS
  have hA0 : SSl w (.slice (some ⟨blk, off, none⟩) 4 cap) [⟨#[83, 69, 84]⟩, k, v, ⟨#[75, 69, 69, 80, 84, 84, 76]⟩] := ⟨_, _, rfl, p1, p2, fun _ => ⟨blk, off, rfl, hblt, hc⟩⟩
  have RD := Lib.hid (read_o4 (.slice (some ⟨blk, off + 3, none⟩) 1 (cap - 3)) _ ((hA0.below A1.out).tail3 rfl (by omega)))
  have hcap : ¬ cap = 3 := by omega
  clear hA0
  have i3 : (3 : Int) ≤ (cap : Int) := by omega
  clear p3 hc
  have y2 := (cj.out _ A1.out).1
  have G := Lib.hid (fun X (hX : Below w.heap.size w X) => JGet_no bS bM j l k 1 _ _ hf X (hS.below hX) (hj.below hX))
  clear hj hS hW
  have PU := Lib.hid (fun X (hX : Below w.heap.size w X) => Put72 j bS 1 (.slice (some ⟨blk, off, none⟩) 4 cap) none 0 0 [] X.heap.size X (HJ.out.below hX) (EF.nil _ _) (Nat.le_refl _) (by simp) k v hk1 hk hv 0 (by omega) (by omega))
  have OKK := Lib.hid (fun w => OK74 w)
  have TX := Lib.hid (fun w => text73 v w)
  go_enter Tryz.func28, Tryz.ntmps28
  go_wp2_with (first | (go_at_call 68; (with_reducible refine (RD.out).mono ?_); rintro e w1 ⟨rfl, h1⟩; have B1 := Lib.hid (A1.out.trans (h1.mono (Below.size A1.out))); have R1 := Lib.hid (blk_below hr.out h1); clear h1; refine Hid.out ?_))
  refine Lib.hid ?_
  have o1 := Lib.hid (heap_alloc_new w1 (.cells #[.int .i64 0, .bool false, .bool false, .bool true, .bool true] 108))
  have B2 := Lib.hid (show Below w.heap.size w (w1.alloc (.cells #[.int .i64 0, .bool false, .bool false, .bool true, .bool true] 108)) from B1.out.trans (alloc_old.mono (Below.size B1.out)))
  have G1 := Lib.hid (G.out _ B2.out)
  have y2 := (cj.out _ B2.out).1
  have z1 := ca1.out _ B2.out
  obtain ⟨⟨o0, o1c, o2, o3, o4⟩, _⟩ := cells5 o1.out
  go_wp2_with (first | (go_at_call 70; (with_reducible refine (G1.out).mono ?_); rintro e w3 ⟨rfl, h3⟩; have B3 := Lib.hid (B2.out.trans (h3.mono (Below.size B2.out))); have O3 := Lib.hid (blk_below o1.out h3); have R3 := Lib.hid (blk_below R1.out (belA (Below.refl _ _) h3)); clear h3; refine Hid.out ?_))
  refine Lib.hid ?_
  clear o0 o1c o2 o3 o4 y2 z1
  have B4 := Lib.hid (show Below w.heap.size w (w3.alloc (.cells #[.string k, .int .i64 0, .string ⟨#[]⟩, .slice none 0 0, .slice none 0 0, .slice none 0 0, .slice none 0 0, .int .i64 0] 33)) from B3.out.trans (alloc_old.mono (Below.size B3.out)))
  have O4 := Lib.hid (blk_below O3.out (alloc_old (o := .cells #[.string k, .int .i64 0, .string ⟨#[]⟩, .slice none 0 0, .slice none 0 0, .slice none 0 0, .slice none 0 0, .int .i64 0] 33)))
  have R4 := Lib.hid (blk_below R3.out (alloc_old (o := .cells #[.string k, .int .i64 0, .string ⟨#[]⟩, .slice none 0 0, .slice none 0 0, .slice none 0 0, .slice none 0 0, .int .i64 0] 33)))
  obtain ⟨⟨o0, o1c, o2, o3, o4⟩, _⟩ := cells5 O4.out
  have E4 := heap_alloc_new w3 (.cells #[.string k, .int .i64 0, .string ⟨#[]⟩, .slice none 0 0, .slice none 0 0, .slice none 0 0, .slice none 0 0, .int .i64 0] 33)
  obtain ⟨⟨e0, e1, e2, e3, e4, e5, e6, e7⟩, _, ez⟩ := cells8 E4
  clear ez E4
  go_wp2
  clear o0 o1c o2 o3 o4 e0 e1 e2 e3 e4 e5 e6 e7
  generalize (w3.alloc (.cells #[.string k, .int .i64 0, .string ⟨#[]⟩, .slice none 0 0, .slice none 0 0, .slice none 0 0, .slice none 0 0, .int .i64 0] 33)) = w4 at B4 R4 O4 ⊢
  have KQ := Lib.hid (show ∀ X, Below w.heap.size w X → (X.cell? ⟨j, 2, none⟩ = some (.slice (some ⟨blk, off, none⟩) 4 cap) ∧ X.cell? ⟨blk, off + 1, none⟩ = some (.string k) ∧ X.cell? ⟨blk, off + 2, none⟩ = some (.string v)) from fun X hb => ⟨(cj.out X hb).1, ca1.out X hb, ca2.out X hb⟩)
  have K0 := Lib.hid (KQ.out w4.drew B4.out.drew)
  have T4 := Lib.hid (TX.out w4.drew)
  go_region_held3 (fun X => X.cell? ⟨j, 2, none⟩ = some (.slice (some ⟨blk, off, none⟩) 4 cap) ∧ X.cell? ⟨blk, off + 1, none⟩ = some (.string k) ∧ X.cell? ⟨blk, off + 2, none⟩ = some (.string v)) (first | assumption | (with_reducible exact K0.out) | (with_reducible exact KQ.out _ (by assumption))) (first | (go_at_call 73; (with_reducible refine (T4.out).mono ?_); rintro e w5 ⟨rfl, h5⟩; have B5 : Below w.heap.size w w5 := B4.out.trans ((belT (Below.refl w4.heap.size w4).drew h5).mono (Below.size B4.out)); have R5 := Lib.hid (blk_below R4.out (belT (Below.refl w4.heap.size w4).drew h5)); clear h5; have P5 := Lib.hid (PU.out w5 B5)) | (go_at_call 72; (with_reducible refine (P5.out).mono ?_); rintro e w6 ⟨rfl, hR6, hK6⟩; have S6 := set_keep B5 hK6 hR6 hblt nj.out (ca1.out _ B5) (ca2.out _ B5)))
  have B5h := Lib.hid B5
  have HR6 := Lib.hid hR6
  have HK6 := Lib.hid hK6
  have hjw := lt_blk HJ.out
  have R6 := Lib.hid ((hK6.block w.heap.size (lt_blk R5.out) (by omega)).trans R5.out)
  clear B5 hR6 hK6 P5 T4 KQ K0 S6
  go_wp2_with (first | (go_at_call 74; (with_reducible refine (OKK.out _).mono ?_); rintro e w7 ⟨rfl, h7⟩; have B7 := Lib.hid h7; clear h7; obtain ⟨⟨c0, c1, c2, c3⟩, ⟨f0, f1, f2, f3⟩⟩ := cells4 (blk_below R6.out B7.out)))
  obtain ⟨A', n', c', hJ6, hE6⟩ := HR6.out
  obtain ⟨hJ7, hE7, hK7⟩ := eff_after hJ6 hE6 HK6.out B7.out
  exact bodyPost_ret (v := .agg #[.int .i64 1, .int .i64 0, .string ⟨#[79, 75]⟩, .slice none 0 0]) (by simp [results, Tryz.results28, go_sem, c0, c1, c2, c3]) rfl (eff_end hjw (Nat.le_refl _) (lt_blk R5.out) B5h.out hJ7 hE7 hK7 _ _ _ _)
set_option maxRecDepth 100000 in
set_option maxHeartbeats 8000000 in
theorem setN_o6 (W0 : World) (bS bM : Nat) (l : MapT.Ents) (k v : ByteArray) (hf : MapT.find k l = none) : CmdOk W0 28 bS bM l 1 [⟨#[83, 69, 84]⟩, k, v, ⟨#[120, 120]⟩, ⟨#[107, 101, 101, 112, 116, 116, 108]⟩] 5 0 ⟨#[]⟩ R0 [] := by
  intro w j vA hW hS hj hA
  have A1 := Lib.hid (alloc_old (w := w) (o := .cells #[.int .i64 0, .int .i64 0, .string ⟨#[]⟩, .slice none 0 0] 37))
  have hr := Lib.hid (heap_alloc_new w (.cells #[.int .i64 0, .int .i64 0, .string ⟨#[]⟩, .slice none 0 0] 37))
  obtain ⟨aA, cap, hv, p1, p2, p3⟩ := hA
  replace hv : vA = .slice aA 5 cap := hv
  subst hv
  replace p1 : 5 ≤ cap := p1
  obtain ⟨blk, off, rfl, hblt, hc⟩ := p3 (by simp)
  have ca1 := Lib.hid (show ∀ Y, Below w.heap.size w Y → Y.cell? ⟨blk, off + 1, none⟩ = some (.string k) from fun Y hb => (hb.cell (p := ⟨blk, off + 1, none⟩) hblt).trans (hc 1 _ rfl))
  have ca2 := Lib.hid (show ∀ Y, Below w.heap.size w Y → Y.cell? ⟨blk, off + 2, none⟩ = some (.string v) from fun Y hb => (hb.cell (p := ⟨blk, off + 2, none⟩) hblt).trans (hc 2 _ rfl))
  have cj := Lib.hid (show ∀ Y, Below w.heap.size w Y → Y.cell? ⟨j, 2, none⟩ = some (.slice (some ⟨blk, off, none⟩) 5 cap) ∧ Y.cell? ⟨j, 1, none⟩ = some (.int .i64 1) from fun Y hb => ⟨(hj.below hb).cells.2.2.1, (hj.below hb).cells.2.1⟩)
  have nj := Lib.hid (ne_job_str hj (hc 1 _ rfl))
  have HJ := Lib.hid hj
  have HS := Lib.hid hS
  have hA0 : SSl w (.slice (some ⟨blk, off, none⟩) 5 cap) [⟨#[83, 69, 84]⟩, k, v, ⟨#[120, 120]⟩, ⟨#[107, 101, 101, 112, 116, 116, 108]⟩] := ⟨_, _, rfl, p1, p2, fun _ => ⟨blk, off, rfl, hblt, hc⟩⟩
  have RD := Lib.hid (read_o6 (.slice (some ⟨blk, off + 3, none⟩) 2 (cap - 3)) _ ((hA0.below A1.out).tail3 rfl (by omega)))
  have hcap : ¬ cap = 3 := by omega
  clear hA0
  have i3 : (3 : Int) ≤ (cap : Int) := by omega
  clear p3 hc
  have y2 := (cj.out _ A1.out).1
  have G := Lib.hid (fun X (hX : Below w.heap.size w X) => JGet_no bS bM j l k 1 _ _ hf X (hS.below hX) (hj.below hX))
  clear hj hS hW
  have NIL := Lib.hid (fun w => Nil66 w)
  go_enter Tryz.func28, Tryz.ntmps28
  go_wp2_with (first | (go_at_call 68; (with_reducible refine (RD.out).mono ?_); rintro e w1 ⟨rfl, h1⟩; have B1 := Lib.hid (A1.out.trans (h1.mono (Below.size A1.out))); have R1 := Lib.hid (blk_below hr.out h1); clear h1; refine Hid.out ?_))
  refine Lib.hid ?_
  have o1 := Lib.hid (heap_alloc_new w1 (.cells #[.int .i64 0, .bool false, .bool true, .bool true, .bool true] 108))
  have B2 := Lib.hid (show Below w.heap.size w (w1.alloc (.cells #[.int .i64 0, .bool false, .bool true, .bool true, .bool true] 108)) from B1.out.trans (alloc_old.mono (Below.size B1.out)))
  have G1 := Lib.hid (G.out _ B2.out)
  have y2 := (cj.out _ B2.out).1
  have z1 := ca1.out _ B2.out
  obtain ⟨⟨o0, o1c, o2, o3, o4⟩, _⟩ := cells5 o1.out
  go_wp2_with (first | (go_at_call 70; (with_reducible refine (G1.out).mono ?_); rintro e w3 ⟨rfl, h3⟩; have B3 := Lib.hid (B2.out.trans (h3.mono (Below.size B2.out))); have O3 := Lib.hid (blk_below o1.out h3); have R3 := Lib.hid (blk_below R1.out (belA (Below.refl _ _) h3)); clear h3; refine Hid.out ?_))
  refine Lib.hid ?_
  clear o0 o1c o2 o3 o4 y2 z1
  have B4 := Lib.hid (show Below w.heap.size w (w3.alloc (.cells #[.string k, .int .i64 0, .string ⟨#[]⟩, .slice none 0 0, .slice none 0 0, .slice none 0 0, .slice none 0 0, .int .i64 0] 33)) from B3.out.trans (alloc_old.mono (Below.size B3.out)))
  have O4 := Lib.hid (blk_below O3.out (alloc_old (o := .cells #[.string k, .int .i64 0, .string ⟨#[]⟩, .slice none 0 0, .slice none 0 0, .slice none 0 0, .slice none 0 0, .int .i64 0] 33)))
  have R4 := Lib.hid (blk_below R3.out (alloc_old (o := .cells #[.string k, .int .i64 0, .string ⟨#[]⟩, .slice none 0 0, .slice none 0 0, .slice none 0 0, .slice none 0 0, .int .i64 0] 33)))
  obtain ⟨⟨o0, o1c, o2, o3, o4⟩, _⟩ := cells5 O4.out
  have E4 := heap_alloc_new w3 (.cells #[.string k, .int .i64 0, .string ⟨#[]⟩, .slice none 0 0, .slice none 0 0, .slice none 0 0, .slice none 0 0, .int .i64 0] 33)
  obtain ⟨⟨e0, e1, e2, e3, e4, e5, e6, e7⟩, _, ez⟩ := cells8 E4
  clear ez E4
  go_wp2_with (first | (go_at_call 66; (with_reducible refine (NIL.out _).mono ?_); rintro e w7 ⟨rfl, h7⟩; have B7 := Lib.hid (B4.out.trans (h7.mono (Below.size B4.out))); obtain ⟨⟨c0, c1, c2, c3⟩, ⟨f0, f1, f2, f3⟩⟩ := cells4 (blk_below R4.out h7); clear h7))
  exact bodyPost_ret (v := .agg #[.int .i64 5, .int .i64 0, .string ⟨#[]⟩, .slice none 0 0]) (by simp [results, Tryz.results28, go_sem, c0, c1, c2, c3]) rfl (read_end HJ.out ((((B7.out.setCell (Nat.le_refl _) _).setCell (Nat.le_refl _) _).setCell (Nat.le_refl _) _).setCell (Nat.le_refl _) _))
set_option maxRecDepth 100000 in
set_option maxHeartbeats 8000000 in
theorem setN_o3 (W0 : World) (bS bM : Nat) (l : MapT.Ents) (k v : ByteArray) (hk1 : 1 ≤ k.size) (hk : k.size ≤ 512) (hv : v.size ≤ 4096) (hf : MapT.find k l = none) : CmdOk W0 28 bS bM l 1 [⟨#[83, 69, 84]⟩, k, v, ⟨#[80, 88]⟩, ⟨#[49, 48, 48]⟩] 1 0 ⟨#[79, 75]⟩ R0 [⟨k, 1, v, 101⟩] := by
  intro w j vA hW hS hj hA
  have A1 := Lib.hid (alloc_old (w := w) (o := .cells #[.int .i64 0, .int .i64 0, .string ⟨#[]⟩, .slice none 0 0] 37))
  have hr := Lib.hid (heap_alloc_new w (.cells #[.int .i64 0, .int .i64 0, .string ⟨#[]⟩, .slice none 0 0] 37))
  obtain ⟨aA, cap, hv, p1, p2, p3⟩ := hA
  replace hv : vA = .slice aA 5 cap := hv
  subst hv
  replace p1 : 5 ≤ cap := p1
  obtain ⟨blk, off, rfl, hblt, hc⟩ := p3 (by simp)
  have ca1 := Lib.hid (show ∀ Y, Below w.heap.size w Y → Y.cell? ⟨blk, off + 1, none⟩ = some (.string k) from fun Y hb => (hb.cell (p := ⟨blk, off + 1, none⟩) hblt).trans (hc 1 _ rfl))
  have ca2 := Lib.hid (show ∀ Y, Below w.heap.size w Y → Y.cell? ⟨blk, off + 2, none⟩ = some (.string v) from fun Y hb => (hb.cell (p := ⟨blk, off + 2, none⟩) hblt).trans (hc 2 _ rfl))
  have ca4 := Lib.hid (show ∀ Y, Below w.heap.size w Y → Y.cell? ⟨blk, off + 4, none⟩ = some (.string ⟨#[49, 48, 48]⟩) from fun Y hb => (hb.cell (p := ⟨blk, off + 4, none⟩) hblt).trans (hc 4 _ rfl))
  have cj := Lib.hid (show ∀ Y, Below w.heap.size w Y → Y.cell? ⟨j, 2, none⟩ = some (.slice (some ⟨blk, off, none⟩) 5 cap) ∧ Y.cell? ⟨j, 1, none⟩ = some (.int .i64 1) from fun Y hb => ⟨(hj.below hb).cells.2.2.1, (hj.below hb).cells.2.1⟩)
  have nj := Lib.hid (ne_job_str hj (hc 1 _ rfl))
  have HJ := Lib.hid hj
  have HS := Lib.hid hS
  have hA0 : SSl w (.slice (some ⟨blk, off, none⟩) 5 cap) [⟨#[83, 69, 84]⟩, k, v, ⟨#[80, 88]⟩, ⟨#[49, 48, 48]⟩] := ⟨_, _, rfl, p1, p2, fun _ => ⟨blk, off, rfl, hblt, hc⟩⟩
  have RD := Lib.hid (read_o3 (.slice (some ⟨blk, off + 3, none⟩) 2 (cap - 3)) _ ((hA0.below A1.out).tail3 rfl (by omega)))
  have hcap : ¬ cap = 3 := by omega
  clear hA0
  have i3 : (3 : Int) ≤ (cap : Int) := by omega
  have hcc := hc
  clear p3 hc
  have y2 := (cj.out _ A1.out).1
  have G := Lib.hid (fun X (hX : Below w.heap.size w X) => JGet_no bS bM j l k 1 _ _ hf X (hS.below hX) (hj.below hX))
  have JI := Lib.hid (fun X (hX : Below w.heap.size w X) => show Calls Tryz.prog 71 #[.pointer (some ⟨j, 0, none⟩), .int .i64 4] X (fun e w' => e = .returned (.int .i64 100) ∧ Below X.heap.size X w') from JInt_ok j bS 1 _ _ [⟨#[83, 69, 84]⟩, k, v, ⟨#[80, 88]⟩, ⟨#[49, 48, 48]⟩] 4 ⟨#[49, 48, 48]⟩ 100 (by decide) (by kernel_rfl) rfl X (hj.below hX) ((show SSl w (.slice (some ⟨blk, off, none⟩) 5 cap) [⟨#[83, 69, 84]⟩, k, v, ⟨#[80, 88]⟩, ⟨#[49, 48, 48]⟩] from ⟨_, _, rfl, p1, p2, fun _ => ⟨blk, off, rfl, hblt, hcc⟩⟩).below hX))
  clear hj hS hW hcc
  have PU := Lib.hid (fun X (hX : Below w.heap.size w X) => Put72 j bS 1 (.slice (some ⟨blk, off, none⟩) 5 cap) none 0 0 [] X.heap.size X (HJ.out.below hX) (EF.nil _ _) (Nat.le_refl _) (by simp) k v hk1 hk hv 101 (by omega) (by omega))
  have OKK := Lib.hid (fun w => OK74 w)
  have TX := Lib.hid (fun w => text73 v w)
  go_enter Tryz.func28, Tryz.ntmps28
  go_wp2_with (first | (go_at_call 68; (with_reducible refine (RD.out).mono ?_); rintro e w1 ⟨rfl, h1⟩; have B1 := Lib.hid (A1.out.trans (h1.mono (Below.size A1.out))); have R1 := Lib.hid (blk_below hr.out h1); clear h1; refine Hid.out ?_))
  refine Lib.hid ?_
  have o1 := Lib.hid (heap_alloc_new w1 (.cells #[.int .i64 1, .bool false, .bool false, .bool false, .bool true] 108))
  have B2 := Lib.hid (show Below w.heap.size w (w1.alloc (.cells #[.int .i64 1, .bool false, .bool false, .bool false, .bool true] 108)) from B1.out.trans (alloc_old.mono (Below.size B1.out)))
  have G1 := Lib.hid (G.out _ B2.out)
  have y2 := (cj.out _ B2.out).1
  have z1 := ca1.out _ B2.out
  obtain ⟨⟨o0, o1c, o2, o3, o4⟩, _⟩ := cells5 o1.out
  go_wp2_with (first | (go_at_call 70; (with_reducible refine (G1.out).mono ?_); rintro e w3 ⟨rfl, h3⟩; have B3 := Lib.hid (B2.out.trans (h3.mono (Below.size B2.out))); have O3 := Lib.hid (blk_below o1.out h3); have R3 := Lib.hid (blk_below R1.out (belA (Below.refl _ _) h3)); clear h3; refine Hid.out ?_))
  refine Lib.hid ?_
  clear o0 o1c o2 o3 o4 y2 z1
  have B4 := Lib.hid (show Below w.heap.size w (w3.alloc (.cells #[.string k, .int .i64 0, .string ⟨#[]⟩, .slice none 0 0, .slice none 0 0, .slice none 0 0, .slice none 0 0, .int .i64 0] 33)) from B3.out.trans (alloc_old.mono (Below.size B3.out)))
  have O4 := Lib.hid (blk_below O3.out (alloc_old (o := .cells #[.string k, .int .i64 0, .string ⟨#[]⟩, .slice none 0 0, .slice none 0 0, .slice none 0 0, .slice none 0 0, .int .i64 0] 33)))
  have R4 := Lib.hid (blk_below R3.out (alloc_old (o := .cells #[.string k, .int .i64 0, .string ⟨#[]⟩, .slice none 0 0, .slice none 0 0, .slice none 0 0, .slice none 0 0, .int .i64 0] 33)))
  obtain ⟨⟨o0, o1c, o2, o3, o4⟩, _⟩ := cells5 O4.out
  have E4 := heap_alloc_new w3 (.cells #[.string k, .int .i64 0, .string ⟨#[]⟩, .slice none 0 0, .slice none 0 0, .slice none 0 0, .slice none 0 0, .int .i64 0] 33)
  obtain ⟨⟨e0, e1, e2, e3, e4, e5, e6, e7⟩, _, ez⟩ := cells8 E4
  clear ez E4
  have x4 := ca4.out _ B4.out
  have JI4 := Lib.hid (JI.out _ B4.out)
  have wr1 : IntKind.i64.wrap (1125899906842624 - 1) = 1125899906842623 := by decide
  go_wp2_with (first | (go_at_call 71; (with_reducible refine (JI4.out).mono ?_); rintro e w4 ⟨rfl, h4⟩; have B4 := Lib.hid (B4.out.trans (h4.mono (Below.size B4.out))); have R4 := Lib.hid (blk_below R4.out h4); have O4 := Lib.hid (blk_below O4.out h4); clear h4; obtain ⟨⟨o0, o1c, o2, o3, o4⟩, _⟩ := cells5 O4.out; have cj1 := (cj.out _ B4.out).2))
  clear o0 o1c o2 o3 o4 x4 cj1
  have KQ := Lib.hid (show ∀ X, Below w.heap.size w X → (X.cell? ⟨j, 2, none⟩ = some (.slice (some ⟨blk, off, none⟩) 5 cap) ∧ X.cell? ⟨blk, off + 1, none⟩ = some (.string k) ∧ X.cell? ⟨blk, off + 2, none⟩ = some (.string v)) from fun X hb => ⟨(cj.out X hb).1, ca1.out X hb, ca2.out X hb⟩)
  have K0 := Lib.hid (KQ.out w4.drew B4.out.drew)
  have T4 := Lib.hid (TX.out w4.drew)
  go_region_held3 (fun X => X.cell? ⟨j, 2, none⟩ = some (.slice (some ⟨blk, off, none⟩) 5 cap) ∧ X.cell? ⟨blk, off + 1, none⟩ = some (.string k) ∧ X.cell? ⟨blk, off + 2, none⟩ = some (.string v)) (first | assumption | (with_reducible exact K0.out) | (with_reducible exact KQ.out _ (by assumption))) (first | (go_at_call 73; (with_reducible refine (T4.out).mono ?_); rintro e w5 ⟨rfl, h5⟩; have B5 : Below w.heap.size w w5 := B4.out.trans ((belT (Below.refl w4.heap.size w4).drew h5).mono (Below.size B4.out)); have R5 := Lib.hid (blk_below R4.out (belT (Below.refl w4.heap.size w4).drew h5)); clear h5; have P5 := Lib.hid (PU.out w5 B5)) | (go_at_call 72; (with_reducible refine (P5.out).mono ?_); rintro e w6 ⟨rfl, hR6, hK6⟩; have S6 := set_keep B5 hK6 hR6 hblt nj.out (ca1.out _ B5) (ca2.out _ B5)))
  have B5h := Lib.hid B5
  have HR6 := Lib.hid hR6
  have HK6 := Lib.hid hK6
  have hjw := lt_blk HJ.out
  have R6 := Lib.hid ((hK6.block w.heap.size (lt_blk R5.out) (by omega)).trans R5.out)
  clear B5 hR6 hK6 P5 T4 KQ K0 S6
  go_wp2_with (first | (go_at_call 74; (with_reducible refine (OKK.out _).mono ?_); rintro e w7 ⟨rfl, h7⟩; have B7 := Lib.hid h7; clear h7; obtain ⟨⟨c0, c1, c2, c3⟩, ⟨f0, f1, f2, f3⟩⟩ := cells4 (blk_below R6.out B7.out)))
  obtain ⟨A', n', c', hJ6, hE6⟩ := HR6.out
  obtain ⟨hJ7, hE7, hK7⟩ := eff_after hJ6 hE6 HK6.out B7.out
  exact bodyPost_ret (v := .agg #[.int .i64 1, .int .i64 0, .string ⟨#[79, 75]⟩, .slice none 0 0]) (by simp [results, Tryz.results28, go_sem, c0, c1, c2, c3]) rfl (eff_end hjw (Nat.le_refl _) (lt_blk R5.out) B5h.out hJ7 hE7 hK7 _ _ _ _)
set_option maxRecDepth 100000 in
set_option maxHeartbeats 8000000 in
theorem setN_o5 (W0 : World) (bS bM : Nat) (l : MapT.Ents) (k v : ByteArray) (hk1 : 1 ≤ k.size) (hk : k.size ≤ 512) (hv : v.size ≤ 4096) (hf : MapT.find k l = none) : CmdOk W0 28 bS bM l 1 [⟨#[83, 69, 84]⟩, k, v, ⟨#[110, 120]⟩, ⟨#[112, 120]⟩, ⟨#[49, 48, 48]⟩] 1 0 ⟨#[79, 75]⟩ R0 [⟨k, 1, v, 101⟩] := by
  intro w j vA hW hS hj hA
  have A1 := Lib.hid (alloc_old (w := w) (o := .cells #[.int .i64 0, .int .i64 0, .string ⟨#[]⟩, .slice none 0 0] 37))
  have hr := Lib.hid (heap_alloc_new w (.cells #[.int .i64 0, .int .i64 0, .string ⟨#[]⟩, .slice none 0 0] 37))
  obtain ⟨aA, cap, hv, p1, p2, p3⟩ := hA
  replace hv : vA = .slice aA 6 cap := hv
  subst hv
  replace p1 : 6 ≤ cap := p1
  obtain ⟨blk, off, rfl, hblt, hc⟩ := p3 (by simp)
  have ca1 := Lib.hid (show ∀ Y, Below w.heap.size w Y → Y.cell? ⟨blk, off + 1, none⟩ = some (.string k) from fun Y hb => (hb.cell (p := ⟨blk, off + 1, none⟩) hblt).trans (hc 1 _ rfl))
  have ca2 := Lib.hid (show ∀ Y, Below w.heap.size w Y → Y.cell? ⟨blk, off + 2, none⟩ = some (.string v) from fun Y hb => (hb.cell (p := ⟨blk, off + 2, none⟩) hblt).trans (hc 2 _ rfl))
  have ca5 := Lib.hid (show ∀ Y, Below w.heap.size w Y → Y.cell? ⟨blk, off + 5, none⟩ = some (.string ⟨#[49, 48, 48]⟩) from fun Y hb => (hb.cell (p := ⟨blk, off + 5, none⟩) hblt).trans (hc 5 _ rfl))
  have cj := Lib.hid (show ∀ Y, Below w.heap.size w Y → Y.cell? ⟨j, 2, none⟩ = some (.slice (some ⟨blk, off, none⟩) 6 cap) ∧ Y.cell? ⟨j, 1, none⟩ = some (.int .i64 1) from fun Y hb => ⟨(hj.below hb).cells.2.2.1, (hj.below hb).cells.2.1⟩)
  have nj := Lib.hid (ne_job_str hj (hc 1 _ rfl))
  have HJ := Lib.hid hj
  have HS := Lib.hid hS
  have hA0 : SSl w (.slice (some ⟨blk, off, none⟩) 6 cap) [⟨#[83, 69, 84]⟩, k, v, ⟨#[110, 120]⟩, ⟨#[112, 120]⟩, ⟨#[49, 48, 48]⟩] := ⟨_, _, rfl, p1, p2, fun _ => ⟨blk, off, rfl, hblt, hc⟩⟩
  have RD := Lib.hid (read_o5 (.slice (some ⟨blk, off + 3, none⟩) 3 (cap - 3)) _ ((hA0.below A1.out).tail3 rfl (by omega)))
  have hcap : ¬ cap = 3 := by omega
  clear hA0
  have i3 : (3 : Int) ≤ (cap : Int) := by omega
  have hcc := hc
  clear p3 hc
  have y2 := (cj.out _ A1.out).1
  have G := Lib.hid (fun X (hX : Below w.heap.size w X) => JGet_no bS bM j l k 1 _ _ hf X (hS.below hX) (hj.below hX))
  have JI := Lib.hid (fun X (hX : Below w.heap.size w X) => show Calls Tryz.prog 71 #[.pointer (some ⟨j, 0, none⟩), .int .i64 5] X (fun e w' => e = .returned (.int .i64 100) ∧ Below X.heap.size X w') from JInt_ok j bS 1 _ _ [⟨#[83, 69, 84]⟩, k, v, ⟨#[110, 120]⟩, ⟨#[112, 120]⟩, ⟨#[49, 48, 48]⟩] 5 ⟨#[49, 48, 48]⟩ 100 (by decide) (by kernel_rfl) rfl X (hj.below hX) ((show SSl w (.slice (some ⟨blk, off, none⟩) 6 cap) [⟨#[83, 69, 84]⟩, k, v, ⟨#[110, 120]⟩, ⟨#[112, 120]⟩, ⟨#[49, 48, 48]⟩] from ⟨_, _, rfl, p1, p2, fun _ => ⟨blk, off, rfl, hblt, hcc⟩⟩).below hX))
  clear hj hS hW hcc
  have PU := Lib.hid (fun X (hX : Below w.heap.size w X) => Put72 j bS 1 (.slice (some ⟨blk, off, none⟩) 6 cap) none 0 0 [] X.heap.size X (HJ.out.below hX) (EF.nil _ _) (Nat.le_refl _) (by simp) k v hk1 hk hv 101 (by omega) (by omega))
  have OKK := Lib.hid (fun w => OK74 w)
  have TX := Lib.hid (fun w => text73 v w)
  go_enter Tryz.func28, Tryz.ntmps28
  go_wp2_with (first | (go_at_call 68; (with_reducible refine (RD.out).mono ?_); rintro e w1 ⟨rfl, h1⟩; have B1 := Lib.hid (A1.out.trans (h1.mono (Below.size A1.out))); have R1 := Lib.hid (blk_below hr.out h1); clear h1; refine Hid.out ?_))
  refine Lib.hid ?_
  have o1 := Lib.hid (heap_alloc_new w1 (.cells #[.int .i64 2, .bool true, .bool false, .bool false, .bool true] 108))
  have B2 := Lib.hid (show Below w.heap.size w (w1.alloc (.cells #[.int .i64 2, .bool true, .bool false, .bool false, .bool true] 108)) from B1.out.trans (alloc_old.mono (Below.size B1.out)))
  have G1 := Lib.hid (G.out _ B2.out)
  have y2 := (cj.out _ B2.out).1
  have z1 := ca1.out _ B2.out
  obtain ⟨⟨o0, o1c, o2, o3, o4⟩, _⟩ := cells5 o1.out
  go_wp2_with (first | (go_at_call 70; (with_reducible refine (G1.out).mono ?_); rintro e w3 ⟨rfl, h3⟩; have B3 := Lib.hid (B2.out.trans (h3.mono (Below.size B2.out))); have O3 := Lib.hid (blk_below o1.out h3); have R3 := Lib.hid (blk_below R1.out (belA (Below.refl _ _) h3)); clear h3; refine Hid.out ?_))
  refine Lib.hid ?_
  clear o0 o1c o2 o3 o4 y2 z1
  have B4 := Lib.hid (show Below w.heap.size w (w3.alloc (.cells #[.string k, .int .i64 0, .string ⟨#[]⟩, .slice none 0 0, .slice none 0 0, .slice none 0 0, .slice none 0 0, .int .i64 0] 33)) from B3.out.trans (alloc_old.mono (Below.size B3.out)))
  have O4 := Lib.hid (blk_below O3.out (alloc_old (o := .cells #[.string k, .int .i64 0, .string ⟨#[]⟩, .slice none 0 0, .slice none 0 0, .slice none 0 0, .slice none 0 0, .int .i64 0] 33)))
  have R4 := Lib.hid (blk_below R3.out (alloc_old (o := .cells #[.string k, .int .i64 0, .string ⟨#[]⟩, .slice none 0 0, .slice none 0 0, .slice none 0 0, .slice none 0 0, .int .i64 0] 33)))
  obtain ⟨⟨o0, o1c, o2, o3, o4⟩, _⟩ := cells5 O4.out
  have E4 := heap_alloc_new w3 (.cells #[.string k, .int .i64 0, .string ⟨#[]⟩, .slice none 0 0, .slice none 0 0, .slice none 0 0, .slice none 0 0, .int .i64 0] 33)
  obtain ⟨⟨e0, e1, e2, e3, e4, e5, e6, e7⟩, _, ez⟩ := cells8 E4
  clear ez E4
  have x4 := ca5.out _ B4.out
  have JI4 := Lib.hid (JI.out _ B4.out)
  have wr1 : IntKind.i64.wrap (1125899906842624 - 1) = 1125899906842623 := by decide
  go_wp2_with (first | (go_at_call 71; (with_reducible refine (JI4.out).mono ?_); rintro e w4 ⟨rfl, h4⟩; have B4 := Lib.hid (B4.out.trans (h4.mono (Below.size B4.out))); have R4 := Lib.hid (blk_below R4.out h4); have O4 := Lib.hid (blk_below O4.out h4); clear h4; obtain ⟨⟨o0, o1c, o2, o3, o4⟩, _⟩ := cells5 O4.out; have cj1 := (cj.out _ B4.out).2))
  clear o0 o1c o2 o3 o4 x4 cj1
  have KQ := Lib.hid (show ∀ X, Below w.heap.size w X → (X.cell? ⟨j, 2, none⟩ = some (.slice (some ⟨blk, off, none⟩) 6 cap) ∧ X.cell? ⟨blk, off + 1, none⟩ = some (.string k) ∧ X.cell? ⟨blk, off + 2, none⟩ = some (.string v)) from fun X hb => ⟨(cj.out X hb).1, ca1.out X hb, ca2.out X hb⟩)
  have K0 := Lib.hid (KQ.out w4.drew B4.out.drew)
  have T4 := Lib.hid (TX.out w4.drew)
  go_region_held3 (fun X => X.cell? ⟨j, 2, none⟩ = some (.slice (some ⟨blk, off, none⟩) 6 cap) ∧ X.cell? ⟨blk, off + 1, none⟩ = some (.string k) ∧ X.cell? ⟨blk, off + 2, none⟩ = some (.string v)) (first | assumption | (with_reducible exact K0.out) | (with_reducible exact KQ.out _ (by assumption))) (first | (go_at_call 73; (with_reducible refine (T4.out).mono ?_); rintro e w5 ⟨rfl, h5⟩; have B5 : Below w.heap.size w w5 := B4.out.trans ((belT (Below.refl w4.heap.size w4).drew h5).mono (Below.size B4.out)); have R5 := Lib.hid (blk_below R4.out (belT (Below.refl w4.heap.size w4).drew h5)); clear h5; have P5 := Lib.hid (PU.out w5 B5)) | (go_at_call 72; (with_reducible refine (P5.out).mono ?_); rintro e w6 ⟨rfl, hR6, hK6⟩; have S6 := set_keep B5 hK6 hR6 hblt nj.out (ca1.out _ B5) (ca2.out _ B5)))
  have B5h := Lib.hid B5
  have HR6 := Lib.hid hR6
  have HK6 := Lib.hid hK6
  have hjw := lt_blk HJ.out
  have R6 := Lib.hid ((hK6.block w.heap.size (lt_blk R5.out) (by omega)).trans R5.out)
  clear B5 hR6 hK6 P5 T4 KQ K0 S6
  go_wp2_with (first | (go_at_call 74; (with_reducible refine (OKK.out _).mono ?_); rintro e w7 ⟨rfl, h7⟩; have B7 := Lib.hid h7; clear h7; obtain ⟨⟨c0, c1, c2, c3⟩, ⟨f0, f1, f2, f3⟩⟩ := cells4 (blk_below R6.out B7.out)))
  obtain ⟨A', n', c', hJ6, hE6⟩ := HR6.out
  obtain ⟨hJ7, hE7, hK7⟩ := eff_after hJ6 hE6 HK6.out B7.out
  exact bodyPost_ret (v := .agg #[.int .i64 1, .int .i64 0, .string ⟨#[79, 75]⟩, .slice none 0 0]) (by simp [results, Tryz.results28, go_sem, c0, c1, c2, c3]) rfl (eff_end hjw (Nat.le_refl _) (lt_blk R5.out) B5h.out hJ7 hE7 hK7 _ _ _ _)
set_option maxRecDepth 100000 in
set_option maxHeartbeats 8000000 in
theorem setL_o5 (W0 : World) (bS bM : Nat) (l : MapT.Ents) (k v : ByteArray) (xs0 : List ByteArray) (AL : Option Addr) (cL : Nat) (hx0 : xs0 ≠ []) (hxn : xs0.length ≤ 1000000) (hTR : TR W0 (.slice AL xs0.length cL) xs0) (u : Int) (hf : MapT.find k l = some (.agg #[.string k, .int .i64 2, .string ⟨#[]⟩, .slice AL xs0.length cL, .slice none 0 0, .slice none 0 0, .slice none 0 0, .int .i64 u])) (hl : Lives u 1) : CmdOk W0 28 bS bM l 1 [⟨#[83, 69, 84]⟩, k, v, ⟨#[110, 120]⟩, ⟨#[112, 120]⟩, ⟨#[49, 48, 48]⟩] 5 0 ⟨#[]⟩ R0 [] := by
  intro w j vA hW hS hj hA
  have A1 := Lib.hid (alloc_old (w := w) (o := .cells #[.int .i64 0, .int .i64 0, .string ⟨#[]⟩, .slice none 0 0] 37))
  have hr := Lib.hid (heap_alloc_new w (.cells #[.int .i64 0, .int .i64 0, .string ⟨#[]⟩, .slice none 0 0] 37))
  obtain ⟨aA, cap, hv, p1, p2, p3⟩ := hA
  replace hv : vA = .slice aA 6 cap := hv
  subst hv
  replace p1 : 6 ≤ cap := p1
  obtain ⟨blk, off, rfl, hblt, hc⟩ := p3 (by simp)
  have ca1 := Lib.hid (show ∀ Y, Below w.heap.size w Y → Y.cell? ⟨blk, off + 1, none⟩ = some (.string k) from fun Y hb => (hb.cell (p := ⟨blk, off + 1, none⟩) hblt).trans (hc 1 _ rfl))
  have ca2 := Lib.hid (show ∀ Y, Below w.heap.size w Y → Y.cell? ⟨blk, off + 2, none⟩ = some (.string v) from fun Y hb => (hb.cell (p := ⟨blk, off + 2, none⟩) hblt).trans (hc 2 _ rfl))
  have ca5 := Lib.hid (show ∀ Y, Below w.heap.size w Y → Y.cell? ⟨blk, off + 5, none⟩ = some (.string ⟨#[49, 48, 48]⟩) from fun Y hb => (hb.cell (p := ⟨blk, off + 5, none⟩) hblt).trans (hc 5 _ rfl))
  have cj := Lib.hid (show ∀ Y, Below w.heap.size w Y → Y.cell? ⟨j, 2, none⟩ = some (.slice (some ⟨blk, off, none⟩) 6 cap) ∧ Y.cell? ⟨j, 1, none⟩ = some (.int .i64 1) from fun Y hb => ⟨(hj.below hb).cells.2.2.1, (hj.below hb).cells.2.1⟩)
  have nj := Lib.hid (ne_job_str hj (hc 1 _ rfl))
  have HJ := Lib.hid hj
  have HS := Lib.hid hS
  have hA0 : SSl w (.slice (some ⟨blk, off, none⟩) 6 cap) [⟨#[83, 69, 84]⟩, k, v, ⟨#[110, 120]⟩, ⟨#[112, 120]⟩, ⟨#[49, 48, 48]⟩] := ⟨_, _, rfl, p1, p2, fun _ => ⟨blk, off, rfl, hblt, hc⟩⟩
  have RD := Lib.hid (read_o5 (.slice (some ⟨blk, off + 3, none⟩) 3 (cap - 3)) _ ((hA0.below A1.out).tail3 rfl (by omega)))
  have hcap : ¬ cap = 3 := by omega
  clear hA0
  have i3 : (3 : Int) ≤ (cap : Int) := by omega
  have hcc := hc
  clear p3 hc
  have y2 := (cj.out _ A1.out).1
  have G := Lib.hid (fun X (hX : Below w.heap.size w X) => JGet_yesL bS bM j l k 1 _ _ u xs0 AL cL hx0 hxn hf hl X (hS.below hX) (hj.below hX) ((hTR.below hW).below hX).ssl)
  have JI := Lib.hid (fun X (hX : Below w.heap.size w X) => show Calls Tryz.prog 71 #[.pointer (some ⟨j, 0, none⟩), .int .i64 5] X (fun e w' => e = .returned (.int .i64 100) ∧ Below X.heap.size X w') from JInt_ok j bS 1 _ _ [⟨#[83, 69, 84]⟩, k, v, ⟨#[110, 120]⟩, ⟨#[112, 120]⟩, ⟨#[49, 48, 48]⟩] 5 ⟨#[49, 48, 48]⟩ 100 (by decide) (by kernel_rfl) rfl X (hj.below hX) ((show SSl w (.slice (some ⟨blk, off, none⟩) 6 cap) [⟨#[83, 69, 84]⟩, k, v, ⟨#[110, 120]⟩, ⟨#[112, 120]⟩, ⟨#[49, 48, 48]⟩] from ⟨_, _, rfl, p1, p2, fun _ => ⟨blk, off, rfl, hblt, hcc⟩⟩).below hX))
  clear hj hS hTR hW hcc
  have NIL := Lib.hid (fun w => Nil66 w)
  go_enter Tryz.func28, Tryz.ntmps28
  go_wp2_with (first | (go_at_call 68; (with_reducible refine (RD.out).mono ?_); rintro e w1 ⟨rfl, h1⟩; have B1 := Lib.hid (A1.out.trans (h1.mono (Below.size A1.out))); have R1 := Lib.hid (blk_below hr.out h1); clear h1; refine Hid.out ?_))
  refine Lib.hid ?_
  have o1 := Lib.hid (heap_alloc_new w1 (.cells #[.int .i64 2, .bool true, .bool false, .bool false, .bool true] 108))
  have B2 := Lib.hid (show Below w.heap.size w (w1.alloc (.cells #[.int .i64 2, .bool true, .bool false, .bool false, .bool true] 108)) from B1.out.trans (alloc_old.mono (Below.size B1.out)))
  have G1 := Lib.hid (G.out _ B2.out)
  have y2 := (cj.out _ B2.out).1
  have z1 := ca1.out _ B2.out
  obtain ⟨⟨o0, o1c, o2, o3, o4⟩, _⟩ := cells5 o1.out
  go_wp2_with (first | (go_at_call 70; (with_reducible refine (G1.out).mono ?_); rintro e w3 ⟨gL, CL, rfl, hTL, hgL, h3⟩; clear hTL hgL; have B3 := Lib.hid (B2.out.trans (h3.mono (Below.size B2.out))); have O3 := Lib.hid (blk_below o1.out h3); have R3 := Lib.hid (blk_below R1.out (belA (Below.refl _ _) h3)); clear h3; refine Hid.out ?_))
  refine Lib.hid ?_
  clear o0 o1c o2 o3 o4 y2 z1
  have B4 := Lib.hid (show Below w.heap.size w (w3.alloc (.cells #[.string k, .int .i64 2, .string ⟨#[]⟩, .slice (some ⟨gL, 0, none⟩) xs0.length CL, .slice none 0 0, .slice none 0 0, .slice none 0 0, .int .i64 u] 33)) from B3.out.trans (alloc_old.mono (Below.size B3.out)))
  have O4 := Lib.hid (blk_below O3.out (alloc_old (o := .cells #[.string k, .int .i64 2, .string ⟨#[]⟩, .slice (some ⟨gL, 0, none⟩) xs0.length CL, .slice none 0 0, .slice none 0 0, .slice none 0 0, .int .i64 u] 33)))
  have R4 := Lib.hid (blk_below R3.out (alloc_old (o := .cells #[.string k, .int .i64 2, .string ⟨#[]⟩, .slice (some ⟨gL, 0, none⟩) xs0.length CL, .slice none 0 0, .slice none 0 0, .slice none 0 0, .int .i64 u] 33)))
  obtain ⟨⟨o0, o1c, o2, o3, o4⟩, _⟩ := cells5 O4.out
  have E4 := heap_alloc_new w3 (.cells #[.string k, .int .i64 2, .string ⟨#[]⟩, .slice (some ⟨gL, 0, none⟩) xs0.length CL, .slice none 0 0, .slice none 0 0, .slice none 0 0, .int .i64 u] 33)
  obtain ⟨⟨e0, e1, e2, e3, e4, e5, e6, e7⟩, _, ez⟩ := cells8 E4
  clear ez E4
  have x4 := ca5.out _ B4.out
  have JI4 := Lib.hid (JI.out _ B4.out)
  have wr1 : IntKind.i64.wrap (1125899906842624 - 1) = 1125899906842623 := by decide
  go_wp2_with (first | (go_at_call 71; (with_reducible refine (JI4.out).mono ?_); rintro e w4 ⟨rfl, h4⟩; have B4 := Lib.hid (B4.out.trans (h4.mono (Below.size B4.out))); have R4 := Lib.hid (blk_below R4.out h4); have O4 := Lib.hid (blk_below O4.out h4); clear h4; obtain ⟨⟨o0, o1c, o2, o3, o4⟩, _⟩ := cells5 O4.out; have cj1 := (cj.out _ B4.out).2; refine Hid.out ?_))
  refine Lib.hid ?_
  go_wp2_with (first | (go_at_call 66; (with_reducible refine (NIL.out _).mono ?_); rintro e w7 ⟨rfl, h7⟩; have B7 := Lib.hid (B4.out.trans (h7.mono (Below.size B4.out))); obtain ⟨⟨c0, c1, c2, c3⟩, ⟨f0, f1, f2, f3⟩⟩ := cells4 (blk_below R4.out h7); clear h7))
  exact bodyPost_ret (v := .agg #[.int .i64 5, .int .i64 0, .string ⟨#[]⟩, .slice none 0 0]) (by simp [results, Tryz.results28, go_sem, c0, c1, c2, c3]) rfl (read_end HJ.out ((((B7.out.setCell (Nat.le_refl _) _).setCell (Nat.le_refl _) _).setCell (Nat.le_refl _) _).setCell (Nat.le_refl _) _))
set_option maxRecDepth 100000 in
set_option maxHeartbeats 8000000 in
theorem setL_o1 (W0 : World) (bS bM : Nat) (l : MapT.Ents) (k v : ByteArray) (xs0 : List ByteArray) (AL : Option Addr) (cL : Nat) (hx0 : xs0 ≠ []) (hxn : xs0.length ≤ 1000000) (hTR : TR W0 (.slice AL xs0.length cL) xs0) (u : Int) (hf : MapT.find k l = some (.agg #[.string k, .int .i64 2, .string ⟨#[]⟩, .slice AL xs0.length cL, .slice none 0 0, .slice none 0 0, .slice none 0 0, .int .i64 u])) (hl : Lives u 1) : CmdOk W0 28 bS bM l 1 [⟨#[83, 69, 84]⟩, k, v, ⟨#[78, 88]⟩] 5 0 ⟨#[]⟩ R0 [] := by
  intro w j vA hW hS hj hA
  have A1 := Lib.hid (alloc_old (w := w) (o := .cells #[.int .i64 0, .int .i64 0, .string ⟨#[]⟩, .slice none 0 0] 37))
  have hr := Lib.hid (heap_alloc_new w (.cells #[.int .i64 0, .int .i64 0, .string ⟨#[]⟩, .slice none 0 0] 37))
  obtain ⟨aA, cap, hv, p1, p2, p3⟩ := hA
  replace hv : vA = .slice aA 4 cap := hv
  subst hv
  replace p1 : 4 ≤ cap := p1
  obtain ⟨blk, off, rfl, hblt, hc⟩ := p3 (by simp)
  have ca1 := Lib.hid (show ∀ Y, Below w.heap.size w Y → Y.cell? ⟨blk, off + 1, none⟩ = some (.string k) from fun Y hb => (hb.cell (p := ⟨blk, off + 1, none⟩) hblt).trans (hc 1 _ rfl))
  have ca2 := Lib.hid (show ∀ Y, Below w.heap.size w Y → Y.cell? ⟨blk, off + 2, none⟩ = some (.string v) from fun Y hb => (hb.cell (p := ⟨blk, off + 2, none⟩) hblt).trans (hc 2 _ rfl))
  have cj := Lib.hid (show ∀ Y, Below w.heap.size w Y → Y.cell? ⟨j, 2, none⟩ = some (.slice (some ⟨blk, off, none⟩) 4 cap) ∧ Y.cell? ⟨j, 1, none⟩ = some (.int .i64 1) from fun Y hb => ⟨(hj.below hb).cells.2.2.1, (hj.below hb).cells.2.1⟩)
  have nj := Lib.hid (ne_job_str hj (hc 1 _ rfl))
  have HJ := Lib.hid hj
  have HS := Lib.hid hS
  have hA0 : SSl w (.slice (some ⟨blk, off, none⟩) 4 cap) [⟨#[83, 69, 84]⟩, k, v, ⟨#[78, 88]⟩] := ⟨_, _, rfl, p1, p2, fun _ => ⟨blk, off, rfl, hblt, hc⟩⟩
  have RD := Lib.hid (read_NX (.slice (some ⟨blk, off + 3, none⟩) 1 (cap - 3)) _ ((hA0.below A1.out).tail3 rfl (by omega)))
  have hcap : ¬ cap = 3 := by omega
  clear hA0
  have i3 : (3 : Int) ≤ (cap : Int) := by omega
  clear p3 hc
  have y2 := (cj.out _ A1.out).1
  have G := Lib.hid (fun X (hX : Below w.heap.size w X) => JGet_yesL bS bM j l k 1 _ _ u xs0 AL cL hx0 hxn hf hl X (hS.below hX) (hj.below hX) ((hTR.below hW).below hX).ssl)
  clear hj hS hTR hW
  have NIL := Lib.hid (fun w => Nil66 w)
  go_enter Tryz.func28, Tryz.ntmps28
  go_wp2_with (first | (go_at_call 68; (with_reducible refine (RD.out).mono ?_); rintro e w1 ⟨rfl, h1⟩; have B1 := Lib.hid (A1.out.trans (h1.mono (Below.size A1.out))); have R1 := Lib.hid (blk_below hr.out h1); clear h1; refine Hid.out ?_))
  refine Lib.hid ?_
  have o1 := Lib.hid (heap_alloc_new w1 (.cells #[.int .i64 0, .bool true, .bool false, .bool false, .bool true] 108))
  have B2 := Lib.hid (show Below w.heap.size w (w1.alloc (.cells #[.int .i64 0, .bool true, .bool false, .bool false, .bool true] 108)) from B1.out.trans (alloc_old.mono (Below.size B1.out)))
  have G1 := Lib.hid (G.out _ B2.out)
  have y2 := (cj.out _ B2.out).1
  have z1 := ca1.out _ B2.out
  obtain ⟨⟨o0, o1c, o2, o3, o4⟩, _⟩ := cells5 o1.out
  go_wp2_with (first | (go_at_call 70; (with_reducible refine (G1.out).mono ?_); rintro e w3 ⟨gL, CL, rfl, hTL, hgL, h3⟩; clear hTL hgL; have B3 := Lib.hid (B2.out.trans (h3.mono (Below.size B2.out))); have O3 := Lib.hid (blk_below o1.out h3); have R3 := Lib.hid (blk_below R1.out (belA (Below.refl _ _) h3)); clear h3; refine Hid.out ?_))
  refine Lib.hid ?_
  clear o0 o1c o2 o3 o4 y2 z1
  have B4 := Lib.hid (show Below w.heap.size w (w3.alloc (.cells #[.string k, .int .i64 2, .string ⟨#[]⟩, .slice (some ⟨gL, 0, none⟩) xs0.length CL, .slice none 0 0, .slice none 0 0, .slice none 0 0, .int .i64 u] 33)) from B3.out.trans (alloc_old.mono (Below.size B3.out)))
  have O4 := Lib.hid (blk_below O3.out (alloc_old (o := .cells #[.string k, .int .i64 2, .string ⟨#[]⟩, .slice (some ⟨gL, 0, none⟩) xs0.length CL, .slice none 0 0, .slice none 0 0, .slice none 0 0, .int .i64 u] 33)))
  have R4 := Lib.hid (blk_below R3.out (alloc_old (o := .cells #[.string k, .int .i64 2, .string ⟨#[]⟩, .slice (some ⟨gL, 0, none⟩) xs0.length CL, .slice none 0 0, .slice none 0 0, .slice none 0 0, .int .i64 u] 33)))
  obtain ⟨⟨o0, o1c, o2, o3, o4⟩, _⟩ := cells5 O4.out
  have E4 := heap_alloc_new w3 (.cells #[.string k, .int .i64 2, .string ⟨#[]⟩, .slice (some ⟨gL, 0, none⟩) xs0.length CL, .slice none 0 0, .slice none 0 0, .slice none 0 0, .int .i64 u] 33)
  obtain ⟨⟨e0, e1, e2, e3, e4, e5, e6, e7⟩, _, ez⟩ := cells8 E4
  clear ez E4
  go_wp2_with (first | (go_at_call 66; (with_reducible refine (NIL.out _).mono ?_); rintro e w7 ⟨rfl, h7⟩; have B7 := Lib.hid (B4.out.trans (h7.mono (Below.size B4.out))); obtain ⟨⟨c0, c1, c2, c3⟩, ⟨f0, f1, f2, f3⟩⟩ := cells4 (blk_below R4.out h7); clear h7))
  exact bodyPost_ret (v := .agg #[.int .i64 5, .int .i64 0, .string ⟨#[]⟩, .slice none 0 0]) (by simp [results, Tryz.results28, go_sem, c0, c1, c2, c3]) rfl (read_end HJ.out ((((B7.out.setCell (Nat.le_refl _) _).setCell (Nat.le_refl _) _).setCell (Nat.le_refl _) _).setCell (Nat.le_refl _) _))
set_option maxRecDepth 100000 in
set_option maxHeartbeats 8000000 in
theorem setL_o0 (W0 : World) (bS bM : Nat) (l : MapT.Ents) (k v : ByteArray) (hk1 : 1 ≤ k.size) (hk : k.size ≤ 512) (hv : v.size ≤ 4096) (xs0 : List ByteArray) (AL : Option Addr) (cL : Nat) (hx0 : xs0 ≠ []) (hxn : xs0.length ≤ 1000000) (hTR : TR W0 (.slice AL xs0.length cL) xs0) (u : Int) (hf : MapT.find k l = some (.agg #[.string k, .int .i64 2, .string ⟨#[]⟩, .slice AL xs0.length cL, .slice none 0 0, .slice none 0 0, .slice none 0 0, .int .i64 u])) (hl : Lives u 1) : CmdOk W0 28 bS bM l 1 [⟨#[83, 69, 84]⟩, k, v] 1 0 ⟨#[79, 75]⟩ R0 [⟨k, 1, v, 0⟩] := by
  intro w j vA hW hS hj hA
  have A1 := Lib.hid (alloc_old (w := w) (o := .cells #[.int .i64 0, .int .i64 0, .string ⟨#[]⟩, .slice none 0 0] 37))
  have hr := Lib.hid (heap_alloc_new w (.cells #[.int .i64 0, .int .i64 0, .string ⟨#[]⟩, .slice none 0 0] 37))
  obtain ⟨aA, cap, hv, p1, p2, p3⟩ := hA
  replace hv : vA = .slice aA 3 cap := hv
  subst hv
  replace p1 : 3 ≤ cap := p1
  obtain ⟨blk, off, rfl, hblt, hc⟩ := p3 (by simp)
  have ca1 := Lib.hid (show ∀ Y, Below w.heap.size w Y → Y.cell? ⟨blk, off + 1, none⟩ = some (.string k) from fun Y hb => (hb.cell (p := ⟨blk, off + 1, none⟩) hblt).trans (hc 1 _ rfl))
  have ca2 := Lib.hid (show ∀ Y, Below w.heap.size w Y → Y.cell? ⟨blk, off + 2, none⟩ = some (.string v) from fun Y hb => (hb.cell (p := ⟨blk, off + 2, none⟩) hblt).trans (hc 2 _ rfl))
  have cj := Lib.hid (show ∀ Y, Below w.heap.size w Y → Y.cell? ⟨j, 2, none⟩ = some (.slice (some ⟨blk, off, none⟩) 3 cap) ∧ Y.cell? ⟨j, 1, none⟩ = some (.int .i64 1) from fun Y hb => ⟨(hj.below hb).cells.2.2.1, (hj.below hb).cells.2.1⟩)
  have nj := Lib.hid (ne_job_str hj (hc 1 _ rfl))
  have HJ := Lib.hid hj
  have HS := Lib.hid hS
  have RD := Lib.hid (fun A c (hc : c ≤ maxLen) => read_none (.slice A 0 c) (w.alloc (.cells #[.int .i64 0, .int .i64 0, .string ⟨#[]⟩, .slice none 0 0] 37)) ⟨A, c, rfl, Nat.zero_le _, hc, fun h => absurd rfl h⟩)
  have hcm : cap - 3 ≤ maxLen := Nat.le_trans (Nat.sub_le _ _) p2
  have i3 : (3 : Int) ≤ (cap : Int) := by omega
  clear p3 hc
  have y2 := (cj.out _ A1.out).1
  have G := Lib.hid (fun X (hX : Below w.heap.size w X) => JGet_yesL bS bM j l k 1 _ _ u xs0 AL cL hx0 hxn hf hl X (hS.below hX) (hj.below hX) ((hTR.below hW).below hX).ssl)
  clear hj hS hTR hW
  have PU := Lib.hid (fun X (hX : Below w.heap.size w X) => Put72 j bS 1 (.slice (some ⟨blk, off, none⟩) 3 cap) none 0 0 [] X.heap.size X (HJ.out.below hX) (EF.nil _ _) (Nat.le_refl _) (by simp) k v hk1 hk hv 0 (by omega) (by omega))
  have OKK := Lib.hid (fun w => OK74 w)
  have TX := Lib.hid (fun w => text73 v w)
  by_cases hcap : cap = 3
  · subst hcap
    go_enter Tryz.func28, Tryz.ntmps28
    go_wp2_with (first | (go_at_call 68; (with_reducible refine (RD.out _ _ (by first | exact hcm | exact Nat.zero_le _)).mono ?_); rintro e w1 ⟨rfl, h1⟩; have B1 := Lib.hid (A1.out.trans (h1.mono (Below.size A1.out))); have R1 := Lib.hid (blk_below hr.out h1); clear h1; refine Hid.out ?_))
    refine Lib.hid ?_
    have o1 := Lib.hid (heap_alloc_new w1 (.cells #[.int .i64 0, .bool false, .bool false, .bool false, .bool true] 108))
    have B2 := Lib.hid (show Below w.heap.size w (w1.alloc (.cells #[.int .i64 0, .bool false, .bool false, .bool false, .bool true] 108)) from B1.out.trans (alloc_old.mono (Below.size B1.out)))
    have G1 := Lib.hid (G.out _ B2.out)
    have y2 := (cj.out _ B2.out).1
    have z1 := ca1.out _ B2.out
    obtain ⟨⟨o0, o1c, o2, o3, o4⟩, _⟩ := cells5 o1.out
    go_wp2_with (first | (go_at_call 70; (with_reducible refine (G1.out).mono ?_); rintro e w3 ⟨gL, CL, rfl, hTL, hgL, h3⟩; clear hTL hgL; have B3 := Lib.hid (B2.out.trans (h3.mono (Below.size B2.out))); have O3 := Lib.hid (blk_below o1.out h3); have R3 := Lib.hid (blk_below R1.out (belA (Below.refl _ _) h3)); clear h3; refine Hid.out ?_))
    refine Lib.hid ?_
    clear o0 o1c o2 o3 o4 y2 z1
    have B4 := Lib.hid (show Below w.heap.size w (w3.alloc (.cells #[.string k, .int .i64 2, .string ⟨#[]⟩, .slice (some ⟨gL, 0, none⟩) xs0.length CL, .slice none 0 0, .slice none 0 0, .slice none 0 0, .int .i64 u] 33)) from B3.out.trans (alloc_old.mono (Below.size B3.out)))
    have O4 := Lib.hid (blk_below O3.out (alloc_old (o := .cells #[.string k, .int .i64 2, .string ⟨#[]⟩, .slice (some ⟨gL, 0, none⟩) xs0.length CL, .slice none 0 0, .slice none 0 0, .slice none 0 0, .int .i64 u] 33)))
    have R4 := Lib.hid (blk_below R3.out (alloc_old (o := .cells #[.string k, .int .i64 2, .string ⟨#[]⟩, .slice (some ⟨gL, 0, none⟩) xs0.length CL, .slice none 0 0, .slice none 0 0, .slice none 0 0, .int .i64 u] 33)))
    obtain ⟨⟨o0, o1c, o2, o3, o4⟩, _⟩ := cells5 O4.out
    have E4 := heap_alloc_new w3 (.cells #[.string k, .int .i64 2, .string ⟨#[]⟩, .slice (some ⟨gL, 0, none⟩) xs0.length CL, .slice none 0 0, .slice none 0 0, .slice none 0 0, .int .i64 u] 33)
    obtain ⟨⟨e0, e1, e2, e3, e4, e5, e6, e7⟩, _, ez⟩ := cells8 E4
    clear ez E4
    go_wp2
    clear o0 o1c o2 o3 o4 e0 e1 e2 e3 e4 e5 e6 e7
    generalize (w3.alloc (.cells #[.string k, .int .i64 2, .string ⟨#[]⟩, .slice (some ⟨gL, 0, none⟩) xs0.length CL, .slice none 0 0, .slice none 0 0, .slice none 0 0, .int .i64 u] 33)) = w4 at B4 R4 O4 ⊢
    have KQ := Lib.hid (show ∀ X, Below w.heap.size w X → (X.cell? ⟨j, 2, none⟩ = some (.slice (some ⟨blk, off, none⟩) 3 3) ∧ X.cell? ⟨blk, off + 1, none⟩ = some (.string k) ∧ X.cell? ⟨blk, off + 2, none⟩ = some (.string v)) from fun X hb => ⟨(cj.out X hb).1, ca1.out X hb, ca2.out X hb⟩)
    have K0 := Lib.hid (KQ.out w4.drew B4.out.drew)
    have T4 := Lib.hid (TX.out w4.drew)
    go_region_held3 (fun X => X.cell? ⟨j, 2, none⟩ = some (.slice (some ⟨blk, off, none⟩) 3 3) ∧ X.cell? ⟨blk, off + 1, none⟩ = some (.string k) ∧ X.cell? ⟨blk, off + 2, none⟩ = some (.string v)) (first | assumption | (with_reducible exact K0.out) | (with_reducible exact KQ.out _ (by assumption))) (first | (go_at_call 73; (with_reducible refine (T4.out).mono ?_); rintro e w5 ⟨rfl, h5⟩; have B5 : Below w.heap.size w w5 := B4.out.trans ((belT (Below.refl w4.heap.size w4).drew h5).mono (Below.size B4.out)); have R5 := Lib.hid (blk_below R4.out (belT (Below.refl w4.heap.size w4).drew h5)); clear h5; have P5 := Lib.hid (PU.out w5 B5)) | (go_at_call 72; (with_reducible refine (P5.out).mono ?_); rintro e w6 ⟨rfl, hR6, hK6⟩; have S6 := set_keep B5 hK6 hR6 hblt nj.out (ca1.out _ B5) (ca2.out _ B5)))
    have B5h := Lib.hid B5
    have HR6 := Lib.hid hR6
    have HK6 := Lib.hid hK6
    have hjw := lt_blk HJ.out
    have R6 := Lib.hid ((hK6.block w.heap.size (lt_blk R5.out) (by omega)).trans R5.out)
    clear B5 hR6 hK6 P5 T4 KQ K0 S6
    go_wp2_with (first | (go_at_call 74; (with_reducible refine (OKK.out _).mono ?_); rintro e w7 ⟨rfl, h7⟩; have B7 := Lib.hid h7; clear h7; obtain ⟨⟨c0, c1, c2, c3⟩, ⟨f0, f1, f2, f3⟩⟩ := cells4 (blk_below R6.out B7.out)))
    obtain ⟨A', n', c', hJ6, hE6⟩ := HR6.out
    obtain ⟨hJ7, hE7, hK7⟩ := eff_after hJ6 hE6 HK6.out B7.out
    exact bodyPost_ret (v := .agg #[.int .i64 1, .int .i64 0, .string ⟨#[79, 75]⟩, .slice none 0 0]) (by simp [results, Tryz.results28, go_sem, c0, c1, c2, c3]) rfl (eff_end hjw (Nat.le_refl _) (lt_blk R5.out) B5h.out hJ7 hE7 hK7 _ _ _ _)
  · go_enter Tryz.func28, Tryz.ntmps28
    go_wp2_with (first | (go_at_call 68; (with_reducible refine (RD.out _ _ (by first | exact hcm | exact Nat.zero_le _)).mono ?_); rintro e w1 ⟨rfl, h1⟩; have B1 := Lib.hid (A1.out.trans (h1.mono (Below.size A1.out))); have R1 := Lib.hid (blk_below hr.out h1); clear h1; refine Hid.out ?_))
    refine Lib.hid ?_
    have o1 := Lib.hid (heap_alloc_new w1 (.cells #[.int .i64 0, .bool false, .bool false, .bool false, .bool true] 108))
    have B2 := Lib.hid (show Below w.heap.size w (w1.alloc (.cells #[.int .i64 0, .bool false, .bool false, .bool false, .bool true] 108)) from B1.out.trans (alloc_old.mono (Below.size B1.out)))
    have G1 := Lib.hid (G.out _ B2.out)
    have y2 := (cj.out _ B2.out).1
    have z1 := ca1.out _ B2.out
    obtain ⟨⟨o0, o1c, o2, o3, o4⟩, _⟩ := cells5 o1.out
    go_wp2_with (first | (go_at_call 70; (with_reducible refine (G1.out).mono ?_); rintro e w3 ⟨gL, CL, rfl, hTL, hgL, h3⟩; clear hTL hgL; have B3 := Lib.hid (B2.out.trans (h3.mono (Below.size B2.out))); have O3 := Lib.hid (blk_below o1.out h3); have R3 := Lib.hid (blk_below R1.out (belA (Below.refl _ _) h3)); clear h3; refine Hid.out ?_))
    refine Lib.hid ?_
    clear o0 o1c o2 o3 o4 y2 z1
    have B4 := Lib.hid (show Below w.heap.size w (w3.alloc (.cells #[.string k, .int .i64 2, .string ⟨#[]⟩, .slice (some ⟨gL, 0, none⟩) xs0.length CL, .slice none 0 0, .slice none 0 0, .slice none 0 0, .int .i64 u] 33)) from B3.out.trans (alloc_old.mono (Below.size B3.out)))
    have O4 := Lib.hid (blk_below O3.out (alloc_old (o := .cells #[.string k, .int .i64 2, .string ⟨#[]⟩, .slice (some ⟨gL, 0, none⟩) xs0.length CL, .slice none 0 0, .slice none 0 0, .slice none 0 0, .int .i64 u] 33)))
    have R4 := Lib.hid (blk_below R3.out (alloc_old (o := .cells #[.string k, .int .i64 2, .string ⟨#[]⟩, .slice (some ⟨gL, 0, none⟩) xs0.length CL, .slice none 0 0, .slice none 0 0, .slice none 0 0, .int .i64 u] 33)))
    obtain ⟨⟨o0, o1c, o2, o3, o4⟩, _⟩ := cells5 O4.out
    have E4 := heap_alloc_new w3 (.cells #[.string k, .int .i64 2, .string ⟨#[]⟩, .slice (some ⟨gL, 0, none⟩) xs0.length CL, .slice none 0 0, .slice none 0 0, .slice none 0 0, .int .i64 u] 33)
    obtain ⟨⟨e0, e1, e2, e3, e4, e5, e6, e7⟩, _, ez⟩ := cells8 E4
    clear ez E4
    go_wp2
    clear o0 o1c o2 o3 o4 e0 e1 e2 e3 e4 e5 e6 e7
    generalize (w3.alloc (.cells #[.string k, .int .i64 2, .string ⟨#[]⟩, .slice (some ⟨gL, 0, none⟩) xs0.length CL, .slice none 0 0, .slice none 0 0, .slice none 0 0, .int .i64 u] 33)) = w4 at B4 R4 O4 ⊢
    have KQ := Lib.hid (show ∀ X, Below w.heap.size w X → (X.cell? ⟨j, 2, none⟩ = some (.slice (some ⟨blk, off, none⟩) 3 cap) ∧ X.cell? ⟨blk, off + 1, none⟩ = some (.string k) ∧ X.cell? ⟨blk, off + 2, none⟩ = some (.string v)) from fun X hb => ⟨(cj.out X hb).1, ca1.out X hb, ca2.out X hb⟩)
    have K0 := Lib.hid (KQ.out w4.drew B4.out.drew)
    have T4 := Lib.hid (TX.out w4.drew)
    go_region_held3 (fun X => X.cell? ⟨j, 2, none⟩ = some (.slice (some ⟨blk, off, none⟩) 3 cap) ∧ X.cell? ⟨blk, off + 1, none⟩ = some (.string k) ∧ X.cell? ⟨blk, off + 2, none⟩ = some (.string v)) (first | assumption | (with_reducible exact K0.out) | (with_reducible exact KQ.out _ (by assumption))) (first | (go_at_call 73; (with_reducible refine (T4.out).mono ?_); rintro e w5 ⟨rfl, h5⟩; have B5 : Below w.heap.size w w5 := B4.out.trans ((belT (Below.refl w4.heap.size w4).drew h5).mono (Below.size B4.out)); have R5 := Lib.hid (blk_below R4.out (belT (Below.refl w4.heap.size w4).drew h5)); clear h5; have P5 := Lib.hid (PU.out w5 B5)) | (go_at_call 72; (with_reducible refine (P5.out).mono ?_); rintro e w6 ⟨rfl, hR6, hK6⟩; have S6 := set_keep B5 hK6 hR6 hblt nj.out (ca1.out _ B5) (ca2.out _ B5)))
    have B5h := Lib.hid B5
    have HR6 := Lib.hid hR6
    have HK6 := Lib.hid hK6
    have hjw := lt_blk HJ.out
    have R6 := Lib.hid ((hK6.block w.heap.size (lt_blk R5.out) (by omega)).trans R5.out)
    clear B5 hR6 hK6 P5 T4 KQ K0 S6
    go_wp2_with (first | (go_at_call 74; (with_reducible refine (OKK.out _).mono ?_); rintro e w7 ⟨rfl, h7⟩; have B7 := Lib.hid h7; clear h7; obtain ⟨⟨c0, c1, c2, c3⟩, ⟨f0, f1, f2, f3⟩⟩ := cells4 (blk_below R6.out B7.out)))
    obtain ⟨A', n', c', hJ6, hE6⟩ := HR6.out
    obtain ⟨hJ7, hE7, hK7⟩ := eff_after hJ6 hE6 HK6.out B7.out
    exact bodyPost_ret (v := .agg #[.int .i64 1, .int .i64 0, .string ⟨#[79, 75]⟩, .slice none 0 0]) (by simp [results, Tryz.results28, go_sem, c0, c1, c2, c3]) rfl (eff_end hjw (Nat.le_refl _) (lt_blk R5.out) B5h.out hJ7 hE7 hK7 _ _ _ _)
set_option maxRecDepth 100000 in
set_option maxHeartbeats 8000000 in
theorem setL_o2 (W0 : World) (bS bM : Nat) (l : MapT.Ents) (k v : ByteArray) (hk1 : 1 ≤ k.size) (hk : k.size ≤ 512) (hv : v.size ≤ 4096) (xs0 : List ByteArray) (AL : Option Addr) (cL : Nat) (hx0 : xs0 ≠ []) (hxn : xs0.length ≤ 1000000) (hTR : TR W0 (.slice AL xs0.length cL) xs0) (u : Int) (hf : MapT.find k l = some (.agg #[.string k, .int .i64 2, .string ⟨#[]⟩, .slice AL xs0.length cL, .slice none 0 0, .slice none 0 0, .slice none 0 0, .int .i64 u])) (hl : Lives u 1) : CmdOk W0 28 bS bM l 1 [⟨#[83, 69, 84]⟩, k, v, ⟨#[88, 88]⟩] 1 0 ⟨#[79, 75]⟩ R0 [⟨k, 1, v, 0⟩] := by
  intro w j vA hW hS hj hA
  have A1 := Lib.hid (alloc_old (w := w) (o := .cells #[.int .i64 0, .int .i64 0, .string ⟨#[]⟩, .slice none 0 0] 37))
  have hr := Lib.hid (heap_alloc_new w (.cells #[.int .i64 0, .int .i64 0, .string ⟨#[]⟩, .slice none 0 0] 37))
  obtain ⟨aA, cap, hv, p1, p2, p3⟩ := hA
  replace hv : vA = .slice aA 4 cap := hv
  subst hv
  replace p1 : 4 ≤ cap := p1
  obtain ⟨blk, off, rfl, hblt, hc⟩ := p3 (by simp)
  have ca1 := Lib.hid (show ∀ Y, Below w.heap.size w Y → Y.cell? ⟨blk, off + 1, none⟩ = some (.string k) from fun Y hb => (hb.cell (p := ⟨blk, off + 1, none⟩) hblt).trans (hc 1 _ rfl))
  have ca2 := Lib.hid (show ∀ Y, Below w.heap.size w Y → Y.cell? ⟨blk, off + 2, none⟩ = some (.string v) from fun Y hb => (hb.cell (p := ⟨blk, off + 2, none⟩) hblt).trans (hc 2 _ rfl))
  have cj := Lib.hid (show ∀ Y, Below w.heap.size w Y → Y.cell? ⟨j, 2, none⟩ = some (.slice (some ⟨blk, off, none⟩) 4 cap) ∧ Y.cell? ⟨j, 1, none⟩ = some (.int .i64 1) from fun Y hb => ⟨(hj.below hb).cells.2.2.1, (hj.below hb).cells.2.1⟩)
  have nj := Lib.hid (ne_job_str hj (hc 1 _ rfl))
  have HJ := Lib.hid hj
  have HS := Lib.hid hS
  have hA0 : SSl w (.slice (some ⟨blk, off, none⟩) 4 cap) [⟨#[83, 69, 84]⟩, k, v, ⟨#[88, 88]⟩] := ⟨_, _, rfl, p1, p2, fun _ => ⟨blk, off, rfl, hblt, hc⟩⟩
  have RD := Lib.hid (read_o2 (.slice (some ⟨blk, off + 3, none⟩) 1 (cap - 3)) _ ((hA0.below A1.out).tail3 rfl (by omega)))
  have hcap : ¬ cap = 3 := by omega
  clear hA0
  have i3 : (3 : Int) ≤ (cap : Int) := by omega
  clear p3 hc
  have y2 := (cj.out _ A1.out).1
  have G := Lib.hid (fun X (hX : Below w.heap.size w X) => JGet_yesL bS bM j l k 1 _ _ u xs0 AL cL hx0 hxn hf hl X (hS.below hX) (hj.below hX) ((hTR.below hW).below hX).ssl)
  clear hj hS hTR hW
  have PU := Lib.hid (fun X (hX : Below w.heap.size w X) => Put72 j bS 1 (.slice (some ⟨blk, off, none⟩) 4 cap) none 0 0 [] X.heap.size X (HJ.out.below hX) (EF.nil _ _) (Nat.le_refl _) (by simp) k v hk1 hk hv 0 (by omega) (by omega))
  have OKK := Lib.hid (fun w => OK74 w)
  have TX := Lib.hid (fun w => text73 v w)
  go_enter Tryz.func28, Tryz.ntmps28
  go_wp2_with (first | (go_at_call 68; (with_reducible refine (RD.out).mono ?_); rintro e w1 ⟨rfl, h1⟩; have B1 := Lib.hid (A1.out.trans (h1.mono (Below.size A1.out))); have R1 := Lib.hid (blk_below hr.out h1); clear h1; refine Hid.out ?_))
  refine Lib.hid ?_
  have o1 := Lib.hid (heap_alloc_new w1 (.cells #[.int .i64 0, .bool false, .bool true, .bool false, .bool true] 108))
  have B2 := Lib.hid (show Below w.heap.size w (w1.alloc (.cells #[.int .i64 0, .bool false, .bool true, .bool false, .bool true] 108)) from B1.out.trans (alloc_old.mono (Below.size B1.out)))
  have G1 := Lib.hid (G.out _ B2.out)
  have y2 := (cj.out _ B2.out).1
  have z1 := ca1.out _ B2.out
  obtain ⟨⟨o0, o1c, o2, o3, o4⟩, _⟩ := cells5 o1.out
  go_wp2_with (first | (go_at_call 70; (with_reducible refine (G1.out).mono ?_); rintro e w3 ⟨gL, CL, rfl, hTL, hgL, h3⟩; clear hTL hgL; have B3 := Lib.hid (B2.out.trans (h3.mono (Below.size B2.out))); have O3 := Lib.hid (blk_below o1.out h3); have R3 := Lib.hid (blk_below R1.out (belA (Below.refl _ _) h3)); clear h3; refine Hid.out ?_))
  refine Lib.hid ?_
  clear o0 o1c o2 o3 o4 y2 z1
  have B4 := Lib.hid (show Below w.heap.size w (w3.alloc (.cells #[.string k, .int .i64 2, .string ⟨#[]⟩, .slice (some ⟨gL, 0, none⟩) xs0.length CL, .slice none 0 0, .slice none 0 0, .slice none 0 0, .int .i64 u] 33)) from B3.out.trans (alloc_old.mono (Below.size B3.out)))
  have O4 := Lib.hid (blk_below O3.out (alloc_old (o := .cells #[.string k, .int .i64 2, .string ⟨#[]⟩, .slice (some ⟨gL, 0, none⟩) xs0.length CL, .slice none 0 0, .slice none 0 0, .slice none 0 0, .int .i64 u] 33)))
  have R4 := Lib.hid (blk_below R3.out (alloc_old (o := .cells #[.string k, .int .i64 2, .string ⟨#[]⟩, .slice (some ⟨gL, 0, none⟩) xs0.length CL, .slice none 0 0, .slice none 0 0, .slice none 0 0, .int .i64 u] 33)))
  obtain ⟨⟨o0, o1c, o2, o3, o4⟩, _⟩ := cells5 O4.out
  have E4 := heap_alloc_new w3 (.cells #[.string k, .int .i64 2, .string ⟨#[]⟩, .slice (some ⟨gL, 0, none⟩) xs0.length CL, .slice none 0 0, .slice none 0 0, .slice none 0 0, .int .i64 u] 33)
  obtain ⟨⟨e0, e1, e2, e3, e4, e5, e6, e7⟩, _, ez⟩ := cells8 E4
  clear ez E4
  go_wp2
  clear o0 o1c o2 o3 o4 e0 e1 e2 e3 e4 e5 e6 e7
  generalize (w3.alloc (.cells #[.string k, .int .i64 2, .string ⟨#[]⟩, .slice (some ⟨gL, 0, none⟩) xs0.length CL, .slice none 0 0, .slice none 0 0, .slice none 0 0, .int .i64 u] 33)) = w4 at B4 R4 O4 ⊢
  have KQ := Lib.hid (show ∀ X, Below w.heap.size w X → (X.cell? ⟨j, 2, none⟩ = some (.slice (some ⟨blk, off, none⟩) 4 cap) ∧ X.cell? ⟨blk, off + 1, none⟩ = some (.string k) ∧ X.cell? ⟨blk, off + 2, none⟩ = some (.string v)) from fun X hb => ⟨(cj.out X hb).1, ca1.out X hb, ca2.out X hb⟩)
  have K0 := Lib.hid (KQ.out w4.drew B4.out.drew)
  have T4 := Lib.hid (TX.out w4.drew)
  go_region_held3 (fun X => X.cell? ⟨j, 2, none⟩ = some (.slice (some ⟨blk, off, none⟩) 4 cap) ∧ X.cell? ⟨blk, off + 1, none⟩ = some (.string k) ∧ X.cell? ⟨blk, off + 2, none⟩ = some (.string v)) (first | assumption | (with_reducible exact K0.out) | (with_reducible exact KQ.out _ (by assumption))) (first | (go_at_call 73; (with_reducible refine (T4.out).mono ?_); rintro e w5 ⟨rfl, h5⟩; have B5 : Below w.heap.size w w5 := B4.out.trans ((belT (Below.refl w4.heap.size w4).drew h5).mono (Below.size B4.out)); have R5 := Lib.hid (blk_below R4.out (belT (Below.refl w4.heap.size w4).drew h5)); clear h5; have P5 := Lib.hid (PU.out w5 B5)) | (go_at_call 72; (with_reducible refine (P5.out).mono ?_); rintro e w6 ⟨rfl, hR6, hK6⟩; have S6 := set_keep B5 hK6 hR6 hblt nj.out (ca1.out _ B5) (ca2.out _ B5)))
  have B5h := Lib.hid B5
  have HR6 := Lib.hid hR6
  have HK6 := Lib.hid hK6
  have hjw := lt_blk HJ.out
  have R6 := Lib.hid ((hK6.block w.heap.size (lt_blk R5.out) (by omega)).trans R5.out)
  clear B5 hR6 hK6 P5 T4 KQ K0 S6
  go_wp2_with (first | (go_at_call 74; (with_reducible refine (OKK.out _).mono ?_); rintro e w7 ⟨rfl, h7⟩; have B7 := Lib.hid h7; clear h7; obtain ⟨⟨c0, c1, c2, c3⟩, ⟨f0, f1, f2, f3⟩⟩ := cells4 (blk_below R6.out B7.out)))
  obtain ⟨A', n', c', hJ6, hE6⟩ := HR6.out
  obtain ⟨hJ7, hE7, hK7⟩ := eff_after hJ6 hE6 HK6.out B7.out
  exact bodyPost_ret (v := .agg #[.int .i64 1, .int .i64 0, .string ⟨#[79, 75]⟩, .slice none 0 0]) (by simp [results, Tryz.results28, go_sem, c0, c1, c2, c3]) rfl (eff_end hjw (Nat.le_refl _) (lt_blk R5.out) B5h.out hJ7 hE7 hK7 _ _ _ _)
set_option maxRecDepth 100000 in
set_option maxHeartbeats 8000000 in
theorem setL_o3 (W0 : World) (bS bM : Nat) (l : MapT.Ents) (k v : ByteArray) (hk1 : 1 ≤ k.size) (hk : k.size ≤ 512) (hv : v.size ≤ 4096) (xs0 : List ByteArray) (AL : Option Addr) (cL : Nat) (hx0 : xs0 ≠ []) (hxn : xs0.length ≤ 1000000) (hTR : TR W0 (.slice AL xs0.length cL) xs0) (u : Int) (hf : MapT.find k l = some (.agg #[.string k, .int .i64 2, .string ⟨#[]⟩, .slice AL xs0.length cL, .slice none 0 0, .slice none 0 0, .slice none 0 0, .int .i64 u])) (hl : Lives u 1) : CmdOk W0 28 bS bM l 1 [⟨#[83, 69, 84]⟩, k, v, ⟨#[80, 88]⟩, ⟨#[49, 48, 48]⟩] 1 0 ⟨#[79, 75]⟩ R0 [⟨k, 1, v, 101⟩] := by
  intro w j vA hW hS hj hA
  have A1 := Lib.hid (alloc_old (w := w) (o := .cells #[.int .i64 0, .int .i64 0, .string ⟨#[]⟩, .slice none 0 0] 37))
  have hr := Lib.hid (heap_alloc_new w (.cells #[.int .i64 0, .int .i64 0, .string ⟨#[]⟩, .slice none 0 0] 37))
  obtain ⟨aA, cap, hv, p1, p2, p3⟩ := hA
  replace hv : vA = .slice aA 5 cap := hv
  subst hv
  replace p1 : 5 ≤ cap := p1
  obtain ⟨blk, off, rfl, hblt, hc⟩ := p3 (by simp)
  have ca1 := Lib.hid (show ∀ Y, Below w.heap.size w Y → Y.cell? ⟨blk, off + 1, none⟩ = some (.string k) from fun Y hb => (hb.cell (p := ⟨blk, off + 1, none⟩) hblt).trans (hc 1 _ rfl))
  have ca2 := Lib.hid (show ∀ Y, Below w.heap.size w Y → Y.cell? ⟨blk, off + 2, none⟩ = some (.string v) from fun Y hb => (hb.cell (p := ⟨blk, off + 2, none⟩) hblt).trans (hc 2 _ rfl))
  have ca4 := Lib.hid (show ∀ Y, Below w.heap.size w Y → Y.cell? ⟨blk, off + 4, none⟩ = some (.string ⟨#[49, 48, 48]⟩) from fun Y hb => (hb.cell (p := ⟨blk, off + 4, none⟩) hblt).trans (hc 4 _ rfl))
  have cj := Lib.hid (show ∀ Y, Below w.heap.size w Y → Y.cell? ⟨j, 2, none⟩ = some (.slice (some ⟨blk, off, none⟩) 5 cap) ∧ Y.cell? ⟨j, 1, none⟩ = some (.int .i64 1) from fun Y hb => ⟨(hj.below hb).cells.2.2.1, (hj.below hb).cells.2.1⟩)
  have nj := Lib.hid (ne_job_str hj (hc 1 _ rfl))
  have HJ := Lib.hid hj
  have HS := Lib.hid hS
  have hA0 : SSl w (.slice (some ⟨blk, off, none⟩) 5 cap) [⟨#[83, 69, 84]⟩, k, v, ⟨#[80, 88]⟩, ⟨#[49, 48, 48]⟩] := ⟨_, _, rfl, p1, p2, fun _ => ⟨blk, off, rfl, hblt, hc⟩⟩
  have RD := Lib.hid (read_o3 (.slice (some ⟨blk, off + 3, none⟩) 2 (cap - 3)) _ ((hA0.below A1.out).tail3 rfl (by omega)))
  have hcap : ¬ cap = 3 := by omega
  clear hA0
  have i3 : (3 : Int) ≤ (cap : Int) := by omega
  have hcc := hc
  clear p3 hc
  have y2 := (cj.out _ A1.out).1
  have G := Lib.hid (fun X (hX : Below w.heap.size w X) => JGet_yesL bS bM j l k 1 _ _ u xs0 AL cL hx0 hxn hf hl X (hS.below hX) (hj.below hX) ((hTR.below hW).below hX).ssl)
  have JI := Lib.hid (fun X (hX : Below w.heap.size w X) => show Calls Tryz.prog 71 #[.pointer (some ⟨j, 0, none⟩), .int .i64 4] X (fun e w' => e = .returned (.int .i64 100) ∧ Below X.heap.size X w') from JInt_ok j bS 1 _ _ [⟨#[83, 69, 84]⟩, k, v, ⟨#[80, 88]⟩, ⟨#[49, 48, 48]⟩] 4 ⟨#[49, 48, 48]⟩ 100 (by decide) (by kernel_rfl) rfl X (hj.below hX) ((show SSl w (.slice (some ⟨blk, off, none⟩) 5 cap) [⟨#[83, 69, 84]⟩, k, v, ⟨#[80, 88]⟩, ⟨#[49, 48, 48]⟩] from ⟨_, _, rfl, p1, p2, fun _ => ⟨blk, off, rfl, hblt, hcc⟩⟩).below hX))
  clear hj hS hTR hW hcc
  have PU := Lib.hid (fun X (hX : Below w.heap.size w X) => Put72 j bS 1 (.slice (some ⟨blk, off, none⟩) 5 cap) none 0 0 [] X.heap.size X (HJ.out.below hX) (EF.nil _ _) (Nat.le_refl _) (by simp) k v hk1 hk hv 101 (by omega) (by omega))
  have OKK := Lib.hid (fun w => OK74 w)
  have TX := Lib.hid (fun w => text73 v w)
  go_enter Tryz.func28, Tryz.ntmps28
  go_wp2_with (first | (go_at_call 68; (with_reducible refine (RD.out).mono ?_); rintro e w1 ⟨rfl, h1⟩; have B1 := Lib.hid (A1.out.trans (h1.mono (Below.size A1.out))); have R1 := Lib.hid (blk_below hr.out h1); clear h1; refine Hid.out ?_))
  refine Lib.hid ?_
  have o1 := Lib.hid (heap_alloc_new w1 (.cells #[.int .i64 1, .bool false, .bool false, .bool false, .bool true] 108))
  have B2 := Lib.hid (show Below w.heap.size w (w1.alloc (.cells #[.int .i64 1, .bool false, .bool false, .bool false, .bool true] 108)) from B1.out.trans (alloc_old.mono (Below.size B1.out)))
  have G1 := Lib.hid (G.out _ B2.out)
  have y2 := (cj.out _ B2.out).1
  have z1 := ca1.out _ B2.out
  obtain ⟨⟨o0, o1c, o2, o3, o4⟩, _⟩ := cells5 o1.out
  go_wp2_with (first | (go_at_call 70; (with_reducible refine (G1.out).mono ?_); rintro e w3 ⟨gL, CL, rfl, hTL, hgL, h3⟩; clear hTL hgL; have B3 := Lib.hid (B2.out.trans (h3.mono (Below.size B2.out))); have O3 := Lib.hid (blk_below o1.out h3); have R3 := Lib.hid (blk_below R1.out (belA (Below.refl _ _) h3)); clear h3; refine Hid.out ?_))
  refine Lib.hid ?_
  clear o0 o1c o2 o3 o4 y2 z1
  have B4 := Lib.hid (show Below w.heap.size w (w3.alloc (.cells #[.string k, .int .i64 2, .string ⟨#[]⟩, .slice (some ⟨gL, 0, none⟩) xs0.length CL, .slice none 0 0, .slice none 0 0, .slice none 0 0, .int .i64 u] 33)) from B3.out.trans (alloc_old.mono (Below.size B3.out)))
  have O4 := Lib.hid (blk_below O3.out (alloc_old (o := .cells #[.string k, .int .i64 2, .string ⟨#[]⟩, .slice (some ⟨gL, 0, none⟩) xs0.length CL, .slice none 0 0, .slice none 0 0, .slice none 0 0, .int .i64 u] 33)))
  have R4 := Lib.hid (blk_below R3.out (alloc_old (o := .cells #[.string k, .int .i64 2, .string ⟨#[]⟩, .slice (some ⟨gL, 0, none⟩) xs0.length CL, .slice none 0 0, .slice none 0 0, .slice none 0 0, .int .i64 u] 33)))
  obtain ⟨⟨o0, o1c, o2, o3, o4⟩, _⟩ := cells5 O4.out
  have E4 := heap_alloc_new w3 (.cells #[.string k, .int .i64 2, .string ⟨#[]⟩, .slice (some ⟨gL, 0, none⟩) xs0.length CL, .slice none 0 0, .slice none 0 0, .slice none 0 0, .int .i64 u] 33)
  obtain ⟨⟨e0, e1, e2, e3, e4, e5, e6, e7⟩, _, ez⟩ := cells8 E4
  clear ez E4
  have x4 := ca4.out _ B4.out
  have JI4 := Lib.hid (JI.out _ B4.out)
  have wr1 : IntKind.i64.wrap (1125899906842624 - 1) = 1125899906842623 := by decide
  go_wp2_with (first | (go_at_call 71; (with_reducible refine (JI4.out).mono ?_); rintro e w4 ⟨rfl, h4⟩; have B4 := Lib.hid (B4.out.trans (h4.mono (Below.size B4.out))); have R4 := Lib.hid (blk_below R4.out h4); have O4 := Lib.hid (blk_below O4.out h4); clear h4; obtain ⟨⟨o0, o1c, o2, o3, o4⟩, _⟩ := cells5 O4.out; have cj1 := (cj.out _ B4.out).2))
  clear o0 o1c o2 o3 o4 x4 cj1
  have KQ := Lib.hid (show ∀ X, Below w.heap.size w X → (X.cell? ⟨j, 2, none⟩ = some (.slice (some ⟨blk, off, none⟩) 5 cap) ∧ X.cell? ⟨blk, off + 1, none⟩ = some (.string k) ∧ X.cell? ⟨blk, off + 2, none⟩ = some (.string v)) from fun X hb => ⟨(cj.out X hb).1, ca1.out X hb, ca2.out X hb⟩)
  have K0 := Lib.hid (KQ.out w4.drew B4.out.drew)
  have T4 := Lib.hid (TX.out w4.drew)
  go_region_held3 (fun X => X.cell? ⟨j, 2, none⟩ = some (.slice (some ⟨blk, off, none⟩) 5 cap) ∧ X.cell? ⟨blk, off + 1, none⟩ = some (.string k) ∧ X.cell? ⟨blk, off + 2, none⟩ = some (.string v)) (first | assumption | (with_reducible exact K0.out) | (with_reducible exact KQ.out _ (by assumption))) (first | (go_at_call 73; (with_reducible refine (T4.out).mono ?_); rintro e w5 ⟨rfl, h5⟩; have B5 : Below w.heap.size w w5 := B4.out.trans ((belT (Below.refl w4.heap.size w4).drew h5).mono (Below.size B4.out)); have R5 := Lib.hid (blk_below R4.out (belT (Below.refl w4.heap.size w4).drew h5)); clear h5; have P5 := Lib.hid (PU.out w5 B5)) | (go_at_call 72; (with_reducible refine (P5.out).mono ?_); rintro e w6 ⟨rfl, hR6, hK6⟩; have S6 := set_keep B5 hK6 hR6 hblt nj.out (ca1.out _ B5) (ca2.out _ B5)))
  have B5h := Lib.hid B5
  have HR6 := Lib.hid hR6
  have HK6 := Lib.hid hK6
  have hjw := lt_blk HJ.out
  have R6 := Lib.hid ((hK6.block w.heap.size (lt_blk R5.out) (by omega)).trans R5.out)
  clear B5 hR6 hK6 P5 T4 KQ K0 S6
  go_wp2_with (first | (go_at_call 74; (with_reducible refine (OKK.out _).mono ?_); rintro e w7 ⟨rfl, h7⟩; have B7 := Lib.hid h7; clear h7; obtain ⟨⟨c0, c1, c2, c3⟩, ⟨f0, f1, f2, f3⟩⟩ := cells4 (blk_below R6.out B7.out)))
  obtain ⟨A', n', c', hJ6, hE6⟩ := HR6.out
  obtain ⟨hJ7, hE7, hK7⟩ := eff_after hJ6 hE6 HK6.out B7.out
  exact bodyPost_ret (v := .agg #[.int .i64 1, .int .i64 0, .string ⟨#[79, 75]⟩, .slice none 0 0]) (by simp [results, Tryz.results28, go_sem, c0, c1, c2, c3]) rfl (eff_end hjw (Nat.le_refl _) (lt_blk R5.out) B5h.out hJ7 hE7 hK7 _ _ _ _)
set_option maxRecDepth 100000 in
set_option maxHeartbeats 8000000 in
theorem setL_o4 (W0 : World) (bS bM : Nat) (l : MapT.Ents) (k v : ByteArray) (hk1 : 1 ≤ k.size) (hk : k.size ≤ 512) (hv : v.size ≤ 4096) (xs0 : List ByteArray) (AL : Option Addr) (cL : Nat) (hx0 : xs0 ≠ []) (hxn : xs0.length ≤ 1000000) (hTR : TR W0 (.slice AL xs0.length cL) xs0) (u : Int) (hu0 : 0 ≤ u) (hu1 : u ≤ 1125899906842624) (hf : MapT.find k l = some (.agg #[.string k, .int .i64 2, .string ⟨#[]⟩, .slice AL xs0.length cL, .slice none 0 0, .slice none 0 0, .slice none 0 0, .int .i64 u])) (hl : Lives u 1) : CmdOk W0 28 bS bM l 1 [⟨#[83, 69, 84]⟩, k, v, ⟨#[75, 69, 69, 80, 84, 84, 76]⟩] 1 0 ⟨#[79, 75]⟩ R0 [⟨k, 1, v, u⟩] := by
  intro w j vA hW hS hj hA
  have A1 := Lib.hid (alloc_old (w := w) (o := .cells #[.int .i64 0, .int .i64 0, .string ⟨#[]⟩, .slice none 0 0] 37))
  have hr := Lib.hid (heap_alloc_new w (.cells #[.int .i64 0, .int .i64 0, .string ⟨#[]⟩, .slice none 0 0] 37))
  obtain ⟨aA, cap, hv, p1, p2, p3⟩ := hA
  replace hv : vA = .slice aA 4 cap := hv
  subst hv
  replace p1 : 4 ≤ cap := p1
  obtain ⟨blk, off, rfl, hblt, hc⟩ := p3 (by simp)
  have ca1 := Lib.hid (show ∀ Y, Below w.heap.size w Y → Y.cell? ⟨blk, off + 1, none⟩ = some (.string k) from fun Y hb => (hb.cell (p := ⟨blk, off + 1, none⟩) hblt).trans (hc 1 _ rfl))
  have ca2 := Lib.hid (show ∀ Y, Below w.heap.size w Y → Y.cell? ⟨blk, off + 2, none⟩ = some (.string v) from fun Y hb => (hb.cell (p := ⟨blk, off + 2, none⟩) hblt).trans (hc 2 _ rfl))
  have cj := Lib.hid (show ∀ Y, Below w.heap.size w Y → Y.cell? ⟨j, 2, none⟩ = some (.slice (some ⟨blk, off, none⟩) 4 cap) ∧ Y.cell? ⟨j, 1, none⟩ = some (.int .i64 1) from fun Y hb => ⟨(hj.below hb).cells.2.2.1, (hj.below hb).cells.2.1⟩)
  have nj := Lib.hid (ne_job_str hj (hc 1 _ rfl))
  have HJ := Lib.hid hj
  have HS := Lib.hid hS
  have hA0 : SSl w (.slice (some ⟨blk, off, none⟩) 4 cap) [⟨#[83, 69, 84]⟩, k, v, ⟨#[75, 69, 69, 80, 84, 84, 76]⟩] := ⟨_, _, rfl, p1, p2, fun _ => ⟨blk, off, rfl, hblt, hc⟩⟩
  have RD := Lib.hid (read_o4 (.slice (some ⟨blk, off + 3, none⟩) 1 (cap - 3)) _ ((hA0.below A1.out).tail3 rfl (by omega)))
  have hcap : ¬ cap = 3 := by omega
  clear hA0
  have i3 : (3 : Int) ≤ (cap : Int) := by omega
  clear p3 hc
  have y2 := (cj.out _ A1.out).1
  have G := Lib.hid (fun X (hX : Below w.heap.size w X) => JGet_yesL bS bM j l k 1 _ _ u xs0 AL cL hx0 hxn hf hl X (hS.below hX) (hj.below hX) ((hTR.below hW).below hX).ssl)
  clear hj hS hTR hW
  have PU := Lib.hid (fun X (hX : Below w.heap.size w X) => Put72 j bS 1 (.slice (some ⟨blk, off, none⟩) 4 cap) none 0 0 [] X.heap.size X (HJ.out.below hX) (EF.nil _ _) (Nat.le_refl _) (by simp) k v hk1 hk hv u (by omega) (by omega))
  have OKK := Lib.hid (fun w => OK74 w)
  have TX := Lib.hid (fun w => text73 v w)
  go_enter Tryz.func28, Tryz.ntmps28
  go_wp2_with (first | (go_at_call 68; (with_reducible refine (RD.out).mono ?_); rintro e w1 ⟨rfl, h1⟩; have B1 := Lib.hid (A1.out.trans (h1.mono (Below.size A1.out))); have R1 := Lib.hid (blk_below hr.out h1); clear h1; refine Hid.out ?_))
  refine Lib.hid ?_
  have o1 := Lib.hid (heap_alloc_new w1 (.cells #[.int .i64 0, .bool false, .bool false, .bool true, .bool true] 108))
  have B2 := Lib.hid (show Below w.heap.size w (w1.alloc (.cells #[.int .i64 0, .bool false, .bool false, .bool true, .bool true] 108)) from B1.out.trans (alloc_old.mono (Below.size B1.out)))
  have G1 := Lib.hid (G.out _ B2.out)
  have y2 := (cj.out _ B2.out).1
  have z1 := ca1.out _ B2.out
  obtain ⟨⟨o0, o1c, o2, o3, o4⟩, _⟩ := cells5 o1.out
  go_wp2_with (first | (go_at_call 70; (with_reducible refine (G1.out).mono ?_); rintro e w3 ⟨gL, CL, rfl, hTL, hgL, h3⟩; clear hTL hgL; have B3 := Lib.hid (B2.out.trans (h3.mono (Below.size B2.out))); have O3 := Lib.hid (blk_below o1.out h3); have R3 := Lib.hid (blk_below R1.out (belA (Below.refl _ _) h3)); clear h3; refine Hid.out ?_))
  refine Lib.hid ?_
  clear o0 o1c o2 o3 o4 y2 z1
  have B4 := Lib.hid (show Below w.heap.size w (w3.alloc (.cells #[.string k, .int .i64 2, .string ⟨#[]⟩, .slice (some ⟨gL, 0, none⟩) xs0.length CL, .slice none 0 0, .slice none 0 0, .slice none 0 0, .int .i64 u] 33)) from B3.out.trans (alloc_old.mono (Below.size B3.out)))
  have O4 := Lib.hid (blk_below O3.out (alloc_old (o := .cells #[.string k, .int .i64 2, .string ⟨#[]⟩, .slice (some ⟨gL, 0, none⟩) xs0.length CL, .slice none 0 0, .slice none 0 0, .slice none 0 0, .int .i64 u] 33)))
  have R4 := Lib.hid (blk_below R3.out (alloc_old (o := .cells #[.string k, .int .i64 2, .string ⟨#[]⟩, .slice (some ⟨gL, 0, none⟩) xs0.length CL, .slice none 0 0, .slice none 0 0, .slice none 0 0, .int .i64 u] 33)))
  obtain ⟨⟨o0, o1c, o2, o3, o4⟩, _⟩ := cells5 O4.out
  have E4 := heap_alloc_new w3 (.cells #[.string k, .int .i64 2, .string ⟨#[]⟩, .slice (some ⟨gL, 0, none⟩) xs0.length CL, .slice none 0 0, .slice none 0 0, .slice none 0 0, .int .i64 u] 33)
  obtain ⟨⟨e0, e1, e2, e3, e4, e5, e6, e7⟩, _, ez⟩ := cells8 E4
  clear ez E4
  go_wp2
  clear o0 o1c o2 o3 o4 e0 e1 e2 e3 e4 e5 e6 e7
  generalize (w3.alloc (.cells #[.string k, .int .i64 2, .string ⟨#[]⟩, .slice (some ⟨gL, 0, none⟩) xs0.length CL, .slice none 0 0, .slice none 0 0, .slice none 0 0, .int .i64 u] 33)) = w4 at B4 R4 O4 ⊢
  have KQ := Lib.hid (show ∀ X, Below w.heap.size w X → (X.cell? ⟨j, 2, none⟩ = some (.slice (some ⟨blk, off, none⟩) 4 cap) ∧ X.cell? ⟨blk, off + 1, none⟩ = some (.string k) ∧ X.cell? ⟨blk, off + 2, none⟩ = some (.string v)) from fun X hb => ⟨(cj.out X hb).1, ca1.out X hb, ca2.out X hb⟩)
  have K0 := Lib.hid (KQ.out w4.drew B4.out.drew)
  have T4 := Lib.hid (TX.out w4.drew)
  go_region_held3 (fun X => X.cell? ⟨j, 2, none⟩ = some (.slice (some ⟨blk, off, none⟩) 4 cap) ∧ X.cell? ⟨blk, off + 1, none⟩ = some (.string k) ∧ X.cell? ⟨blk, off + 2, none⟩ = some (.string v)) (first | assumption | (with_reducible exact K0.out) | (with_reducible exact KQ.out _ (by assumption))) (first | (go_at_call 73; (with_reducible refine (T4.out).mono ?_); rintro e w5 ⟨rfl, h5⟩; have B5 : Below w.heap.size w w5 := B4.out.trans ((belT (Below.refl w4.heap.size w4).drew h5).mono (Below.size B4.out)); have R5 := Lib.hid (blk_below R4.out (belT (Below.refl w4.heap.size w4).drew h5)); clear h5; have P5 := Lib.hid (PU.out w5 B5)) | (go_at_call 72; (with_reducible refine (P5.out).mono ?_); rintro e w6 ⟨rfl, hR6, hK6⟩; have S6 := set_keep B5 hK6 hR6 hblt nj.out (ca1.out _ B5) (ca2.out _ B5)))
  have B5h := Lib.hid B5
  have HR6 := Lib.hid hR6
  have HK6 := Lib.hid hK6
  have hjw := lt_blk HJ.out
  have R6 := Lib.hid ((hK6.block w.heap.size (lt_blk R5.out) (by omega)).trans R5.out)
  clear B5 hR6 hK6 P5 T4 KQ K0 S6
  go_wp2_with (first | (go_at_call 74; (with_reducible refine (OKK.out _).mono ?_); rintro e w7 ⟨rfl, h7⟩; have B7 := Lib.hid h7; clear h7; obtain ⟨⟨c0, c1, c2, c3⟩, ⟨f0, f1, f2, f3⟩⟩ := cells4 (blk_below R6.out B7.out)))
  obtain ⟨A', n', c', hJ6, hE6⟩ := HR6.out
  obtain ⟨hJ7, hE7, hK7⟩ := eff_after hJ6 hE6 HK6.out B7.out
  exact bodyPost_ret (v := .agg #[.int .i64 1, .int .i64 0, .string ⟨#[79, 75]⟩, .slice none 0 0]) (by simp [results, Tryz.results28, go_sem, c0, c1, c2, c3]) rfl (eff_end hjw (Nat.le_refl _) (lt_blk R5.out) B5h.out hJ7 hE7 hK7 _ _ _ _)
set_option maxRecDepth 100000 in
set_option maxHeartbeats 8000000 in
theorem setL_o6 (W0 : World) (bS bM : Nat) (l : MapT.Ents) (k v : ByteArray) (hk1 : 1 ≤ k.size) (hk : k.size ≤ 512) (hv : v.size ≤ 4096) (xs0 : List ByteArray) (AL : Option Addr) (cL : Nat) (hx0 : xs0 ≠ []) (hxn : xs0.length ≤ 1000000) (hTR : TR W0 (.slice AL xs0.length cL) xs0) (u : Int) (hu0 : 0 ≤ u) (hu1 : u ≤ 1125899906842624) (hf : MapT.find k l = some (.agg #[.string k, .int .i64 2, .string ⟨#[]⟩, .slice AL xs0.length cL, .slice none 0 0, .slice none 0 0, .slice none 0 0, .int .i64 u])) (hl : Lives u 1) : CmdOk W0 28 bS bM l 1 [⟨#[83, 69, 84]⟩, k, v, ⟨#[120, 120]⟩, ⟨#[107, 101, 101, 112, 116, 116, 108]⟩] 1 0 ⟨#[79, 75]⟩ R0 [⟨k, 1, v, u⟩] := by
  intro w j vA hW hS hj hA
  have A1 := Lib.hid (alloc_old (w := w) (o := .cells #[.int .i64 0, .int .i64 0, .string ⟨#[]⟩, .slice none 0 0] 37))
  have hr := Lib.hid (heap_alloc_new w (.cells #[.int .i64 0, .int .i64 0, .string ⟨#[]⟩, .slice none 0 0] 37))
  obtain ⟨aA, cap, hv, p1, p2, p3⟩ := hA
  replace hv : vA = .slice aA 5 cap := hv
  subst hv
  replace p1 : 5 ≤ cap := p1
  obtain ⟨blk, off, rfl, hblt, hc⟩ := p3 (by simp)
  have ca1 := Lib.hid (show ∀ Y, Below w.heap.size w Y → Y.cell? ⟨blk, off + 1, none⟩ = some (.string k) from fun Y hb => (hb.cell (p := ⟨blk, off + 1, none⟩) hblt).trans (hc 1 _ rfl))
  have ca2 := Lib.hid (show ∀ Y, Below w.heap.size w Y → Y.cell? ⟨blk, off + 2, none⟩ = some (.string v) from fun Y hb => (hb.cell (p := ⟨blk, off + 2, none⟩) hblt).trans (hc 2 _ rfl))
  have cj := Lib.hid (show ∀ Y, Below w.heap.size w Y → Y.cell? ⟨j, 2, none⟩ = some (.slice (some ⟨blk, off, none⟩) 5 cap) ∧ Y.cell? ⟨j, 1, none⟩ = some (.int .i64 1) from fun Y hb => ⟨(hj.below hb).cells.2.2.1, (hj.below hb).cells.2.1⟩)
  have nj := Lib.hid (ne_job_str hj (hc 1 _ rfl))
  have HJ := Lib.hid hj
  have HS := Lib.hid hS
  have hA0 : SSl w (.slice (some ⟨blk, off, none⟩) 5 cap) [⟨#[83, 69, 84]⟩, k, v, ⟨#[120, 120]⟩, ⟨#[107, 101, 101, 112, 116, 116, 108]⟩] := ⟨_, _, rfl, p1, p2, fun _ => ⟨blk, off, rfl, hblt, hc⟩⟩
  have RD := Lib.hid (read_o6 (.slice (some ⟨blk, off + 3, none⟩) 2 (cap - 3)) _ ((hA0.below A1.out).tail3 rfl (by omega)))
  have hcap : ¬ cap = 3 := by omega
  clear hA0
  have i3 : (3 : Int) ≤ (cap : Int) := by omega
  clear p3 hc
  have y2 := (cj.out _ A1.out).1
  have G := Lib.hid (fun X (hX : Below w.heap.size w X) => JGet_yesL bS bM j l k 1 _ _ u xs0 AL cL hx0 hxn hf hl X (hS.below hX) (hj.below hX) ((hTR.below hW).below hX).ssl)
  clear hj hS hTR hW
  have PU := Lib.hid (fun X (hX : Below w.heap.size w X) => Put72 j bS 1 (.slice (some ⟨blk, off, none⟩) 5 cap) none 0 0 [] X.heap.size X (HJ.out.below hX) (EF.nil _ _) (Nat.le_refl _) (by simp) k v hk1 hk hv u (by omega) (by omega))
  have OKK := Lib.hid (fun w => OK74 w)
  have TX := Lib.hid (fun w => text73 v w)
  go_enter Tryz.func28, Tryz.ntmps28
  go_wp2_with (first | (go_at_call 68; (with_reducible refine (RD.out).mono ?_); rintro e w1 ⟨rfl, h1⟩; have B1 := Lib.hid (A1.out.trans (h1.mono (Below.size A1.out))); have R1 := Lib.hid (blk_below hr.out h1); clear h1; refine Hid.out ?_))
  refine Lib.hid ?_
  have o1 := Lib.hid (heap_alloc_new w1 (.cells #[.int .i64 0, .bool false, .bool true, .bool true, .bool true] 108))
  have B2 := Lib.hid (show Below w.heap.size w (w1.alloc (.cells #[.int .i64 0, .bool false, .bool true, .bool true, .bool true] 108)) from B1.out.trans (alloc_old.mono (Below.size B1.out)))
  have G1 := Lib.hid (G.out _ B2.out)
  have y2 := (cj.out _ B2.out).1
  have z1 := ca1.out _ B2.out
  obtain ⟨⟨o0, o1c, o2, o3, o4⟩, _⟩ := cells5 o1.out
  go_wp2_with (first | (go_at_call 70; (with_reducible refine (G1.out).mono ?_); rintro e w3 ⟨gL, CL, rfl, hTL, hgL, h3⟩; clear hTL hgL; have B3 := Lib.hid (B2.out.trans (h3.mono (Below.size B2.out))); have O3 := Lib.hid (blk_below o1.out h3); have R3 := Lib.hid (blk_below R1.out (belA (Below.refl _ _) h3)); clear h3; refine Hid.out ?_))
  refine Lib.hid ?_
  clear o0 o1c o2 o3 o4 y2 z1
  have B4 := Lib.hid (show Below w.heap.size w (w3.alloc (.cells #[.string k, .int .i64 2, .string ⟨#[]⟩, .slice (some ⟨gL, 0, none⟩) xs0.length CL, .slice none 0 0, .slice none 0 0, .slice none 0 0, .int .i64 u] 33)) from B3.out.trans (alloc_old.mono (Below.size B3.out)))
  have O4 := Lib.hid (blk_below O3.out (alloc_old (o := .cells #[.string k, .int .i64 2, .string ⟨#[]⟩, .slice (some ⟨gL, 0, none⟩) xs0.length CL, .slice none 0 0, .slice none 0 0, .slice none 0 0, .int .i64 u] 33)))
  have R4 := Lib.hid (blk_below R3.out (alloc_old (o := .cells #[.string k, .int .i64 2, .string ⟨#[]⟩, .slice (some ⟨gL, 0, none⟩) xs0.length CL, .slice none 0 0, .slice none 0 0, .slice none 0 0, .int .i64 u] 33)))
  obtain ⟨⟨o0, o1c, o2, o3, o4⟩, _⟩ := cells5 O4.out
  have E4 := heap_alloc_new w3 (.cells #[.string k, .int .i64 2, .string ⟨#[]⟩, .slice (some ⟨gL, 0, none⟩) xs0.length CL, .slice none 0 0, .slice none 0 0, .slice none 0 0, .int .i64 u] 33)
  obtain ⟨⟨e0, e1, e2, e3, e4, e5, e6, e7⟩, _, ez⟩ := cells8 E4
  clear ez E4
  go_wp2
  clear o0 o1c o2 o3 o4 e0 e1 e2 e3 e4 e5 e6 e7
  generalize (w3.alloc (.cells #[.string k, .int .i64 2, .string ⟨#[]⟩, .slice (some ⟨gL, 0, none⟩) xs0.length CL, .slice none 0 0, .slice none 0 0, .slice none 0 0, .int .i64 u] 33)) = w4 at B4 R4 O4 ⊢
  have KQ := Lib.hid (show ∀ X, Below w.heap.size w X → (X.cell? ⟨j, 2, none⟩ = some (.slice (some ⟨blk, off, none⟩) 5 cap) ∧ X.cell? ⟨blk, off + 1, none⟩ = some (.string k) ∧ X.cell? ⟨blk, off + 2, none⟩ = some (.string v)) from fun X hb => ⟨(cj.out X hb).1, ca1.out X hb, ca2.out X hb⟩)
  have K0 := Lib.hid (KQ.out w4.drew B4.out.drew)
  have T4 := Lib.hid (TX.out w4.drew)
  go_region_held3 (fun X => X.cell? ⟨j, 2, none⟩ = some (.slice (some ⟨blk, off, none⟩) 5 cap) ∧ X.cell? ⟨blk, off + 1, none⟩ = some (.string k) ∧ X.cell? ⟨blk, off + 2, none⟩ = some (.string v)) (first | assumption | (with_reducible exact K0.out) | (with_reducible exact KQ.out _ (by assumption))) (first | (go_at_call 73; (with_reducible refine (T4.out).mono ?_); rintro e w5 ⟨rfl, h5⟩; have B5 : Below w.heap.size w w5 := B4.out.trans ((belT (Below.refl w4.heap.size w4).drew h5).mono (Below.size B4.out)); have R5 := Lib.hid (blk_below R4.out (belT (Below.refl w4.heap.size w4).drew h5)); clear h5; have P5 := Lib.hid (PU.out w5 B5)) | (go_at_call 72; (with_reducible refine (P5.out).mono ?_); rintro e w6 ⟨rfl, hR6, hK6⟩; have S6 := set_keep B5 hK6 hR6 hblt nj.out (ca1.out _ B5) (ca2.out _ B5)))
  have B5h := Lib.hid B5
  have HR6 := Lib.hid hR6
  have HK6 := Lib.hid hK6
  have hjw := lt_blk HJ.out
  have R6 := Lib.hid ((hK6.block w.heap.size (lt_blk R5.out) (by omega)).trans R5.out)
  clear B5 hR6 hK6 P5 T4 KQ K0 S6
  go_wp2_with (first | (go_at_call 74; (with_reducible refine (OKK.out _).mono ?_); rintro e w7 ⟨rfl, h7⟩; have B7 := Lib.hid h7; clear h7; obtain ⟨⟨c0, c1, c2, c3⟩, ⟨f0, f1, f2, f3⟩⟩ := cells4 (blk_below R6.out B7.out)))
  obtain ⟨A', n', c', hJ6, hE6⟩ := HR6.out
  obtain ⟨hJ7, hE7, hK7⟩ := eff_after hJ6 hE6 HK6.out B7.out
  exact bodyPost_ret (v := .agg #[.int .i64 1, .int .i64 0, .string ⟨#[79, 75]⟩, .slice none 0 0]) (by simp [results, Tryz.results28, go_sem, c0, c1, c2, c3]) rfl (eff_end hjw (Nat.le_refl _) (lt_blk R5.out) B5h.out hJ7 hE7 hK7 _ _ _ _)
set_option maxRecDepth 100000 in
set_option maxHeartbeats 8000000 in
theorem setF_o7 (W0 : World) (bS bM : Nat) (l : MapT.Ents) (k v : ByteArray) : CmdFail W0 28 bS bM l 1 [⟨#[83, 69, 84]⟩, k, v, ⟨#[78, 88]⟩, ⟨#[88, 88]⟩] 5 := by
  intro w j vA hW hS hj hA
  have A1 := Lib.hid (alloc_old (w := w) (o := .cells #[.int .i64 0, .int .i64 0, .string ⟨#[]⟩, .slice none 0 0] 37))
  have hr := Lib.hid (heap_alloc_new w (.cells #[.int .i64 0, .int .i64 0, .string ⟨#[]⟩, .slice none 0 0] 37))
  obtain ⟨aA, cap, hv, p1, p2, p3⟩ := hA
  replace hv : vA = .slice aA 5 cap := hv
  subst hv
  replace p1 : 5 ≤ cap := p1
  obtain ⟨blk, off, rfl, hblt, hc⟩ := p3 (by simp)
  have cj := Lib.hid (show ∀ Y, Below w.heap.size w Y → Y.cell? ⟨j, 2, none⟩ = some (.slice (some ⟨blk, off, none⟩) 5 cap) ∧ Y.cell? ⟨j, 1, none⟩ = some (.int .i64 1) from fun Y hb => ⟨(hj.below hb).cells.2.2.1, (hj.below hb).cells.2.1⟩)
  have hA0 : SSl w (.slice (some ⟨blk, off, none⟩) 5 cap) [⟨#[83, 69, 84]⟩, k, v, ⟨#[78, 88]⟩, ⟨#[88, 88]⟩] := ⟨_, _, rfl, p1, p2, fun _ => ⟨blk, off, rfl, hblt, hc⟩⟩
  have RD := Lib.hid (read_o7 (.slice (some ⟨blk, off + 3, none⟩) 2 (cap - 3)) _ ((hA0.below A1.out).tail3 rfl (by omega)))
  have hcap : ¬ cap = 3 := by omega
  clear hA0
  have i3 : (3 : Int) ≤ (cap : Int) := by omega
  have hcc := hc
  clear p3 hc
  have y2 := (cj.out _ A1.out).1
  have FA := Lib.hid (fun X => Fail69 5 X)
  clear hj hS hcc hW
  go_enter Tryz.func28, Tryz.ntmps28
  go_wp2_with (first | (go_at_call 68; (with_reducible refine (RD.out).mono ?_); rintro e w1 ⟨rfl, h1⟩; have B1 := Lib.hid (A1.out.trans (h1.mono (Below.size A1.out))); have R1 := Lib.hid (blk_below hr.out h1); clear h1; refine Hid.out ?_))
  refine Lib.hid ?_
  have o1 := Lib.hid (heap_alloc_new w1 (.cells #[.int .i64 0, .bool true, .bool true, .bool false, .bool false] 108))
  obtain ⟨⟨o0, o1c, o2, o3, o4⟩, _⟩ := cells5 o1.out
  have B2 := Lib.hid (show Below w.heap.size w (w1.alloc (.cells #[.int .i64 0, .bool true, .bool true, .bool false, .bool false] 108)) from B1.out.trans (alloc_old.mono (Below.size B1.out)))
  go_wp2_with (first | (go_at_call 69; (with_reducible refine (FA.out _).mono ?_); rintro e w6 ⟨rfl, hh⟩; have BX := Lib.hid (B2.out.trans (hh.mono (Below.size B2.out))); clear hh))
  exact ⟨rfl, rfl, .of BX.out⟩
set_option maxRecDepth 100000 in
set_option maxHeartbeats 8000000 in
theorem setF_o8 (W0 : World) (bS bM : Nat) (l : MapT.Ents) (k v : ByteArray) : CmdFail W0 28 bS bM l 1 [⟨#[83, 69, 84]⟩, k, v, ⟨#[80, 88]⟩, ⟨#[49]⟩, ⟨#[75, 69, 69, 80, 84, 84, 76]⟩] 5 := by
  intro w j vA hW hS hj hA
  have A1 := Lib.hid (alloc_old (w := w) (o := .cells #[.int .i64 0, .int .i64 0, .string ⟨#[]⟩, .slice none 0 0] 37))
  have hr := Lib.hid (heap_alloc_new w (.cells #[.int .i64 0, .int .i64 0, .string ⟨#[]⟩, .slice none 0 0] 37))
  obtain ⟨aA, cap, hv, p1, p2, p3⟩ := hA
  replace hv : vA = .slice aA 6 cap := hv
  subst hv
  replace p1 : 6 ≤ cap := p1
  obtain ⟨blk, off, rfl, hblt, hc⟩ := p3 (by simp)
  have cj := Lib.hid (show ∀ Y, Below w.heap.size w Y → Y.cell? ⟨j, 2, none⟩ = some (.slice (some ⟨blk, off, none⟩) 6 cap) ∧ Y.cell? ⟨j, 1, none⟩ = some (.int .i64 1) from fun Y hb => ⟨(hj.below hb).cells.2.2.1, (hj.below hb).cells.2.1⟩)
  have hA0 : SSl w (.slice (some ⟨blk, off, none⟩) 6 cap) [⟨#[83, 69, 84]⟩, k, v, ⟨#[80, 88]⟩, ⟨#[49]⟩, ⟨#[75, 69, 69, 80, 84, 84, 76]⟩] := ⟨_, _, rfl, p1, p2, fun _ => ⟨blk, off, rfl, hblt, hc⟩⟩
  have RD := Lib.hid (read_o8 (.slice (some ⟨blk, off + 3, none⟩) 3 (cap - 3)) _ ((hA0.below A1.out).tail3 rfl (by omega)))
  have hcap : ¬ cap = 3 := by omega
  clear hA0
  have i3 : (3 : Int) ≤ (cap : Int) := by omega
  have hcc := hc
  clear p3 hc
  have y2 := (cj.out _ A1.out).1
  have FA := Lib.hid (fun X => Fail69 5 X)
  clear hj hS hcc hW
  go_enter Tryz.func28, Tryz.ntmps28
  go_wp2_with (first | (go_at_call 68; (with_reducible refine (RD.out).mono ?_); rintro e w1 ⟨rfl, h1⟩; have B1 := Lib.hid (A1.out.trans (h1.mono (Below.size A1.out))); have R1 := Lib.hid (blk_below hr.out h1); clear h1; refine Hid.out ?_))
  refine Lib.hid ?_
  have o1 := Lib.hid (heap_alloc_new w1 (.cells #[.int .i64 1, .bool false, .bool false, .bool true, .bool false] 108))
  obtain ⟨⟨o0, o1c, o2, o3, o4⟩, _⟩ := cells5 o1.out
  have B2 := Lib.hid (show Below w.heap.size w (w1.alloc (.cells #[.int .i64 1, .bool false, .bool false, .bool true, .bool false] 108)) from B1.out.trans (alloc_old.mono (Below.size B1.out)))
  go_wp2_with (first | (go_at_call 69; (with_reducible refine (FA.out _).mono ?_); rintro e w6 ⟨rfl, hh⟩; have BX := Lib.hid (B2.out.trans (hh.mono (Below.size B2.out))); clear hh))
  exact ⟨rfl, rfl, .of BX.out⟩
set_option maxRecDepth 100000 in
set_option maxHeartbeats 8000000 in
theorem setF_o9 (W0 : World) (bS bM : Nat) (l : MapT.Ents) (k v : ByteArray) : CmdFail W0 28 bS bM l 1 [⟨#[83, 69, 84]⟩, k, v, ⟨#[80, 88]⟩] 5 := by
  intro w j vA hW hS hj hA
  have A1 := Lib.hid (alloc_old (w := w) (o := .cells #[.int .i64 0, .int .i64 0, .string ⟨#[]⟩, .slice none 0 0] 37))
  have hr := Lib.hid (heap_alloc_new w (.cells #[.int .i64 0, .int .i64 0, .string ⟨#[]⟩, .slice none 0 0] 37))
  obtain ⟨aA, cap, hv, p1, p2, p3⟩ := hA
  replace hv : vA = .slice aA 4 cap := hv
  subst hv
  replace p1 : 4 ≤ cap := p1
  obtain ⟨blk, off, rfl, hblt, hc⟩ := p3 (by simp)
  have cj := Lib.hid (show ∀ Y, Below w.heap.size w Y → Y.cell? ⟨j, 2, none⟩ = some (.slice (some ⟨blk, off, none⟩) 4 cap) ∧ Y.cell? ⟨j, 1, none⟩ = some (.int .i64 1) from fun Y hb => ⟨(hj.below hb).cells.2.2.1, (hj.below hb).cells.2.1⟩)
  have hA0 : SSl w (.slice (some ⟨blk, off, none⟩) 4 cap) [⟨#[83, 69, 84]⟩, k, v, ⟨#[80, 88]⟩] := ⟨_, _, rfl, p1, p2, fun _ => ⟨blk, off, rfl, hblt, hc⟩⟩
  have RD := Lib.hid (read_o9 (.slice (some ⟨blk, off + 3, none⟩) 1 (cap - 3)) _ ((hA0.below A1.out).tail3 rfl (by omega)))
  have hcap : ¬ cap = 3 := by omega
  clear hA0
  have i3 : (3 : Int) ≤ (cap : Int) := by omega
  have hcc := hc
  clear p3 hc
  have y2 := (cj.out _ A1.out).1
  have FA := Lib.hid (fun X => Fail69 5 X)
  clear hj hS hcc hW
  go_enter Tryz.func28, Tryz.ntmps28
  go_wp2_with (first | (go_at_call 68; (with_reducible refine (RD.out).mono ?_); rintro e w1 ⟨rfl, h1⟩; have B1 := Lib.hid (A1.out.trans (h1.mono (Below.size A1.out))); have R1 := Lib.hid (blk_below hr.out h1); clear h1; refine Hid.out ?_))
  refine Lib.hid ?_
  have o1 := Lib.hid (heap_alloc_new w1 (.cells #[.int .i64 1, .bool false, .bool false, .bool false, .bool false] 108))
  obtain ⟨⟨o0, o1c, o2, o3, o4⟩, _⟩ := cells5 o1.out
  have B2 := Lib.hid (show Below w.heap.size w (w1.alloc (.cells #[.int .i64 1, .bool false, .bool false, .bool false, .bool false] 108)) from B1.out.trans (alloc_old.mono (Below.size B1.out)))
  go_wp2_with (first | (go_at_call 69; (with_reducible refine (FA.out _).mono ?_); rintro e w6 ⟨rfl, hh⟩; have BX := Lib.hid (B2.out.trans (hh.mono (Below.size B2.out))); clear hh))
  exact ⟨rfl, rfl, .of BX.out⟩
set_option maxRecDepth 100000 in
set_option maxHeartbeats 8000000 in
theorem setF_o12 (W0 : World) (bS bM : Nat) (l : MapT.Ents) (k v : ByteArray) : CmdFail W0 28 bS bM l 1 [⟨#[83, 69, 84]⟩, k, v, ⟨#[69, 88]⟩, ⟨#[49]⟩] 5 := by
  intro w j vA hW hS hj hA
  have A1 := Lib.hid (alloc_old (w := w) (o := .cells #[.int .i64 0, .int .i64 0, .string ⟨#[]⟩, .slice none 0 0] 37))
  have hr := Lib.hid (heap_alloc_new w (.cells #[.int .i64 0, .int .i64 0, .string ⟨#[]⟩, .slice none 0 0] 37))
  obtain ⟨aA, cap, hv, p1, p2, p3⟩ := hA
  replace hv : vA = .slice aA 5 cap := hv
  subst hv
  replace p1 : 5 ≤ cap := p1
  obtain ⟨blk, off, rfl, hblt, hc⟩ := p3 (by simp)
  have cj := Lib.hid (show ∀ Y, Below w.heap.size w Y → Y.cell? ⟨j, 2, none⟩ = some (.slice (some ⟨blk, off, none⟩) 5 cap) ∧ Y.cell? ⟨j, 1, none⟩ = some (.int .i64 1) from fun Y hb => ⟨(hj.below hb).cells.2.2.1, (hj.below hb).cells.2.1⟩)
  have hA0 : SSl w (.slice (some ⟨blk, off, none⟩) 5 cap) [⟨#[83, 69, 84]⟩, k, v, ⟨#[69, 88]⟩, ⟨#[49]⟩] := ⟨_, _, rfl, p1, p2, fun _ => ⟨blk, off, rfl, hblt, hc⟩⟩
  have RD := Lib.hid (read_o12 (.slice (some ⟨blk, off + 3, none⟩) 2 (cap - 3)) _ ((hA0.below A1.out).tail3 rfl (by omega)))
  have hcap : ¬ cap = 3 := by omega
  clear hA0
  have i3 : (3 : Int) ≤ (cap : Int) := by omega
  have hcc := hc
  clear p3 hc
  have y2 := (cj.out _ A1.out).1
  have FA := Lib.hid (fun X => Fail69 5 X)
  clear hj hS hcc hW
  go_enter Tryz.func28, Tryz.ntmps28
  go_wp2_with (first | (go_at_call 68; (with_reducible refine (RD.out).mono ?_); rintro e w1 ⟨rfl, h1⟩; have B1 := Lib.hid (A1.out.trans (h1.mono (Below.size A1.out))); have R1 := Lib.hid (blk_below hr.out h1); clear h1; refine Hid.out ?_))
  refine Lib.hid ?_
  have o1 := Lib.hid (heap_alloc_new w1 (.cells #[.int .i64 0, .bool false, .bool false, .bool false, .bool false] 108))
  obtain ⟨⟨o0, o1c, o2, o3, o4⟩, _⟩ := cells5 o1.out
  have B2 := Lib.hid (show Below w.heap.size w (w1.alloc (.cells #[.int .i64 0, .bool false, .bool false, .bool false, .bool false] 108)) from B1.out.trans (alloc_old.mono (Below.size B1.out)))
  go_wp2_with (first | (go_at_call 69; (with_reducible refine (FA.out _).mono ?_); rintro e w6 ⟨rfl, hh⟩; have BX := Lib.hid (B2.out.trans (hh.mono (Below.size B2.out))); clear hh))
  exact ⟨rfl, rfl, .of BX.out⟩
set_option maxRecDepth 100000 in
set_option maxHeartbeats 8000000 in
theorem setF_o10N (W0 : World) (bS bM : Nat) (l : MapT.Ents) (k v : ByteArray) (hf : MapT.find k l = none) : CmdFail W0 28 bS bM l 1 [⟨#[83, 69, 84]⟩, k, v, ⟨#[80, 88]⟩, ⟨#[48]⟩] 7 := by
  intro w j vA hW hS hj hA
  have A1 := Lib.hid (alloc_old (w := w) (o := .cells #[.int .i64 0, .int .i64 0, .string ⟨#[]⟩, .slice none 0 0] 37))
  have hr := Lib.hid (heap_alloc_new w (.cells #[.int .i64 0, .int .i64 0, .string ⟨#[]⟩, .slice none 0 0] 37))
  obtain ⟨aA, cap, hv, p1, p2, p3⟩ := hA
  replace hv : vA = .slice aA 5 cap := hv
  subst hv
  replace p1 : 5 ≤ cap := p1
  obtain ⟨blk, off, rfl, hblt, hc⟩ := p3 (by simp)
  have ca1 := Lib.hid (show ∀ Y, Below w.heap.size w Y → Y.cell? ⟨blk, off + 1, none⟩ = some (.string k) from fun Y hb => (hb.cell (p := ⟨blk, off + 1, none⟩) hblt).trans (hc 1 _ rfl))
  have cj := Lib.hid (show ∀ Y, Below w.heap.size w Y → Y.cell? ⟨j, 2, none⟩ = some (.slice (some ⟨blk, off, none⟩) 5 cap) ∧ Y.cell? ⟨j, 1, none⟩ = some (.int .i64 1) from fun Y hb => ⟨(hj.below hb).cells.2.2.1, (hj.below hb).cells.2.1⟩)
  have HJ := Lib.hid hj
  have HS := Lib.hid hS
  have hA0 : SSl w (.slice (some ⟨blk, off, none⟩) 5 cap) [⟨#[83, 69, 84]⟩, k, v, ⟨#[80, 88]⟩, ⟨#[48]⟩] := ⟨_, _, rfl, p1, p2, fun _ => ⟨blk, off, rfl, hblt, hc⟩⟩
  have RD := Lib.hid (read_o10 (.slice (some ⟨blk, off + 3, none⟩) 2 (cap - 3)) _ ((hA0.below A1.out).tail3 rfl (by omega)))
  have hcap : ¬ cap = 3 := by omega
  clear hA0
  have i3 : (3 : Int) ≤ (cap : Int) := by omega
  have hcc := hc
  clear p3 hc
  have y2 := (cj.out _ A1.out).1
  have G := Lib.hid (fun X (hX : Below w.heap.size w X) => JGet_no bS bM j l k 1 _ _ hf X (hS.below hX) (hj.below hX))
  have JI := Lib.hid (fun X (hX : Below w.heap.size w X) => show Calls Tryz.prog 71 #[.pointer (some ⟨j, 0, none⟩), .int .i64 4] X (fun e w' => e = .returned (.int .i64 0) ∧ Below X.heap.size X w') from JInt_ok j bS 1 _ _ [⟨#[83, 69, 84]⟩, k, v, ⟨#[80, 88]⟩, ⟨#[48]⟩] 4 ⟨#[48]⟩ 0 (by decide) (by kernel_rfl) rfl X (hj.below hX) ((show SSl w (.slice (some ⟨blk, off, none⟩) 5 cap) [⟨#[83, 69, 84]⟩, k, v, ⟨#[80, 88]⟩, ⟨#[48]⟩] from ⟨_, _, rfl, p1, p2, fun _ => ⟨blk, off, rfl, hblt, hcc⟩⟩).below hX))
  have FA := Lib.hid (fun X => Fail69 7 X)
  clear hj hS hcc hW
  go_enter Tryz.func28, Tryz.ntmps28
  go_wp2_with (first | (go_at_call 68; (with_reducible refine (RD.out).mono ?_); rintro e w1 ⟨rfl, h1⟩; have B1 := Lib.hid (A1.out.trans (h1.mono (Below.size A1.out))); have R1 := Lib.hid (blk_below hr.out h1); clear h1; refine Hid.out ?_))
  refine Lib.hid ?_
  have o1 := Lib.hid (heap_alloc_new w1 (.cells #[.int .i64 1, .bool false, .bool false, .bool false, .bool true] 108))
  have B2 := Lib.hid (show Below w.heap.size w (w1.alloc (.cells #[.int .i64 1, .bool false, .bool false, .bool false, .bool true] 108)) from B1.out.trans (alloc_old.mono (Below.size B1.out)))
  have G1 := Lib.hid (G.out _ B2.out)
  have y2 := (cj.out _ B2.out).1
  have z1 := ca1.out _ B2.out
  obtain ⟨⟨o0, o1c, o2, o3, o4⟩, _⟩ := cells5 o1.out
  go_wp2_with (first | (go_at_call 70; (with_reducible refine (G1.out).mono ?_); rintro e w3 ⟨rfl, h3⟩; have B3 := Lib.hid (B2.out.trans (h3.mono (Below.size B2.out))); have O3 := Lib.hid (blk_below o1.out h3); have R3 := Lib.hid (blk_below R1.out (belA (Below.refl _ _) h3)); clear h3; refine Hid.out ?_))
  refine Lib.hid ?_
  clear o0 o1c o2 o3 o4 y2 z1
  have B4 := Lib.hid (show Below w.heap.size w (w3.alloc (.cells #[.string k, .int .i64 0, .string ⟨#[]⟩, .slice none 0 0, .slice none 0 0, .slice none 0 0, .slice none 0 0, .int .i64 0] 33)) from B3.out.trans (alloc_old.mono (Below.size B3.out)))
  have O4 := Lib.hid (blk_below O3.out (alloc_old (o := .cells #[.string k, .int .i64 0, .string ⟨#[]⟩, .slice none 0 0, .slice none 0 0, .slice none 0 0, .slice none 0 0, .int .i64 0] 33)))
  have R4 := Lib.hid (blk_below R3.out (alloc_old (o := .cells #[.string k, .int .i64 0, .string ⟨#[]⟩, .slice none 0 0, .slice none 0 0, .slice none 0 0, .slice none 0 0, .int .i64 0] 33)))
  obtain ⟨⟨o0, o1c, o2, o3, o4⟩, _⟩ := cells5 O4.out
  have E4 := heap_alloc_new w3 (.cells #[.string k, .int .i64 0, .string ⟨#[]⟩, .slice none 0 0, .slice none 0 0, .slice none 0 0, .slice none 0 0, .int .i64 0] 33)
  obtain ⟨⟨e0, e1, e2, e3, e4, e5, e6, e7⟩, _, ez⟩ := cells8 E4
  clear ez E4
  have JI4 := Lib.hid (JI.out _ B4.out)
  go_wp2_with (first | (go_at_call 71; (with_reducible refine (JI4.out).mono ?_); rintro e w4 ⟨rfl, h4⟩; have B4 := Lib.hid (B4.out.trans (h4.mono (Below.size B4.out))); clear h4) | (go_at_call 69; (with_reducible refine (FA.out _).mono ?_); rintro e w6 ⟨rfl, hh⟩; have BX := Lib.hid (B4.out.trans (hh.mono (Below.size B4.out))); clear hh))
  exact ⟨rfl, rfl, .of BX.out⟩
set_option maxRecDepth 100000 in
set_option maxHeartbeats 8000000 in
theorem setF_o10L (W0 : World) (bS bM : Nat) (l : MapT.Ents) (k v : ByteArray) (xs0 : List ByteArray) (AL : Option Addr) (cL : Nat) (hx0 : xs0 ≠ []) (hxn : xs0.length ≤ 1000000) (hTR : TR W0 (.slice AL xs0.length cL) xs0) (u : Int) (hf : MapT.find k l = some (.agg #[.string k, .int .i64 2, .string ⟨#[]⟩, .slice AL xs0.length cL, .slice none 0 0, .slice none 0 0, .slice none 0 0, .int .i64 u])) (hl : Lives u 1) : CmdFail W0 28 bS bM l 1 [⟨#[83, 69, 84]⟩, k, v, ⟨#[80, 88]⟩, ⟨#[48]⟩] 7 := by
  intro w j vA hW hS hj hA
  have A1 := Lib.hid (alloc_old (w := w) (o := .cells #[.int .i64 0, .int .i64 0, .string ⟨#[]⟩, .slice none 0 0] 37))
  have hr := Lib.hid (heap_alloc_new w (.cells #[.int .i64 0, .int .i64 0, .string ⟨#[]⟩, .slice none 0 0] 37))
  obtain ⟨aA, cap, hv, p1, p2, p3⟩ := hA
  replace hv : vA = .slice aA 5 cap := hv
  subst hv
  replace p1 : 5 ≤ cap := p1
  obtain ⟨blk, off, rfl, hblt, hc⟩ := p3 (by simp)
  have ca1 := Lib.hid (show ∀ Y, Below w.heap.size w Y → Y.cell? ⟨blk, off + 1, none⟩ = some (.string k) from fun Y hb => (hb.cell (p := ⟨blk, off + 1, none⟩) hblt).trans (hc 1 _ rfl))
  have cj := Lib.hid (show ∀ Y, Below w.heap.size w Y → Y.cell? ⟨j, 2, none⟩ = some (.slice (some ⟨blk, off, none⟩) 5 cap) ∧ Y.cell? ⟨j, 1, none⟩ = some (.int .i64 1) from fun Y hb => ⟨(hj.below hb).cells.2.2.1, (hj.below hb).cells.2.1⟩)
  have HJ := Lib.hid hj
  have HS := Lib.hid hS
  have hA0 : SSl w (.slice (some ⟨blk, off, none⟩) 5 cap) [⟨#[83, 69, 84]⟩, k, v, ⟨#[80, 88]⟩, ⟨#[48]⟩] := ⟨_, _, rfl, p1, p2, fun _ => ⟨blk, off, rfl, hblt, hc⟩⟩
  have RD := Lib.hid (read_o10 (.slice (some ⟨blk, off + 3, none⟩) 2 (cap - 3)) _ ((hA0.below A1.out).tail3 rfl (by omega)))
  have hcap : ¬ cap = 3 := by omega
  clear hA0
  have i3 : (3 : Int) ≤ (cap : Int) := by omega
  have hcc := hc
  clear p3 hc
  have y2 := (cj.out _ A1.out).1
  have G := Lib.hid (fun X (hX : Below w.heap.size w X) => JGet_yesL bS bM j l k 1 _ _ u xs0 AL cL hx0 hxn hf hl X (hS.below hX) (hj.below hX) ((hTR.below hW).below hX).ssl)
  have JI := Lib.hid (fun X (hX : Below w.heap.size w X) => show Calls Tryz.prog 71 #[.pointer (some ⟨j, 0, none⟩), .int .i64 4] X (fun e w' => e = .returned (.int .i64 0) ∧ Below X.heap.size X w') from JInt_ok j bS 1 _ _ [⟨#[83, 69, 84]⟩, k, v, ⟨#[80, 88]⟩, ⟨#[48]⟩] 4 ⟨#[48]⟩ 0 (by decide) (by kernel_rfl) rfl X (hj.below hX) ((show SSl w (.slice (some ⟨blk, off, none⟩) 5 cap) [⟨#[83, 69, 84]⟩, k, v, ⟨#[80, 88]⟩, ⟨#[48]⟩] from ⟨_, _, rfl, p1, p2, fun _ => ⟨blk, off, rfl, hblt, hcc⟩⟩).below hX))
  have FA := Lib.hid (fun X => Fail69 7 X)
  clear hj hS hcc hW hTR
  go_enter Tryz.func28, Tryz.ntmps28
  go_wp2_with (first | (go_at_call 68; (with_reducible refine (RD.out).mono ?_); rintro e w1 ⟨rfl, h1⟩; have B1 := Lib.hid (A1.out.trans (h1.mono (Below.size A1.out))); have R1 := Lib.hid (blk_below hr.out h1); clear h1; refine Hid.out ?_))
  refine Lib.hid ?_
  have o1 := Lib.hid (heap_alloc_new w1 (.cells #[.int .i64 1, .bool false, .bool false, .bool false, .bool true] 108))
  have B2 := Lib.hid (show Below w.heap.size w (w1.alloc (.cells #[.int .i64 1, .bool false, .bool false, .bool false, .bool true] 108)) from B1.out.trans (alloc_old.mono (Below.size B1.out)))
  have G1 := Lib.hid (G.out _ B2.out)
  have y2 := (cj.out _ B2.out).1
  have z1 := ca1.out _ B2.out
  obtain ⟨⟨o0, o1c, o2, o3, o4⟩, _⟩ := cells5 o1.out
  go_wp2_with (first | (go_at_call 70; (with_reducible refine (G1.out).mono ?_); rintro e w3 ⟨gL, CL, rfl, hTL, hgL, h3⟩; clear hTL hgL; have B3 := Lib.hid (B2.out.trans (h3.mono (Below.size B2.out))); have O3 := Lib.hid (blk_below o1.out h3); have R3 := Lib.hid (blk_below R1.out (belA (Below.refl _ _) h3)); clear h3; refine Hid.out ?_))
  refine Lib.hid ?_
  clear o0 o1c o2 o3 o4 y2 z1
  have B4 := Lib.hid (show Below w.heap.size w (w3.alloc (.cells #[.string k, .int .i64 2, .string ⟨#[]⟩, .slice (some ⟨gL, 0, none⟩) xs0.length CL, .slice none 0 0, .slice none 0 0, .slice none 0 0, .int .i64 u] 33)) from B3.out.trans (alloc_old.mono (Below.size B3.out)))
  have O4 := Lib.hid (blk_below O3.out (alloc_old (o := .cells #[.string k, .int .i64 2, .string ⟨#[]⟩, .slice (some ⟨gL, 0, none⟩) xs0.length CL, .slice none 0 0, .slice none 0 0, .slice none 0 0, .int .i64 u] 33)))
  have R4 := Lib.hid (blk_below R3.out (alloc_old (o := .cells #[.string k, .int .i64 2, .string ⟨#[]⟩, .slice (some ⟨gL, 0, none⟩) xs0.length CL, .slice none 0 0, .slice none 0 0, .slice none 0 0, .int .i64 u] 33)))
  obtain ⟨⟨o0, o1c, o2, o3, o4⟩, _⟩ := cells5 O4.out
  have E4 := heap_alloc_new w3 (.cells #[.string k, .int .i64 2, .string ⟨#[]⟩, .slice (some ⟨gL, 0, none⟩) xs0.length CL, .slice none 0 0, .slice none 0 0, .slice none 0 0, .int .i64 u] 33)
  obtain ⟨⟨e0, e1, e2, e3, e4, e5, e6, e7⟩, _, ez⟩ := cells8 E4
  clear ez E4
  have JI4 := Lib.hid (JI.out _ B4.out)
  go_wp2_with (first | (go_at_call 71; (with_reducible refine (JI4.out).mono ?_); rintro e w4 ⟨rfl, h4⟩; have B4 := Lib.hid (B4.out.trans (h4.mono (Below.size B4.out))); clear h4) | (go_at_call 69; (with_reducible refine (FA.out _).mono ?_); rintro e w6 ⟨rfl, hh⟩; have BX := Lib.hid (B4.out.trans (hh.mono (Below.size B4.out))); clear hh))
  exact ⟨rfl, rfl, .of BX.out⟩
set_option maxRecDepth 100000 in
set_option maxHeartbeats 8000000 in
theorem setF_o11N (W0 : World) (bS bM : Nat) (l : MapT.Ents) (k v : ByteArray) (hf : MapT.find k l = none) : CmdFail W0 28 bS bM l 1 [⟨#[83, 69, 84]⟩, k, v, ⟨#[80, 88]⟩, ⟨#[120]⟩] 4 := by
  intro w j vA hW hS hj hA
  have A1 := Lib.hid (alloc_old (w := w) (o := .cells #[.int .i64 0, .int .i64 0, .string ⟨#[]⟩, .slice none 0 0] 37))
  have hr := Lib.hid (heap_alloc_new w (.cells #[.int .i64 0, .int .i64 0, .string ⟨#[]⟩, .slice none 0 0] 37))
  obtain ⟨aA, cap, hv, p1, p2, p3⟩ := hA
  replace hv : vA = .slice aA 5 cap := hv
  subst hv
  replace p1 : 5 ≤ cap := p1
  obtain ⟨blk, off, rfl, hblt, hc⟩ := p3 (by simp)
  have ca1 := Lib.hid (show ∀ Y, Below w.heap.size w Y → Y.cell? ⟨blk, off + 1, none⟩ = some (.string k) from fun Y hb => (hb.cell (p := ⟨blk, off + 1, none⟩) hblt).trans (hc 1 _ rfl))
  have cj := Lib.hid (show ∀ Y, Below w.heap.size w Y → Y.cell? ⟨j, 2, none⟩ = some (.slice (some ⟨blk, off, none⟩) 5 cap) ∧ Y.cell? ⟨j, 1, none⟩ = some (.int .i64 1) from fun Y hb => ⟨(hj.below hb).cells.2.2.1, (hj.below hb).cells.2.1⟩)
  have HJ := Lib.hid hj
  have HS := Lib.hid hS
  have hA0 : SSl w (.slice (some ⟨blk, off, none⟩) 5 cap) [⟨#[83, 69, 84]⟩, k, v, ⟨#[80, 88]⟩, ⟨#[120]⟩] := ⟨_, _, rfl, p1, p2, fun _ => ⟨blk, off, rfl, hblt, hc⟩⟩
  have RD := Lib.hid (read_o11 (.slice (some ⟨blk, off + 3, none⟩) 2 (cap - 3)) _ ((hA0.below A1.out).tail3 rfl (by omega)))
  have hcap : ¬ cap = 3 := by omega
  clear hA0
  have i3 : (3 : Int) ≤ (cap : Int) := by omega
  have hcc := hc
  clear p3 hc
  have y2 := (cj.out _ A1.out).1
  have G := Lib.hid (fun X (hX : Below w.heap.size w X) => JGet_no bS bM j l k 1 _ _ hf X (hS.below hX) (hj.below hX))
  have JI := Lib.hid (fun X (hX : Below w.heap.size w X) => show Calls Tryz.prog 71 #[.pointer (some ⟨j, 0, none⟩), .int .i64 4] X (fun e w' => e = .panicked [{ v := failV 4, recovered := false }] ∧ Below X.heap.size X w') from JInt_bad j bS 1 _ _ [⟨#[83, 69, 84]⟩, k, v, ⟨#[80, 88]⟩, ⟨#[120]⟩] 4 ⟨#[120]⟩ (by decide) (by kernel_rfl) rfl X (hj.below hX) ((show SSl w (.slice (some ⟨blk, off, none⟩) 5 cap) [⟨#[83, 69, 84]⟩, k, v, ⟨#[80, 88]⟩, ⟨#[120]⟩] from ⟨_, _, rfl, p1, p2, fun _ => ⟨blk, off, rfl, hblt, hcc⟩⟩).below hX))
  have FA := Lib.hid (fun X => Fail69 4 X)
  clear hj hS hcc hW
  go_enter Tryz.func28, Tryz.ntmps28
  go_wp2_with (first | (go_at_call 68; (with_reducible refine (RD.out).mono ?_); rintro e w1 ⟨rfl, h1⟩; have B1 := Lib.hid (A1.out.trans (h1.mono (Below.size A1.out))); have R1 := Lib.hid (blk_below hr.out h1); clear h1; refine Hid.out ?_))
  refine Lib.hid ?_
  have o1 := Lib.hid (heap_alloc_new w1 (.cells #[.int .i64 1, .bool false, .bool false, .bool false, .bool true] 108))
  have B2 := Lib.hid (show Below w.heap.size w (w1.alloc (.cells #[.int .i64 1, .bool false, .bool false, .bool false, .bool true] 108)) from B1.out.trans (alloc_old.mono (Below.size B1.out)))
  have G1 := Lib.hid (G.out _ B2.out)
  have y2 := (cj.out _ B2.out).1
  have z1 := ca1.out _ B2.out
  obtain ⟨⟨o0, o1c, o2, o3, o4⟩, _⟩ := cells5 o1.out
  go_wp2_with (first | (go_at_call 70; (with_reducible refine (G1.out).mono ?_); rintro e w3 ⟨rfl, h3⟩; have B3 := Lib.hid (B2.out.trans (h3.mono (Below.size B2.out))); have O3 := Lib.hid (blk_below o1.out h3); have R3 := Lib.hid (blk_below R1.out (belA (Below.refl _ _) h3)); clear h3; refine Hid.out ?_))
  refine Lib.hid ?_
  clear o0 o1c o2 o3 o4 y2 z1
  have B4 := Lib.hid (show Below w.heap.size w (w3.alloc (.cells #[.string k, .int .i64 0, .string ⟨#[]⟩, .slice none 0 0, .slice none 0 0, .slice none 0 0, .slice none 0 0, .int .i64 0] 33)) from B3.out.trans (alloc_old.mono (Below.size B3.out)))
  have O4 := Lib.hid (blk_below O3.out (alloc_old (o := .cells #[.string k, .int .i64 0, .string ⟨#[]⟩, .slice none 0 0, .slice none 0 0, .slice none 0 0, .slice none 0 0, .int .i64 0] 33)))
  have R4 := Lib.hid (blk_below R3.out (alloc_old (o := .cells #[.string k, .int .i64 0, .string ⟨#[]⟩, .slice none 0 0, .slice none 0 0, .slice none 0 0, .slice none 0 0, .int .i64 0] 33)))
  obtain ⟨⟨o0, o1c, o2, o3, o4⟩, _⟩ := cells5 O4.out
  have E4 := heap_alloc_new w3 (.cells #[.string k, .int .i64 0, .string ⟨#[]⟩, .slice none 0 0, .slice none 0 0, .slice none 0 0, .slice none 0 0, .int .i64 0] 33)
  obtain ⟨⟨e0, e1, e2, e3, e4, e5, e6, e7⟩, _, ez⟩ := cells8 E4
  clear ez E4
  have JI4 := Lib.hid (JI.out _ B4.out)
  go_wp2_with (first | (go_at_call 71; (with_reducible refine (JI4.out).mono ?_); rintro e w4 ⟨rfl, h4⟩; have BX := Lib.hid (B4.out.trans (h4.mono (Below.size B4.out))); clear h4))
  exact ⟨rfl, rfl, .of BX.out⟩
set_option maxRecDepth 100000 in
set_option maxHeartbeats 8000000 in
theorem setF_o11L (W0 : World) (bS bM : Nat) (l : MapT.Ents) (k v : ByteArray) (xs0 : List ByteArray) (AL : Option Addr) (cL : Nat) (hx0 : xs0 ≠ []) (hxn : xs0.length ≤ 1000000) (hTR : TR W0 (.slice AL xs0.length cL) xs0) (u : Int) (hf : MapT.find k l = some (.agg #[.string k, .int .i64 2, .string ⟨#[]⟩, .slice AL xs0.length cL, .slice none 0 0, .slice none 0 0, .slice none 0 0, .int .i64 u])) (hl : Lives u 1) : CmdFail W0 28 bS bM l 1 [⟨#[83, 69, 84]⟩, k, v, ⟨#[80, 88]⟩, ⟨#[120]⟩] 4 := by
  intro w j vA hW hS hj hA
  have A1 := Lib.hid (alloc_old (w := w) (o := .cells #[.int .i64 0, .int .i64 0, .string ⟨#[]⟩, .slice none 0 0] 37))
  have hr := Lib.hid (heap_alloc_new w (.cells #[.int .i64 0, .int .i64 0, .string ⟨#[]⟩, .slice none 0 0] 37))
  obtain ⟨aA, cap, hv, p1, p2, p3⟩ := hA
  replace hv : vA = .slice aA 5 cap := hv
  subst hv
  replace p1 : 5 ≤ cap := p1
  obtain ⟨blk, off, rfl, hblt, hc⟩ := p3 (by simp)
  have ca1 := Lib.hid (show ∀ Y, Below w.heap.size w Y → Y.cell? ⟨blk, off + 1, none⟩ = some (.string k) from fun Y hb => (hb.cell (p := ⟨blk, off + 1, none⟩) hblt).trans (hc 1 _ rfl))
  have cj := Lib.hid (show ∀ Y, Below w.heap.size w Y → Y.cell? ⟨j, 2, none⟩ = some (.slice (some ⟨blk, off, none⟩) 5 cap) ∧ Y.cell? ⟨j, 1, none⟩ = some (.int .i64 1) from fun Y hb => ⟨(hj.below hb).cells.2.2.1, (hj.below hb).cells.2.1⟩)
  have HJ := Lib.hid hj
  have HS := Lib.hid hS
  have hA0 : SSl w (.slice (some ⟨blk, off, none⟩) 5 cap) [⟨#[83, 69, 84]⟩, k, v, ⟨#[80, 88]⟩, ⟨#[120]⟩] := ⟨_, _, rfl, p1, p2, fun _ => ⟨blk, off, rfl, hblt, hc⟩⟩
  have RD := Lib.hid (read_o11 (.slice (some ⟨blk, off + 3, none⟩) 2 (cap - 3)) _ ((hA0.below A1.out).tail3 rfl (by omega)))
  have hcap : ¬ cap = 3 := by omega
  clear hA0
  have i3 : (3 : Int) ≤ (cap : Int) := by omega
  have hcc := hc
  clear p3 hc
  have y2 := (cj.out _ A1.out).1
  have G := Lib.hid (fun X (hX : Below w.heap.size w X) => JGet_yesL bS bM j l k 1 _ _ u xs0 AL cL hx0 hxn hf hl X (hS.below hX) (hj.below hX) ((hTR.below hW).below hX).ssl)
  have JI := Lib.hid (fun X (hX : Below w.heap.size w X) => show Calls Tryz.prog 71 #[.pointer (some ⟨j, 0, none⟩), .int .i64 4] X (fun e w' => e = .panicked [{ v := failV 4, recovered := false }] ∧ Below X.heap.size X w') from JInt_bad j bS 1 _ _ [⟨#[83, 69, 84]⟩, k, v, ⟨#[80, 88]⟩, ⟨#[120]⟩] 4 ⟨#[120]⟩ (by decide) (by kernel_rfl) rfl X (hj.below hX) ((show SSl w (.slice (some ⟨blk, off, none⟩) 5 cap) [⟨#[83, 69, 84]⟩, k, v, ⟨#[80, 88]⟩, ⟨#[120]⟩] from ⟨_, _, rfl, p1, p2, fun _ => ⟨blk, off, rfl, hblt, hcc⟩⟩).below hX))
  have FA := Lib.hid (fun X => Fail69 4 X)
  clear hj hS hcc hW hTR
  go_enter Tryz.func28, Tryz.ntmps28
  go_wp2_with (first | (go_at_call 68; (with_reducible refine (RD.out).mono ?_); rintro e w1 ⟨rfl, h1⟩; have B1 := Lib.hid (A1.out.trans (h1.mono (Below.size A1.out))); have R1 := Lib.hid (blk_below hr.out h1); clear h1; refine Hid.out ?_))
  refine Lib.hid ?_
  have o1 := Lib.hid (heap_alloc_new w1 (.cells #[.int .i64 1, .bool false, .bool false, .bool false, .bool true] 108))
  have B2 := Lib.hid (show Below w.heap.size w (w1.alloc (.cells #[.int .i64 1, .bool false, .bool false, .bool false, .bool true] 108)) from B1.out.trans (alloc_old.mono (Below.size B1.out)))
  have G1 := Lib.hid (G.out _ B2.out)
  have y2 := (cj.out _ B2.out).1
  have z1 := ca1.out _ B2.out
  obtain ⟨⟨o0, o1c, o2, o3, o4⟩, _⟩ := cells5 o1.out
  go_wp2_with (first | (go_at_call 70; (with_reducible refine (G1.out).mono ?_); rintro e w3 ⟨gL, CL, rfl, hTL, hgL, h3⟩; clear hTL hgL; have B3 := Lib.hid (B2.out.trans (h3.mono (Below.size B2.out))); have O3 := Lib.hid (blk_below o1.out h3); have R3 := Lib.hid (blk_below R1.out (belA (Below.refl _ _) h3)); clear h3; refine Hid.out ?_))
  refine Lib.hid ?_
  clear o0 o1c o2 o3 o4 y2 z1
  have B4 := Lib.hid (show Below w.heap.size w (w3.alloc (.cells #[.string k, .int .i64 2, .string ⟨#[]⟩, .slice (some ⟨gL, 0, none⟩) xs0.length CL, .slice none 0 0, .slice none 0 0, .slice none 0 0, .int .i64 u] 33)) from B3.out.trans (alloc_old.mono (Below.size B3.out)))
  have O4 := Lib.hid (blk_below O3.out (alloc_old (o := .cells #[.string k, .int .i64 2, .string ⟨#[]⟩, .slice (some ⟨gL, 0, none⟩) xs0.length CL, .slice none 0 0, .slice none 0 0, .slice none 0 0, .int .i64 u] 33)))
  have R4 := Lib.hid (blk_below R3.out (alloc_old (o := .cells #[.string k, .int .i64 2, .string ⟨#[]⟩, .slice (some ⟨gL, 0, none⟩) xs0.length CL, .slice none 0 0, .slice none 0 0, .slice none 0 0, .int .i64 u] 33)))
  obtain ⟨⟨o0, o1c, o2, o3, o4⟩, _⟩ := cells5 O4.out
  have E4 := heap_alloc_new w3 (.cells #[.string k, .int .i64 2, .string ⟨#[]⟩, .slice (some ⟨gL, 0, none⟩) xs0.length CL, .slice none 0 0, .slice none 0 0, .slice none 0 0, .int .i64 u] 33)
  obtain ⟨⟨e0, e1, e2, e3, e4, e5, e6, e7⟩, _, ez⟩ := cells8 E4
  clear ez E4
  have JI4 := Lib.hid (JI.out _ B4.out)
  go_wp2_with (first | (go_at_call 71; (with_reducible refine (JI4.out).mono ?_); rintro e w4 ⟨rfl, h4⟩; have BX := Lib.hid (B4.out.trans (h4.mono (Below.size B4.out))); clear h4))
  exact ⟨rfl, rfl, .of BX.out⟩
end Go.Proofs.YtaomiglmahklfaaGreatDoor
