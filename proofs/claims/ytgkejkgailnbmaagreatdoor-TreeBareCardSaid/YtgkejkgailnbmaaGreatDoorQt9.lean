/- Texts joined: P6x -/
import Derived.Test.YtgkejkgailnbmaaGreatDoorQt6
set_option linter.unusedVariables false
set_option linter.unusedSimpArgs false
namespace Go.Proofs.YtgkejkgailnbmaaGreatDoor
open Lib (hid)
open Go.ChangeShapes Go.WideShapes Go.ChangeAt Go.RowKit TP
set_option maxRecDepth 100000 in
set_option maxHeartbeats 8000000 in
theorem level2_is (E : Env) (hE : E.Ok) (d : Int) (F : St → R) (hG : TP.Good E.ts F) (hL : ExC E 68 #[.int .i64 3, .int .i64 d] F) : ExC E 68 #[.int .i64 2, .int .i64 d] (bin E.ts F 2) := by
 intro s w hi h
 have A1 := hid (alloc_old (w := w) (o := .cells #[.int .i64 0, .int .i64 0, .int .i64 0, .string ⟨#[]⟩, .int .i64 0, .slice none 0 0, .slice none 0 0] 38))
 have r1 := hid (heap_alloc_new w (.cells #[.int .i64 0, .int .i64 0, .int .i64 0, .string ⟨#[]⟩, .int .i64 0, .slice none 0 0, .slice none 0 0] 38))
 have hlp := hid (And.intro h.lt h.2.1)
 by_cases h0 : s.c = 0
 ·have e0 : bin E.ts F 2 s = binLoop E.ts F 2 (E.ts.length + 1) (F s).1 (F s).2 := by unfold bin; rw [if_neg (fun e => e h0)]
  rw [e0]
  clear e0
  obtain ⟨R0, hR0⟩ : ∃ R0, binLoop E.ts F 2 (E.ts.length + 1) (F s).1 (F s).2 = R0 := ⟨_, rfl⟩
  rw [hR0]
  have HR0 := hid hR0
  clear hR0
  have PA := hid (h.below A1.out)
  obtain ⟨_, _, _, c2, _⟩ := PA.out.cells
  rw [h0] at c2
  have B13 := hid (show Below w.heap.size w (((((((((((((w.alloc (.cells #[.int .i64 0, .int .i64 0, .int .i64 0, .string ⟨#[]⟩, .int .i64 0, .slice none 0 0, .slice none 0 0] 38)).alloc (.cells #[.string ⟨#[111, 114]⟩] 9)).alloc (.cells #[.string ⟨#[97, 110, 100]⟩] 9)).alloc (.cells #[.string ⟨#[61, 61]⟩, .string ⟨#[126, 61]⟩, .string ⟨#[60]⟩, .string ⟨#[60, 61]⟩, .string ⟨#[62]⟩, .string ⟨#[62, 61]⟩] 9)).alloc (.cells #[.string ⟨#[43]⟩, .string ⟨#[45]⟩] 9)).alloc (.cells #[.string ⟨#[42]⟩, .string ⟨#[47, 47]⟩, .string ⟨#[37]⟩] 9)).alloc (.cells #[.slice (some ⟨w.heap.size + 1, 0, none⟩) 1 1, .slice (some ⟨w.heap.size + 1 + 1, 0, none⟩) 1 1, .slice (some ⟨w.heap.size + 1 + 1 + 1, 0, none⟩) 6 6, .slice none 0 0, .slice (some ⟨w.heap.size + 1 + 1 + 1 + 1, 0, none⟩) 2 2, .slice (some ⟨w.heap.size + 1 + 1 + 1 + 1 + 1, 0, none⟩) 3 3] 30)).alloc (.cells #[.int .i64 0] 3)).alloc (.cells #[.int .i64 0] 3)).alloc (.cells #[.int .i64 7, .int .i64 8, .int .i64 9, .int .i64 10, .int .i64 11, .int .i64 12] 3)).alloc (.cells #[.int .i64 1, .int .i64 2] 3)).alloc (.cells #[.int .i64 3, .int .i64 4, .int .i64 5] 3)).alloc (.cells #[.slice (some ⟨w.heap.size + 1 + 1 + 1 + 1 + 1 + 1 + 1, 0, none⟩) 1 1, .slice (some ⟨w.heap.size + 1 + 1 + 1 + 1 + 1 + 1 + 1 + 1, 0, none⟩) 1 1, .slice (some ⟨w.heap.size + 1 + 1 + 1 + 1 + 1 + 1 + 1 + 1 + 1, 0, none⟩) 6 6, .slice none 0 0, .slice (some ⟨w.heap.size + 1 + 1 + 1 + 1 + 1 + 1 + 1 + 1 + 1 + 1, 0, none⟩) 2 2, .slice (some ⟨w.heap.size + 1 + 1 + 1 + 1 + 1 + 1 + 1 + 1 + 1 + 1 + 1, 0, none⟩) 3 3] 114)) from allocs_below [.cells #[.int .i64 0, .int .i64 0, .int .i64 0, .string ⟨#[]⟩, .int .i64 0, .slice none 0 0, .slice none 0 0] 38, .cells #[.string ⟨#[111, 114]⟩] 9, .cells #[.string ⟨#[97, 110, 100]⟩] 9, .cells #[.string ⟨#[61, 61]⟩, .string ⟨#[126, 61]⟩, .string ⟨#[60]⟩, .string ⟨#[60, 61]⟩, .string ⟨#[62]⟩, .string ⟨#[62, 61]⟩] 9, .cells #[.string ⟨#[43]⟩, .string ⟨#[45]⟩] 9, .cells #[.string ⟨#[42]⟩, .string ⟨#[47, 47]⟩, .string ⟨#[37]⟩] 9, .cells #[.slice (some ⟨w.heap.size + 1, 0, none⟩) 1 1, .slice (some ⟨w.heap.size + 1 + 1, 0, none⟩) 1 1, .slice (some ⟨w.heap.size + 1 + 1 + 1, 0, none⟩) 6 6, .slice none 0 0, .slice (some ⟨w.heap.size + 1 + 1 + 1 + 1, 0, none⟩) 2 2, .slice (some ⟨w.heap.size + 1 + 1 + 1 + 1 + 1, 0, none⟩) 3 3] 30, .cells #[.int .i64 0] 3, .cells #[.int .i64 0] 3, .cells #[.int .i64 7, .int .i64 8, .int .i64 9, .int .i64 10, .int .i64 11, .int .i64 12] 3, .cells #[.int .i64 1, .int .i64 2] 3, .cells #[.int .i64 3, .int .i64 4, .int .i64 5] 3, .cells #[.slice (some ⟨w.heap.size + 1 + 1 + 1 + 1 + 1 + 1 + 1, 0, none⟩) 1 1, .slice (some ⟨w.heap.size + 1 + 1 + 1 + 1 + 1 + 1 + 1 + 1, 0, none⟩) 1 1, .slice (some ⟨w.heap.size + 1 + 1 + 1 + 1 + 1 + 1 + 1 + 1 + 1, 0, none⟩) 6 6, .slice none 0 0, .slice (some ⟨w.heap.size + 1 + 1 + 1 + 1 + 1 + 1 + 1 + 1 + 1 + 1, 0, none⟩) 2 2, .slice (some ⟨w.heap.size + 1 + 1 + 1 + 1 + 1 + 1 + 1 + 1 + 1 + 1 + 1, 0, none⟩) 3 3] 114] w)
  have cS : (((((((w.alloc (.cells #[.int .i64 0, .int .i64 0, .int .i64 0, .string ⟨#[]⟩, .int .i64 0, .slice none 0 0, .slice none 0 0] 38)).alloc (.cells #[.string ⟨#[111, 114]⟩] 9)).alloc (.cells #[.string ⟨#[97, 110, 100]⟩] 9)).alloc (.cells #[.string ⟨#[61, 61]⟩, .string ⟨#[126, 61]⟩, .string ⟨#[60]⟩, .string ⟨#[60, 61]⟩, .string ⟨#[62]⟩, .string ⟨#[62, 61]⟩] 9)).alloc (.cells #[.string ⟨#[43]⟩, .string ⟨#[45]⟩] 9)).alloc (.cells #[.string ⟨#[42]⟩, .string ⟨#[47, 47]⟩, .string ⟨#[37]⟩] 9)).alloc (.cells #[.slice (some ⟨w.heap.size + 1, 0, none⟩) 1 1, .slice (some ⟨w.heap.size + 1 + 1, 0, none⟩) 1 1, .slice (some ⟨w.heap.size + 1 + 1 + 1, 0, none⟩) 6 6, .slice none 0 0, .slice (some ⟨w.heap.size + 1 + 1 + 1 + 1, 0, none⟩) 2 2, .slice (some ⟨w.heap.size + 1 + 1 + 1 + 1 + 1, 0, none⟩) 3 3] 30)).cell? ⟨w.heap.size + 1 + 1 + 1 + 1 + 1 + 1, 2, none⟩ = some (.slice (some ⟨w.heap.size + 1 + 1 + 1, 0, none⟩) 6 6) := by
   have e : (((((((w.alloc (.cells #[.int .i64 0, .int .i64 0, .int .i64 0, .string ⟨#[]⟩, .int .i64 0, .slice none 0 0, .slice none 0 0] 38)).alloc (.cells #[.string ⟨#[111, 114]⟩] 9)).alloc (.cells #[.string ⟨#[97, 110, 100]⟩] 9)).alloc (.cells #[.string ⟨#[61, 61]⟩, .string ⟨#[126, 61]⟩, .string ⟨#[60]⟩, .string ⟨#[60, 61]⟩, .string ⟨#[62]⟩, .string ⟨#[62, 61]⟩] 9)).alloc (.cells #[.string ⟨#[43]⟩, .string ⟨#[45]⟩] 9)).alloc (.cells #[.string ⟨#[42]⟩, .string ⟨#[47, 47]⟩, .string ⟨#[37]⟩] 9)).alloc (.cells #[.slice (some ⟨w.heap.size + 1, 0, none⟩) 1 1, .slice (some ⟨w.heap.size + 1 + 1, 0, none⟩) 1 1, .slice (some ⟨w.heap.size + 1 + 1 + 1, 0, none⟩) 6 6, .slice none 0 0, .slice (some ⟨w.heap.size + 1 + 1 + 1 + 1, 0, none⟩) 2 2, .slice (some ⟨w.heap.size + 1 + 1 + 1 + 1 + 1, 0, none⟩) 3 3] 30)).heap[w.heap.size + 1 + 1 + 1 + 1 + 1 + 1]? = some (.cells #[.slice (some ⟨w.heap.size + 1, 0, none⟩) 1 1, .slice (some ⟨w.heap.size + 1 + 1, 0, none⟩) 1 1, .slice (some ⟨w.heap.size + 1 + 1 + 1, 0, none⟩) 6 6, .slice none 0 0, .slice (some ⟨w.heap.size + 1 + 1 + 1 + 1, 0, none⟩) 2 2, .slice (some ⟨w.heap.size + 1 + 1 + 1 + 1 + 1, 0, none⟩) 3 3] 30) := allocs_at [.cells #[.int .i64 0, .int .i64 0, .int .i64 0, .string ⟨#[]⟩, .int .i64 0, .slice none 0 0, .slice none 0 0] 38, .cells #[.string ⟨#[111, 114]⟩] 9, .cells #[.string ⟨#[97, 110, 100]⟩] 9, .cells #[.string ⟨#[61, 61]⟩, .string ⟨#[126, 61]⟩, .string ⟨#[60]⟩, .string ⟨#[60, 61]⟩, .string ⟨#[62]⟩, .string ⟨#[62, 61]⟩] 9, .cells #[.string ⟨#[43]⟩, .string ⟨#[45]⟩] 9, .cells #[.string ⟨#[42]⟩, .string ⟨#[47, 47]⟩, .string ⟨#[37]⟩] 9, .cells #[.slice (some ⟨w.heap.size + 1, 0, none⟩) 1 1, .slice (some ⟨w.heap.size + 1 + 1, 0, none⟩) 1 1, .slice (some ⟨w.heap.size + 1 + 1 + 1, 0, none⟩) 6 6, .slice none 0 0, .slice (some ⟨w.heap.size + 1 + 1 + 1 + 1, 0, none⟩) 2 2, .slice (some ⟨w.heap.size + 1 + 1 + 1 + 1 + 1, 0, none⟩) 3 3] 30] w 6 _ rfl
   rw [cell_of_row _ _ _ _ _ (0, 0) e]
   rfl
  have cC : (((((((((((((w.alloc (.cells #[.int .i64 0, .int .i64 0, .int .i64 0, .string ⟨#[]⟩, .int .i64 0, .slice none 0 0, .slice none 0 0] 38)).alloc (.cells #[.string ⟨#[111, 114]⟩] 9)).alloc (.cells #[.string ⟨#[97, 110, 100]⟩] 9)).alloc (.cells #[.string ⟨#[61, 61]⟩, .string ⟨#[126, 61]⟩, .string ⟨#[60]⟩, .string ⟨#[60, 61]⟩, .string ⟨#[62]⟩, .string ⟨#[62, 61]⟩] 9)).alloc (.cells #[.string ⟨#[43]⟩, .string ⟨#[45]⟩] 9)).alloc (.cells #[.string ⟨#[42]⟩, .string ⟨#[47, 47]⟩, .string ⟨#[37]⟩] 9)).alloc (.cells #[.slice (some ⟨w.heap.size + 1, 0, none⟩) 1 1, .slice (some ⟨w.heap.size + 1 + 1, 0, none⟩) 1 1, .slice (some ⟨w.heap.size + 1 + 1 + 1, 0, none⟩) 6 6, .slice none 0 0, .slice (some ⟨w.heap.size + 1 + 1 + 1 + 1, 0, none⟩) 2 2, .slice (some ⟨w.heap.size + 1 + 1 + 1 + 1 + 1, 0, none⟩) 3 3] 30)).alloc (.cells #[.int .i64 0] 3)).alloc (.cells #[.int .i64 0] 3)).alloc (.cells #[.int .i64 7, .int .i64 8, .int .i64 9, .int .i64 10, .int .i64 11, .int .i64 12] 3)).alloc (.cells #[.int .i64 1, .int .i64 2] 3)).alloc (.cells #[.int .i64 3, .int .i64 4, .int .i64 5] 3)).alloc (.cells #[.slice (some ⟨w.heap.size + 1 + 1 + 1 + 1 + 1 + 1 + 1, 0, none⟩) 1 1, .slice (some ⟨w.heap.size + 1 + 1 + 1 + 1 + 1 + 1 + 1 + 1, 0, none⟩) 1 1, .slice (some ⟨w.heap.size + 1 + 1 + 1 + 1 + 1 + 1 + 1 + 1 + 1, 0, none⟩) 6 6, .slice none 0 0, .slice (some ⟨w.heap.size + 1 + 1 + 1 + 1 + 1 + 1 + 1 + 1 + 1 + 1, 0, none⟩) 2 2, .slice (some ⟨w.heap.size + 1 + 1 + 1 + 1 + 1 + 1 + 1 + 1 + 1 + 1 + 1, 0, none⟩) 3 3] 114)).cell? ⟨w.heap.size + 1 + 1 + 1 + 1 + 1 + 1 + 1 + 1 + 1 + 1 + 1 + 1, 2, none⟩ = some (.slice (some ⟨w.heap.size + 1 + 1 + 1 + 1 + 1 + 1 + 1 + 1 + 1, 0, none⟩) 6 6) := by
   have e : (((((((((((((w.alloc (.cells #[.int .i64 0, .int .i64 0, .int .i64 0, .string ⟨#[]⟩, .int .i64 0, .slice none 0 0, .slice none 0 0] 38)).alloc (.cells #[.string ⟨#[111, 114]⟩] 9)).alloc (.cells #[.string ⟨#[97, 110, 100]⟩] 9)).alloc (.cells #[.string ⟨#[61, 61]⟩, .string ⟨#[126, 61]⟩, .string ⟨#[60]⟩, .string ⟨#[60, 61]⟩, .string ⟨#[62]⟩, .string ⟨#[62, 61]⟩] 9)).alloc (.cells #[.string ⟨#[43]⟩, .string ⟨#[45]⟩] 9)).alloc (.cells #[.string ⟨#[42]⟩, .string ⟨#[47, 47]⟩, .string ⟨#[37]⟩] 9)).alloc (.cells #[.slice (some ⟨w.heap.size + 1, 0, none⟩) 1 1, .slice (some ⟨w.heap.size + 1 + 1, 0, none⟩) 1 1, .slice (some ⟨w.heap.size + 1 + 1 + 1, 0, none⟩) 6 6, .slice none 0 0, .slice (some ⟨w.heap.size + 1 + 1 + 1 + 1, 0, none⟩) 2 2, .slice (some ⟨w.heap.size + 1 + 1 + 1 + 1 + 1, 0, none⟩) 3 3] 30)).alloc (.cells #[.int .i64 0] 3)).alloc (.cells #[.int .i64 0] 3)).alloc (.cells #[.int .i64 7, .int .i64 8, .int .i64 9, .int .i64 10, .int .i64 11, .int .i64 12] 3)).alloc (.cells #[.int .i64 1, .int .i64 2] 3)).alloc (.cells #[.int .i64 3, .int .i64 4, .int .i64 5] 3)).alloc (.cells #[.slice (some ⟨w.heap.size + 1 + 1 + 1 + 1 + 1 + 1 + 1, 0, none⟩) 1 1, .slice (some ⟨w.heap.size + 1 + 1 + 1 + 1 + 1 + 1 + 1 + 1, 0, none⟩) 1 1, .slice (some ⟨w.heap.size + 1 + 1 + 1 + 1 + 1 + 1 + 1 + 1 + 1, 0, none⟩) 6 6, .slice none 0 0, .slice (some ⟨w.heap.size + 1 + 1 + 1 + 1 + 1 + 1 + 1 + 1 + 1 + 1, 0, none⟩) 2 2, .slice (some ⟨w.heap.size + 1 + 1 + 1 + 1 + 1 + 1 + 1 + 1 + 1 + 1 + 1, 0, none⟩) 3 3] 114)).heap[w.heap.size + 1 + 1 + 1 + 1 + 1 + 1 + 1 + 1 + 1 + 1 + 1 + 1]? = some (.cells #[.slice (some ⟨w.heap.size + 1 + 1 + 1 + 1 + 1 + 1 + 1, 0, none⟩) 1 1, .slice (some ⟨w.heap.size + 1 + 1 + 1 + 1 + 1 + 1 + 1 + 1, 0, none⟩) 1 1, .slice (some ⟨w.heap.size + 1 + 1 + 1 + 1 + 1 + 1 + 1 + 1 + 1, 0, none⟩) 6 6, .slice none 0 0, .slice (some ⟨w.heap.size + 1 + 1 + 1 + 1 + 1 + 1 + 1 + 1 + 1 + 1, 0, none⟩) 2 2, .slice (some ⟨w.heap.size + 1 + 1 + 1 + 1 + 1 + 1 + 1 + 1 + 1 + 1 + 1, 0, none⟩) 3 3] 114) := allocs_at [.cells #[.int .i64 0, .int .i64 0, .int .i64 0, .string ⟨#[]⟩, .int .i64 0, .slice none 0 0, .slice none 0 0] 38, .cells #[.string ⟨#[111, 114]⟩] 9, .cells #[.string ⟨#[97, 110, 100]⟩] 9, .cells #[.string ⟨#[61, 61]⟩, .string ⟨#[126, 61]⟩, .string ⟨#[60]⟩, .string ⟨#[60, 61]⟩, .string ⟨#[62]⟩, .string ⟨#[62, 61]⟩] 9, .cells #[.string ⟨#[43]⟩, .string ⟨#[45]⟩] 9, .cells #[.string ⟨#[42]⟩, .string ⟨#[47, 47]⟩, .string ⟨#[37]⟩] 9, .cells #[.slice (some ⟨w.heap.size + 1, 0, none⟩) 1 1, .slice (some ⟨w.heap.size + 1 + 1, 0, none⟩) 1 1, .slice (some ⟨w.heap.size + 1 + 1 + 1, 0, none⟩) 6 6, .slice none 0 0, .slice (some ⟨w.heap.size + 1 + 1 + 1 + 1, 0, none⟩) 2 2, .slice (some ⟨w.heap.size + 1 + 1 + 1 + 1 + 1, 0, none⟩) 3 3] 30, .cells #[.int .i64 0] 3, .cells #[.int .i64 0] 3, .cells #[.int .i64 7, .int .i64 8, .int .i64 9, .int .i64 10, .int .i64 11, .int .i64 12] 3, .cells #[.int .i64 1, .int .i64 2] 3, .cells #[.int .i64 3, .int .i64 4, .int .i64 5] 3, .cells #[.slice (some ⟨w.heap.size + 1 + 1 + 1 + 1 + 1 + 1 + 1, 0, none⟩) 1 1, .slice (some ⟨w.heap.size + 1 + 1 + 1 + 1 + 1 + 1 + 1 + 1, 0, none⟩) 1 1, .slice (some ⟨w.heap.size + 1 + 1 + 1 + 1 + 1 + 1 + 1 + 1 + 1, 0, none⟩) 6 6, .slice none 0 0, .slice (some ⟨w.heap.size + 1 + 1 + 1 + 1 + 1 + 1 + 1 + 1 + 1 + 1, 0, none⟩) 2 2, .slice (some ⟨w.heap.size + 1 + 1 + 1 + 1 + 1 + 1 + 1 + 1 + 1 + 1 + 1, 0, none⟩) 3 3] 114] w 12 _ rfl
   rw [cell_of_row _ _ _ _ _ (0, 0) e]
   rfl
  have bR := hid (show (((((((((((((w.alloc (.cells #[.int .i64 0, .int .i64 0, .int .i64 0, .string ⟨#[]⟩, .int .i64 0, .slice none 0 0, .slice none 0 0] 38)).alloc (.cells #[.string ⟨#[111, 114]⟩] 9)).alloc (.cells #[.string ⟨#[97, 110, 100]⟩] 9)).alloc (.cells #[.string ⟨#[61, 61]⟩, .string ⟨#[126, 61]⟩, .string ⟨#[60]⟩, .string ⟨#[60, 61]⟩, .string ⟨#[62]⟩, .string ⟨#[62, 61]⟩] 9)).alloc (.cells #[.string ⟨#[43]⟩, .string ⟨#[45]⟩] 9)).alloc (.cells #[.string ⟨#[42]⟩, .string ⟨#[47, 47]⟩, .string ⟨#[37]⟩] 9)).alloc (.cells #[.slice (some ⟨w.heap.size + 1, 0, none⟩) 1 1, .slice (some ⟨w.heap.size + 1 + 1, 0, none⟩) 1 1, .slice (some ⟨w.heap.size + 1 + 1 + 1, 0, none⟩) 6 6, .slice none 0 0, .slice (some ⟨w.heap.size + 1 + 1 + 1 + 1, 0, none⟩) 2 2, .slice (some ⟨w.heap.size + 1 + 1 + 1 + 1 + 1, 0, none⟩) 3 3] 30)).alloc (.cells #[.int .i64 0] 3)).alloc (.cells #[.int .i64 0] 3)).alloc (.cells #[.int .i64 7, .int .i64 8, .int .i64 9, .int .i64 10, .int .i64 11, .int .i64 12] 3)).alloc (.cells #[.int .i64 1, .int .i64 2] 3)).alloc (.cells #[.int .i64 3, .int .i64 4, .int .i64 5] 3)).alloc (.cells #[.slice (some ⟨w.heap.size + 1 + 1 + 1 + 1 + 1 + 1 + 1, 0, none⟩) 1 1, .slice (some ⟨w.heap.size + 1 + 1 + 1 + 1 + 1 + 1 + 1 + 1, 0, none⟩) 1 1, .slice (some ⟨w.heap.size + 1 + 1 + 1 + 1 + 1 + 1 + 1 + 1 + 1, 0, none⟩) 6 6, .slice none 0 0, .slice (some ⟨w.heap.size + 1 + 1 + 1 + 1 + 1 + 1 + 1 + 1 + 1 + 1, 0, none⟩) 2 2, .slice (some ⟨w.heap.size + 1 + 1 + 1 + 1 + 1 + 1 + 1 + 1 + 1 + 1 + 1, 0, none⟩) 3 3] 114)).heap[w.heap.size]? = some (.cells #[.int .i64 0, .int .i64 0, .int .i64 0, .string ⟨#[]⟩, .int .i64 0, .slice none 0 0, .slice none 0 0] 38) from allocs_at [.cells #[.int .i64 0, .int .i64 0, .int .i64 0, .string ⟨#[]⟩, .int .i64 0, .slice none 0 0, .slice none 0 0] 38, .cells #[.string ⟨#[111, 114]⟩] 9, .cells #[.string ⟨#[97, 110, 100]⟩] 9, .cells #[.string ⟨#[61, 61]⟩, .string ⟨#[126, 61]⟩, .string ⟨#[60]⟩, .string ⟨#[60, 61]⟩, .string ⟨#[62]⟩, .string ⟨#[62, 61]⟩] 9, .cells #[.string ⟨#[43]⟩, .string ⟨#[45]⟩] 9, .cells #[.string ⟨#[42]⟩, .string ⟨#[47, 47]⟩, .string ⟨#[37]⟩] 9, .cells #[.slice (some ⟨w.heap.size + 1, 0, none⟩) 1 1, .slice (some ⟨w.heap.size + 1 + 1, 0, none⟩) 1 1, .slice (some ⟨w.heap.size + 1 + 1 + 1, 0, none⟩) 6 6, .slice none 0 0, .slice (some ⟨w.heap.size + 1 + 1 + 1 + 1, 0, none⟩) 2 2, .slice (some ⟨w.heap.size + 1 + 1 + 1 + 1 + 1, 0, none⟩) 3 3] 30, .cells #[.int .i64 0] 3, .cells #[.int .i64 0] 3, .cells #[.int .i64 7, .int .i64 8, .int .i64 9, .int .i64 10, .int .i64 11, .int .i64 12] 3, .cells #[.int .i64 1, .int .i64 2] 3, .cells #[.int .i64 3, .int .i64 4, .int .i64 5] 3, .cells #[.slice (some ⟨w.heap.size + 1 + 1 + 1 + 1 + 1 + 1 + 1, 0, none⟩) 1 1, .slice (some ⟨w.heap.size + 1 + 1 + 1 + 1 + 1 + 1 + 1 + 1, 0, none⟩) 1 1, .slice (some ⟨w.heap.size + 1 + 1 + 1 + 1 + 1 + 1 + 1 + 1 + 1, 0, none⟩) 6 6, .slice none 0 0, .slice (some ⟨w.heap.size + 1 + 1 + 1 + 1 + 1 + 1 + 1 + 1 + 1 + 1, 0, none⟩) 2 2, .slice (some ⟨w.heap.size + 1 + 1 + 1 + 1 + 1 + 1 + 1 + 1 + 1 + 1 + 1, 0, none⟩) 3 3] 114] w 0 _ rfl)
  have bO := hid (show (((((((((((((w.alloc (.cells #[.int .i64 0, .int .i64 0, .int .i64 0, .string ⟨#[]⟩, .int .i64 0, .slice none 0 0, .slice none 0 0] 38)).alloc (.cells #[.string ⟨#[111, 114]⟩] 9)).alloc (.cells #[.string ⟨#[97, 110, 100]⟩] 9)).alloc (.cells #[.string ⟨#[61, 61]⟩, .string ⟨#[126, 61]⟩, .string ⟨#[60]⟩, .string ⟨#[60, 61]⟩, .string ⟨#[62]⟩, .string ⟨#[62, 61]⟩] 9)).alloc (.cells #[.string ⟨#[43]⟩, .string ⟨#[45]⟩] 9)).alloc (.cells #[.string ⟨#[42]⟩, .string ⟨#[47, 47]⟩, .string ⟨#[37]⟩] 9)).alloc (.cells #[.slice (some ⟨w.heap.size + 1, 0, none⟩) 1 1, .slice (some ⟨w.heap.size + 1 + 1, 0, none⟩) 1 1, .slice (some ⟨w.heap.size + 1 + 1 + 1, 0, none⟩) 6 6, .slice none 0 0, .slice (some ⟨w.heap.size + 1 + 1 + 1 + 1, 0, none⟩) 2 2, .slice (some ⟨w.heap.size + 1 + 1 + 1 + 1 + 1, 0, none⟩) 3 3] 30)).alloc (.cells #[.int .i64 0] 3)).alloc (.cells #[.int .i64 0] 3)).alloc (.cells #[.int .i64 7, .int .i64 8, .int .i64 9, .int .i64 10, .int .i64 11, .int .i64 12] 3)).alloc (.cells #[.int .i64 1, .int .i64 2] 3)).alloc (.cells #[.int .i64 3, .int .i64 4, .int .i64 5] 3)).alloc (.cells #[.slice (some ⟨w.heap.size + 1 + 1 + 1 + 1 + 1 + 1 + 1, 0, none⟩) 1 1, .slice (some ⟨w.heap.size + 1 + 1 + 1 + 1 + 1 + 1 + 1 + 1, 0, none⟩) 1 1, .slice (some ⟨w.heap.size + 1 + 1 + 1 + 1 + 1 + 1 + 1 + 1 + 1, 0, none⟩) 6 6, .slice none 0 0, .slice (some ⟨w.heap.size + 1 + 1 + 1 + 1 + 1 + 1 + 1 + 1 + 1 + 1, 0, none⟩) 2 2, .slice (some ⟨w.heap.size + 1 + 1 + 1 + 1 + 1 + 1 + 1 + 1 + 1 + 1 + 1, 0, none⟩) 3 3] 114)).heap[w.heap.size + 1 + 1 + 1]? = some (.cells #[.string ⟨#[61, 61]⟩, .string ⟨#[126, 61]⟩, .string ⟨#[60]⟩, .string ⟨#[60, 61]⟩, .string ⟨#[62]⟩, .string ⟨#[62, 61]⟩] 9) from allocs_at [.cells #[.int .i64 0, .int .i64 0, .int .i64 0, .string ⟨#[]⟩, .int .i64 0, .slice none 0 0, .slice none 0 0] 38, .cells #[.string ⟨#[111, 114]⟩] 9, .cells #[.string ⟨#[97, 110, 100]⟩] 9, .cells #[.string ⟨#[61, 61]⟩, .string ⟨#[126, 61]⟩, .string ⟨#[60]⟩, .string ⟨#[60, 61]⟩, .string ⟨#[62]⟩, .string ⟨#[62, 61]⟩] 9, .cells #[.string ⟨#[43]⟩, .string ⟨#[45]⟩] 9, .cells #[.string ⟨#[42]⟩, .string ⟨#[47, 47]⟩, .string ⟨#[37]⟩] 9, .cells #[.slice (some ⟨w.heap.size + 1, 0, none⟩) 1 1, .slice (some ⟨w.heap.size + 1 + 1, 0, none⟩) 1 1, .slice (some ⟨w.heap.size + 1 + 1 + 1, 0, none⟩) 6 6, .slice none 0 0, .slice (some ⟨w.heap.size + 1 + 1 + 1 + 1, 0, none⟩) 2 2, .slice (some ⟨w.heap.size + 1 + 1 + 1 + 1 + 1, 0, none⟩) 3 3] 30, .cells #[.int .i64 0] 3, .cells #[.int .i64 0] 3, .cells #[.int .i64 7, .int .i64 8, .int .i64 9, .int .i64 10, .int .i64 11, .int .i64 12] 3, .cells #[.int .i64 1, .int .i64 2] 3, .cells #[.int .i64 3, .int .i64 4, .int .i64 5] 3, .cells #[.slice (some ⟨w.heap.size + 1 + 1 + 1 + 1 + 1 + 1 + 1, 0, none⟩) 1 1, .slice (some ⟨w.heap.size + 1 + 1 + 1 + 1 + 1 + 1 + 1 + 1, 0, none⟩) 1 1, .slice (some ⟨w.heap.size + 1 + 1 + 1 + 1 + 1 + 1 + 1 + 1 + 1, 0, none⟩) 6 6, .slice none 0 0, .slice (some ⟨w.heap.size + 1 + 1 + 1 + 1 + 1 + 1 + 1 + 1 + 1 + 1, 0, none⟩) 2 2, .slice (some ⟨w.heap.size + 1 + 1 + 1 + 1 + 1 + 1 + 1 + 1 + 1 + 1 + 1, 0, none⟩) 3 3] 114] w 3 _ rfl)
  have bC := hid (show (((((((((((((w.alloc (.cells #[.int .i64 0, .int .i64 0, .int .i64 0, .string ⟨#[]⟩, .int .i64 0, .slice none 0 0, .slice none 0 0] 38)).alloc (.cells #[.string ⟨#[111, 114]⟩] 9)).alloc (.cells #[.string ⟨#[97, 110, 100]⟩] 9)).alloc (.cells #[.string ⟨#[61, 61]⟩, .string ⟨#[126, 61]⟩, .string ⟨#[60]⟩, .string ⟨#[60, 61]⟩, .string ⟨#[62]⟩, .string ⟨#[62, 61]⟩] 9)).alloc (.cells #[.string ⟨#[43]⟩, .string ⟨#[45]⟩] 9)).alloc (.cells #[.string ⟨#[42]⟩, .string ⟨#[47, 47]⟩, .string ⟨#[37]⟩] 9)).alloc (.cells #[.slice (some ⟨w.heap.size + 1, 0, none⟩) 1 1, .slice (some ⟨w.heap.size + 1 + 1, 0, none⟩) 1 1, .slice (some ⟨w.heap.size + 1 + 1 + 1, 0, none⟩) 6 6, .slice none 0 0, .slice (some ⟨w.heap.size + 1 + 1 + 1 + 1, 0, none⟩) 2 2, .slice (some ⟨w.heap.size + 1 + 1 + 1 + 1 + 1, 0, none⟩) 3 3] 30)).alloc (.cells #[.int .i64 0] 3)).alloc (.cells #[.int .i64 0] 3)).alloc (.cells #[.int .i64 7, .int .i64 8, .int .i64 9, .int .i64 10, .int .i64 11, .int .i64 12] 3)).alloc (.cells #[.int .i64 1, .int .i64 2] 3)).alloc (.cells #[.int .i64 3, .int .i64 4, .int .i64 5] 3)).alloc (.cells #[.slice (some ⟨w.heap.size + 1 + 1 + 1 + 1 + 1 + 1 + 1, 0, none⟩) 1 1, .slice (some ⟨w.heap.size + 1 + 1 + 1 + 1 + 1 + 1 + 1 + 1, 0, none⟩) 1 1, .slice (some ⟨w.heap.size + 1 + 1 + 1 + 1 + 1 + 1 + 1 + 1 + 1, 0, none⟩) 6 6, .slice none 0 0, .slice (some ⟨w.heap.size + 1 + 1 + 1 + 1 + 1 + 1 + 1 + 1 + 1 + 1, 0, none⟩) 2 2, .slice (some ⟨w.heap.size + 1 + 1 + 1 + 1 + 1 + 1 + 1 + 1 + 1 + 1 + 1, 0, none⟩) 3 3] 114)).heap[w.heap.size + 1 + 1 + 1 + 1 + 1 + 1 + 1 + 1 + 1]? = some (.cells #[.int .i64 7, .int .i64 8, .int .i64 9, .int .i64 10, .int .i64 11, .int .i64 12] 3) from allocs_at [.cells #[.int .i64 0, .int .i64 0, .int .i64 0, .string ⟨#[]⟩, .int .i64 0, .slice none 0 0, .slice none 0 0] 38, .cells #[.string ⟨#[111, 114]⟩] 9, .cells #[.string ⟨#[97, 110, 100]⟩] 9, .cells #[.string ⟨#[61, 61]⟩, .string ⟨#[126, 61]⟩, .string ⟨#[60]⟩, .string ⟨#[60, 61]⟩, .string ⟨#[62]⟩, .string ⟨#[62, 61]⟩] 9, .cells #[.string ⟨#[43]⟩, .string ⟨#[45]⟩] 9, .cells #[.string ⟨#[42]⟩, .string ⟨#[47, 47]⟩, .string ⟨#[37]⟩] 9, .cells #[.slice (some ⟨w.heap.size + 1, 0, none⟩) 1 1, .slice (some ⟨w.heap.size + 1 + 1, 0, none⟩) 1 1, .slice (some ⟨w.heap.size + 1 + 1 + 1, 0, none⟩) 6 6, .slice none 0 0, .slice (some ⟨w.heap.size + 1 + 1 + 1 + 1, 0, none⟩) 2 2, .slice (some ⟨w.heap.size + 1 + 1 + 1 + 1 + 1, 0, none⟩) 3 3] 30, .cells #[.int .i64 0] 3, .cells #[.int .i64 0] 3, .cells #[.int .i64 7, .int .i64 8, .int .i64 9, .int .i64 10, .int .i64 11, .int .i64 12] 3, .cells #[.int .i64 1, .int .i64 2] 3, .cells #[.int .i64 3, .int .i64 4, .int .i64 5] 3, .cells #[.slice (some ⟨w.heap.size + 1 + 1 + 1 + 1 + 1 + 1 + 1, 0, none⟩) 1 1, .slice (some ⟨w.heap.size + 1 + 1 + 1 + 1 + 1 + 1 + 1 + 1, 0, none⟩) 1 1, .slice (some ⟨w.heap.size + 1 + 1 + 1 + 1 + 1 + 1 + 1 + 1 + 1, 0, none⟩) 6 6, .slice none 0 0, .slice (some ⟨w.heap.size + 1 + 1 + 1 + 1 + 1 + 1 + 1 + 1 + 1 + 1, 0, none⟩) 2 2, .slice (some ⟨w.heap.size + 1 + 1 + 1 + 1 + 1 + 1 + 1 + 1 + 1 + 1 + 1, 0, none⟩) 3 3] 114] w 9 _ rfl)
  have PY := hid (h.below B13.out)
  have HI := hid (And.intro hE (And.intro hG (And.intro hL hi)))
  clear h hE hG hL hi PA
  show Calls _ _ #[.pointer (some ⟨E.p, 0, none⟩), .int .i64 2, .int .i64 d] _ _
  go_enter Tryz.func68, Tryz.ntmps68
  go_wp2_with (first | (go_at_call 68; refine Hid.out ?_))
  refine hid ?_
  have FY := hid (And.intro B13.out (And.intro bR.out (And.intro bO.out (And.intro bC.out (And.intro PY.out (show w.heap.size < w.heap.size + 1 + 1 + 1 ∧ w.heap.size < w.heap.size + 1 + 1 + 1 + 1 + 1 + 1 + 1 + 1 + 1 from ⟨by omega, by omega⟩))))))
  clear B13 bR bO bC PY cS cC A1 r1 c2
  generalize (((((((((((((w.alloc (.cells #[.int .i64 0, .int .i64 0, .int .i64 0, .string ⟨#[]⟩, .int .i64 0, .slice none 0 0, .slice none 0 0] 38)).alloc (.cells #[.string ⟨#[111, 114]⟩] 9)).alloc (.cells #[.string ⟨#[97, 110, 100]⟩] 9)).alloc (.cells #[.string ⟨#[61, 61]⟩, .string ⟨#[126, 61]⟩, .string ⟨#[60]⟩, .string ⟨#[60, 61]⟩, .string ⟨#[62]⟩, .string ⟨#[62, 61]⟩] 9)).alloc (.cells #[.string ⟨#[43]⟩, .string ⟨#[45]⟩] 9)).alloc (.cells #[.string ⟨#[42]⟩, .string ⟨#[47, 47]⟩, .string ⟨#[37]⟩] 9)).alloc (.cells #[.slice (some ⟨w.heap.size + 1, 0, none⟩) 1 1, .slice (some ⟨w.heap.size + 1 + 1, 0, none⟩) 1 1, .slice (some ⟨w.heap.size + 1 + 1 + 1, 0, none⟩) 6 6, .slice none 0 0, .slice (some ⟨w.heap.size + 1 + 1 + 1 + 1, 0, none⟩) 2 2, .slice (some ⟨w.heap.size + 1 + 1 + 1 + 1 + 1, 0, none⟩) 3 3] 30)).alloc (.cells #[.int .i64 0] 3)).alloc (.cells #[.int .i64 0] 3)).alloc (.cells #[.int .i64 7, .int .i64 8, .int .i64 9, .int .i64 10, .int .i64 11, .int .i64 12] 3)).alloc (.cells #[.int .i64 1, .int .i64 2] 3)).alloc (.cells #[.int .i64 3, .int .i64 4, .int .i64 5] 3)).alloc (.cells #[.slice (some ⟨w.heap.size + 1 + 1 + 1 + 1 + 1 + 1 + 1, 0, none⟩) 1 1, .slice (some ⟨w.heap.size + 1 + 1 + 1 + 1 + 1 + 1 + 1 + 1, 0, none⟩) 1 1, .slice (some ⟨w.heap.size + 1 + 1 + 1 + 1 + 1 + 1 + 1 + 1 + 1, 0, none⟩) 6 6, .slice none 0 0, .slice (some ⟨w.heap.size + 1 + 1 + 1 + 1 + 1 + 1 + 1 + 1 + 1 + 1, 0, none⟩) 2 2, .slice (some ⟨w.heap.size + 1 + 1 + 1 + 1 + 1 + 1 + 1 + 1 + 1 + 1 + 1, 0, none⟩) 3 3] 114)) = y at FY ⊢
  generalize w.heap.size + 1 + 1 + 1 + 1 + 1 + 1 + 1 + 1 + 1 = cb at FY ⊢
  generalize w.heap.size + 1 + 1 + 1 = o at FY ⊢
  have LV := hid (HI.out.2.2.1 s y HI.out.2.2.2 FY.out.2.2.2.2.1)
  refine (LV.out).mono ?_
  rintro e w1 ⟨v, rfl, ⟨k, a, n, x, op, l, f, vl, vf, ht, rfl, h3, h4⟩, h5, h6⟩
  obtain ⟨Al, nl, cl, rfl⟩ := h3.form
  obtain ⟨Af, nf, cf, rfl⟩ := h4.form
  have XA := hid (show XR w1 (fun i => w.heap.size + 1 ≤ i) _ _ from XR.keep ⟨k, a, n, x, op, l, f, _, _, ht, rfl, h3, h4⟩ (fun _ _ _ => rfl) (Nat.le_refl _) (fun i (hi : y.heap.size ≤ i) _ => by have := lt_blk FY.out.2.1; omega))
  have P1 := hid h5
  have K1 := hid h6
  have G1 := hid (HI.out.2.1 s HI.out.2.2.2)
  clear h3 h4 h5 h6 ht
  have AZ := hid (alloc_old (w := w1) (o := .cells #[.int .i64 k, .int .i64 a, .int .i64 n, .string x, .int .i64 op, .slice Al nl cl, .slice Af nf cf] 38))
  have aZ := hid (heap_alloc_new w1 (.cells #[.int .i64 k, .int .i64 a, .int .i64 n, .string x, .int .i64 op, .slice Al nl cl, .slice Af nf cf] 38))
  have hly := lt_blk FY.out.2.1
  have FZ := hid (show PS E (w1.alloc (.cells #[.int .i64 k, .int .i64 a, .int .i64 n, .string x, .int .i64 op, .slice Al nl cl, .slice Af nf cf] 38)) (F s).2 ∧ (w1.alloc (.cells #[.int .i64 k, .int .i64 a, .int .i64 n, .string x, .int .i64 op, .slice Al nl cl, .slice Af nf cf] 38)).heap[w1.heap.size]? = some (.cells #[.int .i64 k, .int .i64 a, .int .i64 n, .string x, .int .i64 op, .slice Al nl cl, .slice Af nf cf] 38) ∧ XR (w1.alloc (.cells #[.int .i64 k, .int .i64 a, .int .i64 n, .string x, .int .i64 op, .slice Al nl cl, .slice Af nf cf] 38)) (fun i => w.heap.size + 1 ≤ i ∧ i ≠ w1.heap.size) _ _ ∧ (w1.alloc (.cells #[.int .i64 k, .int .i64 a, .int .i64 n, .string x, .int .i64 op, .slice Al nl cl, .slice Af nf cf] 38)).heap[w.heap.size]? = some (.cells #[.int .i64 0, .int .i64 0, .int .i64 0, .string ⟨#[]⟩, .int .i64 0, .slice none 0 0, .slice none 0 0] 38) ∧ (w1.alloc (.cells #[.int .i64 k, .int .i64 a, .int .i64 n, .string x, .int .i64 op, .slice Al nl cl, .slice Af nf cf] 38)).heap[o]? = some (.cells #[.string ⟨#[61, 61]⟩, .string ⟨#[126, 61]⟩, .string ⟨#[60]⟩, .string ⟨#[60, 61]⟩, .string ⟨#[62]⟩, .string ⟨#[62, 61]⟩] 9) ∧ (w1.alloc (.cells #[.int .i64 k, .int .i64 a, .int .i64 n, .string x, .int .i64 op, .slice Al nl cl, .slice Af nf cf] 38)).heap[cb]? = some (.cells #[.int .i64 7, .int .i64 8, .int .i64 9, .int .i64 10, .int .i64 11, .int .i64 12] 3) ∧ KpP E w (w1.alloc (.cells #[.int .i64 k, .int .i64 a, .int .i64 n, .string x, .int .i64 op, .slice Al nl cl, .slice Af nf cf] 38)) ∧ (w.heap.size < w1.heap.size ∧ o < w1.heap.size ∧ cb < w1.heap.size ∧ w.heap.size < o ∧ w.heap.size < cb ∧ E.p < w.heap.size ∧ E.g < w.heap.size) from by
   have hl := hlp.out
   have ho := lt_blk FY.out.2.2.1
   have hc := lt_blk FY.out.2.2.2.1
   have hoc := FY.out.2.2.2.2.2
   have k1 := K1.out.size
   refine ⟨P1.out.below AZ.out, aZ.out, XA.out.keep (fun i _ hl => AZ.out.block i hl) (Below.size AZ.out) (fun i hi hl => ⟨hi, by omega⟩), blk_below ((K1.out.block _ (by omega) (by omega)).trans FY.out.2.1) AZ.out, blk_below ((K1.out.block _ (by omega) (by omega)).trans FY.out.2.2.1) AZ.out, blk_below ((K1.out.block _ (by omega) (by omega)).trans FY.out.2.2.2.1) AZ.out, ((Kp.of FY.out.1).trans (K1.out.mono (by omega) (fun _ hk => hk))).trans (.of (AZ.out.mono (by omega))), by omega, by omega, by omega, by omega, by omega, by omega, by omega⟩)
  go_wp2
  clear FY AZ aZ XA P1 K1 LV hly hlp
  generalize w1.alloc (.cells #[.int .i64 k, .int .i64 a, .int .i64 n, .string x, .int .i64 op, .slice Al nl cl, .slice Af nf cf] 38) = z at FZ ⊢
  generalize w1.heap.size = b9 at FZ ⊢
  go_loopw [10] (fun _ wr => Hid (LI E F 2 R0 (w.heap.size + 1) b9 z wr)) (fun _ wr => E.ts.length - posOf E wr)
  case atStart => exact hid ⟨_, _, _, k, a, n, x, op, Al, nl, cl, Af, nf, cf, by omega, HR0.out, G1.out.2.1, FZ.out.1, FZ.out.2.1, FZ.out.2.2.1, Kp.refl _ _ _⟩
  case round =>
   obtain ⟨fu, t, st, v0, v1, v2, v3, v4, Bl, ml, dl, Bf, mf, df, q1, q2, q3, q4, q5, q6, q7⟩ := hrel.out
   have FQ := hid (And.intro q1 (And.intro q2 (And.intro q3 (And.intro q4 (And.intro q5 (And.intro q6 q7))))))
   obtain ⟨w5, rfl⟩ : ∃ w5, w5 = wr := ⟨_, rfl⟩
   clear q1 q2 q3 q4 q5 q6 q7 hrel
   go_wp2
   go_loopw [10] (fun kv wr => ∃ q : Nat, q ≤ 6 ∧ kv = .int .i64 q ∧ Hid (Below w5.heap.size w5 wr ∧ ∀ (j : Nat) (y : ByteArray), j < q → (ops 2)[j]? = some y → isT E.ts y st = false)) (fun kv _ => 6 - (intOf kv).toNat)
   case atStart => exact ⟨0, Nat.zero_le _, rfl, hid ⟨Below.refl _ _, fun j _ hj => absurd hj (Nat.not_lt_zero _)⟩⟩
   case round =>
    obtain ⟨q, hq, rfl, HW⟩ := hrel
    have P2 := hid (FQ.out.2.2.2.1.below HW.out.1)
    have KW := hid (show KpP E w wr from (FZ.out.2.2.2.2.2.2.1.trans (FQ.out.2.2.2.2.2.2.cut (Nat.le_trans (by have := FZ.out.2.2.2.2.2.2.2; omega) (Nat.le_of_lt (lt_blk FZ.out.2.1))) (fun k hk hp => ⟨hp, by have := FZ.out.2.2.2.2.2.2.2; omega⟩))).trans (.of (HW.out.1.mono (by have := FQ.out.2.2.2.2.2.2.size; have := FZ.out.2.2.2.2.2.2.1.size; omega))))
    have RZ := hid (show ∀ i ob, i ≠ E.p → i ≠ b9 → z.heap[i]? = some ob → wr.heap[i]? = some ob from fun i ob hp hb hi => blk_below ((FQ.out.2.2.2.2.2.2.block i (lt_blk hi) ⟨hp, hb⟩).trans hi) HW.out.1)
    have rW := hid (RZ.out _ _ (by have := FZ.out.2.2.2.2.2.2.2; omega) (by have := FZ.out.2.2.2.2.2.2.2; omega) FZ.out.2.2.2.1)
    have oW := hid (RZ.out _ _ (by have := FZ.out.2.2.2.2.2.2.2; omega) (by have := FZ.out.2.2.2.2.2.2.2; omega) FZ.out.2.2.2.2.1)
    have cW := hid (RZ.out _ _ (by have := FZ.out.2.2.2.2.2.2.2; omega) (by have := FZ.out.2.2.2.2.2.2.2; omega) FZ.out.2.2.2.2.2.1)
    have aW := hid (blk_below FQ.out.2.2.2.2.1 HW.out.1)
    have XW := hid (show XR wr (fun i => w.heap.size + 1 ≤ i ∧ i ≠ b9) (t.map E.gl) _ from FQ.out.2.2.2.2.2.1.keep (fun i _ hl => HW.out.1.block i hl) (Below.size HW.out.1) (fun i hi _ => hi))
    obtain ⟨f', rfl⟩ : ∃ f', fu = f' + 1 := ⟨fu - 1, by have := FQ.out.1; have := FQ.out.2.2.1; omega⟩
    by_cases hqm : q < 6
    ·have i0 : (q : Int) < (6 : Int) := by omega
     obtain ⟨y, hy⟩ : ∃ y, (ops 2)[q]? = some y := ⟨_, List.getElem?_eq_getElem (show q < (ops 2).length from hqm)⟩
     have co : wr.cell? ⟨o, q, none⟩ = some (.string y) := by
      rw [cell_of_row _ o q _ _ (0, 0) oW.out]
      show ((ops 2).map Value.string).toArray[q]? = _
      simp [hy]
     have IS := hid (is_is E HI.out.1 st FQ.out.2.2.1 y wr P2.out)
     cases hb : isT E.ts y st with
     | false =>
      rw [hb] at IS
      have HB := hid (And.intro hb hy)
      clear hb hy
      go_wp2_with (first | (go_at_call 49; (with_reducible refine (IS.out).mono ?_); rintro e x1 ⟨rfl, h1⟩; have D1 := hid (HW.out.1.trans (h1.mono (Below.size HW.out.1))); clear h1))
      exact ⟨⟨q + 1, hqm, by go_num, hid ⟨D1.out, fun j x hj hx => by
       rcases Nat.lt_or_ge j q with h1 | h1
       ·exact HW.out.2 j x h1 hx
       ·have e : j = q := by omega
        subst e
        rw [HB.out.2] at hx
        cases hx
        exact HB.out.1⟩⟩, by simp [intOf]; omega⟩
     | true =>
      rw [hb] at IS
      have HWh := hid (which_some hy hb HW.out.2)
      clear hb hy
      go_wp2_with (first | (go_at_call 49; (with_reducible refine (IS.out).mono ?_); rintro e x1 ⟨rfl, h1⟩; have D1 := hid h1; have P3 := hid (P2.out.below h1); have PL := hid (place_is E st FQ.out.2.2.1 _ P3.out); clear h1) | (go_at_call 47; (with_reducible refine (PL.out).mono ?_); rintro e x2 ⟨rfl, h1, h2⟩; have P4 := hid h1; have D2 := hid (D1.out.trans (h2.mono (Below.size D1.out))); clear h1 h2; obtain ⟨_, d0, d1, d2, d3, g1, g2, g3, _⟩ := P4.out.cells; obtain ⟨u1, u2⟩ := wrapI st.i (by have := FQ.out.2.2.1; have := HI.out.1.len; omega)) | (go_at_call 68; refine Hid.out ?_))
      refine hid ?_
      have hl := FZ.out.2.2.2.2.2.2.2
      have P5 := hid (P4.out.adv1 HI.out.1)
      have K5 := hid (show KpP E wr (x2.setCell ⟨E.p, 1, none⟩ (.int .i64 ((st.i : Int) + 1))) from Kp.setCell (Kp.of D2.out) (by simp) _)
      have hA := hid (which_adv HI.out.1.ends FQ.out.2.2.1 (by rw [HWh.out]; exact Nat.ne_of_lt hqm))
      have LV2 := hid (HI.out.2.2.1 (adv st) _ hA.out.2.1 P5.out)
      have G2 := hid (HI.out.2.1 (adv st) hA.out.2.1)
      clear D1 D2 P3 P4 PL IS d0 d1 d2 d3 g1 g2 g3 u1 u2 co
      generalize x2.setCell ⟨E.p, 1, none⟩ (.int .i64 ((st.i : Int) + 1)) = y5 at P5 K5 LV2 ⊢
      refine (LV2.out).mono ?_
      rintro e w6 ⟨v, rfl, ⟨k', a', n', x', op', l', f2', vl', vf', ht', rfl, h3, h4⟩, h5, h6⟩
      obtain ⟨Cl, rl, el, rfl⟩ := h3.form
      obtain ⟨Cf, rf, ef, rfl⟩ := h4.form
      have K6 := hid (show KpP E wr w6 from K5.out.trans (h6.mono K5.out.size (fun _ hk => hk)))
      have P6 := hid h5
      have XB := hid (And.intro ht' (And.intro h3 h4))
      have hy5 := K5.out.size
      have lb9 := lt_blk aW.out
      have lcW := lt_blk cW.out
      have a6 := (K6.out.block b9 lb9 (by omega)).trans aW.out
      have c6 := (K6.out.block cb lcW (by omega)).trans cW.out
      have X6 := hid (show XR w6 (fun i => w.heap.size + 1 ≤ i ∧ i ≠ b9) (t.map E.gl) _ from XW.out.keep (fun i hi hl => K6.out.block i hl (by omega)) K6.out.size (fun i hi _ => hi))
      obtain ⟨code, hcode⟩ : ∃ code, (codes 2)[q]? = some code := ⟨_, List.getElem?_eq_getElem (show q < (codes 2).length from hqm)⟩
      have AB := hid (alloc_old (w := w6) (o := .cells #[.int .i64 k', .int .i64 a', .int .i64 n', .string x', .int .i64 op', .slice Cl rl el, .slice Cf rf ef] 38))
      have aB := hid (heap_alloc_new w6 (.cells #[.int .i64 k', .int .i64 a', .int .i64 n', .string x', .int .i64 op', .slice Cl rl el, .slice Cf rf ef] 38))
      have cc : (w6.alloc (.cells #[.int .i64 k', .int .i64 a', .int .i64 n', .string x', .int .i64 op', .slice Cl rl el, .slice Cf rf ef] 38)).cell? ⟨cb, q, none⟩ = some (.int .i64 code) := by
       rw [cell_of_row _ cb q _ _ (0, 0) (blk_below c6 AB.out)]
       show ((codes 2).map (fun c => Value.int .i64 c)).toArray[q]? = _
       simp [hcode]
      have A7 := hid (blk_below a6 AB.out)
      have HC := hid hcode
      have C7 := hid cc
      have OB := hid (show w6.heap.size < (w6.alloc (.cells #[.int .i64 k', .int .i64 a', .int .i64 n', .string x', .int .i64 op', .slice Cl rl el, .slice Cf rf ef] 38)).heap.size from by rw [World.size_alloc]; omega)
      have L6 := hid (And.intro (lt_blk a6) (lt_blk c6))
      clear h3 h4 h5 h6 ht' hcode c6 a6 LV2 cc
      go_wp2
      have X7 := hid (X6.out.keep (fun i _ hl => AB.out.block i hl) (Below.size AB.out) (fun i hi _ => hi))
      have B7 := hid (show SL (w6.alloc (.cells #[.int .i64 k', .int .i64 a', .int .i64 n', .string x', .int .i64 op', .slice Cl rl el, .slice Cf rf ef] 38)) (fun i => w.heap.size + 1 ≤ i ∧ i ≠ b9) 0 (.slice Cl rl el) l' ∧ SL (w6.alloc (.cells #[.int .i64 k', .int .i64 a', .int .i64 n', .string x', .int .i64 op', .slice Cl rl el, .slice Cf rf ef] 38)) (fun i => w.heap.size + 1 ≤ i ∧ i ≠ b9) 1 (.slice Cf rf ef) f2' from
       ⟨SL.keep (fun i _ hl => AB.out.block i hl) (Below.size AB.out) (fun i hi _ => ⟨by omega, by omega⟩) _ _ _ XB.out.2.1, SL.keep (fun i _ hl => AB.out.block i hl) (Below.size AB.out) (fun i hi _ => ⟨by omega, by omega⟩) _ _ _ XB.out.2.2⟩)
      have P7 := hid (P6.out.below AB.out)
      have K7 := hid (show KpP E wr (w6.alloc (.cells #[.int .i64 k', .int .i64 a', .int .i64 n', .string x', .int .i64 op', .slice Cl rl el, .slice Cf rf ef] 38)) from K6.out.trans (.of (AB.out.mono K6.out.size)))
      have TB := hid XB.out.1
      have nb0 : w6.heap.size ≠ b9 := by have := L6.out; omega
      clear P6 K6 X6 XB AB L6
      generalize w6.alloc (.cells #[.int .i64 k', .int .i64 a', .int .i64 n', .string x', .int .i64 op', .slice Cl rl el, .slice Cf rf ef] 38) = w7 at A7 aB C7 OB X7 B7 P7 K7 ⊢
      generalize w6.heap.size = bb at aB OB nb0 ⊢
      obtain ⟨⟨a0, a1, a2, a3, a4, a5, a6⟩, ⟨f0, f1, f2, f3, f4, f5, f6⟩⟩ := cells7 A7.out
      obtain ⟨⟨b0, b1, b2, b3, b4, b5, b6⟩, _⟩ := cells7 aB.out
      have cc := C7.out
      have lb9' := lt_blk A7.out
      have lbb := OB.out
      have lcb := World.block_lt_of_cell? w7 _ cc
      have nb2 : b9 ≠ w7.heap.size := Nat.ne_of_lt lb9'
      go_region
      have AY := hid (alloc_old (w := (((((((w7.setCell ⟨b9, 0, none⟩ (.int .i64 14)).setCell ⟨b9, 1, none⟩ (.int .i64 (E.pl st.i))).setCell ⟨b9, 2, none⟩ (.int .i64 0)).setCell ⟨b9, 3, none⟩ (.string ⟨#[]⟩)).setCell ⟨b9, 4, none⟩ (.int .i64 code)).setCell ⟨b9, 5, none⟩ (.slice (some ⟨w7.heap.size, 0, none⟩) 2 2)).setCell ⟨b9, 6, none⟩ (.slice none 0 0))) (o := .cells #[.int .i64 v0, .int .i64 v1, .int .i64 v2, .string v3, .int .i64 v4, .slice Bl ml dl, .slice Bf mf df, .int .i64 k', .int .i64 a', .int .i64 n', .string x', .int .i64 op', .slice Cl rl el, .slice Cf rf ef] 38))
      have nY := hid (heap_alloc_new ((((((((w7.setCell ⟨b9, 0, none⟩ (.int .i64 14)).setCell ⟨b9, 1, none⟩ (.int .i64 (E.pl st.i))).setCell ⟨b9, 2, none⟩ (.int .i64 0)).setCell ⟨b9, 3, none⟩ (.string ⟨#[]⟩)).setCell ⟨b9, 4, none⟩ (.int .i64 code)).setCell ⟨b9, 5, none⟩ (.slice (some ⟨w7.heap.size, 0, none⟩) 2 2)).setCell ⟨b9, 6, none⟩ (.slice none 0 0))) (.cells #[.int .i64 v0, .int .i64 v1, .int .i64 v2, .string v3, .int .i64 v4, .slice Bl ml dl, .slice Bf mf df, .int .i64 k', .int .i64 a', .int .i64 n', .string x', .int .i64 op', .slice Cl rl el, .slice Cf rf ef] 38))
      have sz7 : ((((((((w7.setCell ⟨b9, 0, none⟩ (.int .i64 14)).setCell ⟨b9, 1, none⟩ (.int .i64 (E.pl st.i))).setCell ⟨b9, 2, none⟩ (.int .i64 0)).setCell ⟨b9, 3, none⟩ (.string ⟨#[]⟩)).setCell ⟨b9, 4, none⟩ (.int .i64 code)).setCell ⟨b9, 5, none⟩ (.slice (some ⟨w7.heap.size, 0, none⟩) 2 2)).setCell ⟨b9, 6, none⟩ (.slice none 0 0))).heap.size = w7.heap.size := by simp [World.setCell]
      have hk7 := K7.out.size
      have hkw := KW.out.size
      have keepY : ∀ i, w.heap.size + 1 ≤ i ∧ i ≠ b9 → i < w7.heap.size → (((((((((w7.setCell ⟨b9, 0, none⟩ (.int .i64 14)).setCell ⟨b9, 1, none⟩ (.int .i64 (E.pl st.i))).setCell ⟨b9, 2, none⟩ (.int .i64 0)).setCell ⟨b9, 3, none⟩ (.string ⟨#[]⟩)).setCell ⟨b9, 4, none⟩ (.int .i64 code)).setCell ⟨b9, 5, none⟩ (.slice (some ⟨w7.heap.size, 0, none⟩) 2 2)).setCell ⟨b9, 6, none⟩ (.slice none 0 0)).alloc (.cells #[.int .i64 v0, .int .i64 v1, .int .i64 v2, .string v3, .int .i64 v4, .slice Bl ml dl, .slice Bf mf df, .int .i64 k', .int .i64 a', .int .i64 n', .string x', .int .i64 op', .slice Cl rl el, .slice Cf rf ef] 38)).drew).heap[i]? = w7.heap[i]? := fun i hi hlt =>
       (AY.out.block i (by rw [sz7]; exact hlt)).trans (Go.Proofs.YtgkejkgailnbmaaGreatDoor.far7 _ _ _ _ _ _ _ hi.2)
      have sY : w7.heap.size ≤ (((((((((w7.setCell ⟨b9, 0, none⟩ (.int .i64 14)).setCell ⟨b9, 1, none⟩ (.int .i64 (E.pl st.i))).setCell ⟨b9, 2, none⟩ (.int .i64 0)).setCell ⟨b9, 3, none⟩ (.string ⟨#[]⟩)).setCell ⟨b9, 4, none⟩ (.int .i64 code)).setCell ⟨b9, 5, none⟩ (.slice (some ⟨w7.heap.size, 0, none⟩) 2 2)).setCell ⟨b9, 6, none⟩ (.slice none 0 0)).alloc (.cells #[.int .i64 v0, .int .i64 v1, .int .i64 v2, .string v3, .int .i64 v4, .slice Bl ml dl, .slice Bf mf df, .int .i64 k', .int .i64 a', .int .i64 n', .string x', .int .i64 op', .slice Cl rl el, .slice Cf rf ef] 38)).drew).heap.size := by
       show w7.heap.size ≤ ((((((((w7.setCell ⟨b9, 0, none⟩ (.int .i64 14)).setCell ⟨b9, 1, none⟩ (.int .i64 (E.pl st.i))).setCell ⟨b9, 2, none⟩ (.int .i64 0)).setCell ⟨b9, 3, none⟩ (.string ⟨#[]⟩)).setCell ⟨b9, 4, none⟩ (.int .i64 code)).setCell ⟨b9, 5, none⟩ (.slice (some ⟨w7.heap.size, 0, none⟩) 2 2)).setCell ⟨b9, 6, none⟩ (.slice none 0 0)) |>.alloc (.cells #[.int .i64 v0, .int .i64 v1, .int .i64 v2, .string v3, .int .i64 v4, .slice Bl ml dl, .slice Bf mf df, .int .i64 k', .int .i64 a', .int .i64 n', .string x', .int .i64 op', .slice Cl rl el, .slice Cf rf ef] 38)).heap.size
       rw [World.size_alloc, sz7]
       omega
      have hb9 := hl.1
      have np : E.p ≠ b9 := by omega
      have ng : E.g ≠ b9 := by omega
      have PSY := ((P7.out.far7 np ng (.int .i64 14) (.int .i64 (E.pl st.i)) (.int .i64 0) (.string ⟨#[]⟩) (.int .i64 code) (.slice (some ⟨w7.heap.size, 0, none⟩) 2 2) (.slice none 0 0)).below AY.out).drew
      have b9Y := blk_below (set7 A7.out (.int .i64 14) (.int .i64 (E.pl st.i)) (.int .i64 0) (.string ⟨#[]⟩) (.int .i64 code) (.slice (some ⟨w7.heap.size, 0, none⟩) 2 2) (.slice none 0 0)) AY.out
      have hFb : w.heap.size + 1 ≤ w7.heap.size ∧ w7.heap.size ≠ b9 := by
       have := lt_blk A7.out
       omega
      have lY : (((((((((w7.setCell ⟨b9, 0, none⟩ (.int .i64 14)).setCell ⟨b9, 1, none⟩ (.int .i64 (E.pl st.i))).setCell ⟨b9, 2, none⟩ (.int .i64 0)).setCell ⟨b9, 3, none⟩ (.string ⟨#[]⟩)).setCell ⟨b9, 4, none⟩ (.int .i64 code)).setCell ⟨b9, 5, none⟩ (.slice (some ⟨w7.heap.size, 0, none⟩) 2 2)).setCell ⟨b9, 6, none⟩ (.slice none 0 0)).alloc (.cells #[.int .i64 v0, .int .i64 v1, .int .i64 v2, .string v3, .int .i64 v4, .slice Bl ml dl, .slice Bf mf df, .int .i64 k', .int .i64 a', .int .i64 n', .string x', .int .i64 op', .slice Cl rl el, .slice Cf rf ef] 38)).drew).heap[w7.heap.size]? = some (.cells #[.int .i64 v0, .int .i64 v1, .int .i64 v2, .string v3, .int .i64 v4, .slice Bl ml dl, .slice Bf mf df, .int .i64 k', .int .i64 a', .int .i64 n', .string x', .int .i64 op', .slice Cl rl el, .slice Cf rf ef] 38) := by
       have := nY.out
       rw [sz7] at this
       exact this
      have XRY := XR.two (E := E) (kind := 14) (code := code) (i := st.i) (F := fun i => w.heap.size + 1 ≤ i ∧ i ≠ b9) hFb lY (X7.out.keep keepY sY (fun i hi _ => hi)) (XR.keep ⟨_, _, _, _, _, _, _, _, _, TB.out, rfl, B7.out.1, B7.out.2⟩ keepY sY (fun i hi _ => hi))
      have q7 := FQ.out.2.2.2.2.2.2
      have z1 := q7.size
      have z2 := Below.size HW.out.1
      have nS : ¬ (b9 < z.heap.size ∧ (fun i => i ≠ E.p ∧ i ≠ b9) b9) := fun e => e.2.2 rfl
      have hzz : z.heap.size ≤ ((((((((w7.setCell ⟨b9, 0, none⟩ (.int .i64 14)).setCell ⟨b9, 1, none⟩ (.int .i64 (E.pl st.i))).setCell ⟨b9, 2, none⟩ (.int .i64 0)).setCell ⟨b9, 3, none⟩ (.string ⟨#[]⟩)).setCell ⟨b9, 4, none⟩ (.int .i64 code)).setCell ⟨b9, 5, none⟩ (.slice (some ⟨w7.heap.size, 0, none⟩) 2 2)).setCell ⟨b9, 6, none⟩ (.slice none 0 0))).heap.size := by rw [sz7]; omega
      have KPY := ((Kp.set7 ((q7.trans (.of (HW.out.1.mono z1))).trans (K7.out.mono (Nat.le_trans z1 z2) (fun _ hk => hk.1))) nS (.int .i64 14) (.int .i64 (E.pl st.i)) (.int .i64 0) (.string ⟨#[]⟩) (.int .i64 code) (.slice (some ⟨w7.heap.size, 0, none⟩) 2 2) (.slice none 0 0)).alloc hzz (.cells #[.int .i64 v0, .int .i64 v1, .int .i64 v2, .string v3, .int .i64 v4, .slice Bl ml dl, .slice Bf mf df, .int .i64 k', .int .i64 a', .int .i64 n', .string x', .int .i64 op', .slice Cl rl el, .slice Cf rf ef] 38)).drew
      have FY := hid (show PS E (((((((((w7.setCell ⟨b9, 0, none⟩ (.int .i64 14)).setCell ⟨b9, 1, none⟩ (.int .i64 (E.pl st.i))).setCell ⟨b9, 2, none⟩ (.int .i64 0)).setCell ⟨b9, 3, none⟩ (.string ⟨#[]⟩)).setCell ⟨b9, 4, none⟩ (.int .i64 code)).setCell ⟨b9, 5, none⟩ (.slice (some ⟨w7.heap.size, 0, none⟩) 2 2)).setCell ⟨b9, 6, none⟩ (.slice none 0 0)).alloc (.cells #[.int .i64 v0, .int .i64 v1, .int .i64 v2, .string v3, .int .i64 v4, .slice Bl ml dl, .slice Bf mf df, .int .i64 k', .int .i64 a', .int .i64 n', .string x', .int .i64 op', .slice Cl rl el, .slice Cf rf ef] 38)).drew) (F (adv st)).2 ∧ (((((((((w7.setCell ⟨b9, 0, none⟩ (.int .i64 14)).setCell ⟨b9, 1, none⟩ (.int .i64 (E.pl st.i))).setCell ⟨b9, 2, none⟩ (.int .i64 0)).setCell ⟨b9, 3, none⟩ (.string ⟨#[]⟩)).setCell ⟨b9, 4, none⟩ (.int .i64 code)).setCell ⟨b9, 5, none⟩ (.slice (some ⟨w7.heap.size, 0, none⟩) 2 2)).setCell ⟨b9, 6, none⟩ (.slice none 0 0)).alloc (.cells #[.int .i64 v0, .int .i64 v1, .int .i64 v2, .string v3, .int .i64 v4, .slice Bl ml dl, .slice Bf mf df, .int .i64 k', .int .i64 a', .int .i64 n', .string x', .int .i64 op', .slice Cl rl el, .slice Cf rf ef] 38)).drew).heap[b9]? = some (.cells #[.int .i64 14, .int .i64 (E.pl st.i), .int .i64 0, .string ⟨#[]⟩, .int .i64 code, .slice (some ⟨w7.heap.size, 0, none⟩) 2 2, .slice none 0 0] 38) ∧ XR (((((((((w7.setCell ⟨b9, 0, none⟩ (.int .i64 14)).setCell ⟨b9, 1, none⟩ (.int .i64 (E.pl st.i))).setCell ⟨b9, 2, none⟩ (.int .i64 0)).setCell ⟨b9, 3, none⟩ (.string ⟨#[]⟩)).setCell ⟨b9, 4, none⟩ (.int .i64 code)).setCell ⟨b9, 5, none⟩ (.slice (some ⟨w7.heap.size, 0, none⟩) 2 2)).setCell ⟨b9, 6, none⟩ (.slice none 0 0)).alloc (.cells #[.int .i64 v0, .int .i64 v1, .int .i64 v2, .string v3, .int .i64 v4, .slice Bl ml dl, .slice Bf mf df, .int .i64 k', .int .i64 a', .int .i64 n', .string x', .int .i64 op', .slice Cl rl el, .slice Cf rf ef] 38)).drew) (fun i => w.heap.size + 1 ≤ i ∧ i ≠ b9) ((T.ex 14 (st.i : Int) 0 ⟨#[]⟩ code (T.of [t, (F (adv st)).1]) .nil).map E.gl) (.agg #[.int .i64 14, .int .i64 (E.pl st.i), .int .i64 0, .string ⟨#[]⟩, .int .i64 code, .slice (some ⟨w7.heap.size, 0, none⟩) 2 2, .slice none 0 0]) ∧ Kp z.heap.size (fun i => i ≠ E.p ∧ i ≠ b9) z (((((((((w7.setCell ⟨b9, 0, none⟩ (.int .i64 14)).setCell ⟨b9, 1, none⟩ (.int .i64 (E.pl st.i))).setCell ⟨b9, 2, none⟩ (.int .i64 0)).setCell ⟨b9, 3, none⟩ (.string ⟨#[]⟩)).setCell ⟨b9, 4, none⟩ (.int .i64 code)).setCell ⟨b9, 5, none⟩ (.slice (some ⟨w7.heap.size, 0, none⟩) 2 2)).setCell ⟨b9, 6, none⟩ (.slice none 0 0)).alloc (.cells #[.int .i64 v0, .int .i64 v1, .int .i64 v2, .string v3, .int .i64 v4, .slice Bl ml dl, .slice Bf mf df, .int .i64 k', .int .i64 a', .int .i64 n', .string x', .int .i64 op', .slice Cl rl el, .slice Cf rf ef] 38)).drew) from by
       exact ⟨PSY, b9Y, XRY, KPY⟩)
      have hfin : binLoop E.ts F 2 f' (.ex 14 (st.i : Int) 0 ⟨#[]⟩ code (T.of [t, (F (adv st)).1]) .nil) (F (adv st)).2 = R0 := by
       have h1 := FQ.out.2.1
       unfold binLoop at h1
       simp only [HWh.out] at h1
       rw [if_neg (show ¬ q = (ops 2).length from Nat.ne_of_lt hqm)] at h1
       rw [List.getD_eq_getElem?_getD, HC.out] at h1
       exact h1
      have HF := hid hfin
      have pw := FQ.out.2.2.2.1.pos
      have pY := FY.out.1.pos
      have g2 := G2.out
      have gA : (adv st).i = st.i + 1 := rfl
      clear hfin keepY PSY b9Y XRY KPY lY q7 z1 z2 nS hzz hFb np ng hb9 sY sz7 a0 a1 a2 a3 a4 a5 a6 b0 b1 b2 b3 b4 b5 b6 f0 f1 f2 f3 f4 f5 f6 cc
      go_wp2
      exact ⟨hid ⟨f', _, _, _, _, _, _, _, _, _, _, _, _, _, by have := FQ.out.1; have := g2.1; omega, HF.out, g2.2.1, FY.out.1, FY.out.2.1, FY.out.2.2.1, FY.out.2.2.2⟩, by rw [pw, pY]; have := g2.1; have := g2.2.1; omega⟩
    ·have i0 : ¬ (q : Int) < (6 : Int) := by omega
     obtain rfl : q = 6 := by omega
     have hwh : which E.ts (ops 2) st = (ops 2).length := which_none (fun j x hx => HW.out.2 j x (show j < (ops 2).length from (List.getElem?_eq_some_iff.1 hx).1) hx)
     have hR : R0 = (t, st) := by
      rw [← FQ.out.2.1]
      unfold binLoop
      simp only [hwh, if_true]
     obtain ⟨⟨c0, c1, c2, c3, c4, c5, c6⟩, ⟨f0, f1, f2, f3, f4, f5, f6⟩⟩ := cells7 rW.out
     obtain ⟨⟨a0, a1, a2, a3, a4, a5, a6⟩, _⟩ := cells7 aW.out
     have HR := hid hR
     clear hwh hR
     go_wp2
     have hl := FZ.out.2.2.2.2.2.2.2
     have EN := X_end (E := E) (XW.out.keep (fun _ _ _ => rfl) (Nat.le_refl _) (fun i hi _ => hi.1)) P2.out hl.2.2.2.2.2.1 hl.2.2.2.2.2.2 KW.out
     refine bodyPost_ret (v := .agg #[.int .i64 v0, .int .i64 v1, .int .i64 v2, .string v3, .int .i64 v4, .slice Bl ml dl, .slice Bf mf df]) (by simp [results, Tryz.results68, go_sem, c0, c1, c2, c3, c4, c5, c6]) rfl ?_
     rw [HR.out]
     exact ⟨_, rfl, EN⟩
 ·skip
  have e0 : bin E.ts F 2 s = (T0, s) := if_pos h0
  rw [e0]
  have PA := hid (h.below A1.out)
  obtain ⟨_, _, _, c2, _⟩ := PA.out.cells
  obtain ⟨⟨a0, a1, a2, a3, a4, a5, a6⟩, ⟨f0, f1, f2, f3, f4, f5, f6⟩⟩ := cells7 r1.out
  clear h hE hL e0
  show Calls _ _ #[.pointer (some ⟨E.p, 0, none⟩), .int .i64 2, .int .i64 d] _ _
  go_enter Tryz.func68, Tryz.ntmps68
  go_wp2
  refine bodyPost_ret (v := .agg #[.int .i64 0, .int .i64 0, .int .i64 0, .string ⟨#[]⟩, .int .i64 0, .slice none 0 0, .slice none 0 0]) (by simp [results, Tryz.results68, go_sem, a0, a1, a2, a3, a4, a5, a6]) rfl ?_
  exact ⟨_, rfl, XR.zero E _ _, PA.out, Kp.of A1.out⟩
end Go.Proofs.YtgkejkgailnbmaaGreatDoor
