/- The space: a pointer to a map of entries and a number; looking keys up. -/
import Derived.Test.YtllaeocclpaiaaaGreatDoorSt3
import Derived.Test.YtllaeocclpaiaaaGreatDoorMapT
namespace Go.Proofs.YtllaeocclpaiaaaGreatDoor
open Go.ChangeShapes Go.WideShapes Go.ChangeAt Go.RowKit

set_option maxRecDepth 100000 in
set_option maxHeartbeats 2000000 in
theorem May15 (k t : ByteArray) (hk1 : 1 ≤ k.size) (hk : k.size ≤ 512) (ht : t.size ≤ 4096) (u : Int) (hu0 : 0 ≤ u) (hu1 : u ≤ 1125899906842624) (w : World) : Calls Tryz.prog 10 #[.agg #[.string k, .int .i64 1, .string t, .slice none 0 0, .slice none 0 0, .slice none 0 0, .slice none 0 0, .int .i64 u]] w fun e w' => e = .returned (.bool true) ∧ Below w.heap.size w w' := by
  have V := Lib.hid (fun w => VMay23 t ht w)
  have hb1 := Lib.hid (heap_alloc_new w (.cells #[.string k, .int .i64 1, .string t, .slice none 0 0, .slice none 0 0, .slice none 0 0, .slice none 0 0, .int .i64 u] 33))
  have i1 : (1 : Int) ≤ (k.size : Int) := by omega
  have i2 : (k.size : Int) ≤ 512 := by omega
  go_enter Tryz.func10, Tryz.ntmps10
  go_wp2_with (first | (go_at_call 35; (with_reducible refine (V.out _).mono ?_); rintro e w1 ⟨rfl, h1⟩; have B1 := Lib.hid h1; clear h1; obtain ⟨⟨c0, c1, c2, c3, c4, c5, c6, c7⟩, _, z1⟩ := cells8 (blk_below hb1.out B1.out)))
  go_ret
  exact ⟨by simp, alloc_old.trans (B1.out.mono (by simp))⟩
/-- The space at block bS, its map at block bM, and what the map holds. -/
def SP (w : World) (bS bM : Nat) (l : MapT.Ents) : Prop := (∃ mem : Int, w.heap[bS]? = some (.cells #[.map (some bM), .int .i64 mem] 46)) ∧ MapT.MB w bM l ∧ bS ≠ bM
theorem SP.below {w w' : World} {bS bM : Nat} {l : MapT.Ents} (h : SP w bS bM l) (hb : Below w.heap.size w w') : SP w' bS bM l := by
  obtain ⟨⟨mem, h1⟩, h2, h3⟩ := h
  exact ⟨⟨mem, blk_below h1 hb⟩, h2.below hb, h3⟩
theorem SP.cell {w : World} {bS bM : Nat} {l : MapT.Ents} (h : SP w bS bM l) : w.cell? ⟨bS, 0, none⟩ = some (.map (some bM)) ∧ bS < w.heap.size := by
  obtain ⟨⟨mem, h1⟩, _⟩ := h
  exact ⟨by simp [World.cell?, h1], (Array.getElem?_eq_some_iff.1 h1).1⟩
theorem zero33 (w : World) : (zeroValue 33).run Tryz.prog w = .ok (.agg #[.string ⟨#[]⟩, .int .i64 0, .string ⟨#[]⟩, .slice none 0 0, .slice none 0 0, .slice none 0 0, .slice none 0 0, .int .i64 0]) w := by kernel_rfl
set_option maxRecDepth 100000 in
set_option maxHeartbeats 2000000 in
theorem New9 (w : World) : Calls Tryz.prog 4 #[] w fun e w' => ∃ bS bM, e = .returned (.pointer (some ⟨bS, 0, none⟩)) ∧ SP w' bS bM [] ∧ w.heap.size ≤ bS ∧ w.heap.size ≤ bM ∧ Below w.heap.size w w' := by
  have hmm := @run_makeMap Tryz.prog
  go_enter Tryz.func4, Tryz.ntmps4
  go_wp2
  go_ret
  refine ⟨w.heap.size + 1, w.heap.size, rfl, ⟨⟨0, ?_⟩, (MapT.MB.made w).kept ?_, by omega⟩, by omega, Nat.le_refl _, alloc_old.trans (alloc_old.mono (by simp))⟩
  · have := heap_alloc_new (w.alloc (.map #[] 0)) (.cells #[.map (some w.heap.size), .int .i64 0] 46)
    rw [World.size_alloc] at this
    exact this
  · exact Below.heap_alloc _ _ _ (by simp)
set_option maxRecDepth 100000 in
set_option maxHeartbeats 2000000 in
theorem Has_yes (bS bM : Nat) (l : MapT.Ents) (k : ByteArray) (t : ByteArray) (u : Int) (kd : Int) (hf : MapT.find k l = some (.agg #[.string k, .int .i64 kd, .string t, .slice none 0 0, .slice none 0 0, .slice none 0 0, .slice none 0 0, .int .i64 u])) (w : World) (h : SP w bS bM l) : Calls Tryz.prog 90 #[.pointer (some ⟨bS, 0, none⟩), .string k] w fun e w' => e = .returned (.tuple #[.agg #[.string k, .int .i64 kd, .string t, .slice none 0 0, .slice none 0 0, .slice none 0 0, .slice none 0 0, .int .i64 u], .bool true]) ∧ Below w.heap.size w w' := by
  have CL := Lib.hid (fun w => clone17 k kd t u w)
  have hr : (if true = true then Value.tuple #[(MapT.find k l).getD (.agg #[.string ⟨#[]⟩, .int .i64 0, .string ⟨#[]⟩, .slice none 0 0, .slice none 0 0, .slice none 0 0, .slice none 0 0, .int .i64 0]), .bool (MapT.find k l).isSome] else (MapT.find k l).getD (.agg #[.string ⟨#[]⟩, .int .i64 0, .string ⟨#[]⟩, .slice none 0 0, .slice none 0 0, .slice none 0 0, .slice none 0 0, .int .i64 0])) = .tuple #[.agg #[.string k, .int .i64 kd, .string t, .slice none 0 0, .slice none 0 0, .slice none 0 0, .slice none 0 0, .int .i64 u], .bool true] := by rw [hf]; rfl
  have HR := Lib.hid hr
  have z2 := Lib.hid (fun o => show ((w.alloc (.cells #[.string ⟨#[]⟩, .int .i64 0, .string ⟨#[]⟩, .slice none 0 0, .slice none 0 0, .slice none 0 0, .slice none 0 0, .int .i64 0] 33)).alloc o).heap[w.heap.size]? = some (.cells #[.string ⟨#[]⟩, .int .i64 0, .string ⟨#[]⟩, .slice none 0 0, .slice none 0 0, .slice none 0 0, .slice none 0 0, .int .i64 0] 33) from blk_below (heap_alloc_new w _) alloc_old)
  have hs := (h.below (alloc_old (o := .cells #[.string ⟨#[]⟩, .int .i64 0, .string ⟨#[]⟩, .slice none 0 0, .slice none 0 0, .slice none 0 0, .slice none 0 0, .int .i64 0] 33))).cell
  obtain ⟨hs1, hs2⟩ := hs
  have hM := Lib.hid (h.2.1.below (alloc_old (o := .cells #[.string ⟨#[]⟩, .int .i64 0, .string ⟨#[]⟩, .slice none 0 0, .slice none 0 0, .slice none 0 0, .slice none 0 0, .int .i64 0] 33)))
  clear h hf hr
  go_enter Tryz.func90, Tryz.ntmps90
  go_wp2_with (first | (at_lookup; refine MapT.at_look _ rfl _ _ true rfl Tryz.underlying44 Tryz.underlying9 bM l rfl hM.out k rfl _ (zero33 _) _ HR.out ?_) | (go_at_call 12; (with_reducible refine (CL.out _).mono ?_); rintro e w1 ⟨rfl, h1⟩; have B1 := Lib.hid h1; clear h1; obtain ⟨⟨c0, c1, c2, c3, c4, c5, c6, c7⟩, ⟨f0, f1, f2, f3, f4, f5, f6, f7⟩, z1⟩ := cells8 (blk_below (z2.out _) B1.out)))
  exact bodyPost_ret (v := .tuple #[.agg #[.string k, .int .i64 kd, .string t, .slice none 0 0, .slice none 0 0, .slice none 0 0, .slice none 0 0, .int .i64 u], .bool true]) (by simp [results, Tryz.results90, go_sem, c0, c1, c2, c3, c4, c5, c6, c7]) rfl ⟨rfl, (((((((((alloc_old.trans (alloc_old.mono (by simp))).trans (B1.out.mono (by simp; omega))).setCell (Nat.le_refl _) _).setCell (Nat.le_refl _) _).setCell (Nat.le_refl _) _).setCell (Nat.le_refl _) _).setCell (Nat.le_refl _) _).setCell (Nat.le_refl _) _).setCell (Nat.le_refl _) _).setCell (Nat.le_refl _) _⟩
set_option maxRecDepth 100000 in
set_option maxHeartbeats 2000000 in
theorem Has_no (bS bM : Nat) (l : MapT.Ents) (k : ByteArray) (hf : MapT.find k l = none) (w : World) (h : SP w bS bM l) : Calls Tryz.prog 90 #[.pointer (some ⟨bS, 0, none⟩), .string k] w fun e w' => e = .returned (.tuple #[.agg #[.string ⟨#[]⟩, .int .i64 0, .string ⟨#[]⟩, .slice none 0 0, .slice none 0 0, .slice none 0 0, .slice none 0 0, .int .i64 0], .bool false]) ∧ Below w.heap.size w w' := by
  have CL := Lib.hid (fun w => clone17 ⟨#[]⟩ 0 ⟨#[]⟩ 0 w)
  have hr : (if true = true then Value.tuple #[(MapT.find k l).getD (.agg #[.string ⟨#[]⟩, .int .i64 0, .string ⟨#[]⟩, .slice none 0 0, .slice none 0 0, .slice none 0 0, .slice none 0 0, .int .i64 0]), .bool (MapT.find k l).isSome] else (MapT.find k l).getD (.agg #[.string ⟨#[]⟩, .int .i64 0, .string ⟨#[]⟩, .slice none 0 0, .slice none 0 0, .slice none 0 0, .slice none 0 0, .int .i64 0])) = .tuple #[.agg #[.string ⟨#[]⟩, .int .i64 0, .string ⟨#[]⟩, .slice none 0 0, .slice none 0 0, .slice none 0 0, .slice none 0 0, .int .i64 0], .bool false] := by rw [hf]; rfl
  have HR := Lib.hid hr
  have z2 := Lib.hid (fun o => show ((w.alloc (.cells #[.string ⟨#[]⟩, .int .i64 0, .string ⟨#[]⟩, .slice none 0 0, .slice none 0 0, .slice none 0 0, .slice none 0 0, .int .i64 0] 33)).alloc o).heap[w.heap.size]? = some (.cells #[.string ⟨#[]⟩, .int .i64 0, .string ⟨#[]⟩, .slice none 0 0, .slice none 0 0, .slice none 0 0, .slice none 0 0, .int .i64 0] 33) from blk_below (heap_alloc_new w _) alloc_old)
  have hs := (h.below (alloc_old (o := .cells #[.string ⟨#[]⟩, .int .i64 0, .string ⟨#[]⟩, .slice none 0 0, .slice none 0 0, .slice none 0 0, .slice none 0 0, .int .i64 0] 33))).cell
  obtain ⟨hs1, hs2⟩ := hs
  have hM := Lib.hid (h.2.1.below (alloc_old (o := .cells #[.string ⟨#[]⟩, .int .i64 0, .string ⟨#[]⟩, .slice none 0 0, .slice none 0 0, .slice none 0 0, .slice none 0 0, .int .i64 0] 33)))
  clear h hf hr
  go_enter Tryz.func90, Tryz.ntmps90
  go_wp2_with (first | (at_lookup; refine MapT.at_look _ rfl _ _ true rfl Tryz.underlying44 Tryz.underlying9 bM l rfl hM.out k rfl _ (zero33 _) _ HR.out ?_) | (go_at_call 12; (with_reducible refine (CL.out _).mono ?_); rintro e w1 ⟨rfl, h1⟩; have B1 := Lib.hid h1; clear h1; obtain ⟨⟨c0, c1, c2, c3, c4, c5, c6, c7⟩, ⟨f0, f1, f2, f3, f4, f5, f6, f7⟩, z1⟩ := cells8 (blk_below (z2.out _) B1.out)))
  exact bodyPost_ret (v := .tuple #[.agg #[.string ⟨#[]⟩, .int .i64 0, .string ⟨#[]⟩, .slice none 0 0, .slice none 0 0, .slice none 0 0, .slice none 0 0, .int .i64 0], .bool false]) (by simp [results, Tryz.results90, go_sem, c0, c1, c2, c3, c4, c5, c6, c7]) rfl ⟨rfl, (((((((((alloc_old.trans (alloc_old.mono (by simp))).trans (B1.out.mono (by simp; omega))).setCell (Nat.le_refl _) _).setCell (Nat.le_refl _) _).setCell (Nat.le_refl _) _).setCell (Nat.le_refl _) _).setCell (Nat.le_refl _) _).setCell (Nat.le_refl _) _).setCell (Nat.le_refl _) _).setCell (Nat.le_refl _) _⟩
end Go.Proofs.YtllaeocclpaiaaaGreatDoor
