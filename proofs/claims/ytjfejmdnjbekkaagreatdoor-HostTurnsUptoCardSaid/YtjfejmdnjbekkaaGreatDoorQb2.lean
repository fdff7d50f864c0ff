/- Texts joined: St4, St5, St6 -/
import Derived.Test.YtjfejmdnjbekkaaGreatDoorQb1
set_option linter.unusedVariables false
set_option linter.unusedSimpArgs false

/- The space: a pointer to a map of entries and a number; looking keys up. -/
namespace Go.Proofs.YtjfejmdnjbekkaaGreatDoor
open Go.ChangeShapes Go.WideShapes Go.ChangeAt Go.RowKit

set_option maxRecDepth 100000 in
set_option maxHeartbeats 2000000 in
theorem May15 (k t : ByteArray) (hk1 : 1 ≤ k.size) (hk : k.size ≤ 512) (ht : t.size ≤ 4096) (u : Int) (hu0 : 0 ≤ u) (hu1 : u ≤ 1125899906842624) (w : World) : Calls Tryz.prog 70 #[.agg #[.string k, .int .i64 1, .string t, .slice none 0 0, .slice none 0 0, .slice none 0 0, .slice none 0 0, .int .i64 u]] w fun e w' => e = .returned (.bool true) ∧ Below w.heap.size w w' := by
  have V := Lib.hid (fun w => VMay23 t ht w)
  have hb1 := Lib.hid (heap_alloc_new w (.cells #[.string k, .int .i64 1, .string t, .slice none 0 0, .slice none 0 0, .slice none 0 0, .slice none 0 0, .int .i64 u] 84))
  have i1 : (1 : Int) ≤ (k.size : Int) := by omega
  have i2 : (k.size : Int) ≤ 512 := by omega
  go_enter Tryz.func70, Tryz.ntmps70
  go_wp2_with (first | (go_at_call 178; (with_reducible refine (V.out _).mono ?_); rintro e w1 ⟨rfl, h1⟩; have B1 := Lib.hid h1; clear h1; obtain ⟨⟨c0, c1, c2, c3, c4, c5, c6, c7⟩, _, z1⟩ := cells8 (blk_below hb1.out B1.out)))
  go_ret
  exact ⟨by simp, alloc_old.trans (B1.out.mono (by simp))⟩
/-- The space at block bS, its map at block bM, and what the map holds. -/
def SP (w : World) (bS bM : Nat) (l : MapT.Ents) : Prop := (∃ mem : Int, w.heap[bS]? = some (.cells #[.map (some bM), .int .i64 mem] 57)) ∧ MapT.MB w bM l ∧ bS ≠ bM
theorem SP.below {w w' : World} {bS bM : Nat} {l : MapT.Ents} (h : SP w bS bM l) (hb : Below w.heap.size w w') : SP w' bS bM l := by
  obtain ⟨⟨mem, h1⟩, h2, h3⟩ := h
  exact ⟨⟨mem, blk_below h1 hb⟩, h2.below hb, h3⟩
theorem SP.cell {w : World} {bS bM : Nat} {l : MapT.Ents} (h : SP w bS bM l) : w.cell? ⟨bS, 0, none⟩ = some (.map (some bM)) ∧ bS < w.heap.size := by
  obtain ⟨⟨mem, h1⟩, _⟩ := h
  exact ⟨by simp [World.cell?, h1], (Array.getElem?_eq_some_iff.1 h1).1⟩
theorem zero33 (w : World) : (zeroValue 84).run Tryz.prog w = .ok (.agg #[.string ⟨#[]⟩, .int .i64 0, .string ⟨#[]⟩, .slice none 0 0, .slice none 0 0, .slice none 0 0, .slice none 0 0, .int .i64 0]) w := by kernel_rfl
set_option maxRecDepth 100000 in
set_option maxHeartbeats 2000000 in
theorem New9 (w : World) : Calls Tryz.prog 14 #[] w fun e w' => ∃ bS bM, e = .returned (.pointer (some ⟨bS, 0, none⟩)) ∧ SP w' bS bM [] ∧ w.heap.size ≤ bS ∧ w.heap.size ≤ bM ∧ Below w.heap.size w w' := by
  have hmm := @run_makeMap Tryz.prog
  go_enter Tryz.func14, Tryz.ntmps14
  go_wp2
  go_ret
  refine ⟨w.heap.size + 1, w.heap.size, rfl, ⟨⟨0, ?_⟩, (MapT.MB.made w).kept ?_, by omega⟩, by omega, Nat.le_refl _, alloc_old.trans (alloc_old.mono (by simp))⟩
  · have := heap_alloc_new (w.alloc (.map #[] 0)) (.cells #[.map (some w.heap.size), .int .i64 0] 57)
    rw [World.size_alloc] at this
    exact this
  · exact Below.heap_alloc _ _ _ (by simp)
set_option maxRecDepth 100000 in
set_option maxHeartbeats 2000000 in
theorem Has_yes (bS bM : Nat) (l : MapT.Ents) (k : ByteArray) (t : ByteArray) (u : Int) (kd : Int) (hf : MapT.find k l = some (.agg #[.string k, .int .i64 kd, .string t, .slice none 0 0, .slice none 0 0, .slice none 0 0, .slice none 0 0, .int .i64 u])) (w : World) (h : SP w bS bM l) : Calls Tryz.prog 47 #[.pointer (some ⟨bS, 0, none⟩), .string k] w fun e w' => e = .returned (.tuple #[.agg #[.string k, .int .i64 kd, .string t, .slice none 0 0, .slice none 0 0, .slice none 0 0, .slice none 0 0, .int .i64 u], .bool true]) ∧ Below w.heap.size w w' := by
  have CL := Lib.hid (fun w => clone17 k kd t u w)
  have hr : (if true = true then Value.tuple #[(MapT.find k l).getD (.agg #[.string ⟨#[]⟩, .int .i64 0, .string ⟨#[]⟩, .slice none 0 0, .slice none 0 0, .slice none 0 0, .slice none 0 0, .int .i64 0]), .bool (MapT.find k l).isSome] else (MapT.find k l).getD (.agg #[.string ⟨#[]⟩, .int .i64 0, .string ⟨#[]⟩, .slice none 0 0, .slice none 0 0, .slice none 0 0, .slice none 0 0, .int .i64 0])) = .tuple #[.agg #[.string k, .int .i64 kd, .string t, .slice none 0 0, .slice none 0 0, .slice none 0 0, .slice none 0 0, .int .i64 u], .bool true] := by rw [hf]; rfl
  have HR := Lib.hid hr
  have z2 := Lib.hid (fun o => show ((w.alloc (.cells #[.string ⟨#[]⟩, .int .i64 0, .string ⟨#[]⟩, .slice none 0 0, .slice none 0 0, .slice none 0 0, .slice none 0 0, .int .i64 0] 84)).alloc o).heap[w.heap.size]? = some (.cells #[.string ⟨#[]⟩, .int .i64 0, .string ⟨#[]⟩, .slice none 0 0, .slice none 0 0, .slice none 0 0, .slice none 0 0, .int .i64 0] 84) from blk_below (heap_alloc_new w _) alloc_old)
  have hs := (h.below (alloc_old (o := .cells #[.string ⟨#[]⟩, .int .i64 0, .string ⟨#[]⟩, .slice none 0 0, .slice none 0 0, .slice none 0 0, .slice none 0 0, .int .i64 0] 84))).cell
  obtain ⟨hs1, hs2⟩ := hs
  have hM := Lib.hid (h.2.1.below (alloc_old (o := .cells #[.string ⟨#[]⟩, .int .i64 0, .string ⟨#[]⟩, .slice none 0 0, .slice none 0 0, .slice none 0 0, .slice none 0 0, .int .i64 0] 84)))
  clear h hf hr
  go_enter Tryz.func47, Tryz.ntmps47
  go_wp2_with (first | (at_lookup; refine MapT.at_look _ rfl _ _ true rfl Tryz.underlying55 Tryz.underlying9 bM l rfl hM.out k rfl _ (zero33 _) _ HR.out ?_) | (go_at_call 62; (with_reducible refine (CL.out _).mono ?_); rintro e w1 ⟨rfl, h1⟩; have B1 := Lib.hid h1; clear h1; obtain ⟨⟨c0, c1, c2, c3, c4, c5, c6, c7⟩, ⟨f0, f1, f2, f3, f4, f5, f6, f7⟩, z1⟩ := cells8 (blk_below (z2.out _) B1.out)))
  exact bodyPost_ret (v := .tuple #[.agg #[.string k, .int .i64 kd, .string t, .slice none 0 0, .slice none 0 0, .slice none 0 0, .slice none 0 0, .int .i64 u], .bool true]) (by simp [results, Tryz.results47, go_sem, c0, c1, c2, c3, c4, c5, c6, c7]) rfl ⟨rfl, (((((((((alloc_old.trans (alloc_old.mono (by simp))).trans (B1.out.mono (by simp; omega))).setCell (Nat.le_refl _) _).setCell (Nat.le_refl _) _).setCell (Nat.le_refl _) _).setCell (Nat.le_refl _) _).setCell (Nat.le_refl _) _).setCell (Nat.le_refl _) _).setCell (Nat.le_refl _) _).setCell (Nat.le_refl _) _⟩
set_option maxRecDepth 100000 in
set_option maxHeartbeats 2000000 in
theorem Has_no (bS bM : Nat) (l : MapT.Ents) (k : ByteArray) (hf : MapT.find k l = none) (w : World) (h : SP w bS bM l) : Calls Tryz.prog 47 #[.pointer (some ⟨bS, 0, none⟩), .string k] w fun e w' => e = .returned (.tuple #[.agg #[.string ⟨#[]⟩, .int .i64 0, .string ⟨#[]⟩, .slice none 0 0, .slice none 0 0, .slice none 0 0, .slice none 0 0, .int .i64 0], .bool false]) ∧ Below w.heap.size w w' := by
  have CL := Lib.hid (fun w => clone17 ⟨#[]⟩ 0 ⟨#[]⟩ 0 w)
  have hr : (if true = true then Value.tuple #[(MapT.find k l).getD (.agg #[.string ⟨#[]⟩, .int .i64 0, .string ⟨#[]⟩, .slice none 0 0, .slice none 0 0, .slice none 0 0, .slice none 0 0, .int .i64 0]), .bool (MapT.find k l).isSome] else (MapT.find k l).getD (.agg #[.string ⟨#[]⟩, .int .i64 0, .string ⟨#[]⟩, .slice none 0 0, .slice none 0 0, .slice none 0 0, .slice none 0 0, .int .i64 0])) = .tuple #[.agg #[.string ⟨#[]⟩, .int .i64 0, .string ⟨#[]⟩, .slice none 0 0, .slice none 0 0, .slice none 0 0, .slice none 0 0, .int .i64 0], .bool false] := by rw [hf]; rfl
  have HR := Lib.hid hr
  have z2 := Lib.hid (fun o => show ((w.alloc (.cells #[.string ⟨#[]⟩, .int .i64 0, .string ⟨#[]⟩, .slice none 0 0, .slice none 0 0, .slice none 0 0, .slice none 0 0, .int .i64 0] 84)).alloc o).heap[w.heap.size]? = some (.cells #[.string ⟨#[]⟩, .int .i64 0, .string ⟨#[]⟩, .slice none 0 0, .slice none 0 0, .slice none 0 0, .slice none 0 0, .int .i64 0] 84) from blk_below (heap_alloc_new w _) alloc_old)
  have hs := (h.below (alloc_old (o := .cells #[.string ⟨#[]⟩, .int .i64 0, .string ⟨#[]⟩, .slice none 0 0, .slice none 0 0, .slice none 0 0, .slice none 0 0, .int .i64 0] 84))).cell
  obtain ⟨hs1, hs2⟩ := hs
  have hM := Lib.hid (h.2.1.below (alloc_old (o := .cells #[.string ⟨#[]⟩, .int .i64 0, .string ⟨#[]⟩, .slice none 0 0, .slice none 0 0, .slice none 0 0, .slice none 0 0, .int .i64 0] 84)))
  clear h hf hr
  go_enter Tryz.func47, Tryz.ntmps47
  go_wp2_with (first | (at_lookup; refine MapT.at_look _ rfl _ _ true rfl Tryz.underlying55 Tryz.underlying9 bM l rfl hM.out k rfl _ (zero33 _) _ HR.out ?_) | (go_at_call 62; (with_reducible refine (CL.out _).mono ?_); rintro e w1 ⟨rfl, h1⟩; have B1 := Lib.hid h1; clear h1; obtain ⟨⟨c0, c1, c2, c3, c4, c5, c6, c7⟩, ⟨f0, f1, f2, f3, f4, f5, f6, f7⟩, z1⟩ := cells8 (blk_below (z2.out _) B1.out)))
  exact bodyPost_ret (v := .tuple #[.agg #[.string ⟨#[]⟩, .int .i64 0, .string ⟨#[]⟩, .slice none 0 0, .slice none 0 0, .slice none 0 0, .slice none 0 0, .int .i64 0], .bool false]) (by simp [results, Tryz.results47, go_sem, c0, c1, c2, c3, c4, c5, c6, c7]) rfl ⟨rfl, (((((((((alloc_old.trans (alloc_old.mono (by simp))).trans (B1.out.mono (by simp; omega))).setCell (Nat.le_refl _) _).setCell (Nat.le_refl _) _).setCell (Nat.le_refl _) _).setCell (Nat.le_refl _) _).setCell (Nat.le_refl _) _).setCell (Nat.le_refl _) _).setCell (Nat.le_refl _) _).setCell (Nat.le_refl _) _⟩
end Go.Proofs.YtjfejmdnjbekkaaGreatDoor

/- The space: a key's entry that is not over. -/
namespace Go.Proofs.YtjfejmdnjbekkaaGreatDoor
open Go.ChangeShapes Go.WideShapes Go.ChangeAt Go.RowKit

/-- An entry is not over. -/
def Lives (u now : Int) : Prop := u = 0 ∨ (0 < u ∧ now < u)
theorem Over_kd (k t : ByteArray) (kd u n : Int) (h : Lives u n) (w : World) : Calls Tryz.prog 192 #[.agg #[.string k, .int .i64 kd, .string t, .slice none 0 0, .slice none 0 0, .slice none 0 0, .slice none 0 0, .int .i64 u], .int .i64 n] w fun e w' => e = .returned (.bool false) ∧ Below w.heap.size w w' := by
  rcases h with rfl | ⟨h0, h1⟩
  · go_enter Tryz.func192, Tryz.ntmps192
    go_wp2
    go_ret
    exact ⟨rfl, alloc_old⟩
  · have g1 : ¬ u = 0 := by omega
    have g2 : (u == 0) = false := by rw [beq_eq_false_iff_ne]; exact g1
    have g3 : ¬ u ≤ n := by omega
    go_enter Tryz.func192, Tryz.ntmps192
    go_wp2
    go_ret
    exact ⟨by simp, alloc_old⟩
set_option maxRecDepth 100000 in
set_option maxHeartbeats 2000000 in
theorem Get_yes (bS bM : Nat) (l : MapT.Ents) (k t : ByteArray) (u kd now : Int) (hf : MapT.find k l = some (.agg #[.string k, .int .i64 kd, .string t, .slice none 0 0, .slice none 0 0, .slice none 0 0, .slice none 0 0, .int .i64 u])) (hl : Lives u now) (w : World) (h : SP w bS bM l) : Calls Tryz.prog 261 #[.pointer (some ⟨bS, 0, none⟩), .string k, .int .i64 now] w fun e w' => e = .returned (.tuple #[.agg #[.string k, .int .i64 kd, .string t, .slice none 0 0, .slice none 0 0, .slice none 0 0, .slice none 0 0, .int .i64 u], .bool true]) ∧ Below w.heap.size w w' := by
  have H := Lib.hid (Has_yes bS bM l k t u kd hf _ (h.below (alloc_old (w := w) (o := .cells #[.string ⟨#[]⟩, .int .i64 0, .string ⟨#[]⟩, .slice none 0 0, .slice none 0 0, .slice none 0 0, .slice none 0 0, .int .i64 0] 84))))
  have O := Lib.hid (fun w => Over_kd k t kd u now hl w)
  have z0 := Lib.hid (heap_alloc_new w (.cells #[.string ⟨#[]⟩, .int .i64 0, .string ⟨#[]⟩, .slice none 0 0, .slice none 0 0, .slice none 0 0, .slice none 0 0, .int .i64 0] 84))
  clear h hf hl
  go_enter Tryz.func261, Tryz.ntmps261
  go_wp2_with (first | (go_at_call 47; (with_reducible refine (H.out).mono ?_); rintro e w1 ⟨rfl, h1⟩; have B1 := Lib.hid h1; clear h1; refine Hid.out ?_))
  refine Lib.hid ?_
  have zE := Lib.hid (heap_alloc_new w1 (.cells #[.string k, .int .i64 kd, .string t, .slice none 0 0, .slice none 0 0, .slice none 0 0, .slice none 0 0, .int .i64 u] 84))
  go_wp2_with (first | (go_at_call 192; (with_reducible refine (O.out _).mono ?_); rintro e w2 ⟨rfl, h2⟩; have B2 := Lib.hid h2; clear h2; obtain ⟨⟨c0, c1, c2, c3, c4, c5, c6, c7⟩, ⟨f0, f1, f2, f3, f4, f5, f6, f7⟩, z1⟩ := cells8 (blk_below z0.out (belA B1.out B2.out)); obtain ⟨⟨d0, d1, d2, d3, d4, d5, d6, d7⟩, _, z2⟩ := cells8 (blk_below zE.out B2.out)))
  exact bodyPost_ret (v := .tuple #[.agg #[.string k, .int .i64 kd, .string t, .slice none 0 0, .slice none 0 0, .slice none 0 0, .slice none 0 0, .int .i64 u], .bool true]) (by simp [results, Tryz.results261, go_sem, c0, c1, c2, c3, c4, c5, c6, c7]) rfl ⟨rfl, (((((((((alloc_old.trans ((belA B1.out B2.out).mono (by simp))).setCell (Nat.le_refl _) _).setCell (Nat.le_refl _) _).setCell (Nat.le_refl _) _).setCell (Nat.le_refl _) _).setCell (Nat.le_refl _) _).setCell (Nat.le_refl _) _).setCell (Nat.le_refl _) _).setCell (Nat.le_refl _) _)⟩
set_option maxRecDepth 100000 in
set_option maxHeartbeats 2000000 in
theorem Get_no (bS bM : Nat) (l : MapT.Ents) (k : ByteArray) (now : Int) (hf : MapT.find k l = none) (w : World) (h : SP w bS bM l) : Calls Tryz.prog 261 #[.pointer (some ⟨bS, 0, none⟩), .string k, .int .i64 now] w fun e w' => e = .returned (.tuple #[.agg #[.string ⟨#[]⟩, .int .i64 0, .string ⟨#[]⟩, .slice none 0 0, .slice none 0 0, .slice none 0 0, .slice none 0 0, .int .i64 0], .bool false]) ∧ Below w.heap.size w w' := by
  have H := Lib.hid (Has_no bS bM l k hf _ (h.below (alloc_old (w := w) (o := .cells #[.string ⟨#[]⟩, .int .i64 0, .string ⟨#[]⟩, .slice none 0 0, .slice none 0 0, .slice none 0 0, .slice none 0 0, .int .i64 0] 84))))
  have z0 := Lib.hid (heap_alloc_new w (.cells #[.string ⟨#[]⟩, .int .i64 0, .string ⟨#[]⟩, .slice none 0 0, .slice none 0 0, .slice none 0 0, .slice none 0 0, .int .i64 0] 84))
  clear h hf
  go_enter Tryz.func261, Tryz.ntmps261
  go_wp2_with (first | (go_at_call 47; (with_reducible refine (H.out).mono ?_); rintro e w1 ⟨rfl, h1⟩; have B1 := Lib.hid h1; clear h1; obtain ⟨⟨c0, c1, c2, c3, c4, c5, c6, c7⟩, ⟨f0, f1, f2, f3, f4, f5, f6, f7⟩, z1⟩ := cells8 (blk_below z0.out B1.out)))
  exact bodyPost_ret (v := .tuple #[.agg #[.string ⟨#[]⟩, .int .i64 0, .string ⟨#[]⟩, .slice none 0 0, .slice none 0 0, .slice none 0 0, .slice none 0 0, .int .i64 0], .bool false]) (by simp [results, Tryz.results261, go_sem, c0, c1, c2, c3, c4, c5, c6, c7, z1]) rfl ⟨rfl, ((((((((((alloc_old.trans (B1.out.mono (by simp))).setCell (Nat.le_refl _) _).setCell (Nat.le_refl _) _).setCell (Nat.le_refl _) _).setCell (Nat.le_refl _) _).setCell (Nat.le_refl _) _).setCell (Nat.le_refl _) _).setCell (Nat.le_refl _) _).setCell (Nat.le_refl _) _)).alloc (by have := Below.size B1.out; simp at this ⊢; omega) _⟩
theorem Over_yes (k t : ByteArray) (kd u n : Int) (h0 : 0 < u) (h1 : u ≤ n) (w : World) : Calls Tryz.prog 192 #[.agg #[.string k, .int .i64 kd, .string t, .slice none 0 0, .slice none 0 0, .slice none 0 0, .slice none 0 0, .int .i64 u], .int .i64 n] w fun e w' => e = .returned (.bool true) ∧ Below w.heap.size w w' := by
  have g1 : ¬ u = 0 := by omega
  have g2 : (u == 0) = false := by rw [beq_eq_false_iff_ne]; exact g1
  go_enter Tryz.func192, Tryz.ntmps192
  go_wp2
  go_ret
  exact ⟨by simp; exact g1, alloc_old⟩
set_option maxRecDepth 100000 in
set_option maxHeartbeats 2000000 in
theorem Get_over (bS bM : Nat) (l : MapT.Ents) (k t : ByteArray) (u kd now : Int) (hf : MapT.find k l = some (.agg #[.string k, .int .i64 kd, .string t, .slice none 0 0, .slice none 0 0, .slice none 0 0, .slice none 0 0, .int .i64 u])) (h0 : 0 < u) (h1 : u ≤ now) (w : World) (h : SP w bS bM l) : Calls Tryz.prog 261 #[.pointer (some ⟨bS, 0, none⟩), .string k, .int .i64 now] w fun e w' => e = .returned (.tuple #[.agg #[.string ⟨#[]⟩, .int .i64 0, .string ⟨#[]⟩, .slice none 0 0, .slice none 0 0, .slice none 0 0, .slice none 0 0, .int .i64 0], .bool false]) ∧ Below w.heap.size w w' := by
  have H := Lib.hid (Has_yes bS bM l k t u kd hf _ (h.below (alloc_old (w := w) (o := .cells #[.string ⟨#[]⟩, .int .i64 0, .string ⟨#[]⟩, .slice none 0 0, .slice none 0 0, .slice none 0 0, .slice none 0 0, .int .i64 0] 84))))
  have O := Lib.hid (fun w => Over_yes k t kd u now h0 h1 w)
  have z0 := Lib.hid (heap_alloc_new w (.cells #[.string ⟨#[]⟩, .int .i64 0, .string ⟨#[]⟩, .slice none 0 0, .slice none 0 0, .slice none 0 0, .slice none 0 0, .int .i64 0] 84))
  clear h hf h0 h1
  go_enter Tryz.func261, Tryz.ntmps261
  go_wp2_with (first | (go_at_call 47; (with_reducible refine (H.out).mono ?_); rintro e w1 ⟨rfl, h1⟩; have B1 := Lib.hid h1; clear h1; refine Hid.out ?_))
  refine Lib.hid ?_
  have zE := Lib.hid (heap_alloc_new w1 (.cells #[.string k, .int .i64 kd, .string t, .slice none 0 0, .slice none 0 0, .slice none 0 0, .slice none 0 0, .int .i64 u] 84))
  go_wp2_with (first | (go_at_call 192; (with_reducible refine (O.out _).mono ?_); rintro e w2 ⟨rfl, h2⟩; have B2 := Lib.hid h2; clear h2; obtain ⟨⟨c0, c1, c2, c3, c4, c5, c6, c7⟩, ⟨f0, f1, f2, f3, f4, f5, f6, f7⟩, z1⟩ := cells8 (blk_below z0.out (belA B1.out B2.out)); obtain ⟨⟨d0, d1, d2, d3, d4, d5, d6, d7⟩, _, z2⟩ := cells8 (blk_below zE.out B2.out)))
  exact bodyPost_ret (v := .tuple #[.agg #[.string ⟨#[]⟩, .int .i64 0, .string ⟨#[]⟩, .slice none 0 0, .slice none 0 0, .slice none 0 0, .slice none 0 0, .int .i64 0], .bool false]) (by simp [results, Tryz.results261, go_sem, c0, c1, c2, c3, c4, c5, c6, c7]) rfl ⟨rfl, (((((((((alloc_old.trans ((belA B1.out B2.out).mono (by simp))).setCell (Nat.le_refl _) _).setCell (Nat.le_refl _) _).setCell (Nat.le_refl _) _).setCell (Nat.le_refl _) _).setCell (Nat.le_refl _) _).setCell (Nat.le_refl _) _).setCell (Nat.le_refl _) _).setCell (Nat.le_refl _) _)⟩
end Go.Proofs.YtjfejmdnjbekkaaGreatDoor

/- A job's look at a key. -/
namespace Go.Proofs.YtjfejmdnjbekkaaGreatDoor
open Go.ChangeShapes Go.WideShapes Go.ChangeAt Go.RowKit

/-- A job at block j. -/
def JB (w : World) (j bS : Nat) (now : Int) (vA vl : Value) : Prop := w.heap[j]? = some (.cells #[.pointer (some ⟨bS, 0, none⟩), .int .i64 now, vA, vl] 139)
theorem JB.below {w w' : World} {j bS : Nat} {now : Int} {vA vl : Value} (h : JB w j bS now vA vl) (hb : Below w.heap.size w w') : JB w' j bS now vA vl := blk_below h hb
theorem JB.cells {w : World} {j bS : Nat} {now : Int} {vA vl : Value} (h : JB w j bS now vA vl) : w.cell? ⟨j, 0, none⟩ = some (.pointer (some ⟨bS, 0, none⟩)) ∧ w.cell? ⟨j, 1, none⟩ = some (.int .i64 now) ∧ w.cell? ⟨j, 2, none⟩ = some vA ∧ w.cell? ⟨j, 3, none⟩ = some vl ∧ w.frozen? ⟨j, 3, none⟩ = false ∧ j < w.heap.size := by
  unfold JB at h
  exact ⟨by simp [World.cell?, h], by simp [World.cell?, h], by simp [World.cell?, h], by simp [World.cell?, h], by simp [World.frozen?, h], (Array.getElem?_eq_some_iff.1 h).1⟩
set_option maxRecDepth 100000 in
set_option maxHeartbeats 4000000 in
theorem JGet_yes (bS bM j : Nat) (l : MapT.Ents) (k : ByteArray) (now : Int) (vA vl : Value) (t : ByteArray) (u kd : Int) (hf : MapT.find k l = some (.agg #[.string k, .int .i64 kd, .string t, .slice none 0 0, .slice none 0 0, .slice none 0 0, .slice none 0 0, .int .i64 u])) (hl : Lives u now) (w : World) (h : SP w bS bM l) (hj : JB w j bS now vA vl) : Calls Tryz.prog 182 #[.pointer (some ⟨j, 0, none⟩), .string k] w fun e w' => e = .returned (.tuple #[.agg #[.string k, .int .i64 kd, .string t, .slice none 0 0, .slice none 0 0, .slice none 0 0, .slice none 0 0, .int .i64 u], .bool true]) ∧ Below w.heap.size w w' := by
  obtain ⟨W, hW⟩ : ∃ W, w.alloc (.cells #[.string ⟨#[]⟩, .int .i64 0, .string ⟨#[]⟩, .slice none 0 0, .slice none 0 0, .slice none 0 0, .slice none 0 0, .int .i64 0] 84) = W := ⟨_, rfl⟩
  have hb3 : Below w.heap.size w W := by rw [← hW]; exact alloc_old
  have z0 : W.heap[w.heap.size]? = some (.cells #[.string ⟨#[]⟩, .int .i64 0, .string ⟨#[]⟩, .slice none 0 0, .slice none 0 0, .slice none 0 0, .slice none 0 0, .int .i64 0] 84) := by rw [← hW]; exact heap_alloc_new w _
  have hJ := hj.below hb3
  have hS := h.below hb3
  have G := Lib.hid (show ∀ X, ((X.cell? ⟨j, 0, none⟩ = some (.pointer (some ⟨bS, 0, none⟩)) ∧ X.cell? ⟨j, 1, none⟩ = some (.int .i64 now)) ∧ Below W.heap.size W X) → Calls Tryz.prog 261 #[.pointer (some ⟨bS, 0, none⟩), .string k, .int .i64 now] X (fun e w' => e = .returned (.tuple #[.agg #[.string k, .int .i64 kd, .string t, .slice none 0 0, .slice none 0 0, .slice none 0 0, .slice none 0 0, .int .i64 u], .bool true]) ∧ Below X.heap.size X w') from fun X hX => Get_yes bS bM l k t u kd now hf hl X (hS.below hX.2))
  have K := Lib.hid (show ∀ X, Below W.heap.size W X → ((X.cell? ⟨j, 0, none⟩ = some (.pointer (some ⟨bS, 0, none⟩)) ∧ X.cell? ⟨j, 1, none⟩ = some (.int .i64 now)) ∧ Below W.heap.size W X) from fun X hb => ⟨⟨(hJ.below hb).cells.1, (hJ.below hb).cells.2.1⟩, hb⟩)
  have S0 : ((W.drew.cell? ⟨j, 0, none⟩ = some (.pointer (some ⟨bS, 0, none⟩)) ∧ W.drew.cell? ⟨j, 1, none⟩ = some (.int .i64 now)) ∧ Below W.heap.size W W.drew) := K.out _ (Below.refl W.heap.size W).drew
  have SK := Lib.hid (show ∀ Y X : World, Below X.heap.size X Y → ((X.cell? ⟨j, 0, none⟩ = some (.pointer (some ⟨bS, 0, none⟩)) ∧ X.cell? ⟨j, 1, none⟩ = some (.int .i64 now)) ∧ Below W.heap.size W X) → ((Y.cell? ⟨j, 0, none⟩ = some (.pointer (some ⟨bS, 0, none⟩)) ∧ Y.cell? ⟨j, 1, none⟩ = some (.int .i64 now)) ∧ Below W.heap.size W Y) from fun Y X hb h => K.out _ (belT h.2 hb))
  have SA := Lib.hid (show ∀ (X : World) (o : Obj), ((X.cell? ⟨j, 0, none⟩ = some (.pointer (some ⟨bS, 0, none⟩)) ∧ X.cell? ⟨j, 1, none⟩ = some (.int .i64 now)) ∧ Below W.heap.size W X) → (((X.alloc o).cell? ⟨j, 0, none⟩ = some (.pointer (some ⟨bS, 0, none⟩)) ∧ (X.alloc o).cell? ⟨j, 1, none⟩ = some (.int .i64 now)) ∧ Below W.heap.size W (X.alloc o)) from fun X o h => SK.out _ X alloc_old h)
  have Z0 := Lib.hid (And.intro z0 hb3)
  have hz : w.heap.size < W.heap.size := (Array.getElem?_eq_some_iff.1 z0).1
  have HZ := Lib.hid hz
  have G1 := Lib.hid (G.out _ S0)
  have S2 := Lib.hid (K.out ((W.alloc (.cells #[.string ⟨#[]⟩, .int .i64 0, .string ⟨#[]⟩, .slice none 0 0, .slice none 0 0, .slice none 0 0, .slice none 0 0, .int .i64 0] 84)).drew) alloc_old.drew)
  have G2 := Lib.hid (G.out _ S2.out)
  have hA := Lib.hid (show ((W.alloc (.cells #[.string ⟨#[]⟩, .int .i64 0, .string ⟨#[]⟩, .slice none 0 0, .slice none 0 0, .slice none 0 0, .slice none 0 0, .int .i64 0] 84)).drew).heap[W.heap.size]? = some (.cells #[.string ⟨#[]⟩, .int .i64 0, .string ⟨#[]⟩, .slice none 0 0, .slice none 0 0, .slice none 0 0, .slice none 0 0, .int .i64 0] 84) from heap_alloc_new W (.cells #[.string ⟨#[]⟩, .int .i64 0, .string ⟨#[]⟩, .slice none 0 0, .slice none 0 0, .slice none 0 0, .slice none 0 0, .int .i64 0] 84))
  have ST := Lib.hid (show ∀ (X : World) (a0 a1 a2 a3 a4 a5 a6 a7 : Value), Below W.heap.size W X → ((((((((((X.setCell ⟨W.heap.size, 0, none⟩ a0).setCell ⟨W.heap.size, 1, none⟩ a1).setCell ⟨W.heap.size, 2, none⟩ a2).setCell ⟨W.heap.size, 3, none⟩ a3).setCell ⟨W.heap.size, 4, none⟩ a4).setCell ⟨W.heap.size, 5, none⟩ a5).setCell ⟨W.heap.size, 6, none⟩ a6).setCell ⟨W.heap.size, 7, none⟩ a7).cell? ⟨j, 0, none⟩ = some (.pointer (some ⟨bS, 0, none⟩)) ∧ ((((((((X.setCell ⟨W.heap.size, 0, none⟩ a0).setCell ⟨W.heap.size, 1, none⟩ a1).setCell ⟨W.heap.size, 2, none⟩ a2).setCell ⟨W.heap.size, 3, none⟩ a3).setCell ⟨W.heap.size, 4, none⟩ a4).setCell ⟨W.heap.size, 5, none⟩ a5).setCell ⟨W.heap.size, 6, none⟩ a6).setCell ⟨W.heap.size, 7, none⟩ a7).cell? ⟨j, 1, none⟩ = some (.int .i64 now)) ∧ Below W.heap.size W ((((((((X.setCell ⟨W.heap.size, 0, none⟩ a0).setCell ⟨W.heap.size, 1, none⟩ a1).setCell ⟨W.heap.size, 2, none⟩ a2).setCell ⟨W.heap.size, 3, none⟩ a3).setCell ⟨W.heap.size, 4, none⟩ a4).setCell ⟨W.heap.size, 5, none⟩ a5).setCell ⟨W.heap.size, 6, none⟩ a6).setCell ⟨W.heap.size, 7, none⟩ a7)) from fun X a0 a1 a2 a3 a4 a5 a6 a7 hb => K.out _ ((((((((hb.setCell (Nat.le_refl _) _).setCell (Nat.le_refl _) _).setCell (Nat.le_refl _) _).setCell (Nat.le_refl _) _).setCell (Nat.le_refl _) _).setCell (Nat.le_refl _) _).setCell (Nat.le_refl _) _).setCell (Nat.le_refl _) _))
  have S5 := Lib.hid (show ∀ X, Below ((W.alloc (.cells #[.string ⟨#[]⟩, .int .i64 0, .string ⟨#[]⟩, .slice none 0 0, .slice none 0 0, .slice none 0 0, .slice none 0 0, .int .i64 0] 84)).drew).heap.size ((W.alloc (.cells #[.string ⟨#[]⟩, .int .i64 0, .string ⟨#[]⟩, .slice none 0 0, .slice none 0 0, .slice none 0 0, .slice none 0 0, .int .i64 0] 84)).drew) X → Below W.heap.size W X from fun X hb => belT S2.out.2 hb)
  clear h hj hJ hS hf hb3 z0 hz hl
  go_enter Tryz.func182, Tryz.ntmps182
  go_wp2
  clear hW
  go_region_held3 (fun X => ((X.cell? ⟨j, 0, none⟩ = some (.pointer (some ⟨bS, 0, none⟩)) ∧ X.cell? ⟨j, 1, none⟩ = some (.int .i64 now)) ∧ Below W.heap.size W X)) (first | (with_reducible exact S0) | (with_reducible exact S2.out) | (with_reducible exact ST.out _ _ _ _ _ _ _ _ _ (S5.out _ (by assumption))) | (with_reducible exact SA.out _ _ (SK.out _ _ (by assumption) S0)) | (with_reducible exact SK.out _ _ (by assumption) S0) | (with_reducible exact SK.out _ _ (by assumption) S2.out) | exact SA.out _ _ (by assumption))
    (first | (go_at_call 261; (with_reducible refine (G1.out).mono ?_); rintro e w5 ⟨rfl, hb5⟩) | (go_at_call 261; (with_reducible refine (G2.out).mono ?_); rintro e w5 ⟨rfl, hb5⟩; obtain ⟨⟨c0, c1, c2, c3, c4, c5, c6, c7⟩, ⟨f0, f1, f2, f3, f4, f5, f6, f7⟩, z5⟩ := cells8 (blk_below hA.out hb5)))
  · have hb := belT S0.2 hb5
    obtain ⟨⟨d0, d1, d2, d3, d4, d5, d6, d7⟩, ⟨g0, g1, g2, g3, g4, g5, g6, g7⟩, zz⟩ := cells8 (blk_below Z0.out.1 hb)
    have BB := Lib.hid (Z0.out.2.trans (hb.mono (Nat.le_of_lt HZ.out)))
    clear hb hb5
    go_wp2
    exact bodyPost_ret (v := .tuple #[.agg #[.string k, .int .i64 kd, .string t, .slice none 0 0, .slice none 0 0, .slice none 0 0, .slice none 0 0, .int .i64 u], .bool true]) (by simp [results, Tryz.results182, go_sem, d0, d1, d2, d3, d4, d5, d6, d7, zz]) rfl ⟨rfl, ((((((((BB.out.setCell (Nat.le_refl _) _).setCell (Nat.le_refl _) _).setCell (Nat.le_refl _) _).setCell (Nat.le_refl _) _).setCell (Nat.le_refl _) _).setCell (Nat.le_refl _) _).setCell (Nat.le_refl _) _).setCell (Nat.le_refl _) _).alloc (by simp; omega) _⟩
  · have hb := S5.out _ hb5
    obtain ⟨⟨d0, d1, d2, d3, d4, d5, d6, d7⟩, ⟨g0, g1, g2, g3, g4, g5, g6, g7⟩, zz⟩ := cells8 (blk_below Z0.out.1 hb)
    have BB := Lib.hid (Z0.out.2.trans (hb.mono (Nat.le_of_lt HZ.out)))
    have hne1 : ¬ w.heap.size = W.heap.size := by have := HZ.out; omega
    have hne2 : ¬ W.heap.size = w.heap.size := by have := HZ.out; omega
    have hle := Lib.hid (Nat.le_of_lt HZ.out)
    clear hb hb5
    go_wp2
    exact bodyPost_ret (v := .tuple #[.agg #[.string k, .int .i64 kd, .string t, .slice none 0 0, .slice none 0 0, .slice none 0 0, .slice none 0 0, .int .i64 u], .bool true]) (by simp [results, Tryz.results182, go_sem, d0, d1, d2, d3, d4, d5, d6, d7]) rfl ⟨rfl, ((((((((((((((((BB.out.setCell hle.out _).setCell hle.out _).setCell hle.out _).setCell hle.out _).setCell hle.out _).setCell hle.out _).setCell hle.out _).setCell hle.out _).setCell (Nat.le_refl _) _).setCell (Nat.le_refl _) _).setCell (Nat.le_refl _) _).setCell (Nat.le_refl _) _).setCell (Nat.le_refl _) _).setCell (Nat.le_refl _) _).setCell (Nat.le_refl _) _).setCell (Nat.le_refl _) _)⟩
set_option maxRecDepth 100000 in
set_option maxHeartbeats 4000000 in
theorem JGet_none (bS bM j : Nat) (l : MapT.Ents) (k : ByteArray) (now : Int) (vA vl : Value) (hG : ∀ X, SP X bS bM l → Calls Tryz.prog 261 #[.pointer (some ⟨bS, 0, none⟩), .string k, .int .i64 now] X fun e w' => e = .returned (.tuple #[.agg #[.string ⟨#[]⟩, .int .i64 0, .string ⟨#[]⟩, .slice none 0 0, .slice none 0 0, .slice none 0 0, .slice none 0 0, .int .i64 0], .bool false]) ∧ Below X.heap.size X w') (w : World) (h : SP w bS bM l) (hj : JB w j bS now vA vl) : Calls Tryz.prog 182 #[.pointer (some ⟨j, 0, none⟩), .string k] w fun e w' => e = .returned (.tuple #[.agg #[.string k, .int .i64 0, .string ⟨#[]⟩, .slice none 0 0, .slice none 0 0, .slice none 0 0, .slice none 0 0, .int .i64 0], .bool false]) ∧ Below w.heap.size w w' := by
  obtain ⟨W, hW⟩ : ∃ W, w.alloc (.cells #[.string ⟨#[]⟩, .int .i64 0, .string ⟨#[]⟩, .slice none 0 0, .slice none 0 0, .slice none 0 0, .slice none 0 0, .int .i64 0] 84) = W := ⟨_, rfl⟩
  have hb3 : Below w.heap.size w W := by rw [← hW]; exact alloc_old
  have z0 : W.heap[w.heap.size]? = some (.cells #[.string ⟨#[]⟩, .int .i64 0, .string ⟨#[]⟩, .slice none 0 0, .slice none 0 0, .slice none 0 0, .slice none 0 0, .int .i64 0] 84) := by rw [← hW]; exact heap_alloc_new w _
  have hJ := hj.below hb3
  have hS := h.below hb3
  have G := Lib.hid (show ∀ X, ((X.cell? ⟨j, 0, none⟩ = some (.pointer (some ⟨bS, 0, none⟩)) ∧ X.cell? ⟨j, 1, none⟩ = some (.int .i64 now)) ∧ Below W.heap.size W X) → Calls Tryz.prog 261 #[.pointer (some ⟨bS, 0, none⟩), .string k, .int .i64 now] X (fun e w' => e = .returned (.tuple #[.agg #[.string ⟨#[]⟩, .int .i64 0, .string ⟨#[]⟩, .slice none 0 0, .slice none 0 0, .slice none 0 0, .slice none 0 0, .int .i64 0], .bool false]) ∧ Below X.heap.size X w') from fun X hX => hG X (hS.below hX.2))
  have K := Lib.hid (show ∀ X, Below W.heap.size W X → ((X.cell? ⟨j, 0, none⟩ = some (.pointer (some ⟨bS, 0, none⟩)) ∧ X.cell? ⟨j, 1, none⟩ = some (.int .i64 now)) ∧ Below W.heap.size W X) from fun X hb => ⟨⟨(hJ.below hb).cells.1, (hJ.below hb).cells.2.1⟩, hb⟩)
  have S0 : ((W.drew.cell? ⟨j, 0, none⟩ = some (.pointer (some ⟨bS, 0, none⟩)) ∧ W.drew.cell? ⟨j, 1, none⟩ = some (.int .i64 now)) ∧ Below W.heap.size W W.drew) := K.out _ (Below.refl W.heap.size W).drew
  have SK := Lib.hid (show ∀ Y X : World, Below X.heap.size X Y → ((X.cell? ⟨j, 0, none⟩ = some (.pointer (some ⟨bS, 0, none⟩)) ∧ X.cell? ⟨j, 1, none⟩ = some (.int .i64 now)) ∧ Below W.heap.size W X) → ((Y.cell? ⟨j, 0, none⟩ = some (.pointer (some ⟨bS, 0, none⟩)) ∧ Y.cell? ⟨j, 1, none⟩ = some (.int .i64 now)) ∧ Below W.heap.size W Y) from fun Y X hb h => K.out _ (belT h.2 hb))
  have SA := Lib.hid (show ∀ (X : World) (o : Obj), ((X.cell? ⟨j, 0, none⟩ = some (.pointer (some ⟨bS, 0, none⟩)) ∧ X.cell? ⟨j, 1, none⟩ = some (.int .i64 now)) ∧ Below W.heap.size W X) → (((X.alloc o).cell? ⟨j, 0, none⟩ = some (.pointer (some ⟨bS, 0, none⟩)) ∧ (X.alloc o).cell? ⟨j, 1, none⟩ = some (.int .i64 now)) ∧ Below W.heap.size W (X.alloc o)) from fun X o h => SK.out _ X alloc_old h)
  have Z0 := Lib.hid (And.intro z0 hb3)
  have hz : w.heap.size < W.heap.size := (Array.getElem?_eq_some_iff.1 z0).1
  have HZ := Lib.hid hz
  have G1 := Lib.hid (G.out _ S0)
  have S2 := Lib.hid (K.out ((W.alloc (.cells #[.string ⟨#[]⟩, .int .i64 0, .string ⟨#[]⟩, .slice none 0 0, .slice none 0 0, .slice none 0 0, .slice none 0 0, .int .i64 0] 84)).drew) alloc_old.drew)
  have G2 := Lib.hid (G.out _ S2.out)
  have hA := Lib.hid (show ((W.alloc (.cells #[.string ⟨#[]⟩, .int .i64 0, .string ⟨#[]⟩, .slice none 0 0, .slice none 0 0, .slice none 0 0, .slice none 0 0, .int .i64 0] 84)).drew).heap[W.heap.size]? = some (.cells #[.string ⟨#[]⟩, .int .i64 0, .string ⟨#[]⟩, .slice none 0 0, .slice none 0 0, .slice none 0 0, .slice none 0 0, .int .i64 0] 84) from heap_alloc_new W (.cells #[.string ⟨#[]⟩, .int .i64 0, .string ⟨#[]⟩, .slice none 0 0, .slice none 0 0, .slice none 0 0, .slice none 0 0, .int .i64 0] 84))
  have ST := Lib.hid (show ∀ (X : World) (a0 a1 a2 a3 a4 a5 a6 a7 : Value), Below W.heap.size W X → ((((((((((X.setCell ⟨W.heap.size, 0, none⟩ a0).setCell ⟨W.heap.size, 1, none⟩ a1).setCell ⟨W.heap.size, 2, none⟩ a2).setCell ⟨W.heap.size, 3, none⟩ a3).setCell ⟨W.heap.size, 4, none⟩ a4).setCell ⟨W.heap.size, 5, none⟩ a5).setCell ⟨W.heap.size, 6, none⟩ a6).setCell ⟨W.heap.size, 7, none⟩ a7).cell? ⟨j, 0, none⟩ = some (.pointer (some ⟨bS, 0, none⟩)) ∧ ((((((((X.setCell ⟨W.heap.size, 0, none⟩ a0).setCell ⟨W.heap.size, 1, none⟩ a1).setCell ⟨W.heap.size, 2, none⟩ a2).setCell ⟨W.heap.size, 3, none⟩ a3).setCell ⟨W.heap.size, 4, none⟩ a4).setCell ⟨W.heap.size, 5, none⟩ a5).setCell ⟨W.heap.size, 6, none⟩ a6).setCell ⟨W.heap.size, 7, none⟩ a7).cell? ⟨j, 1, none⟩ = some (.int .i64 now)) ∧ Below W.heap.size W ((((((((X.setCell ⟨W.heap.size, 0, none⟩ a0).setCell ⟨W.heap.size, 1, none⟩ a1).setCell ⟨W.heap.size, 2, none⟩ a2).setCell ⟨W.heap.size, 3, none⟩ a3).setCell ⟨W.heap.size, 4, none⟩ a4).setCell ⟨W.heap.size, 5, none⟩ a5).setCell ⟨W.heap.size, 6, none⟩ a6).setCell ⟨W.heap.size, 7, none⟩ a7)) from fun X a0 a1 a2 a3 a4 a5 a6 a7 hb => K.out _ ((((((((hb.setCell (Nat.le_refl _) _).setCell (Nat.le_refl _) _).setCell (Nat.le_refl _) _).setCell (Nat.le_refl _) _).setCell (Nat.le_refl _) _).setCell (Nat.le_refl _) _).setCell (Nat.le_refl _) _).setCell (Nat.le_refl _) _))
  have S5 := Lib.hid (show ∀ X, Below ((W.alloc (.cells #[.string ⟨#[]⟩, .int .i64 0, .string ⟨#[]⟩, .slice none 0 0, .slice none 0 0, .slice none 0 0, .slice none 0 0, .int .i64 0] 84)).drew).heap.size ((W.alloc (.cells #[.string ⟨#[]⟩, .int .i64 0, .string ⟨#[]⟩, .slice none 0 0, .slice none 0 0, .slice none 0 0, .slice none 0 0, .int .i64 0] 84)).drew) X → Below W.heap.size W X from fun X hb => belT S2.out.2 hb)
  clear h hj hJ hS hG hb3 z0 hz 
  go_enter Tryz.func182, Tryz.ntmps182
  go_wp2
  clear hW
  go_region_held3 (fun X => ((X.cell? ⟨j, 0, none⟩ = some (.pointer (some ⟨bS, 0, none⟩)) ∧ X.cell? ⟨j, 1, none⟩ = some (.int .i64 now)) ∧ Below W.heap.size W X)) (first | (with_reducible exact S0) | (with_reducible exact S2.out) | (with_reducible exact ST.out _ _ _ _ _ _ _ _ _ (S5.out _ (by assumption))) | (with_reducible exact SA.out _ _ (SK.out _ _ (by assumption) S0)) | (with_reducible exact SK.out _ _ (by assumption) S0) | (with_reducible exact SK.out _ _ (by assumption) S2.out) | exact SA.out _ _ (by assumption))
    (first | (go_at_call 261; (with_reducible refine (G1.out).mono ?_); rintro e w5 ⟨rfl, hb5⟩) | (go_at_call 261; (with_reducible refine (G2.out).mono ?_); rintro e w5 ⟨rfl, hb5⟩; obtain ⟨⟨c0, c1, c2, c3, c4, c5, c6, c7⟩, ⟨f0, f1, f2, f3, f4, f5, f6, f7⟩, z5⟩ := cells8 (blk_below hA.out hb5)))
  · have hb := belT S0.2 hb5
    obtain ⟨⟨d0, d1, d2, d3, d4, d5, d6, d7⟩, ⟨g0, g1, g2, g3, g4, g5, g6, g7⟩, zz⟩ := cells8 (blk_below Z0.out.1 hb)
    have BB := Lib.hid (Z0.out.2.trans (hb.mono (Nat.le_of_lt HZ.out)))
    clear hb hb5
    go_wp2
    exact bodyPost_ret (v := .tuple #[.agg #[.string k, .int .i64 0, .string ⟨#[]⟩, .slice none 0 0, .slice none 0 0, .slice none 0 0, .slice none 0 0, .int .i64 0], .bool false]) (by simp [results, Tryz.results182, go_sem, d0, d1, d2, d3, d4, d5, d6, d7, zz]) rfl ⟨rfl, ((((((((BB.out.setCell (Nat.le_refl _) _).setCell (Nat.le_refl _) _).setCell (Nat.le_refl _) _).setCell (Nat.le_refl _) _).setCell (Nat.le_refl _) _).setCell (Nat.le_refl _) _).setCell (Nat.le_refl _) _).setCell (Nat.le_refl _) _).alloc (by simp; omega) _⟩
  · have hb := S5.out _ hb5
    obtain ⟨⟨d0, d1, d2, d3, d4, d5, d6, d7⟩, ⟨g0, g1, g2, g3, g4, g5, g6, g7⟩, zz⟩ := cells8 (blk_below Z0.out.1 hb)
    have BB := Lib.hid (Z0.out.2.trans (hb.mono (Nat.le_of_lt HZ.out)))
    have hne1 : ¬ w.heap.size = W.heap.size := by have := HZ.out; omega
    have hne2 : ¬ W.heap.size = w.heap.size := by have := HZ.out; omega
    have hle := Lib.hid (Nat.le_of_lt HZ.out)
    clear hb hb5
    go_wp2
    exact bodyPost_ret (v := .tuple #[.agg #[.string k, .int .i64 0, .string ⟨#[]⟩, .slice none 0 0, .slice none 0 0, .slice none 0 0, .slice none 0 0, .int .i64 0], .bool false]) (by simp [results, Tryz.results182, go_sem, d0, d1, d2, d3, d4, d5, d6, d7]) rfl ⟨rfl, ((((((((((((((((BB.out.setCell hle.out _).setCell hle.out _).setCell hle.out _).setCell hle.out _).setCell hle.out _).setCell hle.out _).setCell hle.out _).setCell hle.out _).setCell (Nat.le_refl _) _).setCell (Nat.le_refl _) _).setCell (Nat.le_refl _) _).setCell (Nat.le_refl _) _).setCell (Nat.le_refl _) _).setCell (Nat.le_refl _) _).setCell (Nat.le_refl _) _).setCell (Nat.le_refl _) _)⟩
theorem JGet_no (bS bM j : Nat) (l : MapT.Ents) (k : ByteArray) (now : Int) (vA vl : Value) (hf : MapT.find k l = none) (w : World) (h : SP w bS bM l) (hj : JB w j bS now vA vl) : Calls Tryz.prog 182 #[.pointer (some ⟨j, 0, none⟩), .string k] w fun e w' => e = .returned (.tuple #[.agg #[.string k, .int .i64 0, .string ⟨#[]⟩, .slice none 0 0, .slice none 0 0, .slice none 0 0, .slice none 0 0, .int .i64 0], .bool false]) ∧ Below w.heap.size w w' :=
  JGet_none bS bM j l k now vA vl (fun X hX => Get_no bS bM l k now hf X hX) w h hj
theorem JGet_over (bS bM j : Nat) (l : MapT.Ents) (k : ByteArray) (now : Int) (vA vl : Value) (t : ByteArray) (u kd : Int) (hf : MapT.find k l = some (.agg #[.string k, .int .i64 kd, .string t, .slice none 0 0, .slice none 0 0, .slice none 0 0, .slice none 0 0, .int .i64 u])) (h0 : 0 < u) (h1 : u ≤ now) (w : World) (h : SP w bS bM l) (hj : JB w j bS now vA vl) : Calls Tryz.prog 182 #[.pointer (some ⟨j, 0, none⟩), .string k] w fun e w' => e = .returned (.tuple #[.agg #[.string k, .int .i64 0, .string ⟨#[]⟩, .slice none 0 0, .slice none 0 0, .slice none 0 0, .slice none 0 0, .int .i64 0], .bool false]) ∧ Below w.heap.size w w' :=
  JGet_none bS bM j l k now vA vl (fun X hX => Get_over bS bM l k t u kd now hf h0 h1 X hX) w h hj
end Go.Proofs.YtjfejmdnjbekkaaGreatDoor
