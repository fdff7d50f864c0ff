/- Texts joined: Li3, Li4, Li5, Li6 -/
import Derived.Test.YticlacjpgjkhcaaGreatDoorQs8
import Derived.Test.YticlacjpgjkhcaaGreatDoorQs5
import Derived.Test.YticlacjpgjkhcaaGreatDoorQs2
set_option linter.unusedVariables false
set_option linter.unusedSimpArgs false

/- Copies of values and entries that are lists. -/
namespace Go.Proofs.YticlacjpgjkhcaaGreatDoor
open Go.ChangeShapes Go.WideShapes Go.ChangeAt Go.RowKit

theorem far60 {X : World} {b i : Nat} (v0 v1 v2 v3 v4 v5 : Value) (hi : i ≠ b) : ((((((X.setCell ⟨b, 0, none⟩ v0).setCell ⟨b, 1, none⟩ v1).setCell ⟨b, 2, none⟩ v2).setCell ⟨b, 3, none⟩ v3).setCell ⟨b, 4, none⟩ v4).setCell ⟨b, 5, none⟩ v5).heap[i]? = X.heap[i]? :=
  (Below.heap_setCell _ ⟨b, 5, none⟩ _ _ hi).trans ((Below.heap_setCell _ ⟨b, 4, none⟩ _ _ hi).trans ((Below.heap_setCell _ ⟨b, 3, none⟩ _ _ hi).trans ((Below.heap_setCell _ ⟨b, 2, none⟩ _ _ hi).trans ((Below.heap_setCell _ ⟨b, 1, none⟩ _ _ hi).trans (Below.heap_setCell _ ⟨b, 0, none⟩ _ _ hi)))))
set_option maxRecDepth 100000 in
set_option maxHeartbeats 4000000 in
theorem VClone25L (xs : List ByteArray) (A : Option Addr) (cap : Nat) (hne : xs ≠ []) (hn : xs.length ≤ 1000000) (w : World) (h : SSl w (.slice A xs.length cap) xs) : Calls Tryz.prog 93 #[.agg #[.int .i64 2, .string ⟨#[]⟩, .slice A xs.length cap, .slice none 0 0, .slice none 0 0, .slice none 0 0]] w fun e w' => ∃ v', e = .returned (.agg #[.int .i64 2, .string ⟨#[]⟩, v', .slice none 0 0, .slice none 0 0, .slice none 0 0]) ∧ TR w' v' xs ∧ (∃ g, v'.ownBlock = some g ∧ w.heap.size ≤ g) ∧ Below w.heap.size w w' := by
  go_enter Tryz.func93, Tryz.ntmps93
  go_wp2
  obtain ⟨W, hW⟩ : ∃ W, (w.alloc (.cells #[.int .i64 2, .string ⟨#[]⟩, .slice A xs.length cap, .slice none 0 0, .slice none 0 0, .slice none 0 0] 64)).alloc (.cells #[.int .i64 0, .string ⟨#[]⟩, .slice none 0 0, .slice none 0 0, .slice none 0 0, .slice none 0 0] 64) = W := ⟨_, rfl⟩
  have hz : W.heap.size = w.heap.size + 2 := by rw [← hW]; simp
  have hb0 : W.heap[w.heap.size]? = some (.cells #[.int .i64 2, .string ⟨#[]⟩, .slice A xs.length cap, .slice none 0 0, .slice none 0 0, .slice none 0 0] 64) := by rw [← hW]; exact blk_below (heap_alloc_new w _) alloc_old
  have hb1 : W.heap[w.heap.size + 1]? = some (.cells #[.int .i64 0, .string ⟨#[]⟩, .slice none 0 0, .slice none 0 0, .slice none 0 0, .slice none 0 0] 64) := by rw [← hW]; have := heap_alloc_new (w.alloc (.cells #[.int .i64 2, .string ⟨#[]⟩, .slice A xs.length cap, .slice none 0 0, .slice none 0 0, .slice none 0 0] 64)) (.cells #[.int .i64 0, .string ⟨#[]⟩, .slice none 0 0, .slice none 0 0, .slice none 0 0, .slice none 0 0] 64); rw [World.size_alloc] at this; exact this
  have hB : Below w.heap.size w W := by rw [← hW]; exact alloc_old.trans (alloc_old.mono (by simp))
  have C57 := Lib.hid (Clone57L _ xs hne hn W.drew (h.below hB.drew))
  have K := Lib.hid (show ∀ X, Below (w.heap.size + 1) W X → ((X.cell? ⟨w.heap.size, 0, none⟩ = some (.int .i64 2) ∧ X.cell? ⟨w.heap.size, 1, none⟩ = some (.string ⟨#[]⟩) ∧ X.cell? ⟨w.heap.size, 2, none⟩ = some (.slice A xs.length cap) ∧ X.cell? ⟨w.heap.size, 3, none⟩ = some (.slice none 0 0) ∧ X.cell? ⟨w.heap.size, 4, none⟩ = some (.slice none 0 0) ∧ X.cell? ⟨w.heap.size, 5, none⟩ = some (.slice none 0 0)) ∧ Below (w.heap.size + 1) W X) from fun X hb => by
    obtain ⟨⟨c0, c1, c2, c3, c4, c5⟩, _⟩ := cells6 ((hb.block _ (Nat.lt_succ_self _)).trans hb0)
    exact ⟨⟨c0, c1, c2, c3, c4, c5⟩, hb⟩)
  have ST := Lib.hid (show ∀ X v0 v1 v2 v3 v4 v5, ((X.cell? ⟨w.heap.size, 0, none⟩ = some (.int .i64 2) ∧ X.cell? ⟨w.heap.size, 1, none⟩ = some (.string ⟨#[]⟩) ∧ X.cell? ⟨w.heap.size, 2, none⟩ = some (.slice A xs.length cap) ∧ X.cell? ⟨w.heap.size, 3, none⟩ = some (.slice none 0 0) ∧ X.cell? ⟨w.heap.size, 4, none⟩ = some (.slice none 0 0) ∧ X.cell? ⟨w.heap.size, 5, none⟩ = some (.slice none 0 0)) ∧ Below (w.heap.size + 1) W X) → (fun X => (X.cell? ⟨w.heap.size, 0, none⟩ = some (.int .i64 2) ∧ X.cell? ⟨w.heap.size, 1, none⟩ = some (.string ⟨#[]⟩) ∧ X.cell? ⟨w.heap.size, 2, none⟩ = some (.slice A xs.length cap) ∧ X.cell? ⟨w.heap.size, 3, none⟩ = some (.slice none 0 0) ∧ X.cell? ⟨w.heap.size, 4, none⟩ = some (.slice none 0 0) ∧ X.cell? ⟨w.heap.size, 5, none⟩ = some (.slice none 0 0)) ∧ Below (w.heap.size + 1) W X) (((((((X).setCell ⟨w.heap.size + 1, 0, none⟩ v0).setCell ⟨w.heap.size + 1, 1, none⟩ v1).setCell ⟨w.heap.size + 1, 2, none⟩ v2).setCell ⟨w.heap.size + 1, 3, none⟩ v3).setCell ⟨w.heap.size + 1, 4, none⟩ v4).setCell ⟨w.heap.size + 1, 5, none⟩ v5) from fun X v0 v1 v2 v3 v4 v5 hX => K.out _ ((((((hX.2.setCell (p := ⟨w.heap.size + 1, 0, none⟩) (Nat.le_refl _) v0).setCell (p := ⟨w.heap.size + 1, 1, none⟩) (Nat.le_refl _) v1).setCell (p := ⟨w.heap.size + 1, 2, none⟩) (Nat.le_refl _) v2).setCell (p := ⟨w.heap.size + 1, 3, none⟩) (Nat.le_refl _) v3).setCell (p := ⟨w.heap.size + 1, 4, none⟩) (Nat.le_refl _) v4).setCell (p := ⟨w.heap.size + 1, 5, none⟩) (Nat.le_refl _) v5))
  have S0 : (W.drew.cell? ⟨w.heap.size, 0, none⟩ = some (.int .i64 2) ∧ W.drew.cell? ⟨w.heap.size, 1, none⟩ = some (.string ⟨#[]⟩) ∧ W.drew.cell? ⟨w.heap.size, 2, none⟩ = some (.slice A xs.length cap) ∧ W.drew.cell? ⟨w.heap.size, 3, none⟩ = some (.slice none 0 0) ∧ W.drew.cell? ⟨w.heap.size, 4, none⟩ = some (.slice none 0 0) ∧ W.drew.cell? ⟨w.heap.size, 5, none⟩ = some (.slice none 0 0)) ∧ Below (w.heap.size + 1) W W.drew := K.out _ (Below.refl _ W).drew
  have B0 := Lib.hid hB.drew
  have H1 := Lib.hid (show W.drew.heap[w.heap.size + 1]? = some (.cells #[.int .i64 0, .string ⟨#[]⟩, .slice none 0 0, .slice none 0 0, .slice none 0 0, .slice none 0 0] 64) from hb1)
  have hzd : w.heap.size + 1 ≤ W.drew.heap.size := by show _ ≤ W.heap.size; omega
  have hz2 : w.heap.size + 2 ≤ W.drew.heap.size := by show _ ≤ W.heap.size; omega
  obtain ⟨⟨c0, c1, c2, c3, c4, c5⟩, ⟨f0, f1, f2, f3, f4, f5⟩⟩ := cells6 H1.out
  rw [hW]
  clear hW hz hb0 hb1 hB h
  go_region_held3 (fun X => (X.cell? ⟨w.heap.size, 0, none⟩ = some (.int .i64 2) ∧ X.cell? ⟨w.heap.size, 1, none⟩ = some (.string ⟨#[]⟩) ∧ X.cell? ⟨w.heap.size, 2, none⟩ = some (.slice A xs.length cap) ∧ X.cell? ⟨w.heap.size, 3, none⟩ = some (.slice none 0 0) ∧ X.cell? ⟨w.heap.size, 4, none⟩ = some (.slice none 0 0) ∧ X.cell? ⟨w.heap.size, 5, none⟩ = some (.slice none 0 0)) ∧ Below (w.heap.size + 1) W X) (first | (with_reducible exact S0) | (with_reducible exact S3.out) | (refine ST.out _ _ _ _ _ _ _ ?_; assumption))
    (first | (go_at_call 145; (with_reducible refine (C57.out).mono ?_); rintro e w3 ⟨v3, rfl, ⟨g, C, cs, rfl, t2, t3, t4, t5⟩, hg, hb⟩; have HT := Lib.hid (show TR w3 (.slice (some ⟨g, 0, none⟩) xs.length C) xs from ⟨g, C, cs, rfl, t2, t3, t4, t5⟩); have HG := Lib.hid (by obtain ⟨g0, hg0, hg1⟩ := hg; cases hg0; exact hg1 : W.drew.heap.size ≤ g); have S3 := Lib.hid (K.out w3 ((Below.refl _ W).drew.trans (hb.mono hzd))); have R3 := Lib.hid (blk_below H1.out hb); have B3 := Lib.hid (B0.out.trans (hb.mono (Below.size B0.out))); clear t2 t3 t4 t5 hg hb; obtain ⟨⟨c0, c1, c2, c3, c4, c5⟩, ⟨f0, f1, f2, f3, f4, f5⟩⟩ := cells6 R3.out) | (go_at_call 146; (with_reducible refine (Clone58 _).mono ?_); rintro e w' ⟨rfl, rfl⟩) | (go_at_call 147; (with_reducible refine (Clone59 _).mono ?_); rintro e w' ⟨rfl, rfl⟩) | (go_at_call 148; (with_reducible refine (Clone60 _).mono ?_); rintro e w' ⟨rfl, rfl⟩))
  go_wp2
  have hge := HG.out
  exact bodyPost_ret (v := .agg #[.int .i64 2, .string ⟨#[]⟩, .slice (some ⟨g, 0, none⟩) xs.length C, .slice none 0 0, .slice none 0 0, .slice none 0 0]) (by simp [results, Tryz.results93, go_sem, c0, c1, c2, c3, c4, c5]) rfl ⟨_, rfl, HT.out.kept (fun g' hg' => far60 _ _ _ _ _ _ (by cases hg'; show g ≠ w.heap.size + 1; omega)), ⟨g, rfl, by omega⟩, (((((B3.out.setCell (Nat.le_succ _) _).setCell (Nat.le_succ _) _).setCell (Nat.le_succ _) _).setCell (Nat.le_succ _) _).setCell (Nat.le_succ _) _).setCell (Nat.le_succ _) _⟩
end Go.Proofs.YticlacjpgjkhcaaGreatDoor

/- Entries that are lists: copy, size, which may be. -/
namespace Go.Proofs.YticlacjpgjkhcaaGreatDoor
open Go.ChangeShapes Go.WideShapes Go.ChangeAt Go.RowKit

theorem far6b {X : World} {b i : Nat} (hi : i ≠ b) (v1 v2 v3 v4 v5 v6 : Value) : ((((((X.setCell ⟨b, 1, none⟩ v1).setCell ⟨b, 2, none⟩ v2).setCell ⟨b, 3, none⟩ v3).setCell ⟨b, 4, none⟩ v4).setCell ⟨b, 5, none⟩ v5).setCell ⟨b, 6, none⟩ v6).heap[i]? = X.heap[i]? :=
  (Below.heap_setCell _ ⟨b, 6, none⟩ _ _ hi).trans ((Below.heap_setCell _ ⟨b, 5, none⟩ _ _ hi).trans ((Below.heap_setCell _ ⟨b, 4, none⟩ _ _ hi).trans ((Below.heap_setCell _ ⟨b, 3, none⟩ _ _ hi).trans ((Below.heap_setCell _ ⟨b, 2, none⟩ _ _ hi).trans (Below.heap_setCell _ ⟨b, 1, none⟩ _ _ hi)))))
theorem far8b {X : World} {b i : Nat} (hi : i ≠ b) (v0 v1 v2 v3 v4 v5 v6 v7 : Value) : ((((((((X.setCell ⟨b, 0, none⟩ v0).setCell ⟨b, 1, none⟩ v1).setCell ⟨b, 2, none⟩ v2).setCell ⟨b, 3, none⟩ v3).setCell ⟨b, 4, none⟩ v4).setCell ⟨b, 5, none⟩ v5).setCell ⟨b, 6, none⟩ v6).setCell ⟨b, 7, none⟩ v7).heap[i]? = X.heap[i]? :=
  (Below.heap_setCell _ ⟨b, 7, none⟩ _ _ hi).trans ((far6b hi v1 v2 v3 v4 v5 v6).trans (Below.heap_setCell _ ⟨b, 0, none⟩ _ _ hi))
theorem heap2L {o : Obj} (X : World) (o2 : Obj) : ((X.alloc o).alloc o2).heap[X.heap.size + 1]? = some o2 := by
  have h := heap_alloc_new (X.alloc o) o2
  have e : (X.alloc o).heap.size = X.heap.size + 1 := by simp
  rw [e] at h
  exact h
set_option maxRecDepth 100000 in
set_option maxHeartbeats 4000000 in
theorem clone17L (k : ByteArray) (u : Int) (xs : List ByteArray) (A : Option Addr) (cap : Nat) (hne : xs ≠ []) (hn : xs.length ≤ 1000000) (w : World) (h : SSl w (.slice A xs.length cap) xs) : Calls Tryz.prog 34 #[.agg #[.string k, .int .i64 2, .string ⟨#[]⟩, .slice A xs.length cap, .slice none 0 0, .slice none 0 0, .slice none 0 0, .int .i64 u]] w fun e w' => ∃ g C, e = .returned (.agg #[.string k, .int .i64 2, .string ⟨#[]⟩, .slice (some ⟨g, 0, none⟩) xs.length C, .slice none 0 0, .slice none 0 0, .slice none 0 0, .int .i64 u]) ∧ TR w' (.slice (some ⟨g, 0, none⟩) xs.length C) xs ∧ w.heap.size ≤ g ∧ Below w.heap.size w w' := by
  have hb1 := Lib.hid (show ((w.alloc (.cells #[.string k, .int .i64 2, .string ⟨#[]⟩, .slice A xs.length cap, .slice none 0 0, .slice none 0 0, .slice none 0 0, .int .i64 u] 66)).alloc (.cells #[.string ⟨#[]⟩, .int .i64 0, .string ⟨#[]⟩, .slice none 0 0, .slice none 0 0, .slice none 0 0, .slice none 0 0, .int .i64 0] 66)).heap[w.heap.size]? = some (.cells #[.string k, .int .i64 2, .string ⟨#[]⟩, .slice A xs.length cap, .slice none 0 0, .slice none 0 0, .slice none 0 0, .int .i64 u] 66) from blk_below (heap_alloc_new w _) alloc_old)
  have hb2 := Lib.hid (heap2L (o := .cells #[.string k, .int .i64 2, .string ⟨#[]⟩, .slice A xs.length cap, .slice none 0 0, .slice none 0 0, .slice none 0 0, .int .i64 u] 66) w (.cells #[.string ⟨#[]⟩, .int .i64 0, .string ⟨#[]⟩, .slice none 0 0, .slice none 0 0, .slice none 0 0, .slice none 0 0, .int .i64 0] 66))
  have hb3 := Lib.hid (show Below w.heap.size w ((w.alloc (.cells #[.string k, .int .i64 2, .string ⟨#[]⟩, .slice A xs.length cap, .slice none 0 0, .slice none 0 0, .slice none 0 0, .int .i64 u] 66)).alloc (.cells #[.string ⟨#[]⟩, .int .i64 0, .string ⟨#[]⟩, .slice none 0 0, .slice none 0 0, .slice none 0 0, .slice none 0 0, .int .i64 0] 66)) from alloc_old.trans (alloc_old.mono (by simp)))
  have V := Lib.hid (VClone25L xs A cap hne hn _ (h.below hb3.out))
  have hz : ((w.alloc (.cells #[.string k, .int .i64 2, .string ⟨#[]⟩, .slice A xs.length cap, .slice none 0 0, .slice none 0 0, .slice none 0 0, .int .i64 u] 66)).alloc (.cells #[.string ⟨#[]⟩, .int .i64 0, .string ⟨#[]⟩, .slice none 0 0, .slice none 0 0, .slice none 0 0, .slice none 0 0, .int .i64 0] 66)).heap.size = w.heap.size + 2 := by simp
  have HZ := Lib.hid hz
  clear h hz
  go_enter Tryz.func34, Tryz.ntmps34
  go_wp2_with (first | (go_at_call 93; (with_reducible refine (V.out).mono ?_); rintro e w1 ⟨v3, rfl, ⟨g, C, cs, rfl, t2, t3, t4, t5⟩, hg, h1⟩; have HT := Lib.hid (show TR w1 (.slice (some ⟨g, 0, none⟩) xs.length C) xs from ⟨g, C, cs, rfl, t2, t3, t4, t5⟩); have HG := Lib.hid (by obtain ⟨g0, hg0, hg1⟩ := hg; cases hg0; rw [HZ.out] at hg1; exact hg1 : w.heap.size + 2 ≤ g); have B1 := Lib.hid h1; clear t2 t3 t4 t5 hg h1; obtain ⟨⟨c0, c1, c2, c3, c4, c5, c6, c7⟩, ⟨f0, f1, f2, f3, f4, f5, f6, f7⟩, z1⟩ := cells8 (blk_below hb1.out B1.out); obtain ⟨⟨d0, d1, d2, d3, d4, d5, d6, d7⟩, ⟨g0, g1, g2, g3, g4, g5, g6, g7⟩, z2⟩ := cells8 (blk_below hb2.out B1.out)))
  have hge := HG.out
  have hz := HZ.out
  have hn1 : g ≠ w.heap.size := by omega
  have hn2 : g ≠ w.heap.size + 1 := by omega
  exact bodyPost_ret (v := .agg #[.string k, .int .i64 2, .string ⟨#[]⟩, .slice (some ⟨g, 0, none⟩) xs.length C, .slice none 0 0, .slice none 0 0, .slice none 0 0, .int .i64 u]) (by simp [results, Tryz.results34, go_sem, d0, d1, d2, d3, d4, d5, d6, d7]) rfl ⟨g, C, rfl, HT.out.kept (fun g' hg' => by cases hg'; exact (far8b hn2 _ _ _ _ _ _ _ _).trans (far6b hn1 _ _ _ _ _ _)), by omega, ((((((((((((((hb3.out.trans (B1.out.mono (by omega))).setCell (Nat.le_refl _) _).setCell (Nat.le_refl _) _).setCell (Nat.le_refl _) _).setCell (Nat.le_refl _) _).setCell (Nat.le_refl _) _).setCell (Nat.le_refl _) _).setCell (Nat.le_succ _) _).setCell (Nat.le_succ _) _).setCell (Nat.le_succ _) _).setCell (Nat.le_succ _) _).setCell (Nat.le_succ _) _).setCell (Nat.le_succ _) _).setCell (Nat.le_succ _) _).setCell (Nat.le_succ _) _⟩
theorem sz_e (n m : Nat) (a : Nat) (ha : a ≤ 1000000) (hn : n ≤ 1000000) (hm : m ≤ 1000000000) : IntKind.i64.wrap (32 + (a : Int)) = 32 + (a : Int) ∧ IntKind.i64.wrap (32 + (a : Int) + (16 + 16 * (n : Int) + (m : Int))) = 48 + (a : Int) + 16 * (n : Int) + (m : Int) :=
  ⟨IntWalk.i64_in _ (by omega), (IntWalk.i64_in _ (by omega)).trans (by omega)⟩
set_option maxRecDepth 100000 in
set_option maxHeartbeats 4000000 in
theorem size16L (k : ByteArray) (u : Int) (hk : k.size ≤ 1000000) (xs : List ByteArray) (A : Option Addr) (cap : Nat) (hne : xs ≠ []) (hn : xs.length ≤ 1000000) (w : World) (h : SSl w (.slice A xs.length cap) xs) (hs : sumSz xs ≤ 1000000000) : Calls Tryz.prog 50 #[.agg #[.string k, .int .i64 2, .string ⟨#[]⟩, .slice A xs.length cap, .slice none 0 0, .slice none 0 0, .slice none 0 0, .int .i64 u]] w fun e w' => e = .returned (.int .i64 (48 + (k.size : Int) + 16 * (xs.length : Int) + (sumSz xs : Int))) ∧ Below w.heap.size w w' := by
  obtain ⟨q1, q2⟩ := sz_e xs.length (sumSz xs) k.size hk hn hs
  obtain ⟨W, hW⟩ : ∃ W, w.alloc (.cells #[.string k, .int .i64 2, .string ⟨#[]⟩, .slice A xs.length cap, .slice none 0 0, .slice none 0 0, .slice none 0 0, .int .i64 u] 66) = W := ⟨_, rfl⟩
  have hb1 : W.heap[w.heap.size]? = some (.cells #[.string k, .int .i64 2, .string ⟨#[]⟩, .slice A xs.length cap, .slice none 0 0, .slice none 0 0, .slice none 0 0, .int .i64 u] 66) := by rw [← hW]; exact heap_alloc_new w _
  have hb3 : Below w.heap.size w W := by rw [← hW]; exact alloc_old
  have hz : w.heap.size ≤ W.heap.size := Below.size hb3
  have Q := Lib.hid (Size24L xs A cap hne hn W.drew (h.below hb3.drew) hs)
  have K := Lib.hid (show ∀ X, Below W.heap.size W X → (X.cell? ⟨w.heap.size, 0, none⟩ = some (.string k) ∧ X.cell? ⟨w.heap.size, 1, none⟩ = some (.int .i64 2) ∧ X.cell? ⟨w.heap.size, 2, none⟩ = some (.string ⟨#[]⟩) ∧ X.cell? ⟨w.heap.size, 3, none⟩ = some (.slice A xs.length cap) ∧ X.cell? ⟨w.heap.size, 4, none⟩ = some (.slice none 0 0) ∧ X.cell? ⟨w.heap.size, 5, none⟩ = some (.slice none 0 0) ∧ X.cell? ⟨w.heap.size, 6, none⟩ = some (.slice none 0 0)) from fun X hb => by
    obtain ⟨⟨c0, c1, c2, c3, c4, c5, c6, c7⟩, _⟩ := cells8 (blk_below hb1 hb)
    exact ⟨c0, c1, c2, c3, c4, c5, c6⟩)
  have S0 : ((W.drew.cell? ⟨w.heap.size, 0, none⟩ = some (.string k) ∧ W.drew.cell? ⟨w.heap.size, 1, none⟩ = some (.int .i64 2) ∧ W.drew.cell? ⟨w.heap.size, 2, none⟩ = some (.string ⟨#[]⟩) ∧ W.drew.cell? ⟨w.heap.size, 3, none⟩ = some (.slice A xs.length cap) ∧ W.drew.cell? ⟨w.heap.size, 4, none⟩ = some (.slice none 0 0) ∧ W.drew.cell? ⟨w.heap.size, 5, none⟩ = some (.slice none 0 0) ∧ W.drew.cell? ⟨w.heap.size, 6, none⟩ = some (.slice none 0 0)) ∧ Below W.heap.size W W.drew) := ⟨K.out _ (Below.refl W.heap.size W).drew, (Below.refl W.heap.size W).drew⟩
  have SK := Lib.hid (show ∀ Y X : World, Below X.heap.size X Y → ((X.cell? ⟨w.heap.size, 0, none⟩ = some (.string k) ∧ X.cell? ⟨w.heap.size, 1, none⟩ = some (.int .i64 2) ∧ X.cell? ⟨w.heap.size, 2, none⟩ = some (.string ⟨#[]⟩) ∧ X.cell? ⟨w.heap.size, 3, none⟩ = some (.slice A xs.length cap) ∧ X.cell? ⟨w.heap.size, 4, none⟩ = some (.slice none 0 0) ∧ X.cell? ⟨w.heap.size, 5, none⟩ = some (.slice none 0 0) ∧ X.cell? ⟨w.heap.size, 6, none⟩ = some (.slice none 0 0)) ∧ Below W.heap.size W X) → ((Y.cell? ⟨w.heap.size, 0, none⟩ = some (.string k) ∧ Y.cell? ⟨w.heap.size, 1, none⟩ = some (.int .i64 2) ∧ Y.cell? ⟨w.heap.size, 2, none⟩ = some (.string ⟨#[]⟩) ∧ Y.cell? ⟨w.heap.size, 3, none⟩ = some (.slice A xs.length cap) ∧ Y.cell? ⟨w.heap.size, 4, none⟩ = some (.slice none 0 0) ∧ Y.cell? ⟨w.heap.size, 5, none⟩ = some (.slice none 0 0) ∧ Y.cell? ⟨w.heap.size, 6, none⟩ = some (.slice none 0 0)) ∧ Below W.heap.size W Y) from fun Y X hb h => ⟨K.out _ (belT h.2 hb), belT h.2 hb⟩)
  have HB := Lib.hid hb3
  clear hb1 hb3 h
  go_enter Tryz.func50, Tryz.ntmps50
  go_wp2

  clear hW
  go_region_held3 (fun X => ((X.cell? ⟨w.heap.size, 0, none⟩ = some (.string k) ∧ X.cell? ⟨w.heap.size, 1, none⟩ = some (.int .i64 2) ∧ X.cell? ⟨w.heap.size, 2, none⟩ = some (.string ⟨#[]⟩) ∧ X.cell? ⟨w.heap.size, 3, none⟩ = some (.slice A xs.length cap) ∧ X.cell? ⟨w.heap.size, 4, none⟩ = some (.slice none 0 0) ∧ X.cell? ⟨w.heap.size, 5, none⟩ = some (.slice none 0 0) ∧ X.cell? ⟨w.heap.size, 6, none⟩ = some (.slice none 0 0)) ∧ Below W.heap.size W X)) (first | exact S0 | exact SK.out _ _ (by assumption) (by assumption) | exact SK.out _ _ (by assumption) ⟨by assumption, by assumption⟩)
    (first | (go_at_call 113; refine (Q.out).mono ?_; rintro e w5 ⟨rfl, hb5⟩))
  go_wp2
  go_ret
  exact ⟨by simp, HB.out.trans ((belT S0.2 hb5).mono hz)⟩
set_option maxRecDepth 100000 in
set_option maxHeartbeats 4000000 in
theorem May15L (k : ByteArray) (hk1 : 1 ≤ k.size) (hk : k.size ≤ 512) (u : Int) (hu0 : 0 ≤ u) (hu1 : u ≤ 1125899906842624) (xs : List ByteArray) (A : Option Addr) (cap : Nat) (hne : xs ≠ []) (hn : xs.length ≤ 1000000) (w : World) (h : SSl w (.slice A xs.length cap) xs) (h1000 : xs.length ≤ 1000) (hsz : ∀ s ∈ xs, s.size ≤ 4096) (hs : 16 + 16 * xs.length + sumSz xs ≤ 262144) : Calls Tryz.prog 51 #[.agg #[.string k, .int .i64 2, .string ⟨#[]⟩, .slice A xs.length cap, .slice none 0 0, .slice none 0 0, .slice none 0 0, .int .i64 u]] w fun e w' => e = .returned (.bool true) ∧ Below w.heap.size w w' := by
  have i1 : (1 : Int) ≤ (k.size : Int) := by omega
  have i2 : (k.size : Int) ≤ 512 := by omega
  have V := Lib.hid (VMay23L xs A cap hne hn (w.alloc (.cells #[.string k, .int .i64 2, .string ⟨#[]⟩, .slice A xs.length cap, .slice none 0 0, .slice none 0 0, .slice none 0 0, .int .i64 u] 66)) (h.below alloc_old) h1000 hsz hs)
  have hb1 := Lib.hid (heap_alloc_new w (.cells #[.string k, .int .i64 2, .string ⟨#[]⟩, .slice A xs.length cap, .slice none 0 0, .slice none 0 0, .slice none 0 0, .int .i64 u] 66))
  clear h hsz hs hk1 hk
  go_enter Tryz.func51, Tryz.ntmps51
  go_wp2_with (first | (go_at_call 114; (with_reducible refine (V.out).mono ?_); rintro e w1 ⟨rfl, h1⟩; have B1 := Lib.hid h1; clear h1; obtain ⟨⟨c0, c1, c2, c3, c4, c5, c6, c7⟩, _, z1⟩ := cells8 (blk_below hb1.out B1.out)))
  go_ret
  exact ⟨by simp, alloc_old.trans (B1.out.mono (by simp))⟩
end Go.Proofs.YticlacjpgjkhcaaGreatDoor

/- Looking up entries that are lists; a list that is put. -/
namespace Go.Proofs.YticlacjpgjkhcaaGreatDoor
open Go.ChangeShapes Go.WideShapes Go.ChangeAt Go.RowKit

theorem Over_kdL (k : ByteArray) (A : Option Addr) (n0 c0 : Nat) (u n : Int) (h : Lives u n) (w : World) : Calls Tryz.prog 241 #[.agg #[.string k, .int .i64 2, .string ⟨#[]⟩, .slice A n0 c0, .slice none 0 0, .slice none 0 0, .slice none 0 0, .int .i64 u], .int .i64 n] w fun e w' => e = .returned (.bool false) ∧ Below w.heap.size w w' := by
  rcases h with rfl | ⟨h0, h1⟩
  · go_enter Tryz.func241, Tryz.ntmps241
    go_wp2
    go_ret
    exact ⟨rfl, alloc_old⟩
  · have g1 : ¬ u = 0 := by omega
    have g2 : (u == 0) = false := by rw [beq_eq_false_iff_ne]; exact g1
    have g3 : ¬ u ≤ n := by omega
    go_enter Tryz.func241, Tryz.ntmps241
    go_wp2
    go_ret
    exact ⟨by simp, alloc_old⟩
theorem far8c {X : World} {b i : Nat} (hi : i ≠ b) (v0 v1 v2 v3 v4 v5 v6 v7 : Value) : ((((((((X.setCell ⟨b, 0, none⟩ v0).setCell ⟨b, 1, none⟩ v1).setCell ⟨b, 2, none⟩ v2).setCell ⟨b, 3, none⟩ v3).setCell ⟨b, 4, none⟩ v4).setCell ⟨b, 5, none⟩ v5).setCell ⟨b, 6, none⟩ v6).setCell ⟨b, 7, none⟩ v7).heap[i]? = X.heap[i]? := far8b hi v0 v1 v2 v3 v4 v5 v6 v7
set_option maxRecDepth 100000 in
set_option maxHeartbeats 4000000 in
theorem Has_yesL (bS bM : Nat) (l : MapT.Ents) (k : ByteArray) (u : Int) (xs : List ByteArray) (A : Option Addr) (cap : Nat) (hne : xs ≠ []) (hn : xs.length ≤ 1000000) (hf : MapT.find k l = some (.agg #[.string k, .int .i64 2, .string ⟨#[]⟩, .slice A xs.length cap, .slice none 0 0, .slice none 0 0, .slice none 0 0, .int .i64 u])) (w : World) (h : SP w bS bM l) (hl : SSl w (.slice A xs.length cap) xs) : Calls Tryz.prog 240 #[.pointer (some ⟨bS, 0, none⟩), .string k] w fun e w' => ∃ g C, e = .returned (.tuple #[.agg #[.string k, .int .i64 2, .string ⟨#[]⟩, .slice (some ⟨g, 0, none⟩) xs.length C, .slice none 0 0, .slice none 0 0, .slice none 0 0, .int .i64 u], .bool true]) ∧ TR w' (.slice (some ⟨g, 0, none⟩) xs.length C) xs ∧ w.heap.size ≤ g ∧ Below w.heap.size w w' := by
  have CL := Lib.hid (clone17L k u xs A cap hne hn ((w.alloc (.cells #[.string ⟨#[]⟩, .int .i64 0, .string ⟨#[]⟩, .slice none 0 0, .slice none 0 0, .slice none 0 0, .slice none 0 0, .int .i64 0] 66)).alloc (.cells #[.string k, .int .i64 2, .string ⟨#[]⟩, .slice A xs.length cap, .slice none 0 0, .slice none 0 0, .slice none 0 0, .int .i64 u] 66)) (hl.below (alloc_old.trans (alloc_old.mono (by simp)))))
  have hz : ((w.alloc (.cells #[.string ⟨#[]⟩, .int .i64 0, .string ⟨#[]⟩, .slice none 0 0, .slice none 0 0, .slice none 0 0, .slice none 0 0, .int .i64 0] 66)).alloc (.cells #[.string k, .int .i64 2, .string ⟨#[]⟩, .slice A xs.length cap, .slice none 0 0, .slice none 0 0, .slice none 0 0, .int .i64 u] 66)).heap.size = w.heap.size + 2 := by simp
  have HZ := Lib.hid hz
  have hr : (if true = true then Value.tuple #[(MapT.find k l).getD (.agg #[.string ⟨#[]⟩, .int .i64 0, .string ⟨#[]⟩, .slice none 0 0, .slice none 0 0, .slice none 0 0, .slice none 0 0, .int .i64 0]), .bool (MapT.find k l).isSome] else (MapT.find k l).getD (.agg #[.string ⟨#[]⟩, .int .i64 0, .string ⟨#[]⟩, .slice none 0 0, .slice none 0 0, .slice none 0 0, .slice none 0 0, .int .i64 0])) = .tuple #[.agg #[.string k, .int .i64 2, .string ⟨#[]⟩, .slice A xs.length cap, .slice none 0 0, .slice none 0 0, .slice none 0 0, .int .i64 u], .bool true] := by rw [hf]; rfl
  have HR := Lib.hid hr
  have z2 := Lib.hid (fun o => show ((w.alloc (.cells #[.string ⟨#[]⟩, .int .i64 0, .string ⟨#[]⟩, .slice none 0 0, .slice none 0 0, .slice none 0 0, .slice none 0 0, .int .i64 0] 66)).alloc o).heap[w.heap.size]? = some (.cells #[.string ⟨#[]⟩, .int .i64 0, .string ⟨#[]⟩, .slice none 0 0, .slice none 0 0, .slice none 0 0, .slice none 0 0, .int .i64 0] 66) from blk_below (heap_alloc_new w _) alloc_old)
  have hs := (h.below (alloc_old (o := .cells #[.string ⟨#[]⟩, .int .i64 0, .string ⟨#[]⟩, .slice none 0 0, .slice none 0 0, .slice none 0 0, .slice none 0 0, .int .i64 0] 66))).cell
  obtain ⟨hs1, hs2⟩ := hs
  have hM := Lib.hid (h.2.1.below (alloc_old (o := .cells #[.string ⟨#[]⟩, .int .i64 0, .string ⟨#[]⟩, .slice none 0 0, .slice none 0 0, .slice none 0 0, .slice none 0 0, .int .i64 0] 66)))
  clear h hf hr hl hz
  go_enter Tryz.func240, Tryz.ntmps240
  go_wp2_with (first | (at_lookup; refine MapT.at_look _ rfl _ _ true rfl Tryz.underlying55 Tryz.underlying9 bM l rfl hM.out k rfl _ (zero33 _) _ HR.out ?_) | (go_at_call 34; (with_reducible refine (CL.out).mono ?_); rintro e w1 ⟨g, C, rfl, hT, hge, h1⟩; have HT := Lib.hid hT; have HG := Lib.hid hge; have B1 := Lib.hid h1; clear hT hge h1; obtain ⟨⟨c0, c1, c2, c3, c4, c5, c6, c7⟩, ⟨f0, f1, f2, f3, f4, f5, f6, f7⟩, z1⟩ := cells8 (blk_below (z2.out _) B1.out)))
  have hge := HG.out
  have hz := HZ.out
  rw [hz] at hge
  have hn1 : g ≠ w.heap.size := by omega
  exact bodyPost_ret (v := .tuple #[.agg #[.string k, .int .i64 2, .string ⟨#[]⟩, .slice (some ⟨g, 0, none⟩) xs.length C, .slice none 0 0, .slice none 0 0, .slice none 0 0, .int .i64 u], .bool true]) (by simp [results, Tryz.results240, go_sem, c0, c1, c2, c3, c4, c5, c6, c7]) rfl ⟨g, C, rfl, HT.out.kept (fun g' hg' => by cases hg'; exact far8b hn1 _ _ _ _ _ _ _ _), by omega, (((((((((alloc_old.trans (alloc_old.mono (by simp))).trans (B1.out.mono (by omega))).setCell (Nat.le_refl _) _).setCell (Nat.le_refl _) _).setCell (Nat.le_refl _) _).setCell (Nat.le_refl _) _).setCell (Nat.le_refl _) _).setCell (Nat.le_refl _) _).setCell (Nat.le_refl _) _).setCell (Nat.le_refl _) _⟩
set_option maxRecDepth 100000 in
set_option maxHeartbeats 4000000 in
theorem Get_yesL (bS bM : Nat) (l : MapT.Ents) (k : ByteArray) (u now : Int) (xs : List ByteArray) (A : Option Addr) (cap : Nat) (hne : xs ≠ []) (hn : xs.length ≤ 1000000) (hf : MapT.find k l = some (.agg #[.string k, .int .i64 2, .string ⟨#[]⟩, .slice A xs.length cap, .slice none 0 0, .slice none 0 0, .slice none 0 0, .int .i64 u])) (hv : Lives u now) (w : World) (h : SP w bS bM l) (hl : SSl w (.slice A xs.length cap) xs) : Calls Tryz.prog 215 #[.pointer (some ⟨bS, 0, none⟩), .string k, .int .i64 now] w fun e w' => ∃ g C, e = .returned (.tuple #[.agg #[.string k, .int .i64 2, .string ⟨#[]⟩, .slice (some ⟨g, 0, none⟩) xs.length C, .slice none 0 0, .slice none 0 0, .slice none 0 0, .int .i64 u], .bool true]) ∧ TR w' (.slice (some ⟨g, 0, none⟩) xs.length C) xs ∧ w.heap.size ≤ g ∧ Below w.heap.size w w' := by
  have H := Lib.hid (Has_yesL bS bM l k u xs A cap hne hn hf _ (h.below (alloc_old (w := w) (o := .cells #[.string ⟨#[]⟩, .int .i64 0, .string ⟨#[]⟩, .slice none 0 0, .slice none 0 0, .slice none 0 0, .slice none 0 0, .int .i64 0] 66))) (hl.below alloc_old))
  have O := Lib.hid (fun A n c w => Over_kdL k A n c u now hv w)
  have z0 := Lib.hid (heap_alloc_new w (.cells #[.string ⟨#[]⟩, .int .i64 0, .string ⟨#[]⟩, .slice none 0 0, .slice none 0 0, .slice none 0 0, .slice none 0 0, .int .i64 0] 66))
  have hz : (w.alloc (.cells #[.string ⟨#[]⟩, .int .i64 0, .string ⟨#[]⟩, .slice none 0 0, .slice none 0 0, .slice none 0 0, .slice none 0 0, .int .i64 0] 66)).heap.size = w.heap.size + 1 := by simp
  have HZ := Lib.hid hz
  clear h hf hv hl hz
  go_enter Tryz.func215, Tryz.ntmps215
  go_wp2_with (first | (go_at_call 240; (with_reducible refine (H.out).mono ?_); rintro e w1 ⟨g, C, rfl, hT, hge, h1⟩; have HT := Lib.hid hT; have HG := Lib.hid hge; have B1 := Lib.hid h1; clear hT hge h1; refine Hid.out ?_))
  refine Lib.hid ?_
  have zE := Lib.hid (heap_alloc_new w1 (.cells #[.string k, .int .i64 2, .string ⟨#[]⟩, .slice (some ⟨g, 0, none⟩) xs.length C, .slice none 0 0, .slice none 0 0, .slice none 0 0, .int .i64 u] 66))
  have OV := Lib.hid (O.out (some ⟨g, 0, none⟩) xs.length C (w1.alloc (.cells #[.string k, .int .i64 2, .string ⟨#[]⟩, .slice (some ⟨g, 0, none⟩) xs.length C, .slice none 0 0, .slice none 0 0, .slice none 0 0, .int .i64 u] 66)))
  go_wp2_with (first | (go_at_call 241; (with_reducible refine (OV.out).mono ?_); rintro e w2 ⟨rfl, h2⟩; have B2 := Lib.hid h2; clear h2; obtain ⟨⟨c0, c1, c2, c3, c4, c5, c6, c7⟩, ⟨f0, f1, f2, f3, f4, f5, f6, f7⟩, z1⟩ := cells8 (blk_below z0.out (belA B1.out B2.out)); obtain ⟨⟨d0, d1, d2, d3, d4, d5, d6, d7⟩, _, z2⟩ := cells8 (blk_below zE.out B2.out)))
  have hge := HG.out
  have hz := HZ.out
  rw [hz] at hge
  have hn1 : g ≠ w.heap.size := by omega
  exact bodyPost_ret (v := .tuple #[.agg #[.string k, .int .i64 2, .string ⟨#[]⟩, .slice (some ⟨g, 0, none⟩) xs.length C, .slice none 0 0, .slice none 0 0, .slice none 0 0, .int .i64 u], .bool true]) (by simp [results, Tryz.results215, go_sem, c0, c1, c2, c3, c4, c5, c6, c7]) rfl ⟨g, C, rfl, ((HT.out.below alloc_old).below B2.out).kept (fun g' hg' => by cases hg'; exact far8b hn1 _ _ _ _ _ _ _ _), by omega, (((((((((alloc_old.trans ((belA B1.out B2.out).mono (by omega))).setCell (Nat.le_refl _) _).setCell (Nat.le_refl _) _).setCell (Nat.le_refl _) _).setCell (Nat.le_refl _) _).setCell (Nat.le_refl _) _).setCell (Nat.le_refl _) _).setCell (Nat.le_refl _) _).setCell (Nat.le_refl _) _)⟩
end Go.Proofs.YticlacjpgjkhcaaGreatDoor

/- A job's look at a key that has a list. -/
namespace Go.Proofs.YticlacjpgjkhcaaGreatDoor
open Go.ChangeShapes Go.WideShapes Go.ChangeAt Go.RowKit

set_option maxRecDepth 100000 in
set_option maxHeartbeats 4000000 in
theorem JGet_yesL (bS bM j : Nat) (l : MapT.Ents) (k : ByteArray) (now : Int) (vA vl : Value) (u : Int) (xs : List ByteArray) (A : Option Addr) (cap : Nat) (hne : xs ≠ []) (hn : xs.length ≤ 1000000) (hf : MapT.find k l = some (.agg #[.string k, .int .i64 2, .string ⟨#[]⟩, .slice A xs.length cap, .slice none 0 0, .slice none 0 0, .slice none 0 0, .int .i64 u])) (hl : Lives u now) (w : World) (h : SP w bS bM l) (hj : JB w j bS now vA vl) (hss : SSl w (.slice A xs.length cap) xs) : Calls Tryz.prog 181 #[.pointer (some ⟨j, 0, none⟩), .string k] w fun e w' => ∃ g C, e = .returned (.tuple #[.agg #[.string k, .int .i64 2, .string ⟨#[]⟩, .slice (some ⟨g, 0, none⟩) xs.length C, .slice none 0 0, .slice none 0 0, .slice none 0 0, .int .i64 u], .bool true]) ∧ TR w' (.slice (some ⟨g, 0, none⟩) xs.length C) xs ∧ w.heap.size ≤ g ∧ Below w.heap.size w w' := by
  obtain ⟨W, hW⟩ : ∃ W, w.alloc (.cells #[.string ⟨#[]⟩, .int .i64 0, .string ⟨#[]⟩, .slice none 0 0, .slice none 0 0, .slice none 0 0, .slice none 0 0, .int .i64 0] 66) = W := ⟨_, rfl⟩
  have hb3 : Below w.heap.size w W := by rw [← hW]; exact alloc_old
  have z0 : W.heap[w.heap.size]? = some (.cells #[.string ⟨#[]⟩, .int .i64 0, .string ⟨#[]⟩, .slice none 0 0, .slice none 0 0, .slice none 0 0, .slice none 0 0, .int .i64 0] 66) := by rw [← hW]; exact heap_alloc_new w _
  have hJ := hj.below hb3
  have hS := h.below hb3
  have hss2 := hss.below hb3
  have G := Lib.hid (show ∀ X, ((X.cell? ⟨j, 0, none⟩ = some (.pointer (some ⟨bS, 0, none⟩)) ∧ X.cell? ⟨j, 1, none⟩ = some (.int .i64 now)) ∧ Below W.heap.size W X) → Calls Tryz.prog 215 #[.pointer (some ⟨bS, 0, none⟩), .string k, .int .i64 now] X (fun e w' => ∃ g C, e = .returned (.tuple #[.agg #[.string k, .int .i64 2, .string ⟨#[]⟩, .slice (some ⟨g, 0, none⟩) xs.length C, .slice none 0 0, .slice none 0 0, .slice none 0 0, .int .i64 u], .bool true]) ∧ TR w' (.slice (some ⟨g, 0, none⟩) xs.length C) xs ∧ X.heap.size ≤ g ∧ Below X.heap.size X w') from fun X hX => Get_yesL bS bM l k u now xs A cap hne hn hf hl X (hS.below hX.2) (hss2.below hX.2))
  have K := Lib.hid (show ∀ X, Below W.heap.size W X → ((X.cell? ⟨j, 0, none⟩ = some (.pointer (some ⟨bS, 0, none⟩)) ∧ X.cell? ⟨j, 1, none⟩ = some (.int .i64 now)) ∧ Below W.heap.size W X) from fun X hb => ⟨⟨(hJ.below hb).cells.1, (hJ.below hb).cells.2.1⟩, hb⟩)
  have S0 : ((W.drew.cell? ⟨j, 0, none⟩ = some (.pointer (some ⟨bS, 0, none⟩)) ∧ W.drew.cell? ⟨j, 1, none⟩ = some (.int .i64 now)) ∧ Below W.heap.size W W.drew) := K.out _ (Below.refl W.heap.size W).drew
  have SK := Lib.hid (show ∀ Y X : World, Below X.heap.size X Y → ((X.cell? ⟨j, 0, none⟩ = some (.pointer (some ⟨bS, 0, none⟩)) ∧ X.cell? ⟨j, 1, none⟩ = some (.int .i64 now)) ∧ Below W.heap.size W X) → ((Y.cell? ⟨j, 0, none⟩ = some (.pointer (some ⟨bS, 0, none⟩)) ∧ Y.cell? ⟨j, 1, none⟩ = some (.int .i64 now)) ∧ Below W.heap.size W Y) from fun Y X hb h => K.out _ (belT h.2 hb))
  have SA := Lib.hid (show ∀ (X : World) (o : Obj), ((X.cell? ⟨j, 0, none⟩ = some (.pointer (some ⟨bS, 0, none⟩)) ∧ X.cell? ⟨j, 1, none⟩ = some (.int .i64 now)) ∧ Below W.heap.size W X) → (((X.alloc o).cell? ⟨j, 0, none⟩ = some (.pointer (some ⟨bS, 0, none⟩)) ∧ (X.alloc o).cell? ⟨j, 1, none⟩ = some (.int .i64 now)) ∧ Below W.heap.size W (X.alloc o)) from fun X o h => SK.out _ X alloc_old h)
  have Z0 := Lib.hid (And.intro z0 hb3)
  have hz : w.heap.size < W.heap.size := (Array.getElem?_eq_some_iff.1 z0).1
  have HZ := Lib.hid hz
  have G1 := Lib.hid (G.out _ S0)
  have S2 := Lib.hid (K.out ((W.alloc (.cells #[.string ⟨#[]⟩, .int .i64 0, .string ⟨#[]⟩, .slice none 0 0, .slice none 0 0, .slice none 0 0, .slice none 0 0, .int .i64 0] 66)).drew) alloc_old.drew)
  have G2 := Lib.hid (G.out _ S2.out)
  have hA := Lib.hid (show ((W.alloc (.cells #[.string ⟨#[]⟩, .int .i64 0, .string ⟨#[]⟩, .slice none 0 0, .slice none 0 0, .slice none 0 0, .slice none 0 0, .int .i64 0] 66)).drew).heap[W.heap.size]? = some (.cells #[.string ⟨#[]⟩, .int .i64 0, .string ⟨#[]⟩, .slice none 0 0, .slice none 0 0, .slice none 0 0, .slice none 0 0, .int .i64 0] 66) from heap_alloc_new W (.cells #[.string ⟨#[]⟩, .int .i64 0, .string ⟨#[]⟩, .slice none 0 0, .slice none 0 0, .slice none 0 0, .slice none 0 0, .int .i64 0] 66))
  have ST := Lib.hid (show ∀ (X : World) (a0 a1 a2 a3 a4 a5 a6 a7 : Value), Below W.heap.size W X → ((((((((((X.setCell ⟨W.heap.size, 0, none⟩ a0).setCell ⟨W.heap.size, 1, none⟩ a1).setCell ⟨W.heap.size, 2, none⟩ a2).setCell ⟨W.heap.size, 3, none⟩ a3).setCell ⟨W.heap.size, 4, none⟩ a4).setCell ⟨W.heap.size, 5, none⟩ a5).setCell ⟨W.heap.size, 6, none⟩ a6).setCell ⟨W.heap.size, 7, none⟩ a7).cell? ⟨j, 0, none⟩ = some (.pointer (some ⟨bS, 0, none⟩)) ∧ ((((((((X.setCell ⟨W.heap.size, 0, none⟩ a0).setCell ⟨W.heap.size, 1, none⟩ a1).setCell ⟨W.heap.size, 2, none⟩ a2).setCell ⟨W.heap.size, 3, none⟩ a3).setCell ⟨W.heap.size, 4, none⟩ a4).setCell ⟨W.heap.size, 5, none⟩ a5).setCell ⟨W.heap.size, 6, none⟩ a6).setCell ⟨W.heap.size, 7, none⟩ a7).cell? ⟨j, 1, none⟩ = some (.int .i64 now)) ∧ Below W.heap.size W ((((((((X.setCell ⟨W.heap.size, 0, none⟩ a0).setCell ⟨W.heap.size, 1, none⟩ a1).setCell ⟨W.heap.size, 2, none⟩ a2).setCell ⟨W.heap.size, 3, none⟩ a3).setCell ⟨W.heap.size, 4, none⟩ a4).setCell ⟨W.heap.size, 5, none⟩ a5).setCell ⟨W.heap.size, 6, none⟩ a6).setCell ⟨W.heap.size, 7, none⟩ a7)) from fun X a0 a1 a2 a3 a4 a5 a6 a7 hb => K.out _ ((((((((hb.setCell (Nat.le_refl _) _).setCell (Nat.le_refl _) _).setCell (Nat.le_refl _) _).setCell (Nat.le_refl _) _).setCell (Nat.le_refl _) _).setCell (Nat.le_refl _) _).setCell (Nat.le_refl _) _).setCell (Nat.le_refl _) _))
  have S5 := Lib.hid (show ∀ X, Below ((W.alloc (.cells #[.string ⟨#[]⟩, .int .i64 0, .string ⟨#[]⟩, .slice none 0 0, .slice none 0 0, .slice none 0 0, .slice none 0 0, .int .i64 0] 66)).drew).heap.size ((W.alloc (.cells #[.string ⟨#[]⟩, .int .i64 0, .string ⟨#[]⟩, .slice none 0 0, .slice none 0 0, .slice none 0 0, .slice none 0 0, .int .i64 0] 66)).drew) X → Below W.heap.size W X from fun X hb => belT S2.out.2 hb)
  clear h hj hJ hS hss hss2 hf hb3 z0 hz hl
  go_enter Tryz.func181, Tryz.ntmps181
  go_wp2
  clear hW
  go_region_held3 (fun X => ((X.cell? ⟨j, 0, none⟩ = some (.pointer (some ⟨bS, 0, none⟩)) ∧ X.cell? ⟨j, 1, none⟩ = some (.int .i64 now)) ∧ Below W.heap.size W X)) (first | (with_reducible exact S0) | (with_reducible exact S2.out) | (with_reducible exact ST.out _ _ _ _ _ _ _ _ _ (S5.out _ (by assumption))) | (with_reducible exact SA.out _ _ (SK.out _ _ (by assumption) S0)) | (with_reducible exact SK.out _ _ (by assumption) S0) | (with_reducible exact SK.out _ _ (by assumption) S2.out) | exact SA.out _ _ (by assumption))
    (first | (go_at_call 215; (with_reducible refine (G1.out).mono ?_); rintro e w5 ⟨g, C, rfl, hT, hge, hb5⟩) | (go_at_call 215; (with_reducible refine (G2.out).mono ?_); rintro e w5 ⟨g, C, rfl, hT, hge, hb5⟩; obtain ⟨⟨c0, c1, c2, c3, c4, c5, c6, c7⟩, ⟨f0, f1, f2, f3, f4, f5, f6, f7⟩, z5⟩ := cells8 (blk_below hA.out hb5)))
  · have hb := belT S0.2 hb5
    obtain ⟨⟨d0, d1, d2, d3, d4, d5, d6, d7⟩, ⟨g0, g1, g2, g3, g4, g5, g6, g7⟩, zz⟩ := cells8 (blk_below Z0.out.1 hb)
    have BB := Lib.hid (Z0.out.2.trans (hb.mono (Nat.le_of_lt HZ.out)))
    have HT := Lib.hid hT
    have hge2 : W.heap.size ≤ g := hge
    have hn3 : w.heap.size ≤ g := by have := HZ.out; omega
    have hn1 : g ≠ w.heap.size := by have := HZ.out; omega
    clear hb hb5 hT hge
    go_wp2
    exact bodyPost_ret (v := .tuple #[.agg #[.string k, .int .i64 2, .string ⟨#[]⟩, .slice (some ⟨g, 0, none⟩) xs.length C, .slice none 0 0, .slice none 0 0, .slice none 0 0, .int .i64 u], .bool true]) (by simp [results, Tryz.results181, go_sem, d0, d1, d2, d3, d4, d5, d6, d7, zz]) rfl ⟨g, C, rfl, (HT.out.kept (fun g' hg' => by cases hg'; exact far8b hn1 _ _ _ _ _ _ _ _)).below alloc_old, hn3, ((((((((BB.out.setCell (Nat.le_refl _) _).setCell (Nat.le_refl _) _).setCell (Nat.le_refl _) _).setCell (Nat.le_refl _) _).setCell (Nat.le_refl _) _).setCell (Nat.le_refl _) _).setCell (Nat.le_refl _) _).setCell (Nat.le_refl _) _).alloc (by simp; omega) _⟩
  · have hb := S5.out _ hb5
    obtain ⟨⟨d0, d1, d2, d3, d4, d5, d6, d7⟩, ⟨g0, g1, g2, g3, g4, g5, g6, g7⟩, zz⟩ := cells8 (blk_below Z0.out.1 hb)
    have BB := Lib.hid (Z0.out.2.trans (hb.mono (Nat.le_of_lt HZ.out)))
    have hne1 : ¬ w.heap.size = W.heap.size := by have := HZ.out; omega
    have hne2 : ¬ W.heap.size = w.heap.size := by have := HZ.out; omega
    have hle := Lib.hid (Nat.le_of_lt HZ.out)
    have HT := Lib.hid hT
    have e9 : (W.alloc (.cells #[.string ⟨#[]⟩, .int .i64 0, .string ⟨#[]⟩, .slice none 0 0, .slice none 0 0, .slice none 0 0, .slice none 0 0, .int .i64 0] 66)).drew.heap.size = W.heap.size + 1 := (by simp : (W.alloc (.cells #[.string ⟨#[]⟩, .int .i64 0, .string ⟨#[]⟩, .slice none 0 0, .slice none 0 0, .slice none 0 0, .slice none 0 0, .int .i64 0] 66)).heap.size = W.heap.size + 1)
    have hge2 : W.heap.size + 1 ≤ g := by rw [e9] at hge; exact hge
    have hn3 : w.heap.size ≤ g := by have := HZ.out; omega
    have hn1 : g ≠ w.heap.size := by have := HZ.out; omega
    have hn2 : g ≠ W.heap.size := by omega
    clear hb hb5 hT hge e9
    go_wp2
    exact bodyPost_ret (v := .tuple #[.agg #[.string k, .int .i64 2, .string ⟨#[]⟩, .slice (some ⟨g, 0, none⟩) xs.length C, .slice none 0 0, .slice none 0 0, .slice none 0 0, .int .i64 u], .bool true]) (by simp [results, Tryz.results181, go_sem, d0, d1, d2, d3, d4, d5, d6, d7]) rfl ⟨g, C, rfl, HT.out.kept (fun g' hg' => by cases hg'; exact (far8b hn1 _ _ _ _ _ _ _ _).trans (far8b hn2 _ _ _ _ _ _ _ _)), hn3, ((((((((((((((((BB.out.setCell hle.out _).setCell hle.out _).setCell hle.out _).setCell hle.out _).setCell hle.out _).setCell hle.out _).setCell hle.out _).setCell hle.out _).setCell (Nat.le_refl _) _).setCell (Nat.le_refl _) _).setCell (Nat.le_refl _) _).setCell (Nat.le_refl _) _).setCell (Nat.le_refl _) _).setCell (Nat.le_refl _) _).setCell (Nat.le_refl _) _).setCell (Nat.le_refl _) _)⟩
end Go.Proofs.YticlacjpgjkhcaaGreatDoor
