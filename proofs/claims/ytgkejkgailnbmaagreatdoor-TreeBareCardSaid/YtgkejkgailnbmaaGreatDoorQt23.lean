/- Texts joined: S7 -/
import Derived.Test.YtgkejkgailnbmaaGreatDoorQt22
import Derived.Deep.RegionHeld3
set_option linter.unusedVariables false
set_option linter.unusedSimpArgs false
namespace Go.Proofs.YtgkejkgailnbmaaGreatDoor
open Lib (hid)
open Go.ChangeShapes Go.WideShapes Go.ChangeAt Go.RowKit TP
structure BW (n : Nat) (w X : World) : Prop where
 b : Below n w X
 s : n ≤ X.heap.size
theorem BW.alloc {n : Nat} {w X : World} {o : Obj} (h : BW n w X) : BW n w (X.alloc o) := ⟨h.b.alloc h.s o, by rw [World.size_alloc]; exact Nat.le_succ_of_le h.s⟩
theorem BW.drew {n : Nat} {w X : World} (h : BW n w X) : BW n w X.drew := ⟨h.b.drew, h.s⟩
theorem BW.set {n : Nat} {w X : World} {p : Addr} {v : Value} (h : BW n w X) (hp : n ≤ p.block) : BW n w (X.setCell p v) := ⟨h.b.setCell hp v, by rw [World.size_setCell]; exact h.s⟩
theorem BW.refl (w : World) : BW w.heap.size w w := ⟨Below.refl _ _, Nat.le_refl _⟩
structure RefAll (m : Nat) : Prop where
 c0 : ∀ a b : T, a.sz < m → ∀ w va vb, SL w FT 0 va a → SL w FT 0 vb b → Calls Tryz.prog 22 #[va, vb] w fun e w' => e = .returned (.bool (eqb a b)) ∧ Below w.heap.size w w'
 c2 : ∀ a b : T, a.sz < m → ∀ w va vb, SL w FT 2 va a → SL w FT 2 vb b → Calls Tryz.prog 8 #[va, vb] w fun e w' => e = .returned (.bool (eqb a b)) ∧ Below w.heap.size w w'
set_option maxRecDepth 100000 in
set_option maxHeartbeats 16000000 in
theorem ref8_is (m : Nat) (H : RefAll m) (a0 b0 : T) (va vb : Value) (w : World) (hm0 : a0.sz ≤ m) (ha : SL w FT 2 va a0) (hb : SL w FT 2 vb b0) : Calls Tryz.prog 8 #[va, vb] w fun e w' => e = .returned (.bool (eqb a0 b0)) ∧ Below w.heap.size w w' := by
 have la := ha.isList
 have lb := hb.isList
 obtain ⟨A, n, c, rfl, hn, hm⟩ := ha.view
 obtain ⟨A2, n2, c2, rfl, hn2, hm2⟩ := hb.view
 have HA := hid ha
 have HB := hid hb
 clear ha hb
 by_cases h : n = n2
 ·subst h
  have HN := hid (And.intro hn hn2)
  have HM := hid hm
  have HL := hid (And.intro la lb)
  have H0 := hid hm0
  clear hn hn2 hm hm2 la lb hm0
  obtain ⟨R, hR⟩ : ∃ R, eqb a0 b0 = R := ⟨_, rfl⟩
  rw [hR]
  have HR0 := hid hR
  clear hR
  go_enter Tryz.func8, Tryz.ntmps8
  go_wp2
  go_loopw [5] (fun iv wr => ∃ j : Nat, j ≤ n ∧ iv = .int .i64 j ∧ Hid (Below w.heap.size w wr ∧ eqb (a0.drop j) (b0.drop j) = R)) (fun iv _ => n - (intOf iv).toNat)
  case atStart => exact ⟨0, Nat.zero_le _, rfl, hid ⟨Below.refl _ _, by rw [T.drop_zero, T.drop_zero]; exact HR0.out⟩⟩
  case round =>
   obtain ⟨j, hj, rfl, HQ⟩ := hrel
   by_cases hlt : j < n
   ·have q0 : (j : Int) < (n : Int) := by omega
    have A1 := HA.out.below HQ.out.1
    have B1 := HB.out.below HQ.out.1
    obtain ⟨g1, k1, a1, vn1, vl1, vd1, ns1, l1, d1, rfl, hs1, c01, c11, c21, c31, c41⟩ := A1.el2 HN.out.1 hlt
    obtain ⟨Avn1, nvn1, cvn1, rfl, _⟩ := hs1.n.view
    obtain ⟨Avl1, nvl1, cvl1, rfl, _⟩ := hs1.l.view
    obtain ⟨Avd1, nvd1, cvd1, rfl, _⟩ := hs1.d.view
    obtain ⟨g2, k2, a2, vn2, vl2, vd2, ns2, l2, d2, rfl, hs2, c02, c12, c22, c32, c42⟩ := B1.el2 HN.out.2 hlt
    obtain ⟨Avn2, nvn2, cvn2, rfl, _⟩ := hs2.n.view
    obtain ⟨Avl2, nvl2, cvl2, rfl, _⟩ := hs2.l.view
    obtain ⟨Avd2, nvd2, cvd2, rfl, _⟩ := hs2.d.view
    have HS1 := hid hs1
    have HS2 := hid hs2
    have HT := hid (show (((decide (k1 = k2)) && (decide (a1 = a2)) && (decide (ns1 = ns2)) && (eqb l1 l2) && (eqb d1 d2)) && eqb (a0.drop (j + 1)) (b0.drop (j + 1))) = R from by
     rw [← HQ.out.2, T.drop_cons (t := a0) (j := j) HL.out.1 (by rw [HN.out.1]; exact hlt), T.drop_cons (t := b0) (j := j) HL.out.2 (by rw [HN.out.2]; exact hlt), hs1.t, hs2.t]
     rfl)
    have HSZ := hid (show (nth a0 j).sz ≤ m from Nat.le_trans (Nat.le_of_lt (T.sz_nth HL.out.1 (by rw [HN.out.1]; exact hlt))) H0.out)
    have SK := hid (show ∀ X, BW wr.heap.size wr X → X.cell? ⟨g1, j * 5, none⟩ = some (.int .i64 k1) ∧ X.cell? ⟨g1, j * 5 + 1, none⟩ = some (.int .i64 a1) ∧ X.cell? ⟨g1, j * 5 + 2, none⟩ = some (.slice Avn1 nvn1 cvn1) ∧ X.cell? ⟨g1, j * 5 + 3, none⟩ = some (.slice Avl1 nvl1 cvl1) ∧ X.cell? ⟨g1, j * 5 + 4, none⟩ = some (.slice Avd1 nvd1 cvd1) ∧ X.cell? ⟨g2, j * 5, none⟩ = some (.int .i64 k2) ∧ X.cell? ⟨g2, j * 5 + 1, none⟩ = some (.int .i64 a2) ∧ X.cell? ⟨g2, j * 5 + 2, none⟩ = some (.slice Avn2 nvn2 cvn2) ∧ X.cell? ⟨g2, j * 5 + 3, none⟩ = some (.slice Avl2 nvl2 cvl2) ∧ X.cell? ⟨g2, j * 5 + 4, none⟩ = some (.slice Avd2 nvd2 cvd2) from fun X h => ⟨(World.cell?_of_block (h.b.block _ (World.block_lt_of_cell? wr _ c01))).trans c01, (World.cell?_of_block (h.b.block _ (World.block_lt_of_cell? wr _ c11))).trans c11, (World.cell?_of_block (h.b.block _ (World.block_lt_of_cell? wr _ c21))).trans c21, (World.cell?_of_block (h.b.block _ (World.block_lt_of_cell? wr _ c31))).trans c31, (World.cell?_of_block (h.b.block _ (World.block_lt_of_cell? wr _ c41))).trans c41, (World.cell?_of_block (h.b.block _ (World.block_lt_of_cell? wr _ c02))).trans c02, (World.cell?_of_block (h.b.block _ (World.block_lt_of_cell? wr _ c12))).trans c12, (World.cell?_of_block (h.b.block _ (World.block_lt_of_cell? wr _ c22))).trans c22, (World.cell?_of_block (h.b.block _ (World.block_lt_of_cell? wr _ c32))).trans c32, (World.cell?_of_block (h.b.block _ (World.block_lt_of_cell? wr _ c42))).trans c42⟩)
    have B0 := hid (BW.refl wr)
    clear A1 B1 hs1 hs2
    go_wp2
    apply once2
    ·intro HREST
     go_region_held3 (fun X => X.cell? ⟨g1, j * 5, none⟩ = some (.int .i64 k1) ∧ X.cell? ⟨g1, j * 5 + 1, none⟩ = some (.int .i64 a1) ∧ X.cell? ⟨g1, j * 5 + 2, none⟩ = some (.slice Avn1 nvn1 cvn1) ∧ X.cell? ⟨g1, j * 5 + 3, none⟩ = some (.slice Avl1 nvl1 cvl1) ∧ X.cell? ⟨g1, j * 5 + 4, none⟩ = some (.slice Avd1 nvd1 cvd1) ∧ X.cell? ⟨g2, j * 5, none⟩ = some (.int .i64 k2) ∧ X.cell? ⟨g2, j * 5 + 1, none⟩ = some (.int .i64 a2) ∧ X.cell? ⟨g2, j * 5 + 2, none⟩ = some (.slice Avn2 nvn2 cvn2) ∧ X.cell? ⟨g2, j * 5 + 3, none⟩ = some (.slice Avl2 nvl2 cvl2) ∧ X.cell? ⟨g2, j * 5 + 4, none⟩ = some (.slice Avd2 nvd2 cvd2)) ((refine SK.out _ ?_; repeat (first | exact B0.out | apply BW.alloc | apply BW.drew | apply BW.set | (simp only [World.size_alloc, World.drew]; omega)))) (fail)
     ·skip
      have BB := hid (show Below wr.heap.size wr (((wr.alloc (.cells #[.int .i64 k1, .int .i64 a1, .slice Avn1 nvn1 cvn1, .slice Avl1 nvl1 cvl1, .slice Avd1 nvd1 cvd1] 34)).alloc (.cells #[.int .i64 k2, .int .i64 a2, .slice Avn2 nvn2 cvn2, .slice Avl2 nvl2 cvl2, .slice Avd2 nvd2 cvd2] 34)).drew) from (show Below wr.heap.size wr ((wr.alloc (.cells #[.int .i64 k1, .int .i64 a1, .slice Avn1 nvn1 cvn1, .slice Avl1 nvl1 cvl1, .slice Avd1 nvd1 cvd1] 34)).alloc (.cells #[.int .i64 k2, .int .i64 a2, .slice Avn2 nvn2 cvn2, .slice Avl2 nvl2 cvl2, .slice Avd2 nvd2 cvd2] 34)) from alloc_old.trans ((alloc_old (w := wr.alloc (.cells #[.int .i64 k1, .int .i64 a1, .slice Avn1 nvn1 cvn1, .slice Avl1 nvl1 cvl1, .slice Avd1 nvd1 cvd1] 34))).mono (by rw [World.size_alloc]; omega))).drew)
      have KK := hid (show (((wr.alloc (.cells #[.int .i64 k1, .int .i64 a1, .slice Avn1 nvn1 cvn1, .slice Avl1 nvl1 cvl1, .slice Avd1 nvd1 cvd1] 34)).alloc (.cells #[.int .i64 k2, .int .i64 a2, .slice Avn2 nvn2 cvn2, .slice Avl2 nvl2 cvl2, .slice Avd2 nvd2 cvd2] 34)).drew).heap[wr.heap.size]? = some (.cells #[.int .i64 k1, .int .i64 a1, .slice Avn1 nvn1 cvn1, .slice Avl1 nvl1 cvl1, .slice Avd1 nvd1 cvd1] 34) ∧ (((wr.alloc (.cells #[.int .i64 k1, .int .i64 a1, .slice Avn1 nvn1 cvn1, .slice Avl1 nvl1 cvl1, .slice Avd1 nvd1 cvd1] 34)).alloc (.cells #[.int .i64 k2, .int .i64 a2, .slice Avn2 nvn2 cvn2, .slice Avl2 nvl2 cvl2, .slice Avd2 nvd2 cvd2] 34)).drew).heap[wr.heap.size + 1]? = some (.cells #[.int .i64 k2, .int .i64 a2, .slice Avn2 nvn2 cvn2, .slice Avl2 nvl2 cvl2, .slice Avd2 nvd2 cvd2] 34) ∧ Below w.heap.size w (((wr.alloc (.cells #[.int .i64 k1, .int .i64 a1, .slice Avn1 nvn1 cvn1, .slice Avl1 nvl1 cvl1, .slice Avd1 nvd1 cvd1] 34)).alloc (.cells #[.int .i64 k2, .int .i64 a2, .slice Avn2 nvn2 cvn2, .slice Avl2 nvl2 cvl2, .slice Avd2 nvd2 cvd2] 34)).drew) ∧ StR (((wr.alloc (.cells #[.int .i64 k1, .int .i64 a1, .slice Avn1 nvn1 cvn1, .slice Avl1 nvl1 cvl1, .slice Avd1 nvd1 cvd1] 34)).alloc (.cells #[.int .i64 k2, .int .i64 a2, .slice Avn2 nvn2 cvn2, .slice Avl2 nvl2 cvl2, .slice Avd2 nvd2 cvd2] 34)).drew) FT (nth a0 j) k1 a1 (.slice Avn1 nvn1 cvn1) (.slice Avl1 nvl1 cvl1) (.slice Avd1 nvd1 cvd1) ns1 l1 d1 ∧ StR (((wr.alloc (.cells #[.int .i64 k1, .int .i64 a1, .slice Avn1 nvn1 cvn1, .slice Avl1 nvl1 cvl1, .slice Avd1 nvd1 cvd1] 34)).alloc (.cells #[.int .i64 k2, .int .i64 a2, .slice Avn2 nvn2 cvn2, .slice Avl2 nvl2 cvl2, .slice Avd2 nvd2 cvd2] 34)).drew) FT (nth b0 j) k2 a2 (.slice Avn2 nvn2 cvn2) (.slice Avl2 nvl2 cvl2) (.slice Avd2 nvd2 cvd2) ns2 l2 d2 from ⟨(show ((wr.alloc (.cells #[.int .i64 k1, .int .i64 a1, .slice Avn1 nvn1 cvn1, .slice Avl1 nvl1 cvl1, .slice Avd1 nvd1 cvd1] 34)).alloc (.cells #[.int .i64 k2, .int .i64 a2, .slice Avn2 nvn2 cvn2, .slice Avl2 nvl2 cvl2, .slice Avd2 nvd2 cvd2] 34)).heap[wr.heap.size]? = some (.cells #[.int .i64 k1, .int .i64 a1, .slice Avn1 nvn1 cvn1, .slice Avl1 nvl1 cvl1, .slice Avd1 nvd1 cvd1] 34) from blk_below (heap_alloc_new wr (.cells #[.int .i64 k1, .int .i64 a1, .slice Avn1 nvn1 cvn1, .slice Avl1 nvl1 cvl1, .slice Avd1 nvd1 cvd1] 34)) alloc_old), new_next wr (.cells #[.int .i64 k1, .int .i64 a1, .slice Avn1 nvn1 cvn1, .slice Avl1 nvl1 cvl1, .slice Avd1 nvd1 cvd1] 34) (.cells #[.int .i64 k2, .int .i64 a2, .slice Avn2 nvn2 cvn2, .slice Avl2 nvl2 cvl2, .slice Avd2 nvd2 cvd2] 34), HQ.out.1.trans (BB.out.mono (Below.size HQ.out.1)), HS1.out.below BB.out, HS2.out.below BB.out⟩)
      clear BB
      generalize ((wr.alloc (.cells #[.int .i64 k1, .int .i64 a1, .slice Avn1 nvn1 cvn1, .slice Avl1 nvl1 cvl1, .slice Avd1 nvd1 cvd1] 34)).alloc (.cells #[.int .i64 k2, .int .i64 a2, .slice Avn2 nvn2 cvn2, .slice Avl2 nvl2 cvl2, .slice Avd2 nvd2 cvd2] 34)).drew = Y at KK ⊢
      generalize wr.heap.size + 1 = p7 at KK ⊢
      generalize wr.heap.size = p6 at KK ⊢
      revert KK
      revert Y
      revert p7
      revert p6
      exact HREST.out
     ·skip
      have BB := hid (show Below wr.heap.size wr (((wr.alloc (.cells #[.int .i64 k2, .int .i64 a2, .slice Avn2 nvn2 cvn2, .slice Avl2 nvl2 cvl2, .slice Avd2 nvd2 cvd2] 34)).alloc (.cells #[.int .i64 k1, .int .i64 a1, .slice Avn1 nvn1 cvn1, .slice Avl1 nvl1 cvl1, .slice Avd1 nvd1 cvd1] 34)).drew) from (show Below wr.heap.size wr ((wr.alloc (.cells #[.int .i64 k2, .int .i64 a2, .slice Avn2 nvn2 cvn2, .slice Avl2 nvl2 cvl2, .slice Avd2 nvd2 cvd2] 34)).alloc (.cells #[.int .i64 k1, .int .i64 a1, .slice Avn1 nvn1 cvn1, .slice Avl1 nvl1 cvl1, .slice Avd1 nvd1 cvd1] 34)) from alloc_old.trans ((alloc_old (w := wr.alloc (.cells #[.int .i64 k2, .int .i64 a2, .slice Avn2 nvn2 cvn2, .slice Avl2 nvl2 cvl2, .slice Avd2 nvd2 cvd2] 34))).mono (by rw [World.size_alloc]; omega))).drew)
      have KK := hid (show (((wr.alloc (.cells #[.int .i64 k2, .int .i64 a2, .slice Avn2 nvn2 cvn2, .slice Avl2 nvl2 cvl2, .slice Avd2 nvd2 cvd2] 34)).alloc (.cells #[.int .i64 k1, .int .i64 a1, .slice Avn1 nvn1 cvn1, .slice Avl1 nvl1 cvl1, .slice Avd1 nvd1 cvd1] 34)).drew).heap[wr.heap.size + 1]? = some (.cells #[.int .i64 k1, .int .i64 a1, .slice Avn1 nvn1 cvn1, .slice Avl1 nvl1 cvl1, .slice Avd1 nvd1 cvd1] 34) ∧ (((wr.alloc (.cells #[.int .i64 k2, .int .i64 a2, .slice Avn2 nvn2 cvn2, .slice Avl2 nvl2 cvl2, .slice Avd2 nvd2 cvd2] 34)).alloc (.cells #[.int .i64 k1, .int .i64 a1, .slice Avn1 nvn1 cvn1, .slice Avl1 nvl1 cvl1, .slice Avd1 nvd1 cvd1] 34)).drew).heap[wr.heap.size]? = some (.cells #[.int .i64 k2, .int .i64 a2, .slice Avn2 nvn2 cvn2, .slice Avl2 nvl2 cvl2, .slice Avd2 nvd2 cvd2] 34) ∧ Below w.heap.size w (((wr.alloc (.cells #[.int .i64 k2, .int .i64 a2, .slice Avn2 nvn2 cvn2, .slice Avl2 nvl2 cvl2, .slice Avd2 nvd2 cvd2] 34)).alloc (.cells #[.int .i64 k1, .int .i64 a1, .slice Avn1 nvn1 cvn1, .slice Avl1 nvl1 cvl1, .slice Avd1 nvd1 cvd1] 34)).drew) ∧ StR (((wr.alloc (.cells #[.int .i64 k2, .int .i64 a2, .slice Avn2 nvn2 cvn2, .slice Avl2 nvl2 cvl2, .slice Avd2 nvd2 cvd2] 34)).alloc (.cells #[.int .i64 k1, .int .i64 a1, .slice Avn1 nvn1 cvn1, .slice Avl1 nvl1 cvl1, .slice Avd1 nvd1 cvd1] 34)).drew) FT (nth a0 j) k1 a1 (.slice Avn1 nvn1 cvn1) (.slice Avl1 nvl1 cvl1) (.slice Avd1 nvd1 cvd1) ns1 l1 d1 ∧ StR (((wr.alloc (.cells #[.int .i64 k2, .int .i64 a2, .slice Avn2 nvn2 cvn2, .slice Avl2 nvl2 cvl2, .slice Avd2 nvd2 cvd2] 34)).alloc (.cells #[.int .i64 k1, .int .i64 a1, .slice Avn1 nvn1 cvn1, .slice Avl1 nvl1 cvl1, .slice Avd1 nvd1 cvd1] 34)).drew) FT (nth b0 j) k2 a2 (.slice Avn2 nvn2 cvn2) (.slice Avl2 nvl2 cvl2) (.slice Avd2 nvd2 cvd2) ns2 l2 d2 from ⟨new_next wr (.cells #[.int .i64 k2, .int .i64 a2, .slice Avn2 nvn2 cvn2, .slice Avl2 nvl2 cvl2, .slice Avd2 nvd2 cvd2] 34) (.cells #[.int .i64 k1, .int .i64 a1, .slice Avn1 nvn1 cvn1, .slice Avl1 nvl1 cvl1, .slice Avd1 nvd1 cvd1] 34), (show ((wr.alloc (.cells #[.int .i64 k2, .int .i64 a2, .slice Avn2 nvn2 cvn2, .slice Avl2 nvl2 cvl2, .slice Avd2 nvd2 cvd2] 34)).alloc (.cells #[.int .i64 k1, .int .i64 a1, .slice Avn1 nvn1 cvn1, .slice Avl1 nvl1 cvl1, .slice Avd1 nvd1 cvd1] 34)).heap[wr.heap.size]? = some (.cells #[.int .i64 k2, .int .i64 a2, .slice Avn2 nvn2 cvn2, .slice Avl2 nvl2 cvl2, .slice Avd2 nvd2 cvd2] 34) from blk_below (heap_alloc_new wr (.cells #[.int .i64 k2, .int .i64 a2, .slice Avn2 nvn2 cvn2, .slice Avl2 nvl2 cvl2, .slice Avd2 nvd2 cvd2] 34)) alloc_old), HQ.out.1.trans (BB.out.mono (Below.size HQ.out.1)), HS1.out.below BB.out, HS2.out.below BB.out⟩)
      clear BB
      generalize ((wr.alloc (.cells #[.int .i64 k2, .int .i64 a2, .slice Avn2 nvn2 cvn2, .slice Avl2 nvl2 cvl2, .slice Avd2 nvd2 cvd2] 34)).alloc (.cells #[.int .i64 k1, .int .i64 a1, .slice Avn1 nvn1 cvn1, .slice Avl1 nvl1 cvl1, .slice Avd1 nvd1 cvd1] 34)).drew = Y at KK ⊢
      generalize wr.heap.size + 1 = p6 at KK ⊢
      generalize wr.heap.size = p7 at KK ⊢
      revert KK
      revert Y
      revert p7
      revert p6
      exact HREST.out
    intro p6 p7 Y KK
    have X1 := hid KK.out.1
    have X2 := hid KK.out.2.1
    have HY := hid KK.out.2.2.1
    have RR := hid KK.out.2.2.2
    have KY := hid (Below.refl Y.heap.size Y)
    clear SK B0 HS1 HS2 KK c01 c11 c21 c31 c41 c02 c12 c22 c32 c42
    obtain ⟨⟨d01, d11, d21, d31, d41⟩, _⟩ := cells5 X1.out
    obtain ⟨⟨d02, d12, d22, d32, d42⟩, _⟩ := cells5 X2.out
    have pr1 := RR.out.1
    have pr2 := RR.out.2
    have hsz : (nth a0 j).sz ≤ m := HSZ.out
    rw [pr1.t] at hsz
    simp only [T.sz] at hsz
    have RL := hid (And.intro pr1.d pr2.d)
    have len1 : d1.len = nvd1 := by obtain ⟨_, _, _, e, h, _⟩ := pr1.d.view; cases e; exact h
    have len2 : d2.len = nvd2 := by obtain ⟨_, _, _, e, h, _⟩ := pr2.d.view; cases e; exact h
    have hml : nvd1 ≤ maxLen := by obtain ⟨_, _, _, e, _, h⟩ := pr1.d.view; cases e; exact h
    have HML := hid hml
    have HSL := hid (show d1.sz < m from by omega)
    have HW := hid (wrap_succ hlt HM.out)
    have Q2 := hid (show ∀ X, Below Y.heap.size Y X → Calls Tryz.prog 21 #[.slice Avn1 nvn1 cvn1, .slice Avn2 nvn2 cvn2] X (fun e w' => e = .returned (.bool (decide (ns1 = ns2))) ∧ Below X.heap.size X w') from fun X (hb : Below Y.heap.size Y X) => Texts21_is ns1 ns2 (.slice Avn1 nvn1 cvn1) (.slice Avn2 nvn2 cvn2) X (pr1.n.below hb) (pr2.n.below hb))
    have Q3 := hid (show ∀ X, Below Y.heap.size Y X → Calls Tryz.prog 22 #[.slice Avl1 nvl1 cvl1, .slice Avl2 nvl2 cvl2] X (fun e w' => e = .returned (.bool (eqb l1 l2)) ∧ Below X.heap.size X w') from fun X (hb : Below Y.heap.size Y X) => H.c0 l1 l2 (by omega) X (.slice Avl1 nvl1 cvl1) (.slice Avl2 nvl2 cvl2) (pr1.l.below hb) (pr2.l.below hb))
    generalize decide (ns1 = ns2) = r2 at Q2 HT
    generalize eqb l1 l2 = r3 at Q3 HT
    obtain ⟨rl, hrl⟩ : ∃ rl, eqb d1 d2 = rl := ⟨_, rfl⟩
    have HRL := hid hrl
    rw [hrl] at HT
    clear pr1 pr2 hsz hml hrl
    by_cases h0 : k1 = k2
    ·subst h0
     by_cases h1 : a1 = a2
     ·subst h1
      cases r2 with
      | false =>
       obtain rfl : false = R := by rw [← HT.out]; simp
       go_wp2_with (first | (go_at_call 21; (with_reducible refine (Q2.out _ KY.out).mono ?_); rintro e x2 ⟨rfl, h1⟩; have Y2 := hid (KY.out.trans (h1.mono (Below.size KY.out))); have U2 := hid (blk_below X1.out h1); have V2 := hid (blk_below X2.out h1); clear h1; obtain ⟨⟨_e01, _e11, _e21, _e31, _e41⟩, _⟩ := cells5 U2.out; obtain ⟨⟨_e02, _e12, _e22, _e32, _e42⟩, _⟩ := cells5 V2.out))
       exact bodyPost_ret (v := .bool false) (by simp [results, Tryz.results8, go_sem]) rfl ⟨rfl, HY.out.trans (Y2.out.mono (Below.size HY.out))⟩
      | true =>
       cases r3 with
       | false =>
        obtain rfl : false = R := by rw [← HT.out]; simp
        go_wp2_with (first | (go_at_call 21; (with_reducible refine (Q2.out _ KY.out).mono ?_); rintro e x2 ⟨rfl, h1⟩; have Y2 := hid (KY.out.trans (h1.mono (Below.size KY.out))); have U2 := hid (blk_below X1.out h1); have V2 := hid (blk_below X2.out h1); clear h1; obtain ⟨⟨_e01, _e11, _e21, _e31, _e41⟩, _⟩ := cells5 U2.out; obtain ⟨⟨_e02, _e12, _e22, _e32, _e42⟩, _⟩ := cells5 V2.out) | (go_at_call 22; (with_reducible refine (Q3.out _ Y2.out).mono ?_); rintro e x3 ⟨rfl, h1⟩; have Y3 := hid (Y2.out.trans (h1.mono (Below.size Y2.out))); have U3 := hid (blk_below U2.out h1); have V3 := hid (blk_below V2.out h1); clear h1; obtain ⟨⟨_e01, _e11, _e21, _e31, _e41⟩, _⟩ := cells5 U3.out; obtain ⟨⟨_e02, _e12, _e22, _e32, _e42⟩, _⟩ := cells5 V3.out))
        exact bodyPost_ret (v := .bool false) (by simp [results, Tryz.results8, go_sem]) rfl ⟨rfl, HY.out.trans (Y3.out.mono (Below.size HY.out))⟩
       | true =>
        by_cases hln : nvd1 = nvd2
        ·subst hln
         obtain ⟨nq, hnq⟩ : ∃ nq, nvd1 = nq := ⟨_, rfl⟩
         subst hnq
         have HLN := hid (show d1.len = nvd1 ∧ d2.len = nvd1 from ⟨len1, len2⟩)
         go_wp2_with (first | (go_at_call 21; (with_reducible refine (Q2.out _ KY.out).mono ?_); rintro e x2 ⟨rfl, h1⟩; have Y2 := hid (KY.out.trans (h1.mono (Below.size KY.out))); have U2 := hid (blk_below X1.out h1); have V2 := hid (blk_below X2.out h1); clear h1; obtain ⟨⟨_e01, _e11, _e21, _e31, _e41⟩, _⟩ := cells5 U2.out; obtain ⟨⟨_e02, _e12, _e22, _e32, _e42⟩, _⟩ := cells5 V2.out) | (go_at_call 22; (with_reducible refine (Q3.out _ Y2.out).mono ?_); rintro e x3 ⟨rfl, h1⟩; have Y3 := hid (Y2.out.trans (h1.mono (Below.size Y2.out))); have U3 := hid (blk_below U2.out h1); have V3 := hid (blk_below V2.out h1); clear h1; obtain ⟨⟨_e01, _e11, _e21, _e31, _e41⟩, _⟩ := cells5 U3.out; obtain ⟨⟨_e02, _e12, _e22, _e32, _e42⟩, _⟩ := cells5 V3.out))
         go_loopw [8] (fun iv wq => ∃ k : Nat, k ≤ nvd1 ∧ iv = .int .i64 k ∧ Hid (Below Y.heap.size Y wq ∧ wq.heap[p6]? = some (.cells #[.int .i64 k1, .int .i64 a1, .slice Avn1 nvn1 cvn1, .slice Avl1 nvl1 cvl1, .slice Avd1 nvd1 cvd1] 34) ∧ wq.heap[p7]? = some (.cells #[.int .i64 k1, .int .i64 a1, .slice Avn2 nvn2 cvn2, .slice Avl2 nvl2 cvl2, .slice Avd2 nvd1 cvd2] 34) ∧ eqb (d1.drop k) (d2.drop k) = rl)) (fun iv _ => nvd1 - (intOf iv).toNat)
         case atStart => exact ⟨0, Nat.zero_le _, rfl, hid ⟨Y3.out, U3.out, V3.out, by rw [T.drop_zero, T.drop_zero]; exact HRL.out⟩⟩
         case round =>
          clear d01 d11 d21 d31 d41 d02 d12 d22 d32 d42
          obtain ⟨k, hk, rfl, HK⟩ := hrel
          obtain ⟨⟨d01, d11, d21, d31, d41⟩, _⟩ := cells5 HK.out.2.1
          obtain ⟨⟨d02, d12, d22, d32, d42⟩, _⟩ := cells5 HK.out.2.2.1
          by_cases hk2 : k < nvd1
          ·have qk : (k : Int) < (nvd1 : Int) := by omega
           have L1 := RL.out.1.below HK.out.1
           have L2 := RL.out.2.below HK.out.1
           obtain ⟨q1, u1, rfl, hu1, cq1⟩ := L1.el3 HLN.out.1 hk2
           obtain ⟨q2, u2, rfl, hu2, cq2⟩ := L2.el3 HLN.out.2 hk2
           obtain ⟨Au1, nu1, cu1, rfl, _⟩ := hu1.view
           obtain ⟨Au2, nu2, cu2, rfl, _⟩ := hu2.view
           have HC := hid (H.c2 (nth d1 k) (nth d2 k) (by have := T.sz_nth RL.out.1.isList (j := k) (by rw [HLN.out.1]; exact hk2); have := HSL.out; omega) wr.drew _ _ (hu1.below (Below.refl wr.heap.size wr).drew) (hu2.below (Below.refl wr.heap.size wr).drew))
           obtain ⟨rk, hrk⟩ : ∃ rk, eqb (nth d1 k) (nth d2 k) = rk := ⟨_, rfl⟩
           rw [hrk] at HC
           have HRK := hid (show (rk && eqb (d1.drop (k + 1)) (d2.drop (k + 1))) = rl from by
            rw [← HK.out.2.2.2, T.drop_cons (t := d1) (j := k) RL.out.1.isList (by rw [HLN.out.1]; exact hk2), T.drop_cons (t := d2) (j := k) RL.out.2.isList (by rw [HLN.out.2]; exact hk2), ← hrk]
            rfl)
           have HW2 := hid (wrap_succ hk2 HML.out)
           have SK2 := hid (show ∀ X, Below wr.heap.size wr X → X.cell? ⟨p6, 4, none⟩ = some (.slice (some ⟨q1, 0, none⟩) nvd1 cvd1) ∧ X.cell? ⟨p7, 4, none⟩ = some (.slice (some ⟨q2, 0, none⟩) nvd1 cvd2) ∧ X.cell? ⟨q1, k, none⟩ = some (.slice Au1 nu1 cu1) ∧ X.cell? ⟨q2, k, none⟩ = some (.slice Au2 nu2 cu2) from fun X h => ⟨(World.cell?_of_block (h.block _ (World.block_lt_of_cell? wr _ d41))).trans d41, (World.cell?_of_block (h.block _ (World.block_lt_of_cell? wr _ d42))).trans d42, (World.cell?_of_block (h.block _ (World.block_lt_of_cell? wr _ cq1))).trans cq1, (World.cell?_of_block (h.block _ (World.block_lt_of_cell? wr _ cq2))).trans cq2⟩)
           have S0 := hid (SK2.out _ (Below.refl wr.heap.size wr).drew)
           have k0 : (0 : Int) ≤ (k : Int) := by omega
           clear L1 L2 hu1 hu2 hrk
           cases rk with
           | true =>
            rw [Bool.true_and] at HRK
            go_wp2
            go_region_held3 (fun X => X.cell? ⟨p6, 4, none⟩ = some (.slice (some ⟨q1, 0, none⟩) nvd1 cvd1) ∧ X.cell? ⟨p7, 4, none⟩ = some (.slice (some ⟨q2, 0, none⟩) nvd1 cvd2) ∧ X.cell? ⟨q1, k, none⟩ = some (.slice Au1 nu1 cu1) ∧ X.cell? ⟨q2, k, none⟩ = some (.slice Au2 nu2 cu2)) (first | (with_reducible exact S0.out) | (with_reducible exact S9.out)) (first | (go_at_call 8; (with_reducible refine (HC.out).mono ?_); rintro e x9 ⟨rfl, g1'⟩; have B9 := hid ((Below.refl wr.heap.size wr).drew.trans g1'); have S9 := hid (SK2.out _ B9.out); clear g1'))
            go_wp2
            exact ⟨⟨k + 1, hk2, by rw [HW2.out.2], hid ⟨HK.out.1.trans (B9.out.mono (Below.size HK.out.1)), blk_below HK.out.2.1 B9.out, blk_below HK.out.2.2.1 B9.out, HRK.out⟩⟩, dec_lt hk2 HW2.out.2⟩
           | false =>
            rw [Bool.false_and] at HRK
            obtain rfl := HRK.out
            obtain rfl : false = R := by rw [← HT.out]; simp
            go_wp2
            go_region_held3 (fun X => X.cell? ⟨p6, 4, none⟩ = some (.slice (some ⟨q1, 0, none⟩) nvd1 cvd1) ∧ X.cell? ⟨p7, 4, none⟩ = some (.slice (some ⟨q2, 0, none⟩) nvd1 cvd2) ∧ X.cell? ⟨q1, k, none⟩ = some (.slice Au1 nu1 cu1) ∧ X.cell? ⟨q2, k, none⟩ = some (.slice Au2 nu2 cu2)) (first | (with_reducible exact S0.out) | (with_reducible exact S9.out)) (first | (go_at_call 8; (with_reducible refine (HC.out).mono ?_); rintro e x9 ⟨rfl, g1'⟩; have B9 := hid ((Below.refl wr.heap.size wr).drew.trans g1'); have S9 := hid (SK2.out _ B9.out); clear g1'))
            go_wp2
            exact bodyPost_ret (v := .bool false) (by simp [results, Tryz.results8, go_sem]) rfl ⟨rfl, HY.out.trans ((HK.out.1.trans (B9.out.mono (Below.size HK.out.1))).mono (Below.size HY.out))⟩
          ·have qk : ¬ (k : Int) < (nvd1 : Int) := by omega
           have hkn : k = nvd1 := by omega
           obtain rfl : true = rl := by
            have e1 := T.drop_len RL.out.1.isList
            have e2 := T.drop_len RL.out.2.isList
            rw [HLN.out.1] at e1
            rw [HLN.out.2] at e2
            rw [← HK.out.2.2.2, hkn, e1, e2]
            rfl
           have HT2 := hid (show eqb (a0.drop (j + 1)) (b0.drop (j + 1)) = R from by rw [← HT.out]; simp)
           clear hkn
           go_wp2
           exact ⟨⟨j + 1, hlt, by rw [HW.out.2], hid ⟨HY.out.trans (HK.out.1.mono (Below.size HY.out)), HT2.out⟩⟩, dec_lt hlt HW.out.2⟩
        ·have hln2 : ¬ (nvd1 : Int) = (nvd2 : Int) := by omega
         have hlnb : ((nvd1 : Int) == (nvd2 : Int)) = false := by simp; omega
         obtain rfl : false = rl := by rw [← HRL.out]; exact (eqb_ne_len RL.out.1.isList RL.out.2.isList (by rw [len1, len2]; exact hln)).symm
         obtain rfl : false = R := by rw [← HT.out]; simp
         go_wp2_with (first | (go_at_call 21; (with_reducible refine (Q2.out _ KY.out).mono ?_); rintro e x2 ⟨rfl, h1⟩; have Y2 := hid (KY.out.trans (h1.mono (Below.size KY.out))); have U2 := hid (blk_below X1.out h1); have V2 := hid (blk_below X2.out h1); clear h1; obtain ⟨⟨_e01, _e11, _e21, _e31, _e41⟩, _⟩ := cells5 U2.out; obtain ⟨⟨_e02, _e12, _e22, _e32, _e42⟩, _⟩ := cells5 V2.out) | (go_at_call 22; (with_reducible refine (Q3.out _ Y2.out).mono ?_); rintro e x3 ⟨rfl, h1⟩; have Y3 := hid (Y2.out.trans (h1.mono (Below.size Y2.out))); have U3 := hid (blk_below U2.out h1); have V3 := hid (blk_below V2.out h1); clear h1; obtain ⟨⟨_e01, _e11, _e21, _e31, _e41⟩, _⟩ := cells5 U3.out; obtain ⟨⟨_e02, _e12, _e22, _e32, _e42⟩, _⟩ := cells5 V3.out))
         exact bodyPost_ret (v := .bool false) (by simp [results, Tryz.results8, go_sem]) rfl ⟨rfl, HY.out.trans (Y3.out.mono (Below.size HY.out))⟩
     ·skip
      have hi1 : ¬ a1 = a2 := h1
      have hb1 : (a1 == a2) = false := by simp [h1]
      obtain rfl : false = R := by rw [← HT.out]; simp [h1]
      go_wp2
      exact bodyPost_ret (v := .bool false) (by simp [results, Tryz.results8, go_sem]) rfl ⟨rfl, HY.out.trans (KY.out.mono (Below.size HY.out))⟩
    ·skip
     have hi0 : ¬ k1 = k2 := h0
     have hb0 : (k1 == k2) = false := by simp [h0]
     obtain rfl : false = R := by rw [← HT.out]; simp [h0]
     go_wp2
     exact bodyPost_ret (v := .bool false) (by simp [results, Tryz.results8, go_sem]) rfl ⟨rfl, HY.out.trans (KY.out.mono (Below.size HY.out))⟩
   ·have q0 : ¬ (j : Int) < (n : Int) := by omega
    have hr : true = R := by
     have hjn : j = n := by omega
     have e1 := T.drop_len HL.out.1
     have e2 := T.drop_len HL.out.2
     rw [HN.out.1] at e1
     rw [HN.out.2] at e2
     rw [← HQ.out.2, hjn, e1, e2]
     rfl
    subst hr
    go_wp2
    exact bodyPost_ret (v := .bool true) (by simp [results, Tryz.results8, go_sem]) rfl ⟨rfl, HQ.out.1⟩
 ·rw [eqb_ne_len la lb (by omega)]
  have hne : ¬ (n : Int) = (n2 : Int) := by omega
  clear la lb
  go_enter Tryz.func8, Tryz.ntmps8
  go_wp2
  go_ret
  exact ⟨rfl, Below.refl _ _⟩
set_option maxRecDepth 100000 in
set_option maxHeartbeats 16000000 in
theorem ref22_is (m : Nat) (H : RefAll m) (a0 b0 : T) (va vb : Value) (w : World) (hm0 : a0.sz ≤ m) (ha : SL w FT 0 va a0) (hb : SL w FT 0 vb b0) : Calls Tryz.prog 22 #[va, vb] w fun e w' => e = .returned (.bool (eqb a0 b0)) ∧ Below w.heap.size w w' := by
 have la := ha.isList
 have lb := hb.isList
 obtain ⟨A, n, c, rfl, hn, hm⟩ := ha.view
 obtain ⟨A2, n2, c2, rfl, hn2, hm2⟩ := hb.view
 have HA := hid ha
 have HB := hid hb
 clear ha hb
 by_cases h : n = n2
 ·subst h
  have HN := hid (And.intro hn hn2)
  have HM := hid hm
  have HL := hid (And.intro la lb)
  have H0 := hid hm0
  clear hn hn2 hm hm2 la lb hm0
  obtain ⟨R, hR⟩ : ∃ R, eqb a0 b0 = R := ⟨_, rfl⟩
  rw [hR]
  have HR0 := hid hR
  clear hR
  go_enter Tryz.func22, Tryz.ntmps22
  go_wp2
  go_loopw [5] (fun iv wr => ∃ j : Nat, j ≤ n ∧ iv = .int .i64 j ∧ Hid (Below w.heap.size w wr ∧ eqb (a0.drop j) (b0.drop j) = R)) (fun iv _ => n - (intOf iv).toNat)
  case atStart => exact ⟨0, Nat.zero_le _, rfl, hid ⟨Below.refl _ _, by rw [T.drop_zero, T.drop_zero]; exact HR0.out⟩⟩
  case round =>
   obtain ⟨j, hj, rfl, HQ⟩ := hrel
   by_cases hlt : j < n
   ·have q0 : (j : Int) < (n : Int) := by omega
    have A1 := HA.out.below HQ.out.1
    have B1 := HB.out.below HQ.out.1
    obtain ⟨g1, k1, a1, n1, op1, s1, vl1, vf1, l1, f1, rfl, hs1, c01, c11, c21, c31, c41, c51, c61⟩ := A1.el0 HN.out.1 hlt
    obtain ⟨Avl1, nvl1, cvl1, rfl, _⟩ := hs1.l.view
    obtain ⟨Avf1, nvf1, cvf1, rfl, _⟩ := hs1.f.view
    obtain ⟨g2, k2, a2, n2, op2, s2, vl2, vf2, l2, f2, rfl, hs2, c02, c12, c22, c32, c42, c52, c62⟩ := B1.el0 HN.out.2 hlt
    obtain ⟨Avl2, nvl2, cvl2, rfl, _⟩ := hs2.l.view
    obtain ⟨Avf2, nvf2, cvf2, rfl, _⟩ := hs2.f.view
    have HS1 := hid hs1
    have HS2 := hid hs2
    have HT := hid (show (((decide (k1 = k2)) && (decide (a1 = a2)) && (decide (n1 = n2)) && (decide (s1 = s2)) && (decide (op1 = op2)) && (eqb l1 l2) && (eqb f1 f2)) && eqb (a0.drop (j + 1)) (b0.drop (j + 1))) = R from by
     rw [← HQ.out.2, T.drop_cons (t := a0) (j := j) HL.out.1 (by rw [HN.out.1]; exact hlt), T.drop_cons (t := b0) (j := j) HL.out.2 (by rw [HN.out.2]; exact hlt), hs1.t, hs2.t]
     rfl)
    have HSZ := hid (show (nth a0 j).sz ≤ m from Nat.le_trans (Nat.le_of_lt (T.sz_nth HL.out.1 (by rw [HN.out.1]; exact hlt))) H0.out)
    have SK := hid (show ∀ X, BW wr.heap.size wr X → X.cell? ⟨g1, j * 7, none⟩ = some (.int .i64 k1) ∧ X.cell? ⟨g1, j * 7 + 1, none⟩ = some (.int .i64 a1) ∧ X.cell? ⟨g1, j * 7 + 2, none⟩ = some (.int .i64 n1) ∧ X.cell? ⟨g1, j * 7 + 3, none⟩ = some (.string s1) ∧ X.cell? ⟨g1, j * 7 + 4, none⟩ = some (.int .i64 op1) ∧ X.cell? ⟨g1, j * 7 + 5, none⟩ = some (.slice Avl1 nvl1 cvl1) ∧ X.cell? ⟨g1, j * 7 + 6, none⟩ = some (.slice Avf1 nvf1 cvf1) ∧ X.cell? ⟨g2, j * 7, none⟩ = some (.int .i64 k2) ∧ X.cell? ⟨g2, j * 7 + 1, none⟩ = some (.int .i64 a2) ∧ X.cell? ⟨g2, j * 7 + 2, none⟩ = some (.int .i64 n2) ∧ X.cell? ⟨g2, j * 7 + 3, none⟩ = some (.string s2) ∧ X.cell? ⟨g2, j * 7 + 4, none⟩ = some (.int .i64 op2) ∧ X.cell? ⟨g2, j * 7 + 5, none⟩ = some (.slice Avl2 nvl2 cvl2) ∧ X.cell? ⟨g2, j * 7 + 6, none⟩ = some (.slice Avf2 nvf2 cvf2) from fun X h => ⟨(World.cell?_of_block (h.b.block _ (World.block_lt_of_cell? wr _ c01))).trans c01, (World.cell?_of_block (h.b.block _ (World.block_lt_of_cell? wr _ c11))).trans c11, (World.cell?_of_block (h.b.block _ (World.block_lt_of_cell? wr _ c21))).trans c21, (World.cell?_of_block (h.b.block _ (World.block_lt_of_cell? wr _ c31))).trans c31, (World.cell?_of_block (h.b.block _ (World.block_lt_of_cell? wr _ c41))).trans c41, (World.cell?_of_block (h.b.block _ (World.block_lt_of_cell? wr _ c51))).trans c51, (World.cell?_of_block (h.b.block _ (World.block_lt_of_cell? wr _ c61))).trans c61, (World.cell?_of_block (h.b.block _ (World.block_lt_of_cell? wr _ c02))).trans c02, (World.cell?_of_block (h.b.block _ (World.block_lt_of_cell? wr _ c12))).trans c12, (World.cell?_of_block (h.b.block _ (World.block_lt_of_cell? wr _ c22))).trans c22, (World.cell?_of_block (h.b.block _ (World.block_lt_of_cell? wr _ c32))).trans c32, (World.cell?_of_block (h.b.block _ (World.block_lt_of_cell? wr _ c42))).trans c42, (World.cell?_of_block (h.b.block _ (World.block_lt_of_cell? wr _ c52))).trans c52, (World.cell?_of_block (h.b.block _ (World.block_lt_of_cell? wr _ c62))).trans c62⟩)
    have B0 := hid (BW.refl wr)
    clear A1 B1 hs1 hs2
    go_wp2
    apply once2
    ·intro HREST
     go_region_held3 (fun X => X.cell? ⟨g1, j * 7, none⟩ = some (.int .i64 k1) ∧ X.cell? ⟨g1, j * 7 + 1, none⟩ = some (.int .i64 a1) ∧ X.cell? ⟨g1, j * 7 + 2, none⟩ = some (.int .i64 n1) ∧ X.cell? ⟨g1, j * 7 + 3, none⟩ = some (.string s1) ∧ X.cell? ⟨g1, j * 7 + 4, none⟩ = some (.int .i64 op1) ∧ X.cell? ⟨g1, j * 7 + 5, none⟩ = some (.slice Avl1 nvl1 cvl1) ∧ X.cell? ⟨g1, j * 7 + 6, none⟩ = some (.slice Avf1 nvf1 cvf1) ∧ X.cell? ⟨g2, j * 7, none⟩ = some (.int .i64 k2) ∧ X.cell? ⟨g2, j * 7 + 1, none⟩ = some (.int .i64 a2) ∧ X.cell? ⟨g2, j * 7 + 2, none⟩ = some (.int .i64 n2) ∧ X.cell? ⟨g2, j * 7 + 3, none⟩ = some (.string s2) ∧ X.cell? ⟨g2, j * 7 + 4, none⟩ = some (.int .i64 op2) ∧ X.cell? ⟨g2, j * 7 + 5, none⟩ = some (.slice Avl2 nvl2 cvl2) ∧ X.cell? ⟨g2, j * 7 + 6, none⟩ = some (.slice Avf2 nvf2 cvf2)) ((refine SK.out _ ?_; repeat (first | exact B0.out | apply BW.alloc | apply BW.drew | apply BW.set | (simp only [World.size_alloc, World.drew]; omega)))) (fail)
     ·skip
      have BB := hid (show Below wr.heap.size wr (((wr.alloc (.cells #[.int .i64 k1, .int .i64 a1, .int .i64 n1, .string s1, .int .i64 op1, .slice Avl1 nvl1 cvl1, .slice Avf1 nvf1 cvf1] 38)).alloc (.cells #[.int .i64 k2, .int .i64 a2, .int .i64 n2, .string s2, .int .i64 op2, .slice Avl2 nvl2 cvl2, .slice Avf2 nvf2 cvf2] 38)).drew) from (show Below wr.heap.size wr ((wr.alloc (.cells #[.int .i64 k1, .int .i64 a1, .int .i64 n1, .string s1, .int .i64 op1, .slice Avl1 nvl1 cvl1, .slice Avf1 nvf1 cvf1] 38)).alloc (.cells #[.int .i64 k2, .int .i64 a2, .int .i64 n2, .string s2, .int .i64 op2, .slice Avl2 nvl2 cvl2, .slice Avf2 nvf2 cvf2] 38)) from alloc_old.trans ((alloc_old (w := wr.alloc (.cells #[.int .i64 k1, .int .i64 a1, .int .i64 n1, .string s1, .int .i64 op1, .slice Avl1 nvl1 cvl1, .slice Avf1 nvf1 cvf1] 38))).mono (by rw [World.size_alloc]; omega))).drew)
      have KK := hid (show (((wr.alloc (.cells #[.int .i64 k1, .int .i64 a1, .int .i64 n1, .string s1, .int .i64 op1, .slice Avl1 nvl1 cvl1, .slice Avf1 nvf1 cvf1] 38)).alloc (.cells #[.int .i64 k2, .int .i64 a2, .int .i64 n2, .string s2, .int .i64 op2, .slice Avl2 nvl2 cvl2, .slice Avf2 nvf2 cvf2] 38)).drew).heap[wr.heap.size]? = some (.cells #[.int .i64 k1, .int .i64 a1, .int .i64 n1, .string s1, .int .i64 op1, .slice Avl1 nvl1 cvl1, .slice Avf1 nvf1 cvf1] 38) ∧ (((wr.alloc (.cells #[.int .i64 k1, .int .i64 a1, .int .i64 n1, .string s1, .int .i64 op1, .slice Avl1 nvl1 cvl1, .slice Avf1 nvf1 cvf1] 38)).alloc (.cells #[.int .i64 k2, .int .i64 a2, .int .i64 n2, .string s2, .int .i64 op2, .slice Avl2 nvl2 cvl2, .slice Avf2 nvf2 cvf2] 38)).drew).heap[wr.heap.size + 1]? = some (.cells #[.int .i64 k2, .int .i64 a2, .int .i64 n2, .string s2, .int .i64 op2, .slice Avl2 nvl2 cvl2, .slice Avf2 nvf2 cvf2] 38) ∧ Below w.heap.size w (((wr.alloc (.cells #[.int .i64 k1, .int .i64 a1, .int .i64 n1, .string s1, .int .i64 op1, .slice Avl1 nvl1 cvl1, .slice Avf1 nvf1 cvf1] 38)).alloc (.cells #[.int .i64 k2, .int .i64 a2, .int .i64 n2, .string s2, .int .i64 op2, .slice Avl2 nvl2 cvl2, .slice Avf2 nvf2 cvf2] 38)).drew) ∧ ExR (((wr.alloc (.cells #[.int .i64 k1, .int .i64 a1, .int .i64 n1, .string s1, .int .i64 op1, .slice Avl1 nvl1 cvl1, .slice Avf1 nvf1 cvf1] 38)).alloc (.cells #[.int .i64 k2, .int .i64 a2, .int .i64 n2, .string s2, .int .i64 op2, .slice Avl2 nvl2 cvl2, .slice Avf2 nvf2 cvf2] 38)).drew) FT (nth a0 j) k1 a1 n1 op1 s1 (.slice Avl1 nvl1 cvl1) (.slice Avf1 nvf1 cvf1) l1 f1 ∧ ExR (((wr.alloc (.cells #[.int .i64 k1, .int .i64 a1, .int .i64 n1, .string s1, .int .i64 op1, .slice Avl1 nvl1 cvl1, .slice Avf1 nvf1 cvf1] 38)).alloc (.cells #[.int .i64 k2, .int .i64 a2, .int .i64 n2, .string s2, .int .i64 op2, .slice Avl2 nvl2 cvl2, .slice Avf2 nvf2 cvf2] 38)).drew) FT (nth b0 j) k2 a2 n2 op2 s2 (.slice Avl2 nvl2 cvl2) (.slice Avf2 nvf2 cvf2) l2 f2 from ⟨(show ((wr.alloc (.cells #[.int .i64 k1, .int .i64 a1, .int .i64 n1, .string s1, .int .i64 op1, .slice Avl1 nvl1 cvl1, .slice Avf1 nvf1 cvf1] 38)).alloc (.cells #[.int .i64 k2, .int .i64 a2, .int .i64 n2, .string s2, .int .i64 op2, .slice Avl2 nvl2 cvl2, .slice Avf2 nvf2 cvf2] 38)).heap[wr.heap.size]? = some (.cells #[.int .i64 k1, .int .i64 a1, .int .i64 n1, .string s1, .int .i64 op1, .slice Avl1 nvl1 cvl1, .slice Avf1 nvf1 cvf1] 38) from blk_below (heap_alloc_new wr (.cells #[.int .i64 k1, .int .i64 a1, .int .i64 n1, .string s1, .int .i64 op1, .slice Avl1 nvl1 cvl1, .slice Avf1 nvf1 cvf1] 38)) alloc_old), new_next wr (.cells #[.int .i64 k1, .int .i64 a1, .int .i64 n1, .string s1, .int .i64 op1, .slice Avl1 nvl1 cvl1, .slice Avf1 nvf1 cvf1] 38) (.cells #[.int .i64 k2, .int .i64 a2, .int .i64 n2, .string s2, .int .i64 op2, .slice Avl2 nvl2 cvl2, .slice Avf2 nvf2 cvf2] 38), HQ.out.1.trans (BB.out.mono (Below.size HQ.out.1)), HS1.out.below BB.out, HS2.out.below BB.out⟩)
      clear BB
      generalize ((wr.alloc (.cells #[.int .i64 k1, .int .i64 a1, .int .i64 n1, .string s1, .int .i64 op1, .slice Avl1 nvl1 cvl1, .slice Avf1 nvf1 cvf1] 38)).alloc (.cells #[.int .i64 k2, .int .i64 a2, .int .i64 n2, .string s2, .int .i64 op2, .slice Avl2 nvl2 cvl2, .slice Avf2 nvf2 cvf2] 38)).drew = Y at KK ⊢
      generalize wr.heap.size + 1 = p7 at KK ⊢
      generalize wr.heap.size = p6 at KK ⊢
      revert KK
      revert Y
      revert p7
      revert p6
      exact HREST.out
     ·skip
      have BB := hid (show Below wr.heap.size wr (((wr.alloc (.cells #[.int .i64 k2, .int .i64 a2, .int .i64 n2, .string s2, .int .i64 op2, .slice Avl2 nvl2 cvl2, .slice Avf2 nvf2 cvf2] 38)).alloc (.cells #[.int .i64 k1, .int .i64 a1, .int .i64 n1, .string s1, .int .i64 op1, .slice Avl1 nvl1 cvl1, .slice Avf1 nvf1 cvf1] 38)).drew) from (show Below wr.heap.size wr ((wr.alloc (.cells #[.int .i64 k2, .int .i64 a2, .int .i64 n2, .string s2, .int .i64 op2, .slice Avl2 nvl2 cvl2, .slice Avf2 nvf2 cvf2] 38)).alloc (.cells #[.int .i64 k1, .int .i64 a1, .int .i64 n1, .string s1, .int .i64 op1, .slice Avl1 nvl1 cvl1, .slice Avf1 nvf1 cvf1] 38)) from alloc_old.trans ((alloc_old (w := wr.alloc (.cells #[.int .i64 k2, .int .i64 a2, .int .i64 n2, .string s2, .int .i64 op2, .slice Avl2 nvl2 cvl2, .slice Avf2 nvf2 cvf2] 38))).mono (by rw [World.size_alloc]; omega))).drew)
      have KK := hid (show (((wr.alloc (.cells #[.int .i64 k2, .int .i64 a2, .int .i64 n2, .string s2, .int .i64 op2, .slice Avl2 nvl2 cvl2, .slice Avf2 nvf2 cvf2] 38)).alloc (.cells #[.int .i64 k1, .int .i64 a1, .int .i64 n1, .string s1, .int .i64 op1, .slice Avl1 nvl1 cvl1, .slice Avf1 nvf1 cvf1] 38)).drew).heap[wr.heap.size + 1]? = some (.cells #[.int .i64 k1, .int .i64 a1, .int .i64 n1, .string s1, .int .i64 op1, .slice Avl1 nvl1 cvl1, .slice Avf1 nvf1 cvf1] 38) ∧ (((wr.alloc (.cells #[.int .i64 k2, .int .i64 a2, .int .i64 n2, .string s2, .int .i64 op2, .slice Avl2 nvl2 cvl2, .slice Avf2 nvf2 cvf2] 38)).alloc (.cells #[.int .i64 k1, .int .i64 a1, .int .i64 n1, .string s1, .int .i64 op1, .slice Avl1 nvl1 cvl1, .slice Avf1 nvf1 cvf1] 38)).drew).heap[wr.heap.size]? = some (.cells #[.int .i64 k2, .int .i64 a2, .int .i64 n2, .string s2, .int .i64 op2, .slice Avl2 nvl2 cvl2, .slice Avf2 nvf2 cvf2] 38) ∧ Below w.heap.size w (((wr.alloc (.cells #[.int .i64 k2, .int .i64 a2, .int .i64 n2, .string s2, .int .i64 op2, .slice Avl2 nvl2 cvl2, .slice Avf2 nvf2 cvf2] 38)).alloc (.cells #[.int .i64 k1, .int .i64 a1, .int .i64 n1, .string s1, .int .i64 op1, .slice Avl1 nvl1 cvl1, .slice Avf1 nvf1 cvf1] 38)).drew) ∧ ExR (((wr.alloc (.cells #[.int .i64 k2, .int .i64 a2, .int .i64 n2, .string s2, .int .i64 op2, .slice Avl2 nvl2 cvl2, .slice Avf2 nvf2 cvf2] 38)).alloc (.cells #[.int .i64 k1, .int .i64 a1, .int .i64 n1, .string s1, .int .i64 op1, .slice Avl1 nvl1 cvl1, .slice Avf1 nvf1 cvf1] 38)).drew) FT (nth a0 j) k1 a1 n1 op1 s1 (.slice Avl1 nvl1 cvl1) (.slice Avf1 nvf1 cvf1) l1 f1 ∧ ExR (((wr.alloc (.cells #[.int .i64 k2, .int .i64 a2, .int .i64 n2, .string s2, .int .i64 op2, .slice Avl2 nvl2 cvl2, .slice Avf2 nvf2 cvf2] 38)).alloc (.cells #[.int .i64 k1, .int .i64 a1, .int .i64 n1, .string s1, .int .i64 op1, .slice Avl1 nvl1 cvl1, .slice Avf1 nvf1 cvf1] 38)).drew) FT (nth b0 j) k2 a2 n2 op2 s2 (.slice Avl2 nvl2 cvl2) (.slice Avf2 nvf2 cvf2) l2 f2 from ⟨new_next wr (.cells #[.int .i64 k2, .int .i64 a2, .int .i64 n2, .string s2, .int .i64 op2, .slice Avl2 nvl2 cvl2, .slice Avf2 nvf2 cvf2] 38) (.cells #[.int .i64 k1, .int .i64 a1, .int .i64 n1, .string s1, .int .i64 op1, .slice Avl1 nvl1 cvl1, .slice Avf1 nvf1 cvf1] 38), (show ((wr.alloc (.cells #[.int .i64 k2, .int .i64 a2, .int .i64 n2, .string s2, .int .i64 op2, .slice Avl2 nvl2 cvl2, .slice Avf2 nvf2 cvf2] 38)).alloc (.cells #[.int .i64 k1, .int .i64 a1, .int .i64 n1, .string s1, .int .i64 op1, .slice Avl1 nvl1 cvl1, .slice Avf1 nvf1 cvf1] 38)).heap[wr.heap.size]? = some (.cells #[.int .i64 k2, .int .i64 a2, .int .i64 n2, .string s2, .int .i64 op2, .slice Avl2 nvl2 cvl2, .slice Avf2 nvf2 cvf2] 38) from blk_below (heap_alloc_new wr (.cells #[.int .i64 k2, .int .i64 a2, .int .i64 n2, .string s2, .int .i64 op2, .slice Avl2 nvl2 cvl2, .slice Avf2 nvf2 cvf2] 38)) alloc_old), HQ.out.1.trans (BB.out.mono (Below.size HQ.out.1)), HS1.out.below BB.out, HS2.out.below BB.out⟩)
      clear BB
      generalize ((wr.alloc (.cells #[.int .i64 k2, .int .i64 a2, .int .i64 n2, .string s2, .int .i64 op2, .slice Avl2 nvl2 cvl2, .slice Avf2 nvf2 cvf2] 38)).alloc (.cells #[.int .i64 k1, .int .i64 a1, .int .i64 n1, .string s1, .int .i64 op1, .slice Avl1 nvl1 cvl1, .slice Avf1 nvf1 cvf1] 38)).drew = Y at KK ⊢
      generalize wr.heap.size + 1 = p6 at KK ⊢
      generalize wr.heap.size = p7 at KK ⊢
      revert KK
      revert Y
      revert p7
      revert p6
      exact HREST.out
    intro p6 p7 Y KK
    have X1 := hid KK.out.1
    have X2 := hid KK.out.2.1
    have HY := hid KK.out.2.2.1
    have RR := hid KK.out.2.2.2
    have KY := hid (Below.refl Y.heap.size Y)
    clear SK B0 HS1 HS2 KK c01 c11 c21 c31 c41 c51 c61 c02 c12 c22 c32 c42 c52 c62
    obtain ⟨⟨d01, d11, d21, d31, d41, d51, d61⟩, _⟩ := cells7 X1.out
    obtain ⟨⟨d02, d12, d22, d32, d42, d52, d62⟩, _⟩ := cells7 X2.out
    have pr1 := RR.out.1
    have pr2 := RR.out.2
    have hsz : (nth a0 j).sz ≤ m := HSZ.out
    rw [pr1.t] at hsz
    simp only [T.sz] at hsz
    have RL := hid (And.intro pr1.f pr2.f)
    have len1 : f1.len = nvf1 := by obtain ⟨_, _, _, e, h, _⟩ := pr1.f.view; cases e; exact h
    have len2 : f2.len = nvf2 := by obtain ⟨_, _, _, e, h, _⟩ := pr2.f.view; cases e; exact h
    have hml : nvf1 ≤ maxLen := by obtain ⟨_, _, _, e, _, h⟩ := pr1.f.view; cases e; exact h
    have HML := hid hml
    have HSL := hid (show f1.sz < m from by omega)
    have HW := hid (wrap_succ hlt HM.out)
    have Q5 := hid (show ∀ X, Below Y.heap.size Y X → Calls Tryz.prog 22 #[.slice Avl1 nvl1 cvl1, .slice Avl2 nvl2 cvl2] X (fun e w' => e = .returned (.bool (eqb l1 l2)) ∧ Below X.heap.size X w') from fun X (hb : Below Y.heap.size Y X) => H.c0 l1 l2 (by omega) X (.slice Avl1 nvl1 cvl1) (.slice Avl2 nvl2 cvl2) (pr1.l.below hb) (pr2.l.below hb))
    generalize eqb l1 l2 = r5 at Q5 HT
    obtain ⟨rl, hrl⟩ : ∃ rl, eqb f1 f2 = rl := ⟨_, rfl⟩
    have HRL := hid hrl
    rw [hrl] at HT
    clear pr1 pr2 hsz hml hrl
    by_cases h0 : k1 = k2
    ·subst h0
     by_cases h1 : a1 = a2
     ·subst h1
      by_cases h2 : n1 = n2
      ·subst h2
       by_cases h3 : s1 = s2
       ·subst h3
        by_cases h4 : op1 = op2
        ·subst h4
         cases r5 with
         | false =>
          obtain rfl : false = R := by rw [← HT.out]; simp
          go_wp2_with (first | (go_at_call 22; (with_reducible refine (Q5.out _ KY.out).mono ?_); rintro e x5 ⟨rfl, h1⟩; have Y5 := hid (KY.out.trans (h1.mono (Below.size KY.out))); have U5 := hid (blk_below X1.out h1); have V5 := hid (blk_below X2.out h1); clear h1; obtain ⟨⟨_e01, _e11, _e21, _e31, _e41, _e51, _e61⟩, _⟩ := cells7 U5.out; obtain ⟨⟨_e02, _e12, _e22, _e32, _e42, _e52, _e62⟩, _⟩ := cells7 V5.out))
          exact bodyPost_ret (v := .bool false) (by simp [results, Tryz.results22, go_sem]) rfl ⟨rfl, HY.out.trans (Y5.out.mono (Below.size HY.out))⟩
         | true =>
          by_cases hln : nvf1 = nvf2
          ·subst hln
           obtain ⟨nq, hnq⟩ : ∃ nq, nvf1 = nq := ⟨_, rfl⟩
           subst hnq
           have HLN := hid (show f1.len = nvf1 ∧ f2.len = nvf1 from ⟨len1, len2⟩)
           go_wp2_with (first | (go_at_call 22; (with_reducible refine (Q5.out _ KY.out).mono ?_); rintro e x5 ⟨rfl, h1⟩; have Y5 := hid (KY.out.trans (h1.mono (Below.size KY.out))); have U5 := hid (blk_below X1.out h1); have V5 := hid (blk_below X2.out h1); clear h1; obtain ⟨⟨_e01, _e11, _e21, _e31, _e41, _e51, _e61⟩, _⟩ := cells7 U5.out; obtain ⟨⟨_e02, _e12, _e22, _e32, _e42, _e52, _e62⟩, _⟩ := cells7 V5.out))
           go_loopw [8] (fun iv wq => ∃ k : Nat, k ≤ nvf1 ∧ iv = .int .i64 k ∧ Hid (Below Y.heap.size Y wq ∧ wq.heap[p6]? = some (.cells #[.int .i64 k1, .int .i64 a1, .int .i64 n1, .string s1, .int .i64 op1, .slice Avl1 nvl1 cvl1, .slice Avf1 nvf1 cvf1] 38) ∧ wq.heap[p7]? = some (.cells #[.int .i64 k1, .int .i64 a1, .int .i64 n1, .string s1, .int .i64 op1, .slice Avl2 nvl2 cvl2, .slice Avf2 nvf1 cvf2] 38) ∧ eqb (f1.drop k) (f2.drop k) = rl)) (fun iv _ => nvf1 - (intOf iv).toNat)
           case atStart => exact ⟨0, Nat.zero_le _, rfl, hid ⟨Y5.out, U5.out, V5.out, by rw [T.drop_zero, T.drop_zero]; exact HRL.out⟩⟩
           case round =>
            clear d01 d11 d21 d31 d41 d51 d61 d02 d12 d22 d32 d42 d52 d62
            obtain ⟨k, hk, rfl, HK⟩ := hrel
            obtain ⟨⟨d01, d11, d21, d31, d41, d51, d61⟩, _⟩ := cells7 HK.out.2.1
            obtain ⟨⟨d02, d12, d22, d32, d42, d52, d62⟩, _⟩ := cells7 HK.out.2.2.1
            by_cases hk2 : k < nvf1
            ·have qk : (k : Int) < (nvf1 : Int) := by omega
             have L1 := RL.out.1.below HK.out.1
             have L2 := RL.out.2.below HK.out.1
             obtain ⟨q1, vp1, u1, ps1, b1, rfl, hu1, cq1, cr1⟩ := L1.el1 HLN.out.1 hk2
             obtain ⟨q2, vp2, u2, ps2, b2, rfl, hu2, cq2, cr2⟩ := L2.el1 HLN.out.2 hk2
             obtain ⟨Ap1, np1, cp1, rfl, _⟩ := hu1.p.view
             obtain ⟨Ap2, np2, cp2, rfl, _⟩ := hu2.p.view
             obtain ⟨Au1, nu1, cu1, rfl, _⟩ := hu1.d.view
             obtain ⟨Au2, nu2, cu2, rfl, _⟩ := hu2.d.view
             have hbs : b1.sz < m := by
              have h1 := T.sz_nth RL.out.1.isList (j := k) (by rw [HLN.out.1]; exact hk2)
              rw [hu1.t] at h1
              simp only [T.sz] at h1
              have := HSL.out
              omega
             have HP := hid (Texts21_is ps1 ps2 _ _ wr.drew (hu1.p.below (Below.refl wr.heap.size wr).drew) (hu2.p.below (Below.refl wr.heap.size wr).drew))
             have HC := hid (fun X (hb : Below wr.heap.size wr X) => H.c2 b1 b2 hbs X _ _ (hu1.d.below hb) (hu2.d.below hb))
             have HRK := hid (show ((decide (ps1 = ps2) && eqb b1 b2) && eqb (f1.drop (k + 1)) (f2.drop (k + 1))) = rl from by
              rw [← HK.out.2.2.2, T.drop_cons (t := f1) (j := k) RL.out.1.isList (by rw [HLN.out.1]; exact hk2), T.drop_cons (t := f2) (j := k) RL.out.2.isList (by rw [HLN.out.2]; exact hk2), hu1.t, hu2.t]
              rfl)
             generalize decide (ps1 = ps2) = rp at HP HRK
             generalize eqb b1 b2 = rk at HC HRK
             have HW2 := hid (wrap_succ hk2 HML.out)
             have SK2 := hid (show ∀ X, Below wr.heap.size wr X → X.cell? ⟨p6, 6, none⟩ = some (.slice (some ⟨q1, 0, none⟩) nvf1 cvf1) ∧ X.cell? ⟨p7, 6, none⟩ = some (.slice (some ⟨q2, 0, none⟩) nvf1 cvf2) ∧ X.cell? ⟨q1, k * 2, none⟩ = some (.slice Ap1 np1 cp1) ∧ X.cell? ⟨q2, k * 2, none⟩ = some (.slice Ap2 np2 cp2) ∧ X.cell? ⟨q1, k * 2 + 1, none⟩ = some (.slice Au1 nu1 cu1) ∧ X.cell? ⟨q2, k * 2 + 1, none⟩ = some (.slice Au2 nu2 cu2) from fun X h => ⟨(World.cell?_of_block (h.block _ (World.block_lt_of_cell? wr _ d61))).trans d61, (World.cell?_of_block (h.block _ (World.block_lt_of_cell? wr _ d62))).trans d62, (World.cell?_of_block (h.block _ (World.block_lt_of_cell? wr _ cq1))).trans cq1, (World.cell?_of_block (h.block _ (World.block_lt_of_cell? wr _ cq2))).trans cq2, (World.cell?_of_block (h.block _ (World.block_lt_of_cell? wr _ cr1))).trans cr1, (World.cell?_of_block (h.block _ (World.block_lt_of_cell? wr _ cr2))).trans cr2⟩)
             have S0 := hid (SK2.out _ (Below.refl wr.heap.size wr).drew)
             have k0 : (0 : Int) ≤ (k : Int) := by omega
             clear L1 L2 hu1 hu2 hbs
             cases rp with
             | false =>
              rw [Bool.false_and, Bool.false_and] at HRK
              obtain rfl := HRK.out
              obtain rfl : false = R := by rw [← HT.out]; simp
              go_wp2
              refine wp_region_held_drew (S := (fun X : World => X.cell? ⟨p6, 6, none⟩ = some (.slice (some ⟨q1, 0, none⟩) nvf1 cvf1) ∧ X.cell? ⟨p7, 6, none⟩ = some (.slice (some ⟨q2, 0, none⟩) nvf1 cvf2) ∧ X.cell? ⟨q1, k * 2, none⟩ = some (.slice Ap1 np1 cp1) ∧ X.cell? ⟨q2, k * 2, none⟩ = some (.slice Ap2 np2 cp2) ∧ X.cell? ⟨q1, k * 2 + 1, none⟩ = some (.slice Au1 nu1 cu1) ∧ X.cell? ⟨q2, k * 2 + 1, none⟩ = some (.slice Au2 nu2 cu2))) (by kernel_rfl) S0.out (fun hH0 => ?_)
              refine wpAnyH_take (i := 0) (v := .pointer (some ⟨p6, 6, none⟩)) rfl (by kernel_rfl) (by kernel_rfl) (by kernel_rfl) (fun _ _ _ h => h) (Or.inl ⟨by kernel_rfl, fun w hSw => by obtain ⟨sa, sb, sc, sd, se, sf⟩ := hSw; go_simp⟩) hH0 ?_
              try simp only [Act.put, List.getElem_toArray, List.getElem_cons_zero, List.getElem_cons_succ, List.setIfInBounds_toArray, List.set_cons_zero, List.set_cons_succ]
              refine wpAnyH_take (i := 1) (v := .slice (some ⟨q1, 0, none⟩) nvf1 cvf1) rfl (by kernel_rfl) (by kernel_rfl) (by kernel_rfl) (fun _ _ _ h => h) (Or.inl ⟨by kernel_rfl, fun w hSw => by obtain ⟨sa, sb, sc, sd, se, sf⟩ := hSw; go_simp⟩) hH0 ?_
              try simp only [Act.put, List.getElem_toArray, List.getElem_cons_zero, List.getElem_cons_succ, List.setIfInBounds_toArray, List.set_cons_zero, List.set_cons_succ]
              refine wpAnyH_take (i := 2) (v := .int .i64 (k : Int)) rfl (by kernel_rfl) (by kernel_rfl) (by kernel_rfl) (fun _ _ _ h => h) (Or.inl ⟨by kernel_rfl, fun w hSw => by obtain ⟨sa, sb, sc, sd, se, sf⟩ := hSw; go_simp⟩) hH0 ?_
              try simp only [Act.put, List.getElem_toArray, List.getElem_cons_zero, List.getElem_cons_succ, List.setIfInBounds_toArray, List.set_cons_zero, List.set_cons_succ]
              refine wpAnyH_take (i := 3) (v := .pointer (some ⟨q1, k * 2, none⟩)) rfl (by kernel_rfl) (by kernel_rfl) (by kernel_rfl) (fun _ _ _ h => h) (Or.inl ⟨by kernel_rfl, fun w hSw => by obtain ⟨sa, sb, sc, sd, se, sf⟩ := hSw; go_simp⟩) hH0 ?_
              try simp only [Act.put, List.getElem_toArray, List.getElem_cons_zero, List.getElem_cons_succ, List.setIfInBounds_toArray, List.set_cons_zero, List.set_cons_succ]
              refine wpAnyH_take (i := 4) (v := .pointer (some ⟨q1, k * 2, none⟩)) rfl (by kernel_rfl) (by kernel_rfl) (by kernel_rfl) (fun _ _ _ h => h) (Or.inl ⟨by kernel_rfl, fun w hSw => by obtain ⟨sa, sb, sc, sd, se, sf⟩ := hSw; go_simp⟩) hH0 ?_
              try simp only [Act.put, List.getElem_toArray, List.getElem_cons_zero, List.getElem_cons_succ, List.setIfInBounds_toArray, List.set_cons_zero, List.set_cons_succ]
              refine wpAnyH_take (i := 5) (v := .slice Ap1 np1 cp1) rfl (by kernel_rfl) (by kernel_rfl) (by kernel_rfl) (fun _ _ _ h => h) (Or.inl ⟨by kernel_rfl, fun w hSw => by obtain ⟨sa, sb, sc, sd, se, sf⟩ := hSw; go_simp⟩) hH0 ?_
              try simp only [Act.put, List.getElem_toArray, List.getElem_cons_zero, List.getElem_cons_succ, List.setIfInBounds_toArray, List.set_cons_zero, List.set_cons_succ]
              refine wpAnyH_take (i := 6) (v := .pointer (some ⟨p7, 6, none⟩)) rfl (by kernel_rfl) (by kernel_rfl) (by kernel_rfl) (fun _ _ _ h => h) (Or.inl ⟨by kernel_rfl, fun w hSw => by obtain ⟨sa, sb, sc, sd, se, sf⟩ := hSw; go_simp⟩) hH0 ?_
              try simp only [Act.put, List.getElem_toArray, List.getElem_cons_zero, List.getElem_cons_succ, List.setIfInBounds_toArray, List.set_cons_zero, List.set_cons_succ]
              refine wpAnyH_take (i := 7) (v := .slice (some ⟨q2, 0, none⟩) nvf1 cvf2) rfl (by kernel_rfl) (by kernel_rfl) (by kernel_rfl) (fun _ _ _ h => h) (Or.inl ⟨by kernel_rfl, fun w hSw => by obtain ⟨sa, sb, sc, sd, se, sf⟩ := hSw; go_simp⟩) hH0 ?_
              try simp only [Act.put, List.getElem_toArray, List.getElem_cons_zero, List.getElem_cons_succ, List.setIfInBounds_toArray, List.set_cons_zero, List.set_cons_succ]
              refine wpAnyH_take (i := 8) (v := .int .i64 (k : Int)) rfl (by kernel_rfl) (by kernel_rfl) (by kernel_rfl) (fun _ _ _ h => h) (Or.inl ⟨by kernel_rfl, fun w hSw => by obtain ⟨sa, sb, sc, sd, se, sf⟩ := hSw; go_simp⟩) hH0 ?_
              try simp only [Act.put, List.getElem_toArray, List.getElem_cons_zero, List.getElem_cons_succ, List.setIfInBounds_toArray, List.set_cons_zero, List.set_cons_succ]
              refine wpAnyH_take (i := 9) (v := .pointer (some ⟨q2, k * 2, none⟩)) rfl (by kernel_rfl) (by kernel_rfl) (by kernel_rfl) (fun _ _ _ h => h) (Or.inl ⟨by kernel_rfl, fun w hSw => by obtain ⟨sa, sb, sc, sd, se, sf⟩ := hSw; go_simp⟩) hH0 ?_
              try simp only [Act.put, List.getElem_toArray, List.getElem_cons_zero, List.getElem_cons_succ, List.setIfInBounds_toArray, List.set_cons_zero, List.set_cons_succ]
              refine wpAnyH_take (i := 10) (v := .pointer (some ⟨q2, k * 2, none⟩)) rfl (by kernel_rfl) (by kernel_rfl) (by kernel_rfl) (fun _ _ _ h => h) (Or.inl ⟨by kernel_rfl, fun w hSw => by obtain ⟨sa, sb, sc, sd, se, sf⟩ := hSw; go_simp⟩) hH0 ?_
              try simp only [Act.put, List.getElem_toArray, List.getElem_cons_zero, List.getElem_cons_succ, List.setIfInBounds_toArray, List.set_cons_zero, List.set_cons_succ]
              refine wpAnyH_take (i := 11) (v := .slice Ap2 np2 cp2) rfl (by kernel_rfl) (by kernel_rfl) (by kernel_rfl) (fun _ _ _ h => h) (Or.inl ⟨by kernel_rfl, fun w hSw => by obtain ⟨sa, sb, sc, sd, se, sf⟩ := hSw; go_simp⟩) hH0 ?_
              try simp only [Act.put, List.getElem_toArray, List.getElem_cons_zero, List.getElem_cons_succ, List.setIfInBounds_toArray, List.set_cons_zero, List.set_cons_succ]
              refine wpAnyH_ready (rs := [12]) (by kernel_rfl) (by simp) ?_
              refine AllReadyH.cons rfl (fun K hK => ?_) AllReadyH.nil
              go_simp
              go_at_call 21
              refine (HP.out).mono ?_
              rintro e x8 ⟨rfl, g1'⟩
              have B8 := hid ((Below.refl wr.heap.size wr).drew.trans g1')
              have S8 := hid (SK2.out _ B8.out)
              clear g1'
              refine hK.out _ _ S8.out (fun hH1 => ?_)
              clear hK K hH0
              try simp only [Act.put, List.getElem_toArray, List.getElem_cons_zero, List.getElem_cons_succ, List.setIfInBounds_toArray, List.set_cons_zero, List.set_cons_succ]
              refine wpAnyH_take (i := 13) (v := .bool true) rfl (by kernel_rfl) (by kernel_rfl) (by kernel_rfl) (fun _ _ _ h => h) (Or.inl ⟨by kernel_rfl, fun w hSw => by obtain ⟨sa, sb, sc, sd, se, sf⟩ := hSw; go_simp⟩) hH1 ?_
              try simp only [Act.put, List.getElem_toArray, List.getElem_cons_zero, List.getElem_cons_succ, List.setIfInBounds_toArray, List.set_cons_zero, List.set_cons_succ]
              refine wpAnyH_take (i := 14) (v := .bool true) rfl (by kernel_rfl) (by kernel_rfl) (by kernel_rfl) (fun _ _ _ h => h) (Or.inl ⟨by kernel_rfl, fun w hSw => by obtain ⟨sa, sb, sc, sd, se, sf⟩ := hSw; go_simp⟩) hH1 ?_
              try simp only [Act.put, List.getElem_toArray, List.getElem_cons_zero, List.getElem_cons_succ, List.setIfInBounds_toArray, List.set_cons_zero, List.set_cons_succ]
              refine wpAnyH_take (i := 15) (v := undef) rfl (by kernel_rfl) (by kernel_rfl) (by kernel_rfl) (fun _ _ _ h => h) (Or.inr ⟨by kernel_rfl, rfl⟩) hH1 ?_
              try simp only [Act.put, List.getElem_toArray, List.getElem_cons_zero, List.getElem_cons_succ, List.setIfInBounds_toArray, List.set_cons_zero, List.set_cons_succ]
              refine wpAnyH_take (i := 16) (v := undef) rfl (by kernel_rfl) (by kernel_rfl) (by kernel_rfl) (fun _ _ _ h => h) (Or.inr ⟨by kernel_rfl, rfl⟩) hH1 ?_
              try simp only [Act.put, List.getElem_toArray, List.getElem_cons_zero, List.getElem_cons_succ, List.setIfInBounds_toArray, List.set_cons_zero, List.set_cons_succ]
              refine wpAnyH_take (i := 17) (v := undef) rfl (by kernel_rfl) (by kernel_rfl) (by kernel_rfl) (fun _ _ _ h => h) (Or.inr ⟨by kernel_rfl, rfl⟩) hH1 ?_
              try simp only [Act.put, List.getElem_toArray, List.getElem_cons_zero, List.getElem_cons_succ, List.setIfInBounds_toArray, List.set_cons_zero, List.set_cons_succ]
              refine wpAnyH_take (i := 18) (v := undef) rfl (by kernel_rfl) (by kernel_rfl) (by kernel_rfl) (fun _ _ _ h => h) (Or.inr ⟨by kernel_rfl, rfl⟩) hH1 ?_
              try simp only [Act.put, List.getElem_toArray, List.getElem_cons_zero, List.getElem_cons_succ, List.setIfInBounds_toArray, List.set_cons_zero, List.set_cons_succ]
              refine wpAnyH_take (i := 19) (v := undef) rfl (by kernel_rfl) (by kernel_rfl) (by kernel_rfl) (fun _ _ _ h => h) (Or.inr ⟨by kernel_rfl, rfl⟩) hH1 ?_
              try simp only [Act.put, List.getElem_toArray, List.getElem_cons_zero, List.getElem_cons_succ, List.setIfInBounds_toArray, List.set_cons_zero, List.set_cons_succ]
              refine wpAnyH_take (i := 20) (v := undef) rfl (by kernel_rfl) (by kernel_rfl) (by kernel_rfl) (fun _ _ _ h => h) (Or.inr ⟨by kernel_rfl, rfl⟩) hH1 ?_
              try simp only [Act.put, List.getElem_toArray, List.getElem_cons_zero, List.getElem_cons_succ, List.setIfInBounds_toArray, List.set_cons_zero, List.set_cons_succ]
              refine wpAnyH_take (i := 21) (v := undef) rfl (by kernel_rfl) (by kernel_rfl) (by kernel_rfl) (fun _ _ _ h => h) (Or.inr ⟨by kernel_rfl, rfl⟩) hH1 ?_
              try simp only [Act.put, List.getElem_toArray, List.getElem_cons_zero, List.getElem_cons_succ, List.setIfInBounds_toArray, List.set_cons_zero, List.set_cons_succ]
              refine wpAnyH_take (i := 22) (v := undef) rfl (by kernel_rfl) (by kernel_rfl) (by kernel_rfl) (fun _ _ _ h => h) (Or.inr ⟨by kernel_rfl, rfl⟩) hH1 ?_
              try simp only [Act.put, List.getElem_toArray, List.getElem_cons_zero, List.getElem_cons_succ, List.setIfInBounds_toArray, List.set_cons_zero, List.set_cons_succ]
              refine wpAnyH_take (i := 23) (v := undef) rfl (by kernel_rfl) (by kernel_rfl) (by kernel_rfl) (fun _ _ _ h => h) (Or.inr ⟨by kernel_rfl, rfl⟩) hH1 ?_
              try simp only [Act.put, List.getElem_toArray, List.getElem_cons_zero, List.getElem_cons_succ, List.setIfInBounds_toArray, List.set_cons_zero, List.set_cons_succ]
              refine wpAnyH_take (i := 24) (v := undef) rfl (by kernel_rfl) (by kernel_rfl) (by kernel_rfl) (fun _ _ _ h => h) (Or.inr ⟨by kernel_rfl, rfl⟩) hH1 ?_
              try simp only [Act.put, List.getElem_toArray, List.getElem_cons_zero, List.getElem_cons_succ, List.setIfInBounds_toArray, List.set_cons_zero, List.set_cons_succ]
              refine wpAnyH_take (i := 25) (v := undef) rfl (by kernel_rfl) (by kernel_rfl) (by kernel_rfl) (fun _ _ _ h => h) (Or.inr ⟨by kernel_rfl, rfl⟩) hH1 ?_
              try simp only [Act.put, List.getElem_toArray, List.getElem_cons_zero, List.getElem_cons_succ, List.setIfInBounds_toArray, List.set_cons_zero, List.set_cons_succ]
              refine wpAnyH_take (i := 26) (v := undef) rfl (by kernel_rfl) (by kernel_rfl) (by kernel_rfl) (fun _ _ _ h => h) (Or.inr ⟨by kernel_rfl, rfl⟩) hH1 ?_
              try simp only [Act.put, List.getElem_toArray, List.getElem_cons_zero, List.getElem_cons_succ, List.setIfInBounds_toArray, List.set_cons_zero, List.set_cons_succ]
              refine wpAnyH_take (i := 27) (v := undef) rfl (by kernel_rfl) (by kernel_rfl) (by kernel_rfl) (fun _ _ _ h => h) (Or.inr ⟨by kernel_rfl, rfl⟩) hH1 ?_
              try simp only [Act.put, List.getElem_toArray, List.getElem_cons_zero, List.getElem_cons_succ, List.setIfInBounds_toArray, List.set_cons_zero, List.set_cons_succ]
              refine wpAnyH_take (i := 28) (v := undef) rfl (by kernel_rfl) (by kernel_rfl) (by kernel_rfl) (fun _ _ _ h => h) (Or.inr ⟨by kernel_rfl, rfl⟩) hH1 ?_
              try simp only [Act.put, List.getElem_toArray, List.getElem_cons_zero, List.getElem_cons_succ, List.setIfInBounds_toArray, List.set_cons_zero, List.set_cons_succ]
              refine wpAnyH_take (i := 29) (v := .bool true) rfl (by kernel_rfl) (by kernel_rfl) (by kernel_rfl) (fun _ _ _ h => h) (Or.inl ⟨by kernel_rfl, fun w hSw => by obtain ⟨sa, sb, sc, sd, se, sf⟩ := hSw; go_simp⟩) hH1 ?_
              try simp only [Act.put, List.getElem_toArray, List.getElem_cons_zero, List.getElem_cons_succ, List.setIfInBounds_toArray, List.set_cons_zero, List.set_cons_succ]
              refine wpAnyH_done (by kernel_rfl) ?_ _
              go_wp2
              exact bodyPost_ret (v := .bool false) (by simp [results, Tryz.results22, go_sem]) rfl ⟨rfl, HY.out.trans ((HK.out.1.trans (B8.out.mono (Below.size HK.out.1))).mono (Below.size HY.out))⟩
             | true =>
              rw [Bool.true_and] at HRK
              cases rk with
              | true =>
               rw [Bool.true_and] at HRK
               go_wp2
               go_region_held3 (fun X => X.cell? ⟨p6, 6, none⟩ = some (.slice (some ⟨q1, 0, none⟩) nvf1 cvf1) ∧ X.cell? ⟨p7, 6, none⟩ = some (.slice (some ⟨q2, 0, none⟩) nvf1 cvf2) ∧ X.cell? ⟨q1, k * 2, none⟩ = some (.slice Ap1 np1 cp1) ∧ X.cell? ⟨q2, k * 2, none⟩ = some (.slice Ap2 np2 cp2) ∧ X.cell? ⟨q1, k * 2 + 1, none⟩ = some (.slice Au1 nu1 cu1) ∧ X.cell? ⟨q2, k * 2 + 1, none⟩ = some (.slice Au2 nu2 cu2)) (first | (with_reducible exact S0.out) | (with_reducible exact S8.out) | (with_reducible exact S9.out)) (first | (go_at_call 21; (with_reducible refine (HP.out).mono ?_); rintro e x8 ⟨rfl, g1'⟩; have B8 := hid ((Below.refl wr.heap.size wr).drew.trans g1'); have S8 := hid (SK2.out _ B8.out); clear g1') | (go_at_call 8; (with_reducible refine (HC.out _ B8.out).mono ?_); rintro e x9 ⟨rfl, g1'⟩; have B9 := hid (B8.out.trans (g1'.mono (Below.size B8.out))); have S9 := hid (SK2.out _ B9.out); clear g1'))
               go_wp2
               exact ⟨⟨k + 1, hk2, by rw [HW2.out.2], hid ⟨HK.out.1.trans (B9.out.mono (Below.size HK.out.1)), blk_below HK.out.2.1 B9.out, blk_below HK.out.2.2.1 B9.out, HRK.out⟩⟩, dec_lt hk2 HW2.out.2⟩
              | false =>
               rw [Bool.false_and] at HRK
               obtain rfl := HRK.out
               obtain rfl : false = R := by rw [← HT.out]; simp
               go_wp2
               go_region_held3 (fun X => X.cell? ⟨p6, 6, none⟩ = some (.slice (some ⟨q1, 0, none⟩) nvf1 cvf1) ∧ X.cell? ⟨p7, 6, none⟩ = some (.slice (some ⟨q2, 0, none⟩) nvf1 cvf2) ∧ X.cell? ⟨q1, k * 2, none⟩ = some (.slice Ap1 np1 cp1) ∧ X.cell? ⟨q2, k * 2, none⟩ = some (.slice Ap2 np2 cp2) ∧ X.cell? ⟨q1, k * 2 + 1, none⟩ = some (.slice Au1 nu1 cu1) ∧ X.cell? ⟨q2, k * 2 + 1, none⟩ = some (.slice Au2 nu2 cu2)) (first | (with_reducible exact S0.out) | (with_reducible exact S8.out) | (with_reducible exact S9.out)) (first | (go_at_call 21; (with_reducible refine (HP.out).mono ?_); rintro e x8 ⟨rfl, g1'⟩; have B8 := hid ((Below.refl wr.heap.size wr).drew.trans g1'); have S8 := hid (SK2.out _ B8.out); clear g1') | (go_at_call 8; (with_reducible refine (HC.out _ B8.out).mono ?_); rintro e x9 ⟨rfl, g1'⟩; have B9 := hid (B8.out.trans (g1'.mono (Below.size B8.out))); have S9 := hid (SK2.out _ B9.out); clear g1'))
               go_wp2
               exact bodyPost_ret (v := .bool false) (by simp [results, Tryz.results22, go_sem]) rfl ⟨rfl, HY.out.trans ((HK.out.1.trans (B9.out.mono (Below.size HK.out.1))).mono (Below.size HY.out))⟩
            ·have qk : ¬ (k : Int) < (nvf1 : Int) := by omega
             have hkn : k = nvf1 := by omega
             obtain rfl : true = rl := by
              have e1 := T.drop_len RL.out.1.isList
              have e2 := T.drop_len RL.out.2.isList
              rw [HLN.out.1] at e1
              rw [HLN.out.2] at e2
              rw [← HK.out.2.2.2, hkn, e1, e2]
              rfl
             have HT2 := hid (show eqb (a0.drop (j + 1)) (b0.drop (j + 1)) = R from by rw [← HT.out]; simp)
             clear hkn
             go_wp2
             exact ⟨⟨j + 1, hlt, by rw [HW.out.2], hid ⟨HY.out.trans (HK.out.1.mono (Below.size HY.out)), HT2.out⟩⟩, dec_lt hlt HW.out.2⟩
          ·have hln2 : ¬ (nvf1 : Int) = (nvf2 : Int) := by omega
           have hlnb : ((nvf1 : Int) == (nvf2 : Int)) = false := by simp; omega
           obtain rfl : false = rl := by rw [← HRL.out]; exact (eqb_ne_len RL.out.1.isList RL.out.2.isList (by rw [len1, len2]; exact hln)).symm
           obtain rfl : false = R := by rw [← HT.out]; simp
           go_wp2_with (first | (go_at_call 22; (with_reducible refine (Q5.out _ KY.out).mono ?_); rintro e x5 ⟨rfl, h1⟩; have Y5 := hid (KY.out.trans (h1.mono (Below.size KY.out))); have U5 := hid (blk_below X1.out h1); have V5 := hid (blk_below X2.out h1); clear h1; obtain ⟨⟨_e01, _e11, _e21, _e31, _e41, _e51, _e61⟩, _⟩ := cells7 U5.out; obtain ⟨⟨_e02, _e12, _e22, _e32, _e42, _e52, _e62⟩, _⟩ := cells7 V5.out))
           exact bodyPost_ret (v := .bool false) (by simp [results, Tryz.results22, go_sem]) rfl ⟨rfl, HY.out.trans (Y5.out.mono (Below.size HY.out))⟩
        ·skip
         have hi4 : ¬ op1 = op2 := h4
         have hb4 : (op1 == op2) = false := by simp [h4]
         obtain rfl : false = R := by rw [← HT.out]; simp [h4]
         go_wp2
         exact bodyPost_ret (v := .bool false) (by simp [results, Tryz.results22, go_sem]) rfl ⟨rfl, HY.out.trans (KY.out.mono (Below.size HY.out))⟩
       ·skip
        obtain ⟨t1, t2, t3⟩ := txt_ne h3
        obtain rfl : false = R := by rw [← HT.out]; simp [h3]
        go_wp2
        exact bodyPost_ret (v := .bool false) (by simp [results, Tryz.results22, go_sem]) rfl ⟨rfl, HY.out.trans (KY.out.mono (Below.size HY.out))⟩
      ·skip
       have hi2 : ¬ n1 = n2 := h2
       have hb2 : (n1 == n2) = false := by simp [h2]
       obtain rfl : false = R := by rw [← HT.out]; simp [h2]
       go_wp2
       exact bodyPost_ret (v := .bool false) (by simp [results, Tryz.results22, go_sem]) rfl ⟨rfl, HY.out.trans (KY.out.mono (Below.size HY.out))⟩
     ·skip
      have hi1 : ¬ a1 = a2 := h1
      have hb1 : (a1 == a2) = false := by simp [h1]
      obtain rfl : false = R := by rw [← HT.out]; simp [h1]
      go_wp2
      exact bodyPost_ret (v := .bool false) (by simp [results, Tryz.results22, go_sem]) rfl ⟨rfl, HY.out.trans (KY.out.mono (Below.size HY.out))⟩
    ·skip
     have hi0 : ¬ k1 = k2 := h0
     have hb0 : (k1 == k2) = false := by simp [h0]
     obtain rfl : false = R := by rw [← HT.out]; simp [h0]
     go_wp2
     exact bodyPost_ret (v := .bool false) (by simp [results, Tryz.results22, go_sem]) rfl ⟨rfl, HY.out.trans (KY.out.mono (Below.size HY.out))⟩
   ·have q0 : ¬ (j : Int) < (n : Int) := by omega
    have hr : true = R := by
     have hjn : j = n := by omega
     have e1 := T.drop_len HL.out.1
     have e2 := T.drop_len HL.out.2
     rw [HN.out.1] at e1
     rw [HN.out.2] at e2
     rw [← HQ.out.2, hjn, e1, e2]
     rfl
    subst hr
    go_wp2
    exact bodyPost_ret (v := .bool true) (by simp [results, Tryz.results22, go_sem]) rfl ⟨rfl, HQ.out.1⟩
 ·rw [eqb_ne_len la lb (by omega)]
  have hne : ¬ (n : Int) = (n2 : Int) := by omega
  clear la lb
  go_enter Tryz.func22, Tryz.ntmps22
  go_wp2
  go_ret
  exact ⟨rfl, Below.refl _ _⟩
theorem refAll : ∀ m, RefAll m
 | 0 => ⟨fun _ _ h => absurd h (Nat.not_lt_zero _), fun _ _ h => absurd h (Nat.not_lt_zero _)⟩
 | m + 1 => ⟨fun a b h w va vb ha hb => ref22_is m (refAll m) a b va vb w (by omega) ha hb, fun a b h w va vb ha hb => ref8_is m (refAll m) a b va vb w (by omega) ha hb⟩
theorem refSame_is (a b : T) (va vb : Value) (w : World) (ha : SL w FT 2 va a) (hb : SL w FT 2 vb b) : Calls Tryz.prog 8 #[va, vb] w fun e w' => e = .returned (.bool (eqb a b)) ∧ Below w.heap.size w w' := (refAll (a.sz + 1)).c2 a b (Nat.lt_succ_self _) w va vb ha hb
end Go.Proofs.YtgkejkgailnbmaaGreatDoor
