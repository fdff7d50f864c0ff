/- Texts joined: SB -/
import Derived.Test.YtgkejkgailnbmaaGreatDoorQt26
import Derived.Deep.RegionLaw
import Derived.Deep.RegionHeld3
set_option linter.unusedVariables false
set_option linter.unusedSimpArgs false
namespace Go.Proofs.YtgkejkgailnbmaaGreatDoor
open Lib (hid)
open Go.ChangeShapes Go.WideShapes Go.ChangeAt Go.RowKit TP
theorem foot {F : Nat → Prop} {i a s H1 : Nat} {o : Option Nat} (hi : (F i ∧ i < a) ∨ s ≤ i) (hs : H1 ≤ s) (ha : a ≤ H1) (ho : o = some i → H1 ≤ i ∧ i < s) : ((F i ∧ i < a) ∨ H1 ≤ i) ∧ o ≠ some i := by
 rcases hi with h | h
 ·exact ⟨.inl h, fun e => by have := ho e; omega⟩
 ·exact ⟨.inr (Nat.le_trans hs h), fun e => by have := ho e; omega⟩
theorem foot2 {F : Nat → Prop} {i a z H1 : Nat} (hi : (F i ∧ i < a) ∨ H1 ≤ i) (h1 : z + 1 ≤ H1 ∧ True) (ha : a ≤ z) : i ≠ z := by
 rcases hi with h | h <;> omega
theorem foot4 {F : Nat → Prop} {i a z s : Nat} {o : Option Nat} (hi : (F i ∧ i < a) ∨ z + 1 ≤ i) (ha : a ≤ z) (hz : s = z) (ho : o = some i → a ≤ i ∧ i < s) : ((F i ∧ i < a) ∨ a ≤ i) ∧ o ≠ some i := by
 rcases hi with h | h
 ·exact ⟨.inl h, fun e => by have := ho e; omega⟩
 ·exact ⟨.inr (by omega), fun e => by have := ho e; omega⟩
theorem foot5 {F : Nat → Prop} {i a z s H1 : Nat} {o : Option Nat} (hi : (F i ∧ i < a) ∨ H1 ≤ i) (ha : a ≤ z) (hz : s = z) (h1 : z + 1 ≤ H1) (ho : o = some i → a ≤ i ∧ i < s) : ((F i ∧ i < a) ∨ a ≤ i) ∧ o ≠ some i := by
 rcases hi with h | h
 ·exact ⟨.inl h, fun e => by have := ho e; omega⟩
 ·exact ⟨.inr (by omega), fun e => by have := ho e; omega⟩
theorem foot6 {F : Nat → Prop} {i a s : Nat} {o : Option Nat} (hi : F i ∧ i < a) (ho : o = some i → a ≤ i ∧ i < s) : ((F i ∧ i < a) ∨ a ≤ i) ∧ o ≠ some i := ⟨.inl hi, fun e => by have := ho e; omega⟩
structure RBAll (m : Nat) : Prop where
 c0 : ∀ t : T, t.sz < m → wide 100000 t → ∀ F w v, SL w F 0 v t → Calls Tryz.prog 29 #[v] w fun e w' => ∃ v', e = .returned v' ∧ SL w' (fun i => (F i ∧ i < w.heap.size) ∨ w.heap.size ≤ i) 0 v' (bare t) ∧ Below w.heap.size w w'
 c2 : ∀ t : T, t.sz < m → wide 100000 t → ∀ F w v, SL w F 2 v t → Calls Tryz.prog 10 #[v] w fun e w' => ∃ v', e = .returned v' ∧ SL w' (fun i => (F i ∧ i < w.heap.size) ∨ w.heap.size ≤ i) 2 v' (bare t) ∧ Below w.heap.size w w'
set_option maxRecDepth 100000 in
set_option maxHeartbeats 16000000 in
theorem refB10_is (m : Nat) (H : RBAll m) (t0 : T) (F : Nat → Prop) (v : Value) (w : World) (hm0 : t0.sz ≤ m) (hwd : wide 100000 t0) (h : SL w F 2 v t0) : Calls Tryz.prog 10 #[v] w fun e w' => ∃ v', e = .returned v' ∧ SL w' (fun i => (F i ∧ i < w.heap.size) ∨ w.heap.size ≤ i) 2 v' (bare t0) ∧ Below w.heap.size w w' := by
 have la := h.isList
 obtain ⟨A, n, c, rfl, hn, hm⟩ := h.view
 have HA := hid (h.imp (G := fun i => F i ∧ i < w.heap.size) (fun i hi hl => ⟨hi, hl⟩))
 have HN := hid hn
 have HM := hid hm
 have HL := hid la
 have HWD := hid (show n ≤ 100000 from by have := wide_len hwd la; omega)
 have HWW := hid hwd
 have H0 := hid hm0
 clear hn hm la h hwd hm0
 go_enter Tryz.func10, Tryz.ntmps10
 go_wp2
 go_loopw [3, 4] (fun ov iv wr => ∃ (j : Nat) (D : T) (A : Option Addr) (C : Nat), j ≤ n ∧ ov = .slice A j C ∧ iv = .int .i64 j ∧ Hid (Below w.heap.size w wr ∧ OF 2 34 wr w.heap.size (fun i => (F i ∧ i < w.heap.size) ∨ w.heap.size ≤ i) (.slice A j C) D ∧ D.len = j ∧ D.app (bare (t0.drop j)) = bare t0)) (fun _ iv _ => n - (intOf iv).toNat)
 case atStart => exact ⟨0, .nil, none, 0, Nat.zero_le _, rfl, rfl, hid ⟨Below.refl _ _, OF.nil _ _ _ _ _, rfl, by rw [T.drop_zero]; rfl⟩⟩
 case round =>
  obtain ⟨j, D, A, C, hj, rfl, rfl, HQ⟩ := hrel
  by_cases hlt : j < n
  ·have q0 : (j : Int) < (n : Int) := by omega
   obtain ⟨V0, rfl⟩ : ∃ V0, V0 = wr := ⟨_, rfl⟩
   have A1 := HA.out.bel HQ.out.1
   obtain ⟨g1, k1, a1, vn1, vl1, vd1, ns1, l1, d1, rfl, hs1, c01, c11, c21, c31, c41⟩ := A1.el2 HN.out hlt
   obtain ⟨Avn1, nvn1, cvn1, rfl, _⟩ := hs1.n.view
   obtain ⟨Avl1, nvl1, cvl1, rfl, _⟩ := hs1.l.view
   obtain ⟨Avd1, nvd1, cvd1, rfl, _⟩ := hs1.d.view
   have HS1 := hid hs1
   obtain ⟨z1, hz1⟩ : ∃ z1, V0.heap.size = z1 := ⟨_, rfl⟩
   have HZ := hid hz1
   obtain ⟨W1, hW1⟩ : ∃ W1, V0.alloc (.cells #[.int .i64 k1, .int .i64 0, .slice Avn1 nvn1 cvn1, .slice Avl1 nvl1 cvl1, .slice Avd1 nvd1 cvd1] 34) = W1 := ⟨_, rfl⟩
   have X1 := hid (show W1.heap[z1]? = some (.cells #[.int .i64 k1, .int .i64 0, .slice Avn1 nvn1 cvn1, .slice Avl1 nvl1 cvl1, .slice Avd1 nvd1 cvd1] 34) from by rw [← hW1, ← hz1]; exact heap_alloc_new _ _)
   have E1 := hid (show Below V0.heap.size V0 W1 from by rw [← hW1]; exact alloc_old)
   have lW := hid (show W1.heap.size = z1 + 1 from by rw [← hW1, ← hz1]; exact World.size_alloc _ _)
   obtain ⟨⟨pc0, pc1, pc2, pc3, pc4⟩, ⟨pf0, pf1, pf2, pf3, pf4⟩⟩ := cells5 X1.out
   have hsz : (nth t0 j).sz ≤ m := Nat.le_trans (Nat.le_of_lt (T.sz_nth HL.out (by rw [HN.out]; exact hlt))) H0.out
   rw [hs1.t] at hsz
   simp only [T.sz] at hsz
   have hww := wide_nth HWW.out HL.out j (by rw [HN.out]; exact hlt)
   rw [hs1.t] at hww
   simp only [wide] at hww
   have HSL := hid (show d1.sz < m from by omega)
   have HSW := hid (show wide 100000 d1 from hww.2.2)
   have len1 : d1.len = nvd1 := by obtain ⟨_, _, _, e, h, _⟩ := hs1.d.view; cases e; exact h
   have hml : nvd1 ≤ maxLen := by obtain ⟨_, _, _, e, _, h⟩ := hs1.d.view; cases e; exact h
   have HLN := hid len1
   have HML := hid hml
   have C29 := hid (H.c0 l1 (by omega) hww.2.1 (fun i => F i ∧ i < w.heap.size) W1 _ (hs1.l.bel E1.out))
   have HW := hid (wrap_succ hlt HM.out)
   clear hs1 A1 hsz hww len1 hml
   go_wp2_with (first | (go_at_call 29; (with_reducible refine (C29.out).mono ?_); rintro e x3 ⟨vx, rfl, h1, hb⟩; obtain ⟨Ax, nx, cx, rfl, _⟩ := h1.view; have B3 := hid (E1.out.trans (hb.mono (Below.size E1.out))); have V3 := hid (And.intro (Below.size hb) h1); have U3 := hid (blk_below X1.out hb); clear h1 hb; refine Hid.out ?_))
   clear pc0 pc1 pc2 pc3 pc4 pf0 pf1 pf2 pf3 pf4 C29
   obtain ⟨⟨pc0, pc1, pc2, pc3, pc4⟩, ⟨pf0, pf1, pf2, pf3, pf4⟩⟩ := cells5 U3.out
   obtain ⟨Y0, hY0⟩ : ∃ Y0, (x3.setCell ⟨z1, 3, none⟩ (.slice Ax nx cx)).setCell ⟨z1, 4, none⟩ (.slice none 0 0) = Y0 := ⟨_, rfl⟩
   have T0 := hid (show Turn z1 x3 Y0 from by rw [← hY0]; exact (Turn.cell x3 z1 3 _).set 4 _)
   have U0 := hid (show Y0.heap[z1]? = some (.cells #[.int .i64 k1, .int .i64 0, .slice Avn1 nvn1 cvn1, .slice Ax nx cx, .slice none 0 0] 34) from by rw [← hY0]; simp [World.setCell, Array.getElem?_modify, U3.out])
   obtain ⟨H1, hH1⟩ : ∃ H1, Y0.heap.size = H1 := ⟨_, rfl⟩
   have HH := hid (show z1 + 1 ≤ H1 ∧ Y0.heap.size = H1 from ⟨by rw [← hH1, T0.out.size]; have := V3.out.1; rw [lW.out] at this; exact this, hH1⟩)
   have BZ := hid (show Below z1 V0 Y0 from T0.out.below (by rw [← hz1]; exact B3.out) (Nat.le_refl _))
   have VX := hid (show SL Y0 (fun i => (F i ∧ i < w.heap.size) ∨ z1 + 1 ≤ i) 0 (.slice Ax nx cx) (bare l1) from T0.out.sl (V3.out.2.imp (fun i hi _ => hi.imp (fun h => h.1) (fun h => by rw [← lW.out]; exact h))) (fun i hi => by have := Below.size HQ.out.1; have := HZ.out; omega))
   have hce := c41
   clear c01 c11 c21 c31 c41
   have CE := hid hce
   clear hce hH1
   refine hid ?_
   go_wp2
   go_loopw [6] (fun iv wr => ∃ (k : Nat) (D2 : T) (A4 : Option Addr) (C4 : Nat), k ≤ nvd1 ∧ iv = .int .i64 k ∧ Hid (Kp H1 (fun i => i ≠ z1) Y0 wr ∧ wr.heap[z1]? = some (.cells #[.int .i64 k1, .int .i64 0, .slice Avn1 nvn1 cvn1, .slice Ax nx cx, .slice A4 k C4] 34) ∧ OF 3 23 wr H1 (fun i => (F i ∧ i < w.heap.size) ∨ H1 ≤ i) (.slice A4 k C4) D2 ∧ D2.len = k ∧ D2.app (bare (d1.drop k)) = bare d1)) (fun iv _ => nvd1 - (intOf iv).toNat)
   case atStart => exact ⟨0, .nil, none, 0, Nat.zero_le _, rfl, hid ⟨Kp.refl _ _ _, U0.out, OF.nil _ _ _ _ _, rfl, by rw [T.drop_zero]; rfl⟩⟩
   case round =>
    clear pc0 pc1 pc2 pc3 pc4 pf0 pf1 pf2 pf3 pf4
    obtain ⟨k, D2, A4, C4, hk, rfl, HK⟩ := hrel
    have BW9 := hid (show Below V0.heap.size V0 wr from by
     rw [HZ.out]
     exact BZ.out.trans (HK.out.1.below (n := z1) (fun i hi => ⟨by have := HH.out.1; omega, by omega⟩)))
    have ce := (World.cell?_of_block (BW9.out.block _ (World.block_lt_of_cell? V0 _ CE.out))).trans CE.out
    obtain ⟨⟨pc0, pc1, pc2, pc3, pc4⟩, ⟨pf0, pf1, pf2, pf3, pf4⟩⟩ := cells5 HK.out.2.1
    have zw := hid (show w.heap.size ≤ z1 from by have := Below.size HQ.out.1; rw [HZ.out] at this; exact this)
    by_cases hk2 : k < nvd1
    ·have qk : (k : Int) < (nvd1 : Int) := by omega
     have hK := hid (show k ≤ 100000 ∧ D2.len = k from ⟨by have h1 := wide_len HSW.out HS1.out.d.isList; rw [HLN.out] at h1; omega, HK.out.2.2.2.1⟩)
     have HW2 := hid (wrap_succ hk2 HML.out)
     obtain ⟨q1, u1, rfl, hu1, cq1⟩ := (HS1.out.d.bel BW9.out).el3 HLN.out hk2
     obtain ⟨Au1, nu1, cu1, rfl, _⟩ := hu1.view
     have HC := hid (H.c2 (nth d1 k) (by have := T.sz_nth HS1.out.d.isList (j := k) (by rw [HLN.out]; exact hk2); have := HSL.out; omega) (wide_nth HSW.out HS1.out.d.isList k (by rw [HLN.out]; exact hk2)) (fun i => F i ∧ i < w.heap.size) wr.drew _ (hu1.bel (Below.refl wr.heap.size wr).drew))
     go_wp2
     go_region_law (first | (refine step_OF (x9.alloc (.cells #[.slice Ay ny cy] 23)) rfl _ _ 3 23 32 24 _ rfl und32 i23n rfl (by decide) (by decide) H1 (fun i => (F i ∧ i < w.heap.size) ∨ H1 ≤ i) (.slice A4 k C4) D2 k hK.out.2 rfl ((HK.out.2.2.1.bel B9.out).bel alloc_old) (bare (nth d1 k)) [.slice Ay ny cy] x9.heap.size rfl (heap_alloc_new x9 _) ECY.out hK.out.1 LC.out (Or.inr LC.out) ?_; intro g cap w4 h1 h2 h3; have O4 := hid h1; have U4 := hid ((h2.block z1 (lt_blk (blk_below (blk_below HK.out.2.1 B9.out) (alloc_old (w := x9) (o := .cells #[.slice Ay ny cy] 23)))) (fun e => by have := (HK.out.2.2.1.lt z1 e.symm).1; have := HH.out.1; omega)).trans (blk_below (blk_below HK.out.2.1 B9.out) (alloc_old (w := x9) (o := .cells #[.slice Ay ny cy] 23)))); have G4 := hid (And.intro h2 h3); obtain ⟨⟨_s0, _s1, _s2, _s3, _s4⟩, ⟨_t0, _t1, _t2, _t3, _t4⟩⟩ := cells5 U4.out; clear h1 h2 h3) | (go_simp; go_at_call 10; refine (HC.out).mono ?_; rintro e x9 ⟨vy, rfl, h1, hb⟩; obtain ⟨Ay, ny, cy, rfl, _⟩ := h1.view; have hb9 := (Below.refl wr.heap.size wr).drew.trans hb; have B9 := hid hb9; have e1 := (World.cell?_of_block (hb9.block _ (World.block_lt_of_cell? wr _ cq1))).trans cq1; have e2 := (World.cell?_of_block (hb9.block _ (World.block_lt_of_cell? wr _ ce))).trans ce; obtain ⟨⟨_p0, _p1, _p2, _p3, _p4⟩, ⟨_f0, _f1, _f2, _f3, _f4⟩⟩ := cells5 (blk_below HK.out.2.1 hb9); have R9 := hid (show EC x9 (fun i => (F i ∧ i < w.heap.size) ∨ wr.heap.size ≤ i) (.cons (bare (nth d1 k)) .nil) 3 [.slice Ay ny cy] from EC_bl.2 ⟨_, [], rfl, h1.imp (fun i hi _ => hi.imp (fun h => h.1) id), EC_nil.2 rfl⟩); obtain ⟨⟨_m0, _m1, _m2, _m3, _m4⟩, _⟩ := cells5 (blk_below (blk_below HK.out.2.1 hb9) (alloc_old (w := x9) (o := .cells #[.slice Ay ny cy] 23))); have LC := hid (show H1 ≤ (x9.alloc (.cells #[.slice Ay ny cy] 23)).heap.size from by have h7 := HK.out.1.size; have h8 := Below.size hb9; rw [World.size_alloc]; have := HH.out.2; omega); have ECY := hid (show EC (x9.alloc (.cells #[.slice Ay ny cy] 23)) (fun i => ((F i ∧ i < w.heap.size) ∨ H1 ≤ i) ∧ (Value.slice A4 k C4).ownBlock ≠ some i) (.cons (bare (nth d1 k)) .nil) 3 [.slice Ay ny cy] from EC.keep (fun i _ hl => alloc_old.block i hl) (Below.size alloc_old) (fun i hi _ => foot hi (Nat.le_trans (Nat.le_of_eq HH.out.2.symm) HK.out.1.size) (by have := Below.size HQ.out.1; have := HZ.out; have := HH.out.1; omega) (HK.out.2.2.1.lt i)) _ _ _ R9.out); clear h1 hb hb9))
     all_goals
      have hlw := hid (Nat.le_trans (Nat.le_of_eq HH.out.2.symm) HK.out.1.size)
      have KP := hid ((((HK.out.1.trans (Kp.of (B9.out.mono hlw.out))).trans (Kp.of (alloc_old.mono (Nat.le_trans hlw.out (Below.size B9.out))))).grown G4.out.1 LC.out (fun q e hq => absurd hq (Nat.not_lt.2 (HK.out.2.2.1.lt q e).1))).setCell (p := ⟨z1, 4, none⟩) (fun h => h.2 rfl) (.slice (some ⟨g, 0, none⟩) (k + 1) cap))
      have U5 := hid (show (w4.setCell ⟨z1, 4, none⟩ (.slice (some ⟨g, 0, none⟩) (k + 1) cap)).heap[z1]? = some (.cells #[.int .i64 k1, .int .i64 0, .slice Avn1 nvn1 cvn1, .slice Ax nx cx, .slice (some ⟨g, 0, none⟩) (k + 1) cap] 34) from by simp [World.setCell, Array.getElem?_modify, U4.out])
      have O5 := hid (OF.keep (w' := w4.setCell ⟨z1, 4, none⟩ (.slice (some ⟨g, 0, none⟩) (k + 1) cap)) O4.out (fun i hi _ => Below.heap_setCell _ ⟨z1, 4, none⟩ _ _ (foot2 (a := w.heap.size) (H1 := H1) (F := F) hi ⟨HH.out.1, trivial⟩ zw.out)) (by simp [World.setCell]) (fun i hi _ => hi))
      have HD2 := hid (show (D2.snoc (bare (nth d1 k))).app (bare (d1.drop (k + 1))) = bare d1 from by
       rw [T.app_snoc _ _ HK.out.2.2.1.isList, ← HK.out.2.2.2.2, T.drop_cons (t := d1) (j := k) HS1.out.d.isList (by rw [HLN.out]; exact hk2)]
       rfl)
      go_wp2
      exact ⟨⟨k + 1, D2.snoc (bare (nth d1 k)), some ⟨g, 0, none⟩, cap, hk2, by rw [HW2.out.2], hid ⟨KP.out, U5.out, O5.out, by rw [len_snoc _ HK.out.2.2.1.isList, hK.out.2], HD2.out⟩⟩, dec_lt hk2 HW2.out.2⟩
    ·have qk : ¬ (k : Int) < (nvd1 : Int) := by omega
     have hkn : k = nvd1 := by omega
     have hD2 : D2 = bare d1 := by
      have e1 := T.drop_len HS1.out.d.isList
      rw [HLN.out] at e1
      rw [← HK.out.2.2.2.2, hkn, e1]
      exact (T.app_nil HK.out.2.2.1.isList).symm
     have hlw := hid (Nat.le_trans (Nat.le_of_eq HH.out.2.symm) HK.out.1.size)
     have OQ := hid (HQ.out.2.1.bel BW9.out)
     have NE := hid (show EC wr (fun i => ((F i ∧ i < w.heap.size) ∨ w.heap.size ≤ i) ∧ (Value.slice A j C).ownBlock ≠ some i) (.cons (.st k1 0 ns1 (bare l1) (bare d1)) .nil) 2 [.int .i64 k1, .int .i64 0, .slice Avn1 nvn1 cvn1, .slice Ax nx cx, .slice A4 k C4] from by
      refine EC_st.2 ⟨_, _, _, [], rfl, ?_, ?_, ?_, EC_nil.2 rfl⟩
      ·exact (HS1.out.n.bel BW9.out).imp (fun i hi _ => foot6 hi (HQ.out.2.1.lt i))
      ·exact SL.keep (fun i hi hl => HK.out.1.block i (by rw [← HH.out.2]; exact hl) (by rcases hi with h | h <;> (have := zw.out; omega))) HK.out.1.size (fun i hi _ => foot4 hi zw.out HZ.out (HQ.out.2.1.lt i)) _ _ _ VX.out
      ·exact (hD2 ▸ HK.out.2.2.1.sl).imp (fun i hi _ => foot5 hi zw.out HZ.out HH.out.1 (HQ.out.2.1.lt i)))
     have E3 := hid (alloc_old (w := wr) (o := .cells #[.int .i64 k1, .int .i64 0, .slice Avn1 nvn1 cvn1, .slice Ax nx cx, .slice A4 k C4] 34))
     have EC3 := hid (show EC (wr.alloc (.cells #[.int .i64 k1, .int .i64 0, .slice Avn1 nvn1 cvn1, .slice Ax nx cx, .slice A4 k C4] 34)) (fun i => ((F i ∧ i < w.heap.size) ∨ w.heap.size ≤ i) ∧ (Value.slice A j C).ownBlock ≠ some i) (.cons (.st k1 0 ns1 (bare l1) (bare d1)) .nil) 2 [.int .i64 k1, .int .i64 0, .slice Avn1 nvn1 cvn1, .slice Ax nx cx, .slice A4 k C4] from EC.keep (fun i _ hl => E3.out.block i hl) (Below.size E3.out) (fun i hi _ => hi) _ _ _ NE.out)
     have hc3 := hid (show w.heap.size ≤ (wr.alloc (.cells #[.int .i64 k1, .int .i64 0, .slice Avn1 nvn1 cvn1, .slice Ax nx cx, .slice A4 k C4] 34)).heap.size from by rw [World.size_alloc]; have := Below.size BW9.out; have := Below.size HQ.out.1; omega)
     have BQ := hid (HQ.out.1.trans (BW9.out.mono (Below.size HQ.out.1)))
     have HTR := hid (show (D.snoc (.st k1 0 ns1 (bare l1) (bare d1))).app (bare (t0.drop (j + 1))) = bare t0 from by
      rw [T.app_snoc _ _ HQ.out.2.1.isList, ← HQ.out.2.2.2, T.drop_cons (t := t0) (j := j) HL.out (by rw [HN.out]; exact hlt), HS1.out.t]
      rfl)
     clear hkn hD2
     go_wp2_with (first | (at_builtin; refine append_OF (wr.alloc (.cells #[.int .i64 k1, .int .i64 0, .slice Avn1 nvn1 cvn1, .slice Ax nx cx, .slice A4 k C4] 34)) rfl _ _ 2 34 23 88 _ rfl Tryz.underlying23 i34n rfl (by decide) (by decide) w.heap.size (fun i => (F i ∧ i < w.heap.size) ∨ w.heap.size ≤ i) (.slice A j C) D j HQ.out.2.2.1 rfl (OQ.out.bel E3.out) (.st k1 0 ns1 (bare l1) (bare d1)) [.int .i64 k1, .int .i64 0, .slice Avn1 nvn1 cvn1, .slice Ax nx cx, .slice A4 k C4] wr.heap.size rfl (heap_alloc_new wr _) EC3.out (Nat.le_trans hj HWD.out) hc3.out (Or.inr hc3.out) ?_; intro g cap w4 h1 h2 h3; have O4 := hid h1; have B4 := hid ((OQ.out.bel E3.out).grownB (BQ.out.trans (E3.out.mono (Below.size BQ.out))) hc3.out h2); clear h1 h2 h3; refine Hid.out ?_))
     refine hid ?_
     go_wp2
     exact ⟨⟨j + 1, D.snoc (.st k1 0 ns1 (bare l1) (bare d1)), some ⟨g, 0, none⟩, cap, hlt, rfl, by rw [HW.out.2], hid ⟨B4.out, O4.out, by rw [len_snoc _ HQ.out.2.1.isList, HQ.out.2.2.1], HTR.out⟩⟩, dec_lt hlt HW.out.2⟩
  ·have q0 : ¬ (j : Int) < (n : Int) := by omega
   have hD : D = bare t0 := by
    have hjn : j = n := by omega
    have e1 := T.drop_len HL.out
    rw [HN.out] at e1
    rw [← HQ.out.2.2.2, hjn, e1]
    exact (T.app_nil HQ.out.2.1.isList).symm
   have O5 := hid HQ.out.2.1.sl
   rw [hD] at O5
   clear hD
   go_wp2
   exact bodyPost_ret (v := .slice A j C) (by simp [results, Tryz.results10, go_sem]) rfl ⟨_, rfl, O5.out, HQ.out.1⟩
set_option maxRecDepth 100000 in
set_option maxHeartbeats 16000000 in
theorem refB29_is (m : Nat) (H : RBAll m) (t0 : T) (F : Nat → Prop) (v : Value) (w : World) (hm0 : t0.sz ≤ m) (hwd : wide 100000 t0) (h : SL w F 0 v t0) : Calls Tryz.prog 29 #[v] w fun e w' => ∃ v', e = .returned v' ∧ SL w' (fun i => (F i ∧ i < w.heap.size) ∨ w.heap.size ≤ i) 0 v' (bare t0) ∧ Below w.heap.size w w' := by
 have la := h.isList
 obtain ⟨A, n, c, rfl, hn, hm⟩ := h.view
 have HA := hid (h.imp (G := fun i => F i ∧ i < w.heap.size) (fun i hi hl => ⟨hi, hl⟩))
 have HN := hid hn
 have HM := hid hm
 have HL := hid la
 have HWD := hid (show n ≤ 100000 from by have := wide_len hwd la; omega)
 have HWW := hid hwd
 have H0 := hid hm0
 clear hn hm la h hwd hm0
 go_enter Tryz.func29, Tryz.ntmps29
 go_wp2
 go_loopw [3, 4] (fun ov iv wr => ∃ (j : Nat) (D : T) (A : Option Addr) (C : Nat), j ≤ n ∧ ov = .slice A j C ∧ iv = .int .i64 j ∧ Hid (Below w.heap.size w wr ∧ OF 0 38 wr w.heap.size (fun i => (F i ∧ i < w.heap.size) ∨ w.heap.size ≤ i) (.slice A j C) D ∧ D.len = j ∧ D.app (bare (t0.drop j)) = bare t0)) (fun _ iv _ => n - (intOf iv).toNat)
 case atStart => exact ⟨0, .nil, none, 0, Nat.zero_le _, rfl, rfl, hid ⟨Below.refl _ _, OF.nil _ _ _ _ _, rfl, by rw [T.drop_zero]; rfl⟩⟩
 case round =>
  obtain ⟨j, D, A, C, hj, rfl, rfl, HQ⟩ := hrel
  by_cases hlt : j < n
  ·have q0 : (j : Int) < (n : Int) := by omega
   obtain ⟨V0, rfl⟩ : ∃ V0, V0 = wr := ⟨_, rfl⟩
   have A1 := HA.out.bel HQ.out.1
   obtain ⟨g1, k1, a1, n1, op1, s1, vl1, vf1, l1, f1, rfl, hs1, c01, c11, c21, c31, c41, c51, c61⟩ := A1.el0 HN.out hlt
   obtain ⟨Avl1, nvl1, cvl1, rfl, _⟩ := hs1.l.view
   obtain ⟨Avf1, nvf1, cvf1, rfl, _⟩ := hs1.f.view
   have HS1 := hid hs1
   obtain ⟨z1, hz1⟩ : ∃ z1, V0.heap.size = z1 := ⟨_, rfl⟩
   have HZ := hid hz1
   obtain ⟨W1, hW1⟩ : ∃ W1, V0.alloc (.cells #[.int .i64 k1, .int .i64 0, .int .i64 n1, .string s1, .int .i64 op1, .slice Avl1 nvl1 cvl1, .slice Avf1 nvf1 cvf1] 38) = W1 := ⟨_, rfl⟩
   have X1 := hid (show W1.heap[z1]? = some (.cells #[.int .i64 k1, .int .i64 0, .int .i64 n1, .string s1, .int .i64 op1, .slice Avl1 nvl1 cvl1, .slice Avf1 nvf1 cvf1] 38) from by rw [← hW1, ← hz1]; exact heap_alloc_new _ _)
   have E1 := hid (show Below V0.heap.size V0 W1 from by rw [← hW1]; exact alloc_old)
   have lW := hid (show W1.heap.size = z1 + 1 from by rw [← hW1, ← hz1]; exact World.size_alloc _ _)
   obtain ⟨⟨pc0, pc1, pc2, pc3, pc4, pc5, pc6⟩, ⟨pf0, pf1, pf2, pf3, pf4, pf5, pf6⟩⟩ := cells7 X1.out
   have hsz : (nth t0 j).sz ≤ m := Nat.le_trans (Nat.le_of_lt (T.sz_nth HL.out (by rw [HN.out]; exact hlt))) H0.out
   rw [hs1.t] at hsz
   simp only [T.sz] at hsz
   have hww := wide_nth HWW.out HL.out j (by rw [HN.out]; exact hlt)
   rw [hs1.t] at hww
   simp only [wide] at hww
   have HSL := hid (show f1.sz < m from by omega)
   have HSW := hid (show wide 100000 f1 from hww.2)
   have len1 : f1.len = nvf1 := by obtain ⟨_, _, _, e, h, _⟩ := hs1.f.view; cases e; exact h
   have hml : nvf1 ≤ maxLen := by obtain ⟨_, _, _, e, _, h⟩ := hs1.f.view; cases e; exact h
   have HLN := hid len1
   have HML := hid hml
   have C29 := hid (H.c0 l1 (by omega) hww.1 (fun i => F i ∧ i < w.heap.size) W1 _ (hs1.l.bel E1.out))
   have HW := hid (wrap_succ hlt HM.out)
   clear hs1 A1 hsz hww len1 hml
   go_wp2_with (first | (go_at_call 29; (with_reducible refine (C29.out).mono ?_); rintro e x3 ⟨vx, rfl, h1, hb⟩; obtain ⟨Ax, nx, cx, rfl, _⟩ := h1.view; have B3 := hid (E1.out.trans (hb.mono (Below.size E1.out))); have V3 := hid (And.intro (Below.size hb) h1); have U3 := hid (blk_below X1.out hb); clear h1 hb; refine Hid.out ?_))
   clear pc0 pc1 pc2 pc3 pc4 pc5 pc6 pf0 pf1 pf2 pf3 pf4 pf5 pf6 C29
   obtain ⟨⟨pc0, pc1, pc2, pc3, pc4, pc5, pc6⟩, ⟨pf0, pf1, pf2, pf3, pf4, pf5, pf6⟩⟩ := cells7 U3.out
   obtain ⟨Y0, hY0⟩ : ∃ Y0, (x3.setCell ⟨z1, 5, none⟩ (.slice Ax nx cx)).setCell ⟨z1, 6, none⟩ (.slice none 0 0) = Y0 := ⟨_, rfl⟩
   have T0 := hid (show Turn z1 x3 Y0 from by rw [← hY0]; exact (Turn.cell x3 z1 5 _).set 6 _)
   have U0 := hid (show Y0.heap[z1]? = some (.cells #[.int .i64 k1, .int .i64 0, .int .i64 n1, .string s1, .int .i64 op1, .slice Ax nx cx, .slice none 0 0] 38) from by rw [← hY0]; simp [World.setCell, Array.getElem?_modify, U3.out])
   obtain ⟨H1, hH1⟩ : ∃ H1, Y0.heap.size = H1 := ⟨_, rfl⟩
   have HH := hid (show z1 + 1 ≤ H1 ∧ Y0.heap.size = H1 from ⟨by rw [← hH1, T0.out.size]; have := V3.out.1; rw [lW.out] at this; exact this, hH1⟩)
   have BZ := hid (show Below z1 V0 Y0 from T0.out.below (by rw [← hz1]; exact B3.out) (Nat.le_refl _))
   have VX := hid (show SL Y0 (fun i => (F i ∧ i < w.heap.size) ∨ z1 + 1 ≤ i) 0 (.slice Ax nx cx) (bare l1) from T0.out.sl (V3.out.2.imp (fun i hi _ => hi.imp (fun h => h.1) (fun h => by rw [← lW.out]; exact h))) (fun i hi => by have := Below.size HQ.out.1; have := HZ.out; omega))
   have hce := c61
   clear c01 c11 c21 c31 c41 c51 c61
   have CE := hid hce
   clear hce hH1
   refine hid ?_
   go_wp2
   go_loopw [6] (fun iv wr => ∃ (k : Nat) (D2 : T) (A4 : Option Addr) (C4 : Nat), k ≤ nvf1 ∧ iv = .int .i64 k ∧ Hid (Kp H1 (fun i => i ≠ z1) Y0 wr ∧ wr.heap[z1]? = some (.cells #[.int .i64 k1, .int .i64 0, .int .i64 n1, .string s1, .int .i64 op1, .slice Ax nx cx, .slice A4 k C4] 38) ∧ OF 1 88 wr H1 (fun i => (F i ∧ i < w.heap.size) ∨ H1 ≤ i) (.slice A4 k C4) D2 ∧ D2.len = k ∧ D2.app (bare (f1.drop k)) = bare f1)) (fun iv _ => nvf1 - (intOf iv).toNat)
   case atStart => exact ⟨0, .nil, none, 0, Nat.zero_le _, rfl, hid ⟨Kp.refl _ _ _, U0.out, OF.nil _ _ _ _ _, rfl, by rw [T.drop_zero]; rfl⟩⟩
   case round =>
    clear pc0 pc1 pc2 pc3 pc4 pc5 pc6 pf0 pf1 pf2 pf3 pf4 pf5 pf6
    obtain ⟨k, D2, A4, C4, hk, rfl, HK⟩ := hrel
    have BW9 := hid (show Below V0.heap.size V0 wr from by
     rw [HZ.out]
     exact BZ.out.trans (HK.out.1.below (n := z1) (fun i hi => ⟨by have := HH.out.1; omega, by omega⟩)))
    have ce := (World.cell?_of_block (BW9.out.block _ (World.block_lt_of_cell? V0 _ CE.out))).trans CE.out
    obtain ⟨⟨pc0, pc1, pc2, pc3, pc4, pc5, pc6⟩, ⟨pf0, pf1, pf2, pf3, pf4, pf5, pf6⟩⟩ := cells7 HK.out.2.1
    have zw := hid (show w.heap.size ≤ z1 from by have := Below.size HQ.out.1; rw [HZ.out] at this; exact this)
    by_cases hk2 : k < nvf1
    ·have qk : (k : Int) < (nvf1 : Int) := by omega
     have hK := hid (show k ≤ 100000 ∧ D2.len = k from ⟨by have h1 := wide_len HSW.out HS1.out.f.isList; rw [HLN.out] at h1; omega, HK.out.2.2.2.1⟩)
     have HW2 := hid (wrap_succ hk2 HML.out)
     obtain ⟨q1, vp1, u1, ps1, b1, rfl, hu1, cq1, cr1⟩ := HS1.out.f.el1 HLN.out hk2
     obtain ⟨Ap1, np1, cp1, rfl, _⟩ := hu1.p.view
     obtain ⟨Au1, nu1, cu1, rfl, _⟩ := hu1.d.view
     have hu1t := hid hu1.t
     have HU1 := hid hu1.p
     have hbs : b1.sz < m := by
      have h1 := T.sz_nth HS1.out.f.isList (j := k) (by rw [HLN.out]; exact hk2)
      rw [hu1.t] at h1
      simp only [T.sz] at h1
      have := HSL.out
      omega
     have hbw : wide 100000 b1 := by
      have h1 := wide_nth HSW.out HS1.out.f.isList k (by rw [HLN.out]; exact hk2)
      rw [hu1.t] at h1
      exact h1.2
     have HC := hid (H.c2 b1 hbs hbw (fun i => F i ∧ i < w.heap.size) wr.drew _ (hu1.d.bel BW9.out.drew))
     clear hbs hbw hu1
     have SK := hid (show ∀ X, Below z1 V0 X → X.cell? ⟨g1, j * 7 + 6, none⟩ = some (.slice (some ⟨q1, 0, none⟩) nvf1 cvf1) ∧ X.cell? ⟨q1, k * 2, none⟩ = some (.slice Ap1 np1 cp1) ∧ X.cell? ⟨q1, k * 2 + 1, none⟩ = some (.slice Au1 nu1 cu1) from fun X h => ⟨(World.cell?_of_block (h.block _ (by rw [← HZ.out]; exact World.block_lt_of_cell? V0 _ CE.out))).trans CE.out, (World.cell?_of_block (h.block _ (by rw [← HZ.out]; exact World.block_lt_of_cell? V0 _ cq1))).trans cq1, (World.cell?_of_block (h.block _ (by rw [← HZ.out]; exact World.block_lt_of_cell? V0 _ cr1))).trans cr1⟩)
     have BX0 := hid (show Below z1 V0 wr.drew from by rw [← HZ.out]; exact BW9.out.drew)
     have S0 := hid (SK.out _ BX0.out)
     have zwr := hid (show z1 ≤ wr.heap.size from by have := Below.size BW9.out; rw [HZ.out] at this; exact this)
     go_wp2
     refine wp_region_held_drew (S := (fun X : World => X.cell? ⟨g1, j * 7 + 6, none⟩ = some (.slice (some ⟨q1, 0, none⟩) nvf1 cvf1) ∧ X.cell? ⟨q1, k * 2, none⟩ = some (.slice Ap1 np1 cp1) ∧ X.cell? ⟨q1, k * 2 + 1, none⟩ = some (.slice Au1 nu1 cu1))) (by kernel_rfl) S0.out (fun hH0 => ?_)
     refine wpAnyH_take (i := 0) (v := .pointer (some ⟨z1, 6, none⟩)) rfl (by kernel_rfl) (by kernel_rfl) (by kernel_rfl) (fun _ _ _ h => h) (Or.inl ⟨by kernel_rfl, fun w hSw => by obtain ⟨sa, sb, sc⟩ := hSw; go_simp⟩) hH0 ?_
     try simp only [Act.put, List.getElem_toArray, List.getElem_cons_zero, List.getElem_cons_succ, List.setIfInBounds_toArray, List.set_cons_zero, List.set_cons_succ]
     refine wpAnyH_take (i := 2) (v := .slice (some ⟨g1, 0, none⟩) n c) rfl (by kernel_rfl) (by kernel_rfl) (by kernel_rfl) (fun _ _ _ h => h) (Or.inl ⟨by kernel_rfl, fun w hSw => by obtain ⟨sa, sb, sc⟩ := hSw; go_simp⟩) hH0 ?_
     try simp only [Act.put, List.getElem_toArray, List.getElem_cons_zero, List.getElem_cons_succ, List.setIfInBounds_toArray, List.set_cons_zero, List.set_cons_succ]
     refine wpAnyH_take (i := 3) (v := .int .i64 (j : Int)) rfl (by kernel_rfl) (by kernel_rfl) (by kernel_rfl) (fun _ _ _ h => h) (Or.inl ⟨by kernel_rfl, fun w hSw => by obtain ⟨sa, sb, sc⟩ := hSw; go_simp⟩) hH0 ?_
     try simp only [Act.put, List.getElem_toArray, List.getElem_cons_zero, List.getElem_cons_succ, List.setIfInBounds_toArray, List.set_cons_zero, List.set_cons_succ]
     refine wpAnyH_take (i := 4) (v := .pointer (some ⟨g1, j * 7, none⟩)) rfl (by kernel_rfl) (by kernel_rfl) (by kernel_rfl) (fun _ _ _ h => h) (Or.inl ⟨by kernel_rfl, fun w hSw => by obtain ⟨sa, sb, sc⟩ := hSw; go_simp⟩) hH0 ?_
     try simp only [Act.put, List.getElem_toArray, List.getElem_cons_zero, List.getElem_cons_succ, List.setIfInBounds_toArray, List.set_cons_zero, List.set_cons_succ]
     refine wpAnyH_take (i := 5) (v := .pointer (some ⟨g1, j * 7 + 6, none⟩)) rfl (by kernel_rfl) (by kernel_rfl) (by kernel_rfl) (fun _ _ _ h => h) (Or.inl ⟨by kernel_rfl, fun w hSw => by obtain ⟨sa, sb, sc⟩ := hSw; go_simp⟩) hH0 ?_
     try simp only [Act.put, List.getElem_toArray, List.getElem_cons_zero, List.getElem_cons_succ, List.setIfInBounds_toArray, List.set_cons_zero, List.set_cons_succ]
     refine wpAnyH_take (i := 6) (v := .slice (some ⟨q1, 0, none⟩) nvf1 cvf1) rfl (by kernel_rfl) (by kernel_rfl) (by kernel_rfl) (fun _ _ _ h => h) (Or.inl ⟨by kernel_rfl, fun w hSw => by obtain ⟨sa, sb, sc⟩ := hSw; go_simp⟩) hH0 ?_
     try simp only [Act.put, List.getElem_toArray, List.getElem_cons_zero, List.getElem_cons_succ, List.setIfInBounds_toArray, List.set_cons_zero, List.set_cons_succ]
     refine wpAnyH_take (i := 7) (v := .int .i64 (k : Int)) rfl (by kernel_rfl) (by kernel_rfl) (by kernel_rfl) (fun _ _ _ h => h) (Or.inl ⟨by kernel_rfl, fun w hSw => by obtain ⟨sa, sb, sc⟩ := hSw; go_simp⟩) hH0 ?_
     try simp only [Act.put, List.getElem_toArray, List.getElem_cons_zero, List.getElem_cons_succ, List.setIfInBounds_toArray, List.set_cons_zero, List.set_cons_succ]
     refine wpAnyH_take (i := 8) (v := .pointer (some ⟨q1, k * 2, none⟩)) rfl (by kernel_rfl) (by kernel_rfl) (by kernel_rfl) (fun _ _ _ h => h) (Or.inl ⟨by kernel_rfl, fun w hSw => by obtain ⟨sa, sb, sc⟩ := hSw; go_simp⟩) hH0 ?_
     try simp only [Act.put, List.getElem_toArray, List.getElem_cons_zero, List.getElem_cons_succ, List.setIfInBounds_toArray, List.set_cons_zero, List.set_cons_succ]
     refine wpAnyH_take (i := 9) (v := .pointer (some ⟨q1, k * 2, none⟩)) rfl (by kernel_rfl) (by kernel_rfl) (by kernel_rfl) (fun _ _ _ h => h) (Or.inl ⟨by kernel_rfl, fun w hSw => by obtain ⟨sa, sb, sc⟩ := hSw; go_simp⟩) hH0 ?_
     try simp only [Act.put, List.getElem_toArray, List.getElem_cons_zero, List.getElem_cons_succ, List.setIfInBounds_toArray, List.set_cons_zero, List.set_cons_succ]
     refine wpAnyH_take (i := 10) (v := .slice Ap1 np1 cp1) rfl (by kernel_rfl) (by kernel_rfl) (by kernel_rfl) (fun _ _ _ h => h) (Or.inl ⟨by kernel_rfl, fun w hSw => by obtain ⟨sa, sb, sc⟩ := hSw; go_simp⟩) hH0 ?_
     try simp only [Act.put, List.getElem_toArray, List.getElem_cons_zero, List.getElem_cons_succ, List.setIfInBounds_toArray, List.set_cons_zero, List.set_cons_succ]
     refine wpAnyH_take (i := 11) (v := .slice (some ⟨g1, 0, none⟩) n c) rfl (by kernel_rfl) (by kernel_rfl) (by kernel_rfl) (fun _ _ _ h => h) (Or.inl ⟨by kernel_rfl, fun w hSw => by obtain ⟨sa, sb, sc⟩ := hSw; go_simp⟩) hH0 ?_
     try simp only [Act.put, List.getElem_toArray, List.getElem_cons_zero, List.getElem_cons_succ, List.setIfInBounds_toArray, List.set_cons_zero, List.set_cons_succ]
     refine wpAnyH_take (i := 12) (v := .int .i64 (j : Int)) rfl (by kernel_rfl) (by kernel_rfl) (by kernel_rfl) (fun _ _ _ h => h) (Or.inl ⟨by kernel_rfl, fun w hSw => by obtain ⟨sa, sb, sc⟩ := hSw; go_simp⟩) hH0 ?_
     try simp only [Act.put, List.getElem_toArray, List.getElem_cons_zero, List.getElem_cons_succ, List.setIfInBounds_toArray, List.set_cons_zero, List.set_cons_succ]
     refine wpAnyH_take (i := 13) (v := .pointer (some ⟨g1, j * 7, none⟩)) rfl (by kernel_rfl) (by kernel_rfl) (by kernel_rfl) (fun _ _ _ h => h) (Or.inl ⟨by kernel_rfl, fun w hSw => by obtain ⟨sa, sb, sc⟩ := hSw; go_simp⟩) hH0 ?_
     try simp only [Act.put, List.getElem_toArray, List.getElem_cons_zero, List.getElem_cons_succ, List.setIfInBounds_toArray, List.set_cons_zero, List.set_cons_succ]
     refine wpAnyH_take (i := 14) (v := .pointer (some ⟨g1, j * 7 + 6, none⟩)) rfl (by kernel_rfl) (by kernel_rfl) (by kernel_rfl) (fun _ _ _ h => h) (Or.inl ⟨by kernel_rfl, fun w hSw => by obtain ⟨sa, sb, sc⟩ := hSw; go_simp⟩) hH0 ?_
     try simp only [Act.put, List.getElem_toArray, List.getElem_cons_zero, List.getElem_cons_succ, List.setIfInBounds_toArray, List.set_cons_zero, List.set_cons_succ]
     refine wpAnyH_take (i := 15) (v := .slice (some ⟨q1, 0, none⟩) nvf1 cvf1) rfl (by kernel_rfl) (by kernel_rfl) (by kernel_rfl) (fun _ _ _ h => h) (Or.inl ⟨by kernel_rfl, fun w hSw => by obtain ⟨sa, sb, sc⟩ := hSw; go_simp⟩) hH0 ?_
     try simp only [Act.put, List.getElem_toArray, List.getElem_cons_zero, List.getElem_cons_succ, List.setIfInBounds_toArray, List.set_cons_zero, List.set_cons_succ]
     refine wpAnyH_take (i := 16) (v := .int .i64 (k : Int)) rfl (by kernel_rfl) (by kernel_rfl) (by kernel_rfl) (fun _ _ _ h => h) (Or.inl ⟨by kernel_rfl, fun w hSw => by obtain ⟨sa, sb, sc⟩ := hSw; go_simp⟩) hH0 ?_
     try simp only [Act.put, List.getElem_toArray, List.getElem_cons_zero, List.getElem_cons_succ, List.setIfInBounds_toArray, List.set_cons_zero, List.set_cons_succ]
     refine wpAnyH_take (i := 17) (v := .pointer (some ⟨q1, k * 2, none⟩)) rfl (by kernel_rfl) (by kernel_rfl) (by kernel_rfl) (fun _ _ _ h => h) (Or.inl ⟨by kernel_rfl, fun w hSw => by obtain ⟨sa, sb, sc⟩ := hSw; go_simp⟩) hH0 ?_
     try simp only [Act.put, List.getElem_toArray, List.getElem_cons_zero, List.getElem_cons_succ, List.setIfInBounds_toArray, List.set_cons_zero, List.set_cons_succ]
     refine wpAnyH_take (i := 18) (v := .pointer (some ⟨q1, k * 2 + 1, none⟩)) rfl (by kernel_rfl) (by kernel_rfl) (by kernel_rfl) (fun _ _ _ h => h) (Or.inl ⟨by kernel_rfl, fun w hSw => by obtain ⟨sa, sb, sc⟩ := hSw; go_simp⟩) hH0 ?_
     try simp only [Act.put, List.getElem_toArray, List.getElem_cons_zero, List.getElem_cons_succ, List.setIfInBounds_toArray, List.set_cons_zero, List.set_cons_succ]
     refine wpAnyH_take (i := 19) (v := .slice Au1 nu1 cu1) rfl (by kernel_rfl) (by kernel_rfl) (by kernel_rfl) (fun _ _ _ h => h) (Or.inl ⟨by kernel_rfl, fun w hSw => by obtain ⟨sa, sb, sc⟩ := hSw; go_simp⟩) hH0 ?_
     try simp only [Act.put, List.getElem_toArray, List.getElem_cons_zero, List.getElem_cons_succ, List.setIfInBounds_toArray, List.set_cons_zero, List.set_cons_succ]
     refine wpAnyH_ready (rs := [1, 20]) (by kernel_rfl) (by simp) ?_
     refine AllReadyH.cons rfl (fun K hKK => ?_) ?_
     ·skip
      go_simp
      refine hKK.out _ _ (SK.out _ BX0.out) (fun hS1 => ?_)
      clear hKK K
      try simp only [Act.put, List.getElem_toArray, List.getElem_cons_zero, List.getElem_cons_succ, List.setIfInBounds_toArray, List.set_cons_zero, List.set_cons_succ]
      refine wpAnyH_ready (rs := [20]) (by kernel_rfl) (by simp) ?_
      refine AllReadyH.cons rfl (fun K hKK => ?_) AllReadyH.nil
      (go_simp; go_at_call 10; refine (HC.out).mono ?_; rintro e x9 ⟨vy, rfl, h1, hb⟩; obtain ⟨Ay, ny, cy, rfl, _⟩ := h1.view; have hb9 := (Below.refl wr.heap.size wr).drew.trans hb; have B9 := hid hb9; have e1 := trivial; have e2 := (World.cell?_of_block (hb9.block _ (World.block_lt_of_cell? wr _ ce))).trans ce; obtain ⟨⟨_p0, _p1, _p2, _p3, _p4, _p5, _p6⟩, ⟨_f0, _f1, _f2, _f3, _f4, _f5, _f6⟩⟩ := cells7 (blk_below HK.out.2.1 hb9); have R9 := hid (show EC x9 (fun i => (F i ∧ i < w.heap.size) ∨ wr.heap.size ≤ i) (.cons (.fn ps1 (bare b1)) .nil) 1 [.slice Ap1 np1 cp1, .slice Ay ny cy] from EC_fn.2 ⟨_, _, [], rfl, (HU1.out.bel (BW9.out.trans (hb9.mono (Below.size BW9.out)))).imp (fun i hi _ => .inl hi), h1.imp (fun i hi _ => hi.imp (fun h => h.1) id), EC_nil.2 rfl⟩); obtain ⟨⟨_m0, _m1, _m2, _m3, _m4, _m5, _m6⟩, _⟩ := cells7 (blk_below (blk_below HK.out.2.1 hb9) (alloc_old (w := x9) (o := .cells #[.slice Ap1 np1 cp1, .slice Ay ny cy] 88))); have LC := hid (show H1 ≤ (x9.alloc (.cells #[.slice Ap1 np1 cp1, .slice Ay ny cy] 88)).heap.size from by have h7 := HK.out.1.size; have h8 := Below.size hb9; rw [World.size_alloc]; have := HH.out.2; omega); have ECY := hid (show EC (x9.alloc (.cells #[.slice Ap1 np1 cp1, .slice Ay ny cy] 88)) (fun i => ((F i ∧ i < w.heap.size) ∨ H1 ≤ i) ∧ (Value.slice A4 k C4).ownBlock ≠ some i) (.cons (.fn ps1 (bare b1)) .nil) 1 [.slice Ap1 np1 cp1, .slice Ay ny cy] from EC.keep (fun i _ hl => alloc_old.block i hl) (Below.size alloc_old) (fun i hi _ => foot hi (Nat.le_trans (Nat.le_of_eq HH.out.2.symm) HK.out.1.size) (by have := Below.size HQ.out.1; have := HZ.out; have := HH.out.1; omega) (HK.out.2.2.1.lt i)) _ _ _ R9.out); clear h1 hb hb9)
      have BX9 := hid ((show Below z1 V0 wr from by rw [← HZ.out]; exact BW9.out).trans (B9.out.mono zwr.out))
      refine hKK.out _ _ (SK.out _ BX9.out) (fun hS2 => ?_)
      clear hKK K
      try simp only [Act.put, List.getElem_toArray, List.getElem_cons_zero, List.getElem_cons_succ, List.setIfInBounds_toArray, List.set_cons_zero, List.set_cons_succ]
      refine wpAnyH_take (i := 21) (v := .agg #[.slice Ap1 np1 cp1, .slice Ay ny cy]) rfl (by kernel_rfl) (by kernel_rfl) (by kernel_rfl) (fun _ _ _ h => h) (Or.inl ⟨by kernel_rfl, fun w hSw => by obtain ⟨sa, sb, sc⟩ := hSw; go_simp⟩) hS2 ?_
      try simp only [Act.put, List.getElem_toArray, List.getElem_cons_zero, List.getElem_cons_succ, List.setIfInBounds_toArray, List.set_cons_zero, List.set_cons_succ]
      refine wpAnyH_ready (rs := [22]) (by kernel_rfl) (by simp) ?_
      refine AllReadyH.cons rfl (fun K hKK => ?_) AllReadyH.nil
      have BXa := hid (BX9.out.trans ((alloc_old (w := x9) (o := .cells #[.slice Ap1 np1 cp1, .slice Ay ny cy] 88)).mono (Nat.le_trans zwr.out (Below.size B9.out))))
      go_simp
      refine hKK.out _ _ (SK.out _ BXa.out) (fun hS3 => ?_)
      clear hKK K
      try simp only [Act.put, List.getElem_toArray, List.getElem_cons_zero, List.getElem_cons_succ, List.setIfInBounds_toArray, List.set_cons_zero, List.set_cons_succ]
      refine wpAnyH_ready (rs := [23]) (by kernel_rfl) (by simp) ?_
      refine AllReadyH.cons rfl (fun K hKK => ?_) AllReadyH.nil
      (refine step_OF (x9.alloc (.cells #[.slice Ap1 np1 cp1, .slice Ay ny cy] 88)) rfl _ _ 1 88 36 48 _ rfl Tryz.underlying36 i88n rfl (by decide) (by decide) H1 (fun i => (F i ∧ i < w.heap.size) ∨ H1 ≤ i) (.slice A4 k C4) D2 k hK.out.2 rfl ((HK.out.2.2.1.bel B9.out).bel alloc_old) (.fn ps1 (bare b1)) [.slice Ap1 np1 cp1, .slice Ay ny cy] x9.heap.size rfl (heap_alloc_new x9 _) ECY.out hK.out.1 LC.out (Or.inr LC.out) ?_; intro g cap w4 h1 h2 h3; have O4 := hid h1; have U4 := hid ((h2.block z1 (lt_blk (blk_below (blk_below HK.out.2.1 B9.out) (alloc_old (w := x9) (o := .cells #[.slice Ap1 np1 cp1, .slice Ay ny cy] 88)))) (fun e => by have := (HK.out.2.2.1.lt z1 e.symm).1; have := HH.out.1; omega)).trans (blk_below (blk_below HK.out.2.1 B9.out) (alloc_old (w := x9) (o := .cells #[.slice Ap1 np1 cp1, .slice Ay ny cy] 88)))); have G4 := hid (And.intro h2 h3); obtain ⟨⟨_s0, _s1, _s2, _s3, _s4, _s5, _s6⟩, ⟨_t0, _t1, _t2, _t3, _t4, _t5, _t6⟩⟩ := cells7 U4.out; clear h1 h2 h3)
      have BX4 := hid (BXa.out.trans ⟨G4.out.1.os, G4.out.1.tape, G4.out.1.output, G4.out.1.size, fun i hi => G4.out.1.block i (by have := LC.out; have := HH.out.1; omega) (fun e => by have := (HK.out.2.2.1.lt i e.symm).1; have := HH.out.1; omega)⟩)
      refine hKK.out _ _ (SK.out _ BX4.out) (fun hL1 => ?_)
      clear hKK K
      try simp only [Act.put, List.getElem_toArray, List.getElem_cons_zero, List.getElem_cons_succ, List.setIfInBounds_toArray, List.set_cons_zero, List.set_cons_succ]
      refine wpAnyH_take (i := 24) (v := .pointer (some ⟨z1, 6, none⟩)) rfl (by kernel_rfl) (by kernel_rfl) (by kernel_rfl) (fun _ _ _ h => h) (Or.inl ⟨by kernel_rfl, fun w hSw => by obtain ⟨sa, sb, sc⟩ := hSw; go_simp⟩) hL1 ?_
      try simp only [Act.put, List.getElem_toArray, List.getElem_cons_zero, List.getElem_cons_succ, List.setIfInBounds_toArray, List.set_cons_zero, List.set_cons_succ]
      refine wpAnyH_ready (rs := [25]) (by kernel_rfl) (by simp) ?_
      refine AllReadyH.cons rfl (fun K hKK => ?_) AllReadyH.nil
      have BX5 := hid (BX4.out.setCell (p := ⟨z1, 6, none⟩) (Nat.le_refl z1) (.slice (some ⟨g, 0, none⟩) (k + 1) cap))
      go_simp
      refine hKK.out _ _ (SK.out _ BX5.out) (fun hL2 => ?_)
      clear hKK K
      try simp only [Act.put, List.getElem_toArray, List.getElem_cons_zero, List.getElem_cons_succ, List.setIfInBounds_toArray, List.set_cons_zero, List.set_cons_succ]
      refine wpAnyH_done (by kernel_rfl) ?_ _
      have hlw := hid (Nat.le_trans (Nat.le_of_eq HH.out.2.symm) HK.out.1.size)
      have KP := hid ((((HK.out.1.trans (Kp.of (B9.out.mono hlw.out))).trans (Kp.of (alloc_old.mono (Nat.le_trans hlw.out (Below.size B9.out))))).grown G4.out.1 LC.out (fun q e hq => absurd hq (Nat.not_lt.2 (HK.out.2.2.1.lt q e).1))).setCell (p := ⟨z1, 6, none⟩) (fun h => h.2 rfl) (.slice (some ⟨g, 0, none⟩) (k + 1) cap))
      have U5 := hid (show (w4.setCell ⟨z1, 6, none⟩ (.slice (some ⟨g, 0, none⟩) (k + 1) cap)).heap[z1]? = some (.cells #[.int .i64 k1, .int .i64 0, .int .i64 n1, .string s1, .int .i64 op1, .slice Ax nx cx, .slice (some ⟨g, 0, none⟩) (k + 1) cap] 38) from by simp [World.setCell, Array.getElem?_modify, U4.out])
      have O5 := hid (OF.keep (w' := w4.setCell ⟨z1, 6, none⟩ (.slice (some ⟨g, 0, none⟩) (k + 1) cap)) O4.out (fun i hi _ => Below.heap_setCell _ ⟨z1, 6, none⟩ _ _ (foot2 (a := w.heap.size) (H1 := H1) (F := F) hi ⟨HH.out.1, trivial⟩ zw.out)) (by simp [World.setCell]) (fun i hi _ => hi))
      have HD2 := hid (show (D2.snoc (.fn ps1 (bare b1))).app (bare (f1.drop (k + 1))) = bare f1 from by
       rw [T.app_snoc _ _ HK.out.2.2.1.isList, ← HK.out.2.2.2.2, T.drop_cons (t := f1) (j := k) HS1.out.f.isList (by rw [HLN.out]; exact hk2), hu1t.out]
       rfl)
      go_wp2
      exact ⟨⟨k + 1, D2.snoc (.fn ps1 (bare b1)), some ⟨g, 0, none⟩, cap, hk2, by rw [HW2.out.2], hid ⟨KP.out, U5.out, O5.out, by rw [len_snoc _ HK.out.2.2.1.isList, hK.out.2], HD2.out⟩⟩, dec_lt hk2 HW2.out.2⟩
     refine AllReadyH.cons rfl (fun K hKK => ?_) AllReadyH.nil
     (go_simp; go_at_call 10; refine (HC.out).mono ?_; rintro e x9 ⟨vy, rfl, h1, hb⟩; obtain ⟨Ay, ny, cy, rfl, _⟩ := h1.view; have hb9 := (Below.refl wr.heap.size wr).drew.trans hb; have B9 := hid hb9; have e1 := trivial; have e2 := (World.cell?_of_block (hb9.block _ (World.block_lt_of_cell? wr _ ce))).trans ce; obtain ⟨⟨_p0, _p1, _p2, _p3, _p4, _p5, _p6⟩, ⟨_f0, _f1, _f2, _f3, _f4, _f5, _f6⟩⟩ := cells7 (blk_below HK.out.2.1 hb9); have R9 := hid (show EC x9 (fun i => (F i ∧ i < w.heap.size) ∨ wr.heap.size ≤ i) (.cons (.fn ps1 (bare b1)) .nil) 1 [.slice Ap1 np1 cp1, .slice Ay ny cy] from EC_fn.2 ⟨_, _, [], rfl, (HU1.out.bel (BW9.out.trans (hb9.mono (Below.size BW9.out)))).imp (fun i hi _ => .inl hi), h1.imp (fun i hi _ => hi.imp (fun h => h.1) id), EC_nil.2 rfl⟩); obtain ⟨⟨_m0, _m1, _m2, _m3, _m4, _m5, _m6⟩, _⟩ := cells7 (blk_below (blk_below HK.out.2.1 hb9) (alloc_old (w := x9) (o := .cells #[.slice Ap1 np1 cp1, .slice Ay ny cy] 88))); have LC := hid (show H1 ≤ (x9.alloc (.cells #[.slice Ap1 np1 cp1, .slice Ay ny cy] 88)).heap.size from by have h7 := HK.out.1.size; have h8 := Below.size hb9; rw [World.size_alloc]; have := HH.out.2; omega); have ECY := hid (show EC (x9.alloc (.cells #[.slice Ap1 np1 cp1, .slice Ay ny cy] 88)) (fun i => ((F i ∧ i < w.heap.size) ∨ H1 ≤ i) ∧ (Value.slice A4 k C4).ownBlock ≠ some i) (.cons (.fn ps1 (bare b1)) .nil) 1 [.slice Ap1 np1 cp1, .slice Ay ny cy] from EC.keep (fun i _ hl => alloc_old.block i hl) (Below.size alloc_old) (fun i hi _ => foot hi (Nat.le_trans (Nat.le_of_eq HH.out.2.symm) HK.out.1.size) (by have := Below.size HQ.out.1; have := HZ.out; have := HH.out.1; omega) (HK.out.2.2.1.lt i)) _ _ _ R9.out); clear h1 hb hb9)
     have BX9 := hid ((show Below z1 V0 wr from by rw [← HZ.out]; exact BW9.out).trans (B9.out.mono zwr.out))
     refine hKK.out _ _ (SK.out _ BX9.out) (fun hS4 => ?_)
     clear hKK K
     try simp only [Act.put, List.getElem_toArray, List.getElem_cons_zero, List.getElem_cons_succ, List.setIfInBounds_toArray, List.set_cons_zero, List.set_cons_succ]
     refine wpAnyH_take (i := 21) (v := .agg #[.slice Ap1 np1 cp1, .slice Ay ny cy]) rfl (by kernel_rfl) (by kernel_rfl) (by kernel_rfl) (fun _ _ _ h => h) (Or.inl ⟨by kernel_rfl, fun w hSw => by obtain ⟨sa, sb, sc⟩ := hSw; go_simp⟩) hS4 ?_
     try simp only [Act.put, List.getElem_toArray, List.getElem_cons_zero, List.getElem_cons_succ, List.setIfInBounds_toArray, List.set_cons_zero, List.set_cons_succ]
     refine wpAnyH_ready (rs := [1, 22]) (by kernel_rfl) (by simp) ?_
     refine AllReadyH.cons rfl (fun K hKK => ?_) ?_
     ·skip
      go_simp
      refine hKK.out _ _ (SK.out _ BX9.out) (fun hS5 => ?_)
      clear hKK K
      try simp only [Act.put, List.getElem_toArray, List.getElem_cons_zero, List.getElem_cons_succ, List.setIfInBounds_toArray, List.set_cons_zero, List.set_cons_succ]
      refine wpAnyH_ready (rs := [22]) (by kernel_rfl) (by simp) ?_
      refine AllReadyH.cons rfl (fun K hKK => ?_) AllReadyH.nil
      have BXa := hid (BX9.out.trans ((alloc_old (w := x9) (o := .cells #[.slice Ap1 np1 cp1, .slice Ay ny cy] 88)).mono (Nat.le_trans zwr.out (Below.size B9.out))))
      go_simp
      refine hKK.out _ _ (SK.out _ BXa.out) (fun hS6 => ?_)
      clear hKK K
      try simp only [Act.put, List.getElem_toArray, List.getElem_cons_zero, List.getElem_cons_succ, List.setIfInBounds_toArray, List.set_cons_zero, List.set_cons_succ]
      refine wpAnyH_ready (rs := [23]) (by kernel_rfl) (by simp) ?_
      refine AllReadyH.cons rfl (fun K hKK => ?_) AllReadyH.nil
      (refine step_OF (x9.alloc (.cells #[.slice Ap1 np1 cp1, .slice Ay ny cy] 88)) rfl _ _ 1 88 36 48 _ rfl Tryz.underlying36 i88n rfl (by decide) (by decide) H1 (fun i => (F i ∧ i < w.heap.size) ∨ H1 ≤ i) (.slice A4 k C4) D2 k hK.out.2 rfl ((HK.out.2.2.1.bel B9.out).bel alloc_old) (.fn ps1 (bare b1)) [.slice Ap1 np1 cp1, .slice Ay ny cy] x9.heap.size rfl (heap_alloc_new x9 _) ECY.out hK.out.1 LC.out (Or.inr LC.out) ?_; intro g cap w4 h1 h2 h3; have O4 := hid h1; have U4 := hid ((h2.block z1 (lt_blk (blk_below (blk_below HK.out.2.1 B9.out) (alloc_old (w := x9) (o := .cells #[.slice Ap1 np1 cp1, .slice Ay ny cy] 88)))) (fun e => by have := (HK.out.2.2.1.lt z1 e.symm).1; have := HH.out.1; omega)).trans (blk_below (blk_below HK.out.2.1 B9.out) (alloc_old (w := x9) (o := .cells #[.slice Ap1 np1 cp1, .slice Ay ny cy] 88)))); have G4 := hid (And.intro h2 h3); obtain ⟨⟨_s0, _s1, _s2, _s3, _s4, _s5, _s6⟩, ⟨_t0, _t1, _t2, _t3, _t4, _t5, _t6⟩⟩ := cells7 U4.out; clear h1 h2 h3)
      have BX4 := hid (BXa.out.trans ⟨G4.out.1.os, G4.out.1.tape, G4.out.1.output, G4.out.1.size, fun i hi => G4.out.1.block i (by have := LC.out; have := HH.out.1; omega) (fun e => by have := (HK.out.2.2.1.lt i e.symm).1; have := HH.out.1; omega)⟩)
      refine hKK.out _ _ (SK.out _ BX4.out) (fun hL1 => ?_)
      clear hKK K
      try simp only [Act.put, List.getElem_toArray, List.getElem_cons_zero, List.getElem_cons_succ, List.setIfInBounds_toArray, List.set_cons_zero, List.set_cons_succ]
      refine wpAnyH_take (i := 24) (v := .pointer (some ⟨z1, 6, none⟩)) rfl (by kernel_rfl) (by kernel_rfl) (by kernel_rfl) (fun _ _ _ h => h) (Or.inl ⟨by kernel_rfl, fun w hSw => by obtain ⟨sa, sb, sc⟩ := hSw; go_simp⟩) hL1 ?_
      try simp only [Act.put, List.getElem_toArray, List.getElem_cons_zero, List.getElem_cons_succ, List.setIfInBounds_toArray, List.set_cons_zero, List.set_cons_succ]
      refine wpAnyH_ready (rs := [25]) (by kernel_rfl) (by simp) ?_
      refine AllReadyH.cons rfl (fun K hKK => ?_) AllReadyH.nil
      have BX5 := hid (BX4.out.setCell (p := ⟨z1, 6, none⟩) (Nat.le_refl z1) (.slice (some ⟨g, 0, none⟩) (k + 1) cap))
      go_simp
      refine hKK.out _ _ (SK.out _ BX5.out) (fun hL2 => ?_)
      clear hKK K
      try simp only [Act.put, List.getElem_toArray, List.getElem_cons_zero, List.getElem_cons_succ, List.setIfInBounds_toArray, List.set_cons_zero, List.set_cons_succ]
      refine wpAnyH_done (by kernel_rfl) ?_ _
      have hlw := hid (Nat.le_trans (Nat.le_of_eq HH.out.2.symm) HK.out.1.size)
      have KP := hid ((((HK.out.1.trans (Kp.of (B9.out.mono hlw.out))).trans (Kp.of (alloc_old.mono (Nat.le_trans hlw.out (Below.size B9.out))))).grown G4.out.1 LC.out (fun q e hq => absurd hq (Nat.not_lt.2 (HK.out.2.2.1.lt q e).1))).setCell (p := ⟨z1, 6, none⟩) (fun h => h.2 rfl) (.slice (some ⟨g, 0, none⟩) (k + 1) cap))
      have U5 := hid (show (w4.setCell ⟨z1, 6, none⟩ (.slice (some ⟨g, 0, none⟩) (k + 1) cap)).heap[z1]? = some (.cells #[.int .i64 k1, .int .i64 0, .int .i64 n1, .string s1, .int .i64 op1, .slice Ax nx cx, .slice (some ⟨g, 0, none⟩) (k + 1) cap] 38) from by simp [World.setCell, Array.getElem?_modify, U4.out])
      have O5 := hid (OF.keep (w' := w4.setCell ⟨z1, 6, none⟩ (.slice (some ⟨g, 0, none⟩) (k + 1) cap)) O4.out (fun i hi _ => Below.heap_setCell _ ⟨z1, 6, none⟩ _ _ (foot2 (a := w.heap.size) (H1 := H1) (F := F) hi ⟨HH.out.1, trivial⟩ zw.out)) (by simp [World.setCell]) (fun i hi _ => hi))
      have HD2 := hid (show (D2.snoc (.fn ps1 (bare b1))).app (bare (f1.drop (k + 1))) = bare f1 from by
       rw [T.app_snoc _ _ HK.out.2.2.1.isList, ← HK.out.2.2.2.2, T.drop_cons (t := f1) (j := k) HS1.out.f.isList (by rw [HLN.out]; exact hk2), hu1t.out]
       rfl)
      go_wp2
      exact ⟨⟨k + 1, D2.snoc (.fn ps1 (bare b1)), some ⟨g, 0, none⟩, cap, hk2, by rw [HW2.out.2], hid ⟨KP.out, U5.out, O5.out, by rw [len_snoc _ HK.out.2.2.1.isList, hK.out.2], HD2.out⟩⟩, dec_lt hk2 HW2.out.2⟩
     refine AllReadyH.cons rfl (fun K hKK => ?_) AllReadyH.nil
     have BXa := hid (BX9.out.trans ((alloc_old (w := x9) (o := .cells #[.slice Ap1 np1 cp1, .slice Ay ny cy] 88)).mono (Nat.le_trans zwr.out (Below.size B9.out))))
     go_simp
     refine hKK.out _ _ (SK.out _ BXa.out) (fun hS7 => ?_)
     clear hKK K
     try simp only [Act.put, List.getElem_toArray, List.getElem_cons_zero, List.getElem_cons_succ, List.setIfInBounds_toArray, List.set_cons_zero, List.set_cons_succ]
     refine wpAnyH_ready (rs := [1]) (by kernel_rfl) (by simp) ?_
     refine AllReadyH.cons rfl (fun K hKK => ?_) AllReadyH.nil
     go_simp
     refine hKK.out _ _ (SK.out _ BXa.out) (fun hS8 => ?_)
     clear hKK K
     try simp only [Act.put, List.getElem_toArray, List.getElem_cons_zero, List.getElem_cons_succ, List.setIfInBounds_toArray, List.set_cons_zero, List.set_cons_succ]
     refine wpAnyH_ready (rs := [23]) (by kernel_rfl) (by simp) ?_
     refine AllReadyH.cons rfl (fun K hKK => ?_) AllReadyH.nil
     (refine step_OF (x9.alloc (.cells #[.slice Ap1 np1 cp1, .slice Ay ny cy] 88)) rfl _ _ 1 88 36 48 _ rfl Tryz.underlying36 i88n rfl (by decide) (by decide) H1 (fun i => (F i ∧ i < w.heap.size) ∨ H1 ≤ i) (.slice A4 k C4) D2 k hK.out.2 rfl ((HK.out.2.2.1.bel B9.out).bel alloc_old) (.fn ps1 (bare b1)) [.slice Ap1 np1 cp1, .slice Ay ny cy] x9.heap.size rfl (heap_alloc_new x9 _) ECY.out hK.out.1 LC.out (Or.inr LC.out) ?_; intro g cap w4 h1 h2 h3; have O4 := hid h1; have U4 := hid ((h2.block z1 (lt_blk (blk_below (blk_below HK.out.2.1 B9.out) (alloc_old (w := x9) (o := .cells #[.slice Ap1 np1 cp1, .slice Ay ny cy] 88)))) (fun e => by have := (HK.out.2.2.1.lt z1 e.symm).1; have := HH.out.1; omega)).trans (blk_below (blk_below HK.out.2.1 B9.out) (alloc_old (w := x9) (o := .cells #[.slice Ap1 np1 cp1, .slice Ay ny cy] 88)))); have G4 := hid (And.intro h2 h3); obtain ⟨⟨_s0, _s1, _s2, _s3, _s4, _s5, _s6⟩, ⟨_t0, _t1, _t2, _t3, _t4, _t5, _t6⟩⟩ := cells7 U4.out; clear h1 h2 h3)
     have BX4 := hid (BXa.out.trans ⟨G4.out.1.os, G4.out.1.tape, G4.out.1.output, G4.out.1.size, fun i hi => G4.out.1.block i (by have := LC.out; have := HH.out.1; omega) (fun e => by have := (HK.out.2.2.1.lt i e.symm).1; have := HH.out.1; omega)⟩)
     refine hKK.out _ _ (SK.out _ BX4.out) (fun hL1 => ?_)
     clear hKK K
     try simp only [Act.put, List.getElem_toArray, List.getElem_cons_zero, List.getElem_cons_succ, List.setIfInBounds_toArray, List.set_cons_zero, List.set_cons_succ]
     refine wpAnyH_take (i := 24) (v := .pointer (some ⟨z1, 6, none⟩)) rfl (by kernel_rfl) (by kernel_rfl) (by kernel_rfl) (fun _ _ _ h => h) (Or.inl ⟨by kernel_rfl, fun w hSw => by obtain ⟨sa, sb, sc⟩ := hSw; go_simp⟩) hL1 ?_
     try simp only [Act.put, List.getElem_toArray, List.getElem_cons_zero, List.getElem_cons_succ, List.setIfInBounds_toArray, List.set_cons_zero, List.set_cons_succ]
     refine wpAnyH_ready (rs := [25]) (by kernel_rfl) (by simp) ?_
     refine AllReadyH.cons rfl (fun K hKK => ?_) AllReadyH.nil
     have BX5 := hid (BX4.out.setCell (p := ⟨z1, 6, none⟩) (Nat.le_refl z1) (.slice (some ⟨g, 0, none⟩) (k + 1) cap))
     go_simp
     refine hKK.out _ _ (SK.out _ BX5.out) (fun hL2 => ?_)
     clear hKK K
     try simp only [Act.put, List.getElem_toArray, List.getElem_cons_zero, List.getElem_cons_succ, List.setIfInBounds_toArray, List.set_cons_zero, List.set_cons_succ]
     refine wpAnyH_done (by kernel_rfl) ?_ _
     have hlw := hid (Nat.le_trans (Nat.le_of_eq HH.out.2.symm) HK.out.1.size)
     have KP := hid ((((HK.out.1.trans (Kp.of (B9.out.mono hlw.out))).trans (Kp.of (alloc_old.mono (Nat.le_trans hlw.out (Below.size B9.out))))).grown G4.out.1 LC.out (fun q e hq => absurd hq (Nat.not_lt.2 (HK.out.2.2.1.lt q e).1))).setCell (p := ⟨z1, 6, none⟩) (fun h => h.2 rfl) (.slice (some ⟨g, 0, none⟩) (k + 1) cap))
     have U5 := hid (show (w4.setCell ⟨z1, 6, none⟩ (.slice (some ⟨g, 0, none⟩) (k + 1) cap)).heap[z1]? = some (.cells #[.int .i64 k1, .int .i64 0, .int .i64 n1, .string s1, .int .i64 op1, .slice Ax nx cx, .slice (some ⟨g, 0, none⟩) (k + 1) cap] 38) from by simp [World.setCell, Array.getElem?_modify, U4.out])
     have O5 := hid (OF.keep (w' := w4.setCell ⟨z1, 6, none⟩ (.slice (some ⟨g, 0, none⟩) (k + 1) cap)) O4.out (fun i hi _ => Below.heap_setCell _ ⟨z1, 6, none⟩ _ _ (foot2 (a := w.heap.size) (H1 := H1) (F := F) hi ⟨HH.out.1, trivial⟩ zw.out)) (by simp [World.setCell]) (fun i hi _ => hi))
     have HD2 := hid (show (D2.snoc (.fn ps1 (bare b1))).app (bare (f1.drop (k + 1))) = bare f1 from by
      rw [T.app_snoc _ _ HK.out.2.2.1.isList, ← HK.out.2.2.2.2, T.drop_cons (t := f1) (j := k) HS1.out.f.isList (by rw [HLN.out]; exact hk2), hu1t.out]
      rfl)
     go_wp2
     exact ⟨⟨k + 1, D2.snoc (.fn ps1 (bare b1)), some ⟨g, 0, none⟩, cap, hk2, by rw [HW2.out.2], hid ⟨KP.out, U5.out, O5.out, by rw [len_snoc _ HK.out.2.2.1.isList, hK.out.2], HD2.out⟩⟩, dec_lt hk2 HW2.out.2⟩
    ·have qk : ¬ (k : Int) < (nvf1 : Int) := by omega
     have hkn : k = nvf1 := by omega
     have hD2 : D2 = bare f1 := by
      have e1 := T.drop_len HS1.out.f.isList
      rw [HLN.out] at e1
      rw [← HK.out.2.2.2.2, hkn, e1]
      exact (T.app_nil HK.out.2.2.1.isList).symm
     have hlw := hid (Nat.le_trans (Nat.le_of_eq HH.out.2.symm) HK.out.1.size)
     have OQ := hid (HQ.out.2.1.bel BW9.out)
     have NE := hid (show EC wr (fun i => ((F i ∧ i < w.heap.size) ∨ w.heap.size ≤ i) ∧ (Value.slice A j C).ownBlock ≠ some i) (.cons (.ex k1 0 n1 s1 op1 (bare l1) (bare f1)) .nil) 0 [.int .i64 k1, .int .i64 0, .int .i64 n1, .string s1, .int .i64 op1, .slice Ax nx cx, .slice A4 k C4] from by
      refine EC_ex.2 ⟨_, _, [], rfl, ?_, ?_, EC_nil.2 rfl⟩
      ·exact SL.keep (fun i hi hl => HK.out.1.block i (by rw [← HH.out.2]; exact hl) (by rcases hi with h | h <;> (have := zw.out; omega))) HK.out.1.size (fun i hi _ => foot4 hi zw.out HZ.out (HQ.out.2.1.lt i)) _ _ _ VX.out
      ·exact (hD2 ▸ HK.out.2.2.1.sl).imp (fun i hi _ => foot5 hi zw.out HZ.out HH.out.1 (HQ.out.2.1.lt i))
      skip)
     have E3 := hid (alloc_old (w := wr) (o := .cells #[.int .i64 k1, .int .i64 0, .int .i64 n1, .string s1, .int .i64 op1, .slice Ax nx cx, .slice A4 k C4] 38))
     have EC3 := hid (show EC (wr.alloc (.cells #[.int .i64 k1, .int .i64 0, .int .i64 n1, .string s1, .int .i64 op1, .slice Ax nx cx, .slice A4 k C4] 38)) (fun i => ((F i ∧ i < w.heap.size) ∨ w.heap.size ≤ i) ∧ (Value.slice A j C).ownBlock ≠ some i) (.cons (.ex k1 0 n1 s1 op1 (bare l1) (bare f1)) .nil) 0 [.int .i64 k1, .int .i64 0, .int .i64 n1, .string s1, .int .i64 op1, .slice Ax nx cx, .slice A4 k C4] from EC.keep (fun i _ hl => E3.out.block i hl) (Below.size E3.out) (fun i hi _ => hi) _ _ _ NE.out)
     have hc3 := hid (show w.heap.size ≤ (wr.alloc (.cells #[.int .i64 k1, .int .i64 0, .int .i64 n1, .string s1, .int .i64 op1, .slice Ax nx cx, .slice A4 k C4] 38)).heap.size from by rw [World.size_alloc]; have := Below.size BW9.out; have := Below.size HQ.out.1; omega)
     have BQ := hid (HQ.out.1.trans (BW9.out.mono (Below.size HQ.out.1)))
     have HTR := hid (show (D.snoc (.ex k1 0 n1 s1 op1 (bare l1) (bare f1))).app (bare (t0.drop (j + 1))) = bare t0 from by
      rw [T.app_snoc _ _ HQ.out.2.1.isList, ← HQ.out.2.2.2, T.drop_cons (t := t0) (j := j) HL.out (by rw [HN.out]; exact hlt), HS1.out.t]
      rfl)
     clear hkn hD2
     go_wp2_with (first | (at_builtin; refine append_OF (wr.alloc (.cells #[.int .i64 k1, .int .i64 0, .int .i64 n1, .string s1, .int .i64 op1, .slice Ax nx cx, .slice A4 k C4] 38)) rfl _ _ 0 38 31 96 _ rfl Tryz.underlying31 i38n rfl (by decide) (by decide) w.heap.size (fun i => (F i ∧ i < w.heap.size) ∨ w.heap.size ≤ i) (.slice A j C) D j HQ.out.2.2.1 rfl (OQ.out.bel E3.out) (.ex k1 0 n1 s1 op1 (bare l1) (bare f1)) [.int .i64 k1, .int .i64 0, .int .i64 n1, .string s1, .int .i64 op1, .slice Ax nx cx, .slice A4 k C4] wr.heap.size rfl (heap_alloc_new wr _) EC3.out (Nat.le_trans hj HWD.out) hc3.out (Or.inr hc3.out) ?_; intro g cap w4 h1 h2 h3; have O4 := hid h1; have B4 := hid ((OQ.out.bel E3.out).grownB (BQ.out.trans (E3.out.mono (Below.size BQ.out))) hc3.out h2); clear h1 h2 h3; refine Hid.out ?_))
     refine hid ?_
     go_wp2
     exact ⟨⟨j + 1, D.snoc (.ex k1 0 n1 s1 op1 (bare l1) (bare f1)), some ⟨g, 0, none⟩, cap, hlt, rfl, by rw [HW.out.2], hid ⟨B4.out, O4.out, by rw [len_snoc _ HQ.out.2.1.isList, HQ.out.2.2.1], HTR.out⟩⟩, dec_lt hlt HW.out.2⟩
  ·have q0 : ¬ (j : Int) < (n : Int) := by omega
   have hD : D = bare t0 := by
    have hjn : j = n := by omega
    have e1 := T.drop_len HL.out
    rw [HN.out] at e1
    rw [← HQ.out.2.2.2, hjn, e1]
    exact (T.app_nil HQ.out.2.1.isList).symm
   have O5 := hid HQ.out.2.1.sl
   rw [hD] at O5
   clear hD
   go_wp2
   exact bodyPost_ret (v := .slice A j C) (by simp [results, Tryz.results29, go_sem]) rfl ⟨_, rfl, O5.out, HQ.out.1⟩
theorem rbAll : ∀ m, RBAll m
 | 0 => ⟨fun _ h => absurd h (Nat.not_lt_zero _), fun _ h => absurd h (Nat.not_lt_zero _)⟩
 | m + 1 => ⟨fun t h hw F w v hv => refB29_is m (rbAll m) t F v w (by omega) hw hv, fun t h hw F w v hv => refB10_is m (rbAll m) t F v w (by omega) hw hv⟩
theorem refBare_is (t : T) (hw : wide 100000 t) (v : Value) (w : World) (h : SL w FT 2 v t) : Calls Tryz.prog 10 #[v] w fun e w' => ∃ v', e = .returned v' ∧ SL w' FT 2 v' (bare t) ∧ Below w.heap.size w w' :=
 ((rbAll (t.sz + 1)).c2 t (Nat.lt_succ_self _) hw FT w v h).mono (fun e w' ⟨v', h1, h2, h3⟩ => ⟨v', h1, h2.wide, h3⟩)
end Go.Proofs.YtgkejkgailnbmaaGreatDoor
