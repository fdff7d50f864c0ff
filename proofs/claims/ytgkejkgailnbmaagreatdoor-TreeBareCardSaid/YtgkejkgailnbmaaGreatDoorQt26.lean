/- Texts joined: SA -/
import Derived.Test.YtgkejkgailnbmaaGreatDoorQt25
import Derived.Deep.RegionHeld3
set_option linter.unusedVariables false
set_option linter.unusedSimpArgs false
namespace Go.Proofs.YtgkejkgailnbmaaGreatDoor
open Lib (hid)
open Go.ChangeShapes Go.WideShapes Go.ChangeAt Go.RowKit TP
theorem zfar {a z1 z2 s i : Nat} (h : a = z1 ∧ z2 = z1 + 1 ∧ s = z2 + 1) (hi : s ≤ i) : i ≠ z2 := by omega
theorem zlow {a z1 z2 s i : Nat} (h : a = z1 ∧ z2 = z1 + 1 ∧ s = z2 + 1) (hi : s ≤ i) : a ≤ i := by omega
theorem far2s {X : World} {b i : Nat} (v0 v1 : Value) (hi : i ≠ b) : ((X.setCell ⟨b, 0, none⟩ v0).setCell ⟨b, 1, none⟩ v1).heap[i]? = X.heap[i]? := (Below.heap_setCell _ ⟨b, 1, none⟩ _ _ hi).trans (Below.heap_setCell _ ⟨b, 0, none⟩ _ _ hi)
theorem far5s {X : World} {b i : Nat} (v0 v1 v2 v3 v4 : Value) (hi : i ≠ b) : (((((X.setCell ⟨b, 0, none⟩ v0).setCell ⟨b, 1, none⟩ v1).setCell ⟨b, 2, none⟩ v2).setCell ⟨b, 3, none⟩ v3).setCell ⟨b, 4, none⟩ v4).heap[i]? = X.heap[i]? := (Below.heap_setCell _ ⟨b, 4, none⟩ _ _ hi).trans ((Below.heap_setCell _ ⟨b, 3, none⟩ _ _ hi).trans ((Below.heap_setCell _ ⟨b, 2, none⟩ _ _ hi).trans ((Below.heap_setCell _ ⟨b, 1, none⟩ _ _ hi).trans (Below.heap_setCell _ ⟨b, 0, none⟩ _ _ hi))))
theorem Turn.below {b n : Nat} {w X Y : World} (h : Turn b X Y) (hb : Below n w X) (hn : n ≤ b) : Below n w Y := hb.trans ⟨h.os, h.tape, h.output, Nat.le_of_eq h.size.symm, fun i hi => h.far i (by omega)⟩
theorem Turn.sl {b kd : Nat} {F : Nat → Prop} {X Y : World} {v : Value} {t : T} (h : Turn b X Y) (hs : SL X F kd v t) (hF : ∀ i, F i → i ≠ b) : SL Y F kd v t := SL.keep (fun i hi _ => h.far i (hF i hi)) (Nat.le_of_eq h.size.symm) (fun _ h _ => h) _ _ _ hs
theorem Turn.nl {b : Nat} {F : Nat → Prop} {X Y : World} {v : Value} {l : List ByteArray} (h : Turn b X Y) (hs : NL X F v l) (hF : ∀ i, F i → i ≠ b) : NL Y F v l := hs.keep (fun i hi _ => h.far i (hF i hi)) (Nat.le_of_eq h.size.symm) (fun _ h _ => h)
structure BareAll (m : Nat) : Prop where
 c0 : ∀ t : T, t.sz < m → wide 100000 t → ∀ w v, SL w FT 0 v t → Calls Tryz.prog 26 #[v, .func (.func 27) #[] #[]] w fun e w' => ∃ v', e = .returned v' ∧ SL w' (fun i => w.heap.size ≤ i) 0 v' (bare t) ∧ Below w.heap.size w w'
 c1 : ∀ t : T, t.sz < m → wide 100000 t → ∀ w v, SL w FT 1 v t → Calls Tryz.prog 56 #[v, .func (.func 57) #[] #[]] w fun e w' => ∃ v', e = .returned v' ∧ SL w' (fun i => w.heap.size ≤ i) 1 v' (bare t) ∧ Below w.heap.size w w'
 c2 : ∀ t : T, t.sz < m → wide 100000 t → ∀ w v, SL w FT 2 v t → Calls Tryz.prog 9 #[v] w fun e w' => ∃ v', e = .returned v' ∧ SL w' (fun i => w.heap.size ≤ i) 2 v' (bare t) ∧ Below w.heap.size w w'
 c3 : ∀ t : T, t.sz < m → wide 100000 t → ∀ w v, SL w FT 3 v t → Calls Tryz.prog 28 #[v, .func (.func 9) #[] #[]] w fun e w' => ∃ v', e = .returned v' ∧ SL w' (fun i => w.heap.size ≤ i) 3 v' (bare t) ∧ Below w.heap.size w w'
set_option maxRecDepth 100000 in
set_option maxHeartbeats 16000000 in
theorem bareEl0_is (m : Nat) (H : BareAll m) (x : T) (hx : x.sz ≤ m) (hwd : wide 100000 x) : BareEl0 x := by
 intro w k1 a1 n1 op1 s1 vl1 vf1 l1 f1 hs
 have hsz := hs.t ▸ hx
 simp only [T.sz] at hsz
 have hw := hs.t ▸ hwd
 simp only [wide] at hw
 obtain ⟨Avl1, nvl1, cvl1, rfl, _⟩ := hs.l.view
 obtain ⟨Avf1, nvf1, cvf1, rfl, _⟩ := hs.f.view
 obtain ⟨z1, hz1⟩ : ∃ z1, w.heap.size = z1 := ⟨_, rfl⟩
 obtain ⟨W1, hW1⟩ : ∃ W1, w.alloc (.cells #[.int .i64 k1, .int .i64 a1, .int .i64 n1, .string s1, .int .i64 op1, .slice Avl1 nvl1 cvl1, .slice Avf1 nvf1 cvf1] 38) = W1 := ⟨_, rfl⟩
 have X1 := hid (show W1.heap[z1]? = some (.cells #[.int .i64 k1, .int .i64 a1, .int .i64 n1, .string s1, .int .i64 op1, .slice Avl1 nvl1 cvl1, .slice Avf1 nvf1 cvf1] 38) from by rw [← hW1, ← hz1]; exact heap_alloc_new _ _)
 have E1 := hid (show Below w.heap.size w W1 from by rw [← hW1]; exact alloc_old)
 have l1w := hid (show W1.heap.size = z1 + 1 from by rw [← hW1, ← hz1]; exact World.size_alloc _ _)
 obtain ⟨z2, hz2⟩ : ∃ z2, W1.heap.size = z2 := ⟨_, rfl⟩
 obtain ⟨W2, hW2⟩ : ∃ W2, W1.alloc (.cells #[.int .i64 0, .int .i64 0, .int .i64 0, .string ⟨#[]⟩, .int .i64 0, .slice none 0 0, .slice none 0 0] 38) = W2 := ⟨_, rfl⟩
 have X2 := hid (show W2.heap[z2]? = some (.cells #[.int .i64 0, .int .i64 0, .int .i64 0, .string ⟨#[]⟩, .int .i64 0, .slice none 0 0, .slice none 0 0] 38) from by rw [← hW2, ← hz2]; exact heap_alloc_new _ _)
 have E2 := hid (show Below W1.heap.size W1 W2 from by rw [← hW2]; exact alloc_old)
 have W2B := hid (E1.out.trans (E2.out.mono (Below.size E1.out)))
 have X1b := hid (blk_below X1.out E2.out)
 have HZ := hid (show w.heap.size = z1 ∧ z2 = z1 + 1 ∧ W2.heap.size = z2 + 1 from ⟨hz1, by rw [← hz2, l1w.out], by rw [← hW2, ← hz2]; exact World.size_alloc _ _⟩)
 have hne : z2 ≠ z1 := by have := HZ.out.2.1; omega
 have hne2 : z1 ≠ z2 := by have := HZ.out.2.1; omega
 have C26 := hid (show ∀ X, Below w.heap.size w X → Calls Tryz.prog 26 #[.slice Avl1 nvl1 cvl1, .func (.func 27) #[] #[]] X (fun e w' => ∃ v', e = .returned v' ∧ SL w' (fun i => X.heap.size ≤ i) 0 v' (bare l1) ∧ Below X.heap.size X w') from fun X hb => H.c0 l1 (by omega) hw.1 X _ (hs.l.below hb))
 have C56 := hid (show ∀ X, Below w.heap.size w X → Calls Tryz.prog 56 #[.slice Avf1 nvf1 cvf1, .func (.func 57) #[] #[]] X (fun e w' => ∃ v', e = .returned v' ∧ SL w' (fun i => X.heap.size ≤ i) 1 v' (bare f1) ∧ Below X.heap.size X w') from fun X hb => H.c1 f1 (by omega) hw.2 X _ (hs.f.below hb))
 obtain ⟨⟨d0, d1, d2, d3, d4, d5, d6⟩, _⟩ := cells7 X1b.out
 have HT := hid hs.t
 clear hs hsz hw hx hwd
 go_enter Tryz.func27, Tryz.ntmps27
 go_wp2_with (first | (go_at_call 26; (with_reducible refine (C26.out _ W2B.out).mono ?_); rintro e x3 ⟨vx, rfl, h1, hb⟩; obtain ⟨Ax, nx, cx, rfl, _⟩ := h1.view; have B3 := hid (W2B.out.trans (hb.mono (Below.size W2B.out))); have V3 := hid (And.intro (Below.size hb) h1); have U1 := hid (blk_below X1b.out hb); have U2 := hid (blk_below X2.out hb); clear h1 hb; refine Hid.out ?_))
 obtain ⟨⟨d0, d1, d2, d3, d4, d5, d6⟩, ⟨g0, g1, g2, g3, g4, g5, g6⟩⟩ := cells7 U1.out
 obtain ⟨Y1, hY1⟩ : ∃ Y1, (x3.setCell ⟨z1, 1, none⟩ (.int .i64 0)).setCell ⟨z1, 5, none⟩ (.slice Ax nx cx) = Y1 := ⟨_, rfl⟩
 have T1 := hid (show Turn z1 x3 Y1 from by rw [← hY1]; exact (Turn.cell x3 z1 1 _).set 5 _)
 have U1b := hid (show Y1.heap[z1]? = some (.cells #[.int .i64 k1, .int .i64 0, .int .i64 n1, .string s1, .int .i64 op1, .slice Ax nx cx, .slice Avf1 nvf1 cvf1] 38) from by rw [← hY1]; simp [World.setCell, Array.getElem?_modify, U1.out])
 have U2b := hid (show Y1.heap[z2]? = some (.cells #[.int .i64 0, .int .i64 0, .int .i64 0, .string ⟨#[]⟩, .int .i64 0, .slice none 0 0, .slice none 0 0] 38) from (T1.out.far z2 hne).trans U2.out)
 have BY1 := hid (T1.out.below B3.out (by have := HZ.out.1; omega))
 have VY1 := hid (show SL Y1 (fun i => W2.heap.size ≤ i) 0 (.slice Ax nx cx) (bare l1) from T1.out.sl V3.out.2 (fun i hi => by have := HZ.out; omega))
 have L3 := hid V3.out.1
 obtain ⟨⟨p0, p1, p2, p3, p4, p5, p6⟩, _⟩ := cells7 U1b.out
 refine hid ?_
 go_wp2_with (first | (go_at_call 56; (with_reducible refine (C56.out _ BY1.out).mono ?_); rintro e x4 ⟨vy, rfl, h1, hb⟩; obtain ⟨Ay, ny, cy, rfl, _⟩ := h1.view; have B4 := hid (BY1.out.trans (hb.mono (Below.size BY1.out))); have V4 := hid (And.intro (VY1.out.bel hb) (And.intro (Below.size hb) h1)); have U3 := hid (blk_below U1b.out hb); have U4 := hid (blk_below U2b.out hb); clear h1 hb; refine Hid.out ?_))
 clear p0 p1 p2 p3 p4 p5 p6 g0 g1 g2 g3 g4 g5 g6 d0 d1 d2 d3 d4 d5 d6
 obtain ⟨⟨d0, d1, d2, d3, d4, d5, d6⟩, ⟨g0, g1, g2, g3, g4, g5, g6⟩⟩ := cells7 U3.out
 obtain ⟨Y2, hY2⟩ : ∃ Y2, x4.setCell ⟨z1, 6, none⟩ (.slice Ay ny cy) = Y2 := ⟨_, rfl⟩
 have T2 := hid (show Turn z1 x4 Y2 from by rw [← hY2]; exact Turn.cell x4 z1 6 _)
 have U3b := hid (show Y2.heap[z1]? = some (.cells #[.int .i64 k1, .int .i64 0, .int .i64 n1, .string s1, .int .i64 op1, .slice Ax nx cx, .slice Ay ny cy] 38) from by rw [← hY2]; simp [World.setCell, Array.getElem?_modify, U3.out])
 have U4b := hid (show Y2.heap[z2]? = some (.cells #[.int .i64 0, .int .i64 0, .int .i64 0, .string ⟨#[]⟩, .int .i64 0, .slice none 0 0, .slice none 0 0] 38) from (T2.out.far z2 hne).trans U4.out)
 have BY2 := hid (T2.out.below B4.out (by have := HZ.out.1; omega))
 have hw4 : W2.heap.size ≤ Y1.heap.size := by rw [T1.out.size]; exact L3.out
 have VY2 := hid (show SL Y2 (fun i => W2.heap.size ≤ i) 0 (.slice Ax nx cx) (bare l1) ∧ SL Y2 (fun i => W2.heap.size ≤ i) 1 (.slice Ay ny cy) (bare f1) from ⟨T2.out.sl V4.out.1 (fun i hi => by have := HZ.out; omega), T2.out.sl (V4.out.2.2.imp (fun i hi _ => Nat.le_trans hw4 hi)) (fun i hi => by have := HZ.out; omega)⟩)
 clear hw4
 obtain ⟨⟨p0, p1, p2, p3, p4, p5, p6⟩, _⟩ := cells7 U3b.out
 obtain ⟨⟨q0, q1, q2, q3, q4, q5, q6⟩, ⟨r0, r1, r2, r3, r4, r5, r6⟩⟩ := cells7 U4b.out
 refine hid ?_
 go_wp2
 refine bodyPost_ret (v := .agg #[.int .i64 k1, .int .i64 0, .int .i64 n1, .string s1, .int .i64 op1, .slice Ax nx cx, .slice Ay ny cy]) (by simp [results, Tryz.results27, go_sem, q0, q1, q2, q3, q4, q5, q6]) rfl ⟨_, _, rfl, ?_, ?_, ?_⟩
 ·exact SL.keep (fun i hi _ => far7 _ _ _ _ _ _ _ (by have := HZ.out; omega)) (by simp [World.setCell]) (fun i hi _ => by have := HZ.out; omega) _ _ _ VY2.out.1
 ·exact SL.keep (fun i hi _ => far7 _ _ _ _ _ _ _ (by have := HZ.out; omega)) (by simp [World.setCell]) (fun i hi _ => by have := HZ.out; omega) _ _ _ VY2.out.2
 ·have hz : w.heap.size ≤ z2 := by have := HZ.out; omega
  exact (((((((BY2.out.setCell (p := ⟨z2, 0, none⟩) hz _).setCell (p := ⟨z2, 1, none⟩) hz _).setCell (p := ⟨z2, 2, none⟩) hz _).setCell (p := ⟨z2, 3, none⟩) hz _).setCell (p := ⟨z2, 4, none⟩) hz _).setCell (p := ⟨z2, 5, none⟩) hz _).setCell (p := ⟨z2, 6, none⟩) hz _)
set_option maxRecDepth 100000 in
set_option maxHeartbeats 16000000 in
theorem bareEl1_is (m : Nat) (H : BareAll m) (x : T) (hx : x.sz ≤ m) (hwd : wide 100000 x) : BareEl1 x := by
 intro w vp1 vd1 ps1 d1 hs
 have hsz := hs.t ▸ hx
 simp only [T.sz] at hsz
 have hw := hs.t ▸ hwd
 simp only [wide] at hw
 obtain ⟨Avp1, nvp1, cvp1, rfl, _⟩ := hs.p.view
 obtain ⟨Avd1, nvd1, cvd1, rfl, _⟩ := hs.d.view
 obtain ⟨z1, hz1⟩ : ∃ z1, w.heap.size = z1 := ⟨_, rfl⟩
 obtain ⟨W1, hW1⟩ : ∃ W1, w.alloc (.cells #[.slice Avp1 nvp1 cvp1, .slice Avd1 nvd1 cvd1] 88) = W1 := ⟨_, rfl⟩
 have X1 := hid (show W1.heap[z1]? = some (.cells #[.slice Avp1 nvp1 cvp1, .slice Avd1 nvd1 cvd1] 88) from by rw [← hW1, ← hz1]; exact heap_alloc_new _ _)
 have E1 := hid (show Below w.heap.size w W1 from by rw [← hW1]; exact alloc_old)
 have l1w := hid (show W1.heap.size = z1 + 1 from by rw [← hW1, ← hz1]; exact World.size_alloc _ _)
 obtain ⟨z2, hz2⟩ : ∃ z2, W1.heap.size = z2 := ⟨_, rfl⟩
 obtain ⟨W2, hW2⟩ : ∃ W2, W1.alloc (.cells #[.slice none 0 0, .slice none 0 0] 88) = W2 := ⟨_, rfl⟩
 have X2 := hid (show W2.heap[z2]? = some (.cells #[.slice none 0 0, .slice none 0 0] 88) from by rw [← hW2, ← hz2]; exact heap_alloc_new _ _)
 have E2 := hid (show Below W1.heap.size W1 W2 from by rw [← hW2]; exact alloc_old)
 have W2B := hid (E1.out.trans (E2.out.mono (Below.size E1.out)))
 have X1b := hid (blk_below X1.out E2.out)
 have HZ := hid (show w.heap.size = z1 ∧ z2 = z1 + 1 ∧ W2.heap.size = z2 + 1 from ⟨hz1, by rw [← hz2, l1w.out], by rw [← hW2, ← hz2]; exact World.size_alloc _ _⟩)
 have hne : z2 ≠ z1 := by have := HZ.out.2.1; omega
 have hne2 : z1 ≠ z2 := by have := HZ.out.2.1; omega
 have CN := hid (show ∀ X, Below w.heap.size w X → Calls Tryz.prog 25 #[.slice Avp1 nvp1 cvp1] X (fun e w' => ∃ v', e = .returned v' ∧ NL w' (fun i => X.heap.size ≤ i) v' ps1 ∧ Below X.heap.size X w') from fun X hb => Clone_is ps1 (by omega) _ X (hs.p.below hb))
 have C9 := hid (show ∀ X, Below w.heap.size w X → Calls Tryz.prog 9 #[.slice Avd1 nvd1 cvd1] X (fun e w' => ∃ v', e = .returned v' ∧ SL w' (fun i => X.heap.size ≤ i) 2 v' (bare d1) ∧ Below X.heap.size X w') from fun X hb => H.c2 d1 (by omega) hw.2 X _ (hs.d.below hb))
 obtain ⟨⟨d0, d1⟩, _⟩ := cells2 X1b.out
 have SK := hid (show ∀ X : World, X.heap[z1]? = some (.cells #[.slice Avp1 nvp1 cvp1, .slice Avd1 nvd1 cvd1] 88) → X.cell? ⟨z1, 0, none⟩ = some (.slice Avp1 nvp1 cvp1) ∧ X.cell? ⟨z1, 1, none⟩ = some (.slice Avd1 nvd1 cvd1) from fun X h => by
  obtain ⟨⟨e0, e1⟩, _⟩ := cells2 h
  exact ⟨e0, e1⟩)
 have S9 := hid (SK.out W2.drew X1b.out)
 have W2D := hid W2B.out.drew
 have LS0 := hid (show W2.heap.size ≤ W2.drew.heap.size from Nat.le_refl _)
 have X1d := hid (show W2.drew.heap[z1]? = some (.cells #[.slice Avp1 nvp1 cvp1, .slice Avd1 nvd1 cvd1] 88) from X1b.out)
 have X2d := hid (show W2.drew.heap[z2]? = some (.cells #[.slice none 0 0, .slice none 0 0] 88) from X2.out)
 clear hs hsz hw hx hwd
 go_enter Tryz.func57, Tryz.ntmps57
 go_wp2
 go_region_held3 (fun X => X.cell? ⟨z1, 0, none⟩ = some (.slice Avp1 nvp1 cvp1) ∧ X.cell? ⟨z1, 1, none⟩ = some (.slice Avd1 nvd1 cvd1)) (first | (with_reducible exact S9.out) | (with_reducible exact S0.out) | (with_reducible exact S1.out) | (with_reducible exact SF.out)) (first | (go_at_call 25; (with_reducible refine (CN.out _ W2D.out).mono ?_); rintro e x0 ⟨vx, rfl, h1, hb⟩; obtain ⟨Ax, nx, cx, rfl, _⟩ := h1.view; have B0 := hid (W2D.out.trans (hb.mono (Below.size W2D.out))); have V0x := hid (And.intro LS0.out h1); have LS1 := hid (Nat.le_trans LS0.out (Below.size hb)); have U0 := hid (blk_below X1d.out hb); have Z0 := hid (blk_below X2d.out hb); have S0 := hid (SK.out _ U0.out); clear h1 hb) | (go_at_call 9; (with_reducible refine (C9.out _ B0.out).mono ?_); rintro e x1 ⟨vy, rfl, h1, hb⟩; obtain ⟨Ay, ny, cy, rfl, _⟩ := h1.view; have B1 := hid (B0.out.trans (hb.mono (Below.size B0.out))); have V1x := hid (And.intro V0x.out.1 (V0x.out.2.bel hb)); have V1y := hid (And.intro LS1.out h1); have LS2 := hid (Nat.le_trans LS1.out (Below.size hb)); have U1 := hid (blk_below U0.out hb); have Z1 := hid (blk_below Z0.out hb); have S1 := hid (SK.out _ U1.out); clear h1 hb; obtain ⟨⟨_q0, _q1⟩, ⟨_r0, _r1⟩⟩ := cells2 Z1.out; have SF := hid (SK.out ((x1.setCell ⟨z2, 0, none⟩ (.slice Ax nx cx)).setCell ⟨z2, 1, none⟩ (.slice Ay ny cy)) ((far2s _ _ hne2).trans U1.out))))
 go_wp2
 refine bodyPost_ret (v := .agg #[.slice Ax nx cx, .slice Ay ny cy]) (by simp [results, Tryz.results57, go_sem, _q0, _q1]) rfl ⟨_, _, rfl, ?_, ?_, ?_⟩
 ·exact NL.keep V1x.out.2 (fun i hi _ => far2s _ _ (zfar HZ.out (Nat.le_trans V1x.out.1 hi))) (by simp [World.setCell]) (fun i hi _ => zlow HZ.out (Nat.le_trans V1x.out.1 hi))
 ·exact SL.keep (fun i hi _ => far2s _ _ (zfar HZ.out (Nat.le_trans V1y.out.1 hi))) (by simp [World.setCell]) (fun i hi _ => zlow HZ.out (Nat.le_trans V1y.out.1 hi)) _ _ _ V1y.out.2
 ·have hz : w.heap.size ≤ z2 := by have := HZ.out; omega
  exact ((B1.out.setCell (p := ⟨z2, 0, none⟩) hz _).setCell (p := ⟨z2, 1, none⟩) hz _)
set_option maxRecDepth 100000 in
set_option maxHeartbeats 16000000 in
theorem bareEl2_is (m : Nat) (H : BareAll m) (x : T) (hx : x.sz ≤ m) (hwd : wide 100000 x) : BareEl2 x := by
 intro w k1 a1 vn1 vl1 vd1 ns1 l1 d1 hs
 have hsz := hs.t ▸ hx
 simp only [T.sz] at hsz
 have hw := hs.t ▸ hwd
 simp only [wide] at hw
 obtain ⟨Avn1, nvn1, cvn1, rfl, _⟩ := hs.n.view
 obtain ⟨Avl1, nvl1, cvl1, rfl, _⟩ := hs.l.view
 obtain ⟨Avd1, nvd1, cvd1, rfl, _⟩ := hs.d.view
 obtain ⟨z1, hz1⟩ : ∃ z1, w.heap.size = z1 := ⟨_, rfl⟩
 obtain ⟨W1, hW1⟩ : ∃ W1, w.alloc (.cells #[.int .i64 k1, .int .i64 a1, .slice Avn1 nvn1 cvn1, .slice Avl1 nvl1 cvl1, .slice Avd1 nvd1 cvd1] 34) = W1 := ⟨_, rfl⟩
 have X1 := hid (show W1.heap[z1]? = some (.cells #[.int .i64 k1, .int .i64 a1, .slice Avn1 nvn1 cvn1, .slice Avl1 nvl1 cvl1, .slice Avd1 nvd1 cvd1] 34) from by rw [← hW1, ← hz1]; exact heap_alloc_new _ _)
 have E1 := hid (show Below w.heap.size w W1 from by rw [← hW1]; exact alloc_old)
 have l1w := hid (show W1.heap.size = z1 + 1 from by rw [← hW1, ← hz1]; exact World.size_alloc _ _)
 obtain ⟨z2, hz2⟩ : ∃ z2, W1.heap.size = z2 := ⟨_, rfl⟩
 obtain ⟨W2, hW2⟩ : ∃ W2, W1.alloc (.cells #[.int .i64 0, .int .i64 0, .slice none 0 0, .slice none 0 0, .slice none 0 0] 34) = W2 := ⟨_, rfl⟩
 have X2 := hid (show W2.heap[z2]? = some (.cells #[.int .i64 0, .int .i64 0, .slice none 0 0, .slice none 0 0, .slice none 0 0] 34) from by rw [← hW2, ← hz2]; exact heap_alloc_new _ _)
 have E2 := hid (show Below W1.heap.size W1 W2 from by rw [← hW2]; exact alloc_old)
 have W2B := hid (E1.out.trans (E2.out.mono (Below.size E1.out)))
 have X1b := hid (blk_below X1.out E2.out)
 have HZ := hid (show w.heap.size = z1 ∧ z2 = z1 + 1 ∧ W2.heap.size = z2 + 1 from ⟨hz1, by rw [← hz2, l1w.out], by rw [← hW2, ← hz2]; exact World.size_alloc _ _⟩)
 have hne : z2 ≠ z1 := by have := HZ.out.2.1; omega
 have hne2 : z1 ≠ z2 := by have := HZ.out.2.1; omega
 have CN := hid (show ∀ X, Below w.heap.size w X → Calls Tryz.prog 25 #[.slice Avn1 nvn1 cvn1] X (fun e w' => ∃ v', e = .returned v' ∧ NL w' (fun i => X.heap.size ≤ i) v' ns1 ∧ Below X.heap.size X w') from fun X hb => Clone_is ns1 (by omega) _ X (hs.n.below hb))
 have C26 := hid (show ∀ X, Below w.heap.size w X → Calls Tryz.prog 26 #[.slice Avl1 nvl1 cvl1, .func (.func 27) #[] #[]] X (fun e w' => ∃ v', e = .returned v' ∧ SL w' (fun i => X.heap.size ≤ i) 0 v' (bare l1) ∧ Below X.heap.size X w') from fun X hb => H.c0 l1 (by omega) hw.2.1 X _ (hs.l.below hb))
 have C28 := hid (show ∀ X, Below w.heap.size w X → Calls Tryz.prog 28 #[.slice Avd1 nvd1 cvd1, .func (.func 9) #[] #[]] X (fun e w' => ∃ v', e = .returned v' ∧ SL w' (fun i => X.heap.size ≤ i) 3 v' (bare d1) ∧ Below X.heap.size X w') from fun X hb => H.c3 d1 (by omega) hw.2.2 X _ (hs.d.below hb))
 obtain ⟨⟨d0, d1, d2, d3, d4⟩, _⟩ := cells5 X1b.out
 have SK := hid (show ∀ X : World, X.heap[z1]? = some (.cells #[.int .i64 k1, .int .i64 a1, .slice Avn1 nvn1 cvn1, .slice Avl1 nvl1 cvl1, .slice Avd1 nvd1 cvd1] 34) → X.cell? ⟨z1, 0, none⟩ = some (.int .i64 k1) ∧ X.cell? ⟨z1, 2, none⟩ = some (.slice Avn1 nvn1 cvn1) ∧ X.cell? ⟨z1, 3, none⟩ = some (.slice Avl1 nvl1 cvl1) ∧ X.cell? ⟨z1, 4, none⟩ = some (.slice Avd1 nvd1 cvd1) from fun X h => by
  obtain ⟨⟨e0, e1, e2, e3, e4⟩, _⟩ := cells5 h
  exact ⟨e0, e2, e3, e4⟩)
 have S9 := hid (SK.out W2.drew X1b.out)
 have W2D := hid W2B.out.drew
 have LS0 := hid (show W2.heap.size ≤ W2.drew.heap.size from Nat.le_refl _)
 have X1d := hid (show W2.drew.heap[z1]? = some (.cells #[.int .i64 k1, .int .i64 a1, .slice Avn1 nvn1 cvn1, .slice Avl1 nvl1 cvl1, .slice Avd1 nvd1 cvd1] 34) from X1b.out)
 have X2d := hid (show W2.drew.heap[z2]? = some (.cells #[.int .i64 0, .int .i64 0, .slice none 0 0, .slice none 0 0, .slice none 0 0] 34) from X2.out)
 clear hs hsz hw hx hwd
 go_enter Tryz.func24, Tryz.ntmps24
 go_wp2
 go_region_held3 (fun X => X.cell? ⟨z1, 0, none⟩ = some (.int .i64 k1) ∧ X.cell? ⟨z1, 2, none⟩ = some (.slice Avn1 nvn1 cvn1) ∧ X.cell? ⟨z1, 3, none⟩ = some (.slice Avl1 nvl1 cvl1) ∧ X.cell? ⟨z1, 4, none⟩ = some (.slice Avd1 nvd1 cvd1)) (first | (with_reducible exact S9.out) | (with_reducible exact S0.out) | (with_reducible exact S1.out) | (with_reducible exact S2.out) | (with_reducible exact SF.out)) (first | (go_at_call 25; (with_reducible refine (CN.out _ W2D.out).mono ?_); rintro e x0 ⟨vx, rfl, h1, hb⟩; obtain ⟨Ax, nx, cx, rfl, _⟩ := h1.view; have B0 := hid (W2D.out.trans (hb.mono (Below.size W2D.out))); have V0x := hid (And.intro LS0.out h1); have LS1 := hid (Nat.le_trans LS0.out (Below.size hb)); have U0 := hid (blk_below X1d.out hb); have Z0 := hid (blk_below X2d.out hb); have S0 := hid (SK.out _ U0.out); clear h1 hb) | (go_at_call 26; (with_reducible refine (C26.out _ B0.out).mono ?_); rintro e x1 ⟨vy, rfl, h1, hb⟩; obtain ⟨Ay, ny, cy, rfl, _⟩ := h1.view; have B1 := hid (B0.out.trans (hb.mono (Below.size B0.out))); have V1x := hid (And.intro V0x.out.1 (V0x.out.2.bel hb)); have V1y := hid (And.intro LS1.out h1); have LS2 := hid (Nat.le_trans LS1.out (Below.size hb)); have U1 := hid (blk_below U0.out hb); have Z1 := hid (blk_below Z0.out hb); have S1 := hid (SK.out _ U1.out); clear h1 hb) | (go_at_call 28; (with_reducible refine (C28.out _ B1.out).mono ?_); rintro e x2 ⟨vz, rfl, h1, hb⟩; obtain ⟨Az, nz, cz, rfl, _⟩ := h1.view; have B2 := hid (B1.out.trans (hb.mono (Below.size B1.out))); have V2x := hid (And.intro V1x.out.1 (V1x.out.2.bel hb)); have V2y := hid (And.intro V1y.out.1 (V1y.out.2.bel hb)); have V2z := hid (And.intro LS2.out h1); have LS3 := hid (Nat.le_trans LS2.out (Below.size hb)); have U2 := hid (blk_below U1.out hb); have Z2 := hid (blk_below Z1.out hb); have S2 := hid (SK.out _ U2.out); clear h1 hb; obtain ⟨⟨_q0, _q1, _q2, _q3, _q4⟩, ⟨_r0, _r1, _r2, _r3, _r4⟩⟩ := cells5 Z2.out; have SF := hid (SK.out (((((x2.setCell ⟨z2, 0, none⟩ (.int .i64 k1)).setCell ⟨z2, 1, none⟩ (.int .i64 0)).setCell ⟨z2, 2, none⟩ (.slice Ax nx cx)).setCell ⟨z2, 3, none⟩ (.slice Ay ny cy)).setCell ⟨z2, 4, none⟩ (.slice Az nz cz)) ((far5s _ _ _ _ _ hne2).trans U2.out))))
 go_wp2
 refine bodyPost_ret (v := .agg #[.int .i64 k1, .int .i64 0, .slice Ax nx cx, .slice Ay ny cy, .slice Az nz cz]) (by simp [results, Tryz.results24, go_sem, _q0, _q1, _q2, _q3, _q4]) rfl ⟨_, _, _, rfl, ?_, ?_, ?_, ?_⟩
 ·exact NL.keep V2x.out.2 (fun i hi _ => far5s _ _ _ _ _ (zfar HZ.out (Nat.le_trans V2x.out.1 hi))) (by simp [World.setCell]) (fun i hi _ => zlow HZ.out (Nat.le_trans V2x.out.1 hi))
 ·exact SL.keep (fun i hi _ => far5s _ _ _ _ _ (zfar HZ.out (Nat.le_trans V2y.out.1 hi))) (by simp [World.setCell]) (fun i hi _ => zlow HZ.out (Nat.le_trans V2y.out.1 hi)) _ _ _ V2y.out.2
 ·exact SL.keep (fun i hi _ => far5s _ _ _ _ _ (zfar HZ.out (Nat.le_trans V2z.out.1 hi))) (by simp [World.setCell]) (fun i hi _ => zlow HZ.out (Nat.le_trans V2z.out.1 hi)) _ _ _ V2z.out.2
 ·have hz : w.heap.size ≤ z2 := by have := HZ.out; omega
  exact (((((B2.out.setCell (p := ⟨z2, 0, none⟩) hz _).setCell (p := ⟨z2, 1, none⟩) hz _).setCell (p := ⟨z2, 2, none⟩) hz _).setCell (p := ⟨z2, 3, none⟩) hz _).setCell (p := ⟨z2, 4, none⟩) hz _)
set_option maxRecDepth 100000 in
set_option maxHeartbeats 16000000 in
theorem Bare9 (t0 : T) (v : Value) (w : World) (h : SL w FT 2 v t0) (hwd : t0.len ≤ 100000) (HE : ∀ j, j < t0.len → BareEl2 (nth t0 j)) : Calls Tryz.prog 9 #[v] w fun e w' => ∃ v', e = .returned v' ∧ SL w' (fun i => w.heap.size ≤ i) 2 v' (bare t0) ∧ Below w.heap.size w w' := by
 obtain ⟨A, n, c, rfl, _⟩ := h.view
 have E := hid (Each2 t0 _ w h hwd HE)
 generalize bare t0 = r at E ⊢
 clear h HE hwd
 go_enter Tryz.func9, Tryz.ntmps9
 go_wp2_with (first | (go_at_call 23; (with_reducible refine (E.out).mono ?_); rintro e w1 ⟨v1, rfl, h1, h2⟩; obtain ⟨_, _, _, rfl, _⟩ := h1.view; have V1 := hid h1; have B1 := hid h2; clear h1 h2))
 go_ret
 exact ⟨_, rfl, V1.out, B1.out⟩
theorem bareAll : ∀ m, BareAll m
 | 0 => ⟨fun _ h => absurd h (Nat.not_lt_zero _), fun _ h => absurd h (Nat.not_lt_zero _), fun _ h => absurd h (Nat.not_lt_zero _), fun _ h => absurd h (Nat.not_lt_zero _)⟩
 | m + 1 => by
  have H := bareAll m
  have sz : ∀ {t : T} {j : Nat}, t.isList → j < t.len → t.sz < m + 1 → (nth t j).sz ≤ m := fun hl hj h => by have := T.sz_nth hl hj; omega
  have sz2 : ∀ {t : T} {j : Nat}, t.isList → j < t.len → t.sz < m + 1 → (nth t j).sz < m := fun hl hj h => by have := T.sz_nth hl hj; omega
  exact ⟨fun t h hw w v hv => Each0 t v w hv (wide_len hw hv.isList) (fun j hj => bareEl0_is m H _ (sz hv.isList hj h) (wide_nth hw hv.isList j hj)),
   fun t h hw w v hv => Each1 t v w hv (wide_len hw hv.isList) (fun j hj => bareEl1_is m H _ (sz hv.isList hj h) (wide_nth hw hv.isList j hj)),
   fun t h hw w v hv => Bare9 t v w hv (wide_len hw hv.isList) (fun j hj => bareEl2_is m H _ (sz hv.isList hj h) (wide_nth hw hv.isList j hj)),
   fun t h hw w v hv => Each3 t v w hv (wide_len hw hv.isList) (fun j hj X u hu => H.c2 _ (sz2 hv.isList hj h) (wide_nth hw hv.isList j hj) X u hu)⟩
theorem Bare_is (t : T) (hw : wide 100000 t) (v : Value) (w : World) (h : SL w FT 2 v t) : Calls Tryz.prog 9 #[v] w fun e w' => ∃ v', e = .returned v' ∧ SL w' (fun i => w.heap.size ≤ i) 2 v' (bare t) ∧ Below w.heap.size w w' := (bareAll (t.sz + 1)).c2 t (Nat.lt_succ_self _) hw w v h
end Go.Proofs.YtgkejkgailnbmaaGreatDoor
