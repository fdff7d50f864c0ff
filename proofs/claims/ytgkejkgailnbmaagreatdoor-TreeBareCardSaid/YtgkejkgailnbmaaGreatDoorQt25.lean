/- Texts joined: S9 -/
import Derived.Test.YtgkejkgailnbmaaGreatDoorQt24
set_option linter.unusedVariables false
set_option linter.unusedSimpArgs false
namespace Go.Proofs.YtgkejkgailnbmaaGreatDoor
open Lib (hid)
open Go.ChangeShapes Go.WideShapes Go.ChangeAt Go.RowKit TP
def BareEl0 (x : T) : Prop := ∀ (w : World) (k1 a1 n1 op1 : Int) (s1 : ByteArray) (vl1 vf1 : Value) (l1 f1 : T), ExR w FT x k1 a1 n1 op1 s1 vl1 vf1 l1 f1 → Calls Tryz.prog 27 #[.agg #[.int .i64 k1, .int .i64 a1, .int .i64 n1, .string s1, .int .i64 op1, vl1, vf1]] w fun e w' => ∃ vx vy, e = .returned (.agg #[.int .i64 k1, .int .i64 0, .int .i64 n1, .string s1, .int .i64 op1, vx, vy]) ∧ SL w' (fun i => w.heap.size ≤ i) 0 vx (bare l1) ∧ SL w' (fun i => w.heap.size ≤ i) 1 vy (bare f1) ∧ Below w.heap.size w w'
set_option maxRecDepth 100000 in
set_option maxHeartbeats 16000000 in
theorem Each0 (t0 : T) (v : Value) (w : World) (h : SL w FT 0 v t0) (hwd : t0.len ≤ 100000) (HE : ∀ j, j < t0.len → BareEl0 (nth t0 j)) : Calls Tryz.prog 26 #[v, .func (.func 27) #[] #[]] w fun e w' => ∃ v', e = .returned v' ∧ SL w' (fun i => w.heap.size ≤ i) 0 v' (bare t0) ∧ Below w.heap.size w w' := by
 have la := h.isList
 obtain ⟨A, n, c, rfl, hn, hm⟩ := h.view
 have HA := hid h
 have HN := hid hn
 have HM := hid hm
 have HL := hid la
 have HEE := hid HE
 have HWD := hid (show n ≤ 100000 by omega)
 clear hn hm la HE h hwd
 go_enter Tryz.func26, Tryz.ntmps26
 go_wp2
 go_loopw [5, 10] (fun ov iv wr => ∃ (j : Nat) (D : T) (A : Option Addr) (C : Nat), j ≤ n ∧ ov = .slice A j C ∧ iv = .int .i64 j ∧ Hid (Below w.heap.size w wr ∧ OF 0 38 wr w.heap.size (fun i => w.heap.size ≤ i) (.slice A j C) D ∧ D.len = j ∧ D.app (bare (t0.drop j)) = bare t0)) (fun _ iv _ => n - (intOf iv).toNat)
 case atStart => exact ⟨0, .nil, none, 0, Nat.zero_le _, rfl, rfl, hid ⟨Below.refl _ _, OF.nil _ _ _ _ _, rfl, by rw [T.drop_zero]; rfl⟩⟩
 case round =>
  obtain ⟨j, D, A, C, hj, rfl, rfl, HQ⟩ := hrel
  by_cases hlt : j < n
  ·have q0 : (j : Int) < (n : Int) := by omega
   have A1 := HA.out.below HQ.out.1
   obtain ⟨g1, k1, a1, n1, op1, s1, vl1, vf1, l1, f1, rfl, hs1, c01, c11, c21, c31, c41, c51, c61⟩ := A1.el0 HN.out hlt
   obtain ⟨Avl1, nvl1, cvl1, rfl, _⟩ := hs1.l.view
   obtain ⟨Avf1, nvf1, cvf1, rfl, _⟩ := hs1.f.view
   obtain ⟨z1, hz1⟩ : ∃ z1, wr.heap.size = z1 := ⟨_, rfl⟩
   obtain ⟨W1, hW1⟩ : ∃ W1, wr.alloc (.cells #[.int .i64 k1, .int .i64 a1, .int .i64 n1, .string s1, .int .i64 op1, .slice Avl1 nvl1 cvl1, .slice Avf1 nvf1 cvf1] 38) = W1 := ⟨_, rfl⟩
   have X1 := hid (show W1.heap[z1]? = some (.cells #[.int .i64 k1, .int .i64 a1, .int .i64 n1, .string s1, .int .i64 op1, .slice Avl1 nvl1 cvl1, .slice Avf1 nvf1 cvf1] 38) from by rw [← hW1, ← hz1]; exact heap_alloc_new _ _)
   have E1 := hid (show Below wr.heap.size wr W1 from by rw [← hW1]; exact alloc_old)
   obtain ⟨⟨d01, d11, d21, d31, d41, d51, d61⟩, _⟩ := cells7 X1.out
   have HC := hid (HEE.out j (by rw [HN.out]; exact hlt) W1 k1 a1 n1 op1 s1 (.slice Avl1 nvl1 cvl1) (.slice Avf1 nvf1 cvf1) l1 f1 (hs1.below E1.out))
   have HT1 := hid hs1.t
   clear hs1 A1
   have HW := hid (wrap_succ hlt HM.out)
   go_wp2_with (first | (go_at_call 27; (with_reducible refine (HC.out).mono ?_); rintro e x2 ⟨vx, vy, rfl, h1, h2, hb⟩; obtain ⟨Avx, nvx, cvx, rfl, _⟩ := h1.view; obtain ⟨Avy, nvy, cvy, rfl, _⟩ := h2.view; have B2 := hid (E1.out.trans (hb.mono (Below.size E1.out))); have R2 := hid (And.intro (Below.size hb) (show EC x2 (fun i => W1.heap.size ≤ i) (.cons (.ex k1 0 n1 s1 op1 (bare l1) (bare f1)) .nil) 0 [.int .i64 k1, .int .i64 0, .int .i64 n1, .string s1, .int .i64 op1, .slice Avx nvx cvx, .slice Avy nvy cvy] from EC_ex.2 ⟨_, _, [], rfl, h1, h2, EC_nil.2 rfl⟩)); clear h1 h2 hb) | (at_builtin; have E3 := hid (alloc_old (w := x2) (o := .cells #[.int .i64 k1, .int .i64 0, .int .i64 n1, .string s1, .int .i64 op1, .slice Avx nvx cvx, .slice Avy nvy cvy] 38)); have B3 := hid (B2.out.trans (E3.out.mono (Below.size B2.out))); have O3 := hid (HQ.out.2.1.bel B3.out); have EC3 := hid (show EC (x2.alloc (.cells #[.int .i64 k1, .int .i64 0, .int .i64 n1, .string s1, .int .i64 op1, .slice Avx nvx cvx, .slice Avy nvy cvy] 38)) (fun i => w.heap.size ≤ i ∧ (Value.slice A j C).ownBlock ≠ some i) (.cons (.ex k1 0 n1 s1 op1 (bare l1) (bare f1)) .nil) 0 [.int .i64 k1, .int .i64 0, .int .i64 n1, .string s1, .int .i64 op1, .slice Avx nvx cvx, .slice Avy nvy cvy] from EC.keep (fun i _ hl => E3.out.block i hl) (Below.size E3.out) (fun i hi _ => ⟨Nat.le_trans (Below.size HQ.out.1) (Nat.le_trans (Below.size E1.out) hi), fun e => absurd (HQ.out.2.1.lt i e).2 (Nat.not_lt.2 (Nat.le_trans (Below.size E1.out) hi))⟩) _ _ _ R2.out.2); have hc3 := hid (show w.heap.size ≤ (x2.alloc (.cells #[.int .i64 k1, .int .i64 0, .int .i64 n1, .string s1, .int .i64 op1, .slice Avx nvx cvx, .slice Avy nvy cvy] 38)).heap.size from Nat.le_trans (Below.size HQ.out.1) (Below.size B3.out)); refine append_OF (x2.alloc (.cells #[.int .i64 k1, .int .i64 0, .int .i64 n1, .string s1, .int .i64 op1, .slice Avx nvx cvx, .slice Avy nvy cvy] 38)) rfl _ _ 0 38 31 96 _ rfl Tryz.underlying31 i38n rfl (by decide) (by decide) w.heap.size (fun i => w.heap.size ≤ i) (.slice A j C) D j HQ.out.2.2.1 rfl O3.out (.ex k1 0 n1 s1 op1 (bare l1) (bare f1)) [.int .i64 k1, .int .i64 0, .int .i64 n1, .string s1, .int .i64 op1, .slice Avx nvx cvx, .slice Avy nvy cvy] x2.heap.size rfl (heap_alloc_new x2 _) EC3.out (Nat.le_trans hj HWD.out) hc3.out hc3.out ?_; intro g cap w4 h1 h2 h3; have O4 := hid h1; have B4 := hid (O3.out.grownB (HQ.out.1.trans (B3.out.mono (Below.size HQ.out.1))) hc3.out h2); clear h1 h2 h3; refine Hid.out ?_))
   have HD := hid (show (D.snoc (.ex k1 0 n1 s1 op1 (bare l1) (bare f1))).app (bare (t0.drop (j + 1))) = bare t0 from by
    rw [T.app_snoc _ _ HQ.out.2.1.isList, ← HQ.out.2.2.2, T.drop_cons (t := t0) (j := j) HL.out (by rw [HN.out]; exact hlt), HT1.out]
    rfl)
   refine hid ?_
   go_wp2
   exact ⟨⟨j + 1, D.snoc (.ex k1 0 n1 s1 op1 (bare l1) (bare f1)), some ⟨g, 0, none⟩, cap, hlt, rfl, by rw [HW.out.2], hid ⟨B4.out, O4.out, by rw [len_snoc _ HQ.out.2.1.isList, HQ.out.2.2.1], HD.out⟩⟩, dec_lt hlt HW.out.2⟩
  ·have q0 : ¬ (j : Int) < (n : Int) := by omega
   have hD : D = bare t0 := by
    have hjn : j = n := by omega
    have e1 := T.drop_len HL.out
    rw [HN.out] at e1
    rw [← HQ.out.2.2.2, hjn, e1]
    exact (T.app_nil HQ.out.2.1.isList).symm
   have O5 := hid HQ.out.2.1.sl
   rw [hD] at O5
   clear hD
   go_wp2
   exact bodyPost_ret (v := .slice A j C) (by simp [results, Tryz.results26, go_sem]) rfl ⟨_, rfl, O5.out, HQ.out.1⟩
def BareEl1 (x : T) : Prop := ∀ (w : World) (vp1 vd1 : Value) (ps1 : List ByteArray) (d1 : T), FnR w FT x vp1 vd1 ps1 d1 → Calls Tryz.prog 57 #[.agg #[vp1, vd1]] w fun e w' => ∃ vx vy, e = .returned (.agg #[vx, vy]) ∧ NL w' (fun i => w.heap.size ≤ i) vx ps1 ∧ SL w' (fun i => w.heap.size ≤ i) 2 vy (bare d1) ∧ Below w.heap.size w w'
set_option maxRecDepth 100000 in
set_option maxHeartbeats 16000000 in
theorem Each1 (t0 : T) (v : Value) (w : World) (h : SL w FT 1 v t0) (hwd : t0.len ≤ 100000) (HE : ∀ j, j < t0.len → BareEl1 (nth t0 j)) : Calls Tryz.prog 56 #[v, .func (.func 57) #[] #[]] w fun e w' => ∃ v', e = .returned v' ∧ SL w' (fun i => w.heap.size ≤ i) 1 v' (bare t0) ∧ Below w.heap.size w w' := by
 have la := h.isList
 obtain ⟨A, n, c, rfl, hn, hm⟩ := h.view
 have HA := hid h
 have HN := hid hn
 have HM := hid hm
 have HL := hid la
 have HEE := hid HE
 have HWD := hid (show n ≤ 100000 by omega)
 clear hn hm la HE h hwd
 go_enter Tryz.func56, Tryz.ntmps56
 go_wp2
 go_loopw [5, 10] (fun ov iv wr => ∃ (j : Nat) (D : T) (A : Option Addr) (C : Nat), j ≤ n ∧ ov = .slice A j C ∧ iv = .int .i64 j ∧ Hid (Below w.heap.size w wr ∧ OF 1 88 wr w.heap.size (fun i => w.heap.size ≤ i) (.slice A j C) D ∧ D.len = j ∧ D.app (bare (t0.drop j)) = bare t0)) (fun _ iv _ => n - (intOf iv).toNat)
 case atStart => exact ⟨0, .nil, none, 0, Nat.zero_le _, rfl, rfl, hid ⟨Below.refl _ _, OF.nil _ _ _ _ _, rfl, by rw [T.drop_zero]; rfl⟩⟩
 case round =>
  obtain ⟨j, D, A, C, hj, rfl, rfl, HQ⟩ := hrel
  by_cases hlt : j < n
  ·have q0 : (j : Int) < (n : Int) := by omega
   have A1 := HA.out.below HQ.out.1
   obtain ⟨g1, vp1, vd1, ps1, d1, rfl, hs1, c01, c11⟩ := A1.el1 HN.out hlt
   obtain ⟨Avp1, nvp1, cvp1, rfl, _⟩ := hs1.p.view
   obtain ⟨Avd1, nvd1, cvd1, rfl, _⟩ := hs1.d.view
   obtain ⟨z1, hz1⟩ : ∃ z1, wr.heap.size = z1 := ⟨_, rfl⟩
   obtain ⟨W1, hW1⟩ : ∃ W1, wr.alloc (.cells #[.slice Avp1 nvp1 cvp1, .slice Avd1 nvd1 cvd1] 88) = W1 := ⟨_, rfl⟩
   have X1 := hid (show W1.heap[z1]? = some (.cells #[.slice Avp1 nvp1 cvp1, .slice Avd1 nvd1 cvd1] 88) from by rw [← hW1, ← hz1]; exact heap_alloc_new _ _)
   have E1 := hid (show Below wr.heap.size wr W1 from by rw [← hW1]; exact alloc_old)
   obtain ⟨⟨d01, d11⟩, _⟩ := cells2 X1.out
   have HC := hid (HEE.out j (by rw [HN.out]; exact hlt) W1 (.slice Avp1 nvp1 cvp1) (.slice Avd1 nvd1 cvd1) ps1 d1 (hs1.below E1.out))
   have HT1 := hid hs1.t
   clear hs1 A1
   have HW := hid (wrap_succ hlt HM.out)
   go_wp2_with (first | (go_at_call 57; (with_reducible refine (HC.out).mono ?_); rintro e x2 ⟨vx, vy, rfl, h1, h2, hb⟩; obtain ⟨Avx, nvx, cvx, rfl, _⟩ := h1.view; obtain ⟨Avy, nvy, cvy, rfl, _⟩ := h2.view; have B2 := hid (E1.out.trans (hb.mono (Below.size E1.out))); have R2 := hid (And.intro (Below.size hb) (show EC x2 (fun i => W1.heap.size ≤ i) (.cons (.fn ps1 (bare d1)) .nil) 1 [.slice Avx nvx cvx, .slice Avy nvy cvy] from EC_fn.2 ⟨_, _, [], rfl, h1, h2, EC_nil.2 rfl⟩)); clear h1 h2 hb) | (at_builtin; have E3 := hid (alloc_old (w := x2) (o := .cells #[.slice Avx nvx cvx, .slice Avy nvy cvy] 88)); have B3 := hid (B2.out.trans (E3.out.mono (Below.size B2.out))); have O3 := hid (HQ.out.2.1.bel B3.out); have EC3 := hid (show EC (x2.alloc (.cells #[.slice Avx nvx cvx, .slice Avy nvy cvy] 88)) (fun i => w.heap.size ≤ i ∧ (Value.slice A j C).ownBlock ≠ some i) (.cons (.fn ps1 (bare d1)) .nil) 1 [.slice Avx nvx cvx, .slice Avy nvy cvy] from EC.keep (fun i _ hl => E3.out.block i hl) (Below.size E3.out) (fun i hi _ => ⟨Nat.le_trans (Below.size HQ.out.1) (Nat.le_trans (Below.size E1.out) hi), fun e => absurd (HQ.out.2.1.lt i e).2 (Nat.not_lt.2 (Nat.le_trans (Below.size E1.out) hi))⟩) _ _ _ R2.out.2); have hc3 := hid (show w.heap.size ≤ (x2.alloc (.cells #[.slice Avx nvx cvx, .slice Avy nvy cvy] 88)).heap.size from Nat.le_trans (Below.size HQ.out.1) (Below.size B3.out)); refine append_OF (x2.alloc (.cells #[.slice Avx nvx cvx, .slice Avy nvy cvy] 88)) rfl _ _ 1 88 36 48 _ rfl Tryz.underlying36 i88n rfl (by decide) (by decide) w.heap.size (fun i => w.heap.size ≤ i) (.slice A j C) D j HQ.out.2.2.1 rfl O3.out (.fn ps1 (bare d1)) [.slice Avx nvx cvx, .slice Avy nvy cvy] x2.heap.size rfl (heap_alloc_new x2 _) EC3.out (Nat.le_trans hj HWD.out) hc3.out hc3.out ?_; intro g cap w4 h1 h2 h3; have O4 := hid h1; have B4 := hid (O3.out.grownB (HQ.out.1.trans (B3.out.mono (Below.size HQ.out.1))) hc3.out h2); clear h1 h2 h3; refine Hid.out ?_))
   have HD := hid (show (D.snoc (.fn ps1 (bare d1))).app (bare (t0.drop (j + 1))) = bare t0 from by
    rw [T.app_snoc _ _ HQ.out.2.1.isList, ← HQ.out.2.2.2, T.drop_cons (t := t0) (j := j) HL.out (by rw [HN.out]; exact hlt), HT1.out]
    rfl)
   refine hid ?_
   go_wp2
   exact ⟨⟨j + 1, D.snoc (.fn ps1 (bare d1)), some ⟨g, 0, none⟩, cap, hlt, rfl, by rw [HW.out.2], hid ⟨B4.out, O4.out, by rw [len_snoc _ HQ.out.2.1.isList, HQ.out.2.2.1], HD.out⟩⟩, dec_lt hlt HW.out.2⟩
  ·have q0 : ¬ (j : Int) < (n : Int) := by omega
   have hD : D = bare t0 := by
    have hjn : j = n := by omega
    have e1 := T.drop_len HL.out
    rw [HN.out] at e1
    rw [← HQ.out.2.2.2, hjn, e1]
    exact (T.app_nil HQ.out.2.1.isList).symm
   have O5 := hid HQ.out.2.1.sl
   rw [hD] at O5
   clear hD
   go_wp2
   exact bodyPost_ret (v := .slice A j C) (by simp [results, Tryz.results56, go_sem]) rfl ⟨_, rfl, O5.out, HQ.out.1⟩
def BareEl2 (x : T) : Prop := ∀ (w : World) (k1 a1 : Int) (vn1 vl1 vd1 : Value) (ns1 : List ByteArray) (l1 d1 : T), StR w FT x k1 a1 vn1 vl1 vd1 ns1 l1 d1 → Calls Tryz.prog 24 #[.agg #[.int .i64 k1, .int .i64 a1, vn1, vl1, vd1]] w fun e w' => ∃ vx vy vz, e = .returned (.agg #[.int .i64 k1, .int .i64 0, vx, vy, vz]) ∧ NL w' (fun i => w.heap.size ≤ i) vx ns1 ∧ SL w' (fun i => w.heap.size ≤ i) 0 vy (bare l1) ∧ SL w' (fun i => w.heap.size ≤ i) 3 vz (bare d1) ∧ Below w.heap.size w w'
set_option maxRecDepth 100000 in
set_option maxHeartbeats 16000000 in
theorem Each2 (t0 : T) (v : Value) (w : World) (h : SL w FT 2 v t0) (hwd : t0.len ≤ 100000) (HE : ∀ j, j < t0.len → BareEl2 (nth t0 j)) : Calls Tryz.prog 23 #[v, .func (.func 24) #[] #[]] w fun e w' => ∃ v', e = .returned v' ∧ SL w' (fun i => w.heap.size ≤ i) 2 v' (bare t0) ∧ Below w.heap.size w w' := by
 have la := h.isList
 obtain ⟨A, n, c, rfl, hn, hm⟩ := h.view
 have HA := hid h
 have HN := hid hn
 have HM := hid hm
 have HL := hid la
 have HEE := hid HE
 have HWD := hid (show n ≤ 100000 by omega)
 clear hn hm la HE h hwd
 go_enter Tryz.func23, Tryz.ntmps23
 go_wp2
 go_loopw [5, 10] (fun ov iv wr => ∃ (j : Nat) (D : T) (A : Option Addr) (C : Nat), j ≤ n ∧ ov = .slice A j C ∧ iv = .int .i64 j ∧ Hid (Below w.heap.size w wr ∧ OF 2 34 wr w.heap.size (fun i => w.heap.size ≤ i) (.slice A j C) D ∧ D.len = j ∧ D.app (bare (t0.drop j)) = bare t0)) (fun _ iv _ => n - (intOf iv).toNat)
 case atStart => exact ⟨0, .nil, none, 0, Nat.zero_le _, rfl, rfl, hid ⟨Below.refl _ _, OF.nil _ _ _ _ _, rfl, by rw [T.drop_zero]; rfl⟩⟩
 case round =>
  obtain ⟨j, D, A, C, hj, rfl, rfl, HQ⟩ := hrel
  by_cases hlt : j < n
  ·have q0 : (j : Int) < (n : Int) := by omega
   have A1 := HA.out.below HQ.out.1
   obtain ⟨g1, k1, a1, vn1, vl1, vd1, ns1, l1, d1, rfl, hs1, c01, c11, c21, c31, c41⟩ := A1.el2 HN.out hlt
   obtain ⟨Avn1, nvn1, cvn1, rfl, _⟩ := hs1.n.view
   obtain ⟨Avl1, nvl1, cvl1, rfl, _⟩ := hs1.l.view
   obtain ⟨Avd1, nvd1, cvd1, rfl, _⟩ := hs1.d.view
   obtain ⟨z1, hz1⟩ : ∃ z1, wr.heap.size = z1 := ⟨_, rfl⟩
   obtain ⟨W1, hW1⟩ : ∃ W1, wr.alloc (.cells #[.int .i64 k1, .int .i64 a1, .slice Avn1 nvn1 cvn1, .slice Avl1 nvl1 cvl1, .slice Avd1 nvd1 cvd1] 34) = W1 := ⟨_, rfl⟩
   have X1 := hid (show W1.heap[z1]? = some (.cells #[.int .i64 k1, .int .i64 a1, .slice Avn1 nvn1 cvn1, .slice Avl1 nvl1 cvl1, .slice Avd1 nvd1 cvd1] 34) from by rw [← hW1, ← hz1]; exact heap_alloc_new _ _)
   have E1 := hid (show Below wr.heap.size wr W1 from by rw [← hW1]; exact alloc_old)
   obtain ⟨⟨d01, d11, d21, d31, d41⟩, _⟩ := cells5 X1.out
   have HC := hid (HEE.out j (by rw [HN.out]; exact hlt) W1 k1 a1 (.slice Avn1 nvn1 cvn1) (.slice Avl1 nvl1 cvl1) (.slice Avd1 nvd1 cvd1) ns1 l1 d1 (hs1.below E1.out))
   have HT1 := hid hs1.t
   clear hs1 A1
   have HW := hid (wrap_succ hlt HM.out)
   go_wp2_with (first | (go_at_call 24; (with_reducible refine (HC.out).mono ?_); rintro e x2 ⟨vx, vy, vz, rfl, h1, h2, h3, hb⟩; obtain ⟨Avx, nvx, cvx, rfl, _⟩ := h1.view; obtain ⟨Avy, nvy, cvy, rfl, _⟩ := h2.view; obtain ⟨Avz, nvz, cvz, rfl, _⟩ := h3.view; have B2 := hid (E1.out.trans (hb.mono (Below.size E1.out))); have R2 := hid (And.intro (Below.size hb) (show EC x2 (fun i => W1.heap.size ≤ i) (.cons (.st k1 0 ns1 (bare l1) (bare d1)) .nil) 2 [.int .i64 k1, .int .i64 0, .slice Avx nvx cvx, .slice Avy nvy cvy, .slice Avz nvz cvz] from EC_st.2 ⟨_, _, _, [], rfl, h1, h2, h3, EC_nil.2 rfl⟩)); clear h1 h2 h3 hb) | (at_builtin; have E3 := hid (alloc_old (w := x2) (o := .cells #[.int .i64 k1, .int .i64 0, .slice Avx nvx cvx, .slice Avy nvy cvy, .slice Avz nvz cvz] 34)); have B3 := hid (B2.out.trans (E3.out.mono (Below.size B2.out))); have O3 := hid (HQ.out.2.1.bel B3.out); have EC3 := hid (show EC (x2.alloc (.cells #[.int .i64 k1, .int .i64 0, .slice Avx nvx cvx, .slice Avy nvy cvy, .slice Avz nvz cvz] 34)) (fun i => w.heap.size ≤ i ∧ (Value.slice A j C).ownBlock ≠ some i) (.cons (.st k1 0 ns1 (bare l1) (bare d1)) .nil) 2 [.int .i64 k1, .int .i64 0, .slice Avx nvx cvx, .slice Avy nvy cvy, .slice Avz nvz cvz] from EC.keep (fun i _ hl => E3.out.block i hl) (Below.size E3.out) (fun i hi _ => ⟨Nat.le_trans (Below.size HQ.out.1) (Nat.le_trans (Below.size E1.out) hi), fun e => absurd (HQ.out.2.1.lt i e).2 (Nat.not_lt.2 (Nat.le_trans (Below.size E1.out) hi))⟩) _ _ _ R2.out.2); have hc3 := hid (show w.heap.size ≤ (x2.alloc (.cells #[.int .i64 k1, .int .i64 0, .slice Avx nvx cvx, .slice Avy nvy cvy, .slice Avz nvz cvz] 34)).heap.size from Nat.le_trans (Below.size HQ.out.1) (Below.size B3.out)); refine append_OF (x2.alloc (.cells #[.int .i64 k1, .int .i64 0, .slice Avx nvx cvx, .slice Avy nvy cvy, .slice Avz nvz cvz] 34)) rfl _ _ 2 34 23 88 _ rfl Tryz.underlying23 i34n rfl (by decide) (by decide) w.heap.size (fun i => w.heap.size ≤ i) (.slice A j C) D j HQ.out.2.2.1 rfl O3.out (.st k1 0 ns1 (bare l1) (bare d1)) [.int .i64 k1, .int .i64 0, .slice Avx nvx cvx, .slice Avy nvy cvy, .slice Avz nvz cvz] x2.heap.size rfl (heap_alloc_new x2 _) EC3.out (Nat.le_trans hj HWD.out) hc3.out hc3.out ?_; intro g cap w4 h1 h2 h3; have O4 := hid h1; have B4 := hid (O3.out.grownB (HQ.out.1.trans (B3.out.mono (Below.size HQ.out.1))) hc3.out h2); clear h1 h2 h3; refine Hid.out ?_))
   have HD := hid (show (D.snoc (.st k1 0 ns1 (bare l1) (bare d1))).app (bare (t0.drop (j + 1))) = bare t0 from by
    rw [T.app_snoc _ _ HQ.out.2.1.isList, ← HQ.out.2.2.2, T.drop_cons (t := t0) (j := j) HL.out (by rw [HN.out]; exact hlt), HT1.out]
    rfl)
   refine hid ?_
   go_wp2
   exact ⟨⟨j + 1, D.snoc (.st k1 0 ns1 (bare l1) (bare d1)), some ⟨g, 0, none⟩, cap, hlt, rfl, by rw [HW.out.2], hid ⟨B4.out, O4.out, by rw [len_snoc _ HQ.out.2.1.isList, HQ.out.2.2.1], HD.out⟩⟩, dec_lt hlt HW.out.2⟩
  ·have q0 : ¬ (j : Int) < (n : Int) := by omega
   have hD : D = bare t0 := by
    have hjn : j = n := by omega
    have e1 := T.drop_len HL.out
    rw [HN.out] at e1
    rw [← HQ.out.2.2.2, hjn, e1]
    exact (T.app_nil HQ.out.2.1.isList).symm
   have O5 := hid HQ.out.2.1.sl
   rw [hD] at O5
   clear hD
   go_wp2
   exact bodyPost_ret (v := .slice A j C) (by simp [results, Tryz.results23, go_sem]) rfl ⟨_, rfl, O5.out, HQ.out.1⟩
set_option maxRecDepth 100000 in
set_option maxHeartbeats 16000000 in
theorem Each3 (t0 : T) (v : Value) (w : World) (h : SL w FT 3 v t0) (hwd : t0.len ≤ 100000) (HE : ∀ j, j < t0.len → ∀ (X : World) (v : Value), SL X FT 2 v (nth t0 j) → Calls Tryz.prog 9 #[v] X fun e w' => ∃ v', e = .returned v' ∧ SL w' (fun i => X.heap.size ≤ i) 2 v' (bare (nth t0 j)) ∧ Below X.heap.size X w') : Calls Tryz.prog 28 #[v, .func (.func 9) #[] #[]] w fun e w' => ∃ v', e = .returned v' ∧ SL w' (fun i => w.heap.size ≤ i) 3 v' (bare t0) ∧ Below w.heap.size w w' := by
 have la := h.isList
 obtain ⟨A, n, c, rfl, hn, hm⟩ := h.view
 have HA := hid h
 have HN := hid hn
 have HM := hid hm
 have HL := hid la
 have HEE := hid HE
 have HWD := hid (show n ≤ 100000 by omega)
 clear hn hm la HE h hwd
 go_enter Tryz.func28, Tryz.ntmps28
 go_wp2
 go_loopw [5, 10] (fun ov iv wr => ∃ (j : Nat) (D : T) (A : Option Addr) (C : Nat), j ≤ n ∧ ov = .slice A j C ∧ iv = .int .i64 j ∧ Hid (Below w.heap.size w wr ∧ OF 3 23 wr w.heap.size (fun i => w.heap.size ≤ i) (.slice A j C) D ∧ D.len = j ∧ D.app (bare (t0.drop j)) = bare t0)) (fun _ iv _ => n - (intOf iv).toNat)
 case atStart => exact ⟨0, .nil, none, 0, Nat.zero_le _, rfl, rfl, hid ⟨Below.refl _ _, OF.nil _ _ _ _ _, rfl, by rw [T.drop_zero]; rfl⟩⟩
 case round =>
  obtain ⟨j, D, A, C, hj, rfl, rfl, HQ⟩ := hrel
  by_cases hlt : j < n
  ·have q0 : (j : Int) < (n : Int) := by omega
   have A1 := HA.out.below HQ.out.1
   obtain ⟨g1, v1, rfl, hs1, c01⟩ := A1.el3 HN.out hlt
   obtain ⟨Av1, nv1, cv1, rfl, _⟩ := hs1.view
   have HC := hid (HEE.out j (by rw [HN.out]; exact hlt) wr _ hs1.wide)
   clear hs1 A1
   have HW := hid (wrap_succ hlt HM.out)
   go_wp2_with (first | (go_at_call 9; (with_reducible refine (HC.out).mono ?_); rintro e x2 ⟨vx, rfl, h1, hb⟩; obtain ⟨Avx, nvx, cvx, rfl, _⟩ := h1.view; have B2 := hid hb; have R2 := hid (And.intro (Below.size hb) (show EC x2 (fun i => wr.heap.size ≤ i) (.cons (bare (nth t0 j)) .nil) 3 [.slice Avx nvx cvx] from EC_bl.2 ⟨_, [], rfl, h1, EC_nil.2 rfl⟩)); clear h1 hb) | (at_builtin; have E3 := hid (alloc_old (w := x2) (o := .cells #[.slice Avx nvx cvx] 23)); have B3 := hid (B2.out.trans (E3.out.mono (Below.size B2.out))); have O3 := hid (HQ.out.2.1.bel B3.out); have EC3 := hid (show EC (x2.alloc (.cells #[.slice Avx nvx cvx] 23)) (fun i => w.heap.size ≤ i ∧ (Value.slice A j C).ownBlock ≠ some i) (.cons (bare (nth t0 j)) .nil) 3 [.slice Avx nvx cvx] from EC.keep (fun i _ hl => E3.out.block i hl) (Below.size E3.out) (fun i hi _ => ⟨Nat.le_trans (Below.size HQ.out.1) (Nat.le_trans (Nat.le_refl _) hi), fun e => absurd (HQ.out.2.1.lt i e).2 (Nat.not_lt.2 (Nat.le_trans (Nat.le_refl _) hi))⟩) _ _ _ R2.out.2); have hc3 := hid (show w.heap.size ≤ (x2.alloc (.cells #[.slice Avx nvx cvx] 23)).heap.size from Nat.le_trans (Below.size HQ.out.1) (Below.size B3.out)); refine append_OF (x2.alloc (.cells #[.slice Avx nvx cvx] 23)) rfl _ _ 3 23 32 24 _ rfl Tryz.underlying32 i23n rfl (by decide) (by decide) w.heap.size (fun i => w.heap.size ≤ i) (.slice A j C) D j HQ.out.2.2.1 rfl O3.out (bare (nth t0 j)) [.slice Avx nvx cvx] x2.heap.size rfl (heap_alloc_new x2 _) EC3.out (Nat.le_trans hj HWD.out) hc3.out hc3.out ?_; intro g cap w4 h1 h2 h3; have O4 := hid h1; have B4 := hid (O3.out.grownB (HQ.out.1.trans (B3.out.mono (Below.size HQ.out.1))) hc3.out h2); clear h1 h2 h3; refine Hid.out ?_))
   have HD := hid (show (D.snoc (bare (nth t0 j))).app (bare (t0.drop (j + 1))) = bare t0 from by
    rw [T.app_snoc _ _ HQ.out.2.1.isList, ← HQ.out.2.2.2, T.drop_cons (t := t0) (j := j) HL.out (by rw [HN.out]; exact hlt)]
    rfl)
   refine hid ?_
   go_wp2
   exact ⟨⟨j + 1, D.snoc (bare (nth t0 j)), some ⟨g, 0, none⟩, cap, hlt, rfl, by rw [HW.out.2], hid ⟨B4.out, O4.out, by rw [len_snoc _ HQ.out.2.1.isList, HQ.out.2.2.1], HD.out⟩⟩, dec_lt hlt HW.out.2⟩
  ·have q0 : ¬ (j : Int) < (n : Int) := by omega
   have hD : D = bare t0 := by
    have hjn : j = n := by omega
    have e1 := T.drop_len HL.out
    rw [HN.out] at e1
    rw [← HQ.out.2.2.2, hjn, e1]
    exact (T.app_nil HQ.out.2.1.isList).symm
   have O5 := hid HQ.out.2.1.sl
   rw [hD] at O5
   clear hD
   go_wp2
   exact bodyPost_ret (v := .slice A j C) (by simp [results, Tryz.results28, go_sem]) rfl ⟨_, rfl, O5.out, HQ.out.1⟩
end Go.Proofs.YtgkejkgailnbmaaGreatDoor
