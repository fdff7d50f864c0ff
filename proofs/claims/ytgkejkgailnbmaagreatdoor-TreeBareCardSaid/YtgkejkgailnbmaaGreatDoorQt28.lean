/- Texts joined: SC -/
import Derived.Test.YtgkejkgailnbmaaGreatDoorQt27
set_option linter.unusedVariables false
set_option linter.unusedSimpArgs false
namespace TP
theorem wrap_add (a b : Int) : _root_.Go.RowKit.wrap64 (_root_.Go.RowKit.wrap64 a + _root_.Go.RowKit.wrap64 b) = _root_.Go.RowKit.wrap64 (a + b) := by
 unfold _root_.Go.RowKit.wrap64
 omega
def kids : T → Int
 | .cons h t => (count h - 1) + kids t
 | _ => 0
theorem kids_len : ∀ {t : T}, t.isList → count t = (t.len : Int) + kids t
 | .nil, _ => rfl
 | .cons h t, hl => by
  have := kids_len (t := t) hl
  simp only [count, kids, T.len, this]
  push_cast
  omega
 | .ex _ _ _ _ _ _ _, h => h.elim
 | .fn _ _, h => h.elim
 | .st _ _ _ _ _, h => h.elim
theorem deep_fn (w : Int → Int) (ps : List ByteArray) (b : T) : deep w false (.fn ps b) = deepB w b := by cases b <;> rfl
theorem deep_blk (w : Int → Int) (h t : T) : deep w true (.cons h t) = max (deepB w h) (deep w true t) := by cases h <;> rfl
theorem deep_nonneg (w : Int → Int) (b : Bool) : ∀ t : T, t.isList → 0 ≤ deep w b t
 | .nil, _ => by cases b <;> exact Int.le_refl 0
 | .cons h t, hl => by
  have := deep_nonneg w b t hl
  cases b with
  | false => exact Int.le_trans this (Int.le_max_right _ _)
  | true => rw [deep_blk]; exact Int.le_trans this (Int.le_max_right _ _)
 | .ex _ _ _ _ _ _ _, h => h.elim
 | .fn _ _, h => h.elim
 | .st _ _ _ _ _, h => h.elim
def AccC (x rem tot : Int) : Prop := ∃ X, x = _root_.Go.RowKit.wrap64 X ∧ X + rem = tot
theorem AccC.step {x a rem tot : Int} (h : AccC x (a + rem) tot) : AccC (_root_.Go.RowKit.wrap64 (x + _root_.Go.RowKit.wrap64 a)) rem tot := by
 obtain ⟨X, rfl, h⟩ := h
 exact ⟨X + a, wrap_add _ _, by omega⟩
theorem AccC.assoc {x a b c tot : Int} (h : AccC x ((a + b) + c) tot) : AccC x (a + (b + c)) tot := by rw [← Int.add_assoc]; exact h
theorem AccC.zero {x rem tot : Int} (h : AccC x (0 + rem) tot) : AccC x rem tot := by rw [Int.zero_add] at h; exact h
theorem AccC.fin {x tot : Int} (h : AccC x 0 tot) : x = _root_.Go.RowKit.wrap64 tot := by
 obtain ⟨X, rfl, h⟩ := h
 rw [← h, Int.add_zero]
theorem AccC.start (n : Int) (hn : _root_.Go.RowKit.wrap64 n = n) (rem tot : Int) (h : n + rem = tot) : AccC n rem tot := ⟨n, hn.symm, h⟩
def AccM (x rem tot : Int) : Prop := 0 ≤ x ∧ max x rem = tot
theorem AccM.step {x a rem tot : Int} (h : AccM x (max a rem) tot) : AccM (if x < a then a else x) rem tot := ⟨by have := h.1; split <;> omega, by rw [← h.2]; split <;> omega⟩
theorem AccM.assoc {x a b c tot : Int} (h : AccM x (max (max a b) c) tot) : AccM x (max a (max b c)) tot := ⟨h.1, by rw [← h.2]; omega⟩
theorem AccM.zero {x rem tot : Int} (h : AccM x (max 0 rem) tot) : AccM x rem tot := ⟨h.1, by rw [← h.2]; have := h.1; omega⟩
theorem AccM.fin {x tot : Int} (h : AccM x 0 tot) : tot = x := by have := h.1; have := h.2; omega
theorem deepB_some (w : Int → Int) {t : T} (h : t ≠ .nil) : deepB w t = w (deep w false t + 1) := by cases t <;> first | exact absurd rfl h | rfl
theorem AccM.start {rem tot : Int} (h : max 0 rem = tot) : AccM 0 rem tot := ⟨Int.le_refl _, h⟩
end TP
namespace Go.Proofs.YtgkejkgailnbmaaGreatDoor
open Lib (hid)
open Go.ChangeShapes Go.WideShapes Go.ChangeAt Go.RowKit TP
theorem wrap_len {n : Nat} (h : n ≤ maxLen) : wrap64 (n : Int) = n := by
 unfold wrap64
 unfold maxLen at h
 omega
structure Allc (m : Nat) : Prop where
 e : ∀ t : T, t.sz < m → ∀ (w : World) (k1 a1 n1 op1 : Int) (s1 : ByteArray) (vl1 vf1 : Value) (l1 f1 : T), ExR w FT t k1 a1 n1 op1 s1 vl1 vf1 l1 f1 → Calls Tryz.prog 30 #[.agg #[.int .i64 k1, .int .i64 a1, .int .i64 n1, .string s1, .int .i64 op1, vl1, vf1]] w fun e w' => e = .returned (.int .i64 (wrap64 (count (t)))) ∧ Below w.heap.size w w'
 b : ∀ t : T, t.sz < m → ∀ w v, SL w FT 2 v t → Calls Tryz.prog 11 #[v] w fun e w' => e = .returned (.int .i64 (wrap64 (count (t)))) ∧ Below w.heap.size w w'
 rl : ∀ t : T, t.sz < m → ∀ w v, SL w FT 0 v t → Calls Tryz.prog 31 #[v] w fun e w' => e = .returned (.int .i64 (wrap64 (count (t)))) ∧ Below w.heap.size w w'
 rb : ∀ t : T, t.sz < m → ∀ w v, SL w FT 2 v t → Calls Tryz.prog 12 #[v] w fun e w' => e = .returned (.int .i64 (wrap64 (count (t)))) ∧ Below w.heap.size w w'
set_option maxRecDepth 100000 in
set_option maxHeartbeats 16000000 in
theorem exp30_is (m : Nat) (H : Allc m) (t : T) (hm : t.sz ≤ m) (w : World) (k1 a1 n1 op1 : Int) (s1 : ByteArray) (vl1 vf1 : Value) (l1 f1 : T) (hs : ExR w FT t k1 a1 n1 op1 s1 vl1 vf1 l1 f1) : Calls Tryz.prog 30 #[.agg #[.int .i64 k1, .int .i64 a1, .int .i64 n1, .string s1, .int .i64 op1, vl1, vf1]] w fun e w' => e = .returned (.int .i64 (wrap64 (count (t)))) ∧ Below w.heap.size w w' := by
 obtain ⟨Avl1, nvl1, cvl1, rfl, hl1, hl2⟩ := hs.l.view
 obtain ⟨Avf1, nvf1, cvf1, rfl, hf1, hf2⟩ := hs.f.view
 obtain ⟨R, hR⟩ : ∃ R, wrap64 (count (t)) = R := ⟨_, rfl⟩
 rw [hR]
 have HR := hid (show wrap64 (1 + count l1 + count f1) = R from by rw [← hR, hs.t]; rfl)
 have hsz : l1.sz + f1.sz + 1 ≤ m := by have := hm; rw [hs.t] at this; exact this
 have HSZ := hid hsz
 obtain ⟨z1, hz1⟩ : ∃ z, w.heap.size = z := ⟨_, rfl⟩
 obtain ⟨W1, hW1⟩ : ∃ W, w.alloc (.cells #[.int .i64 k1, .int .i64 a1, .int .i64 n1, .string s1, .int .i64 op1, .slice Avl1 nvl1 cvl1, .slice Avf1 nvf1 cvf1] 38) = W := ⟨_, rfl⟩
 have X1 := hid (show W1.heap[z1]? = some (.cells #[.int .i64 k1, .int .i64 a1, .int .i64 n1, .string s1, .int .i64 op1, .slice Avl1 nvl1 cvl1, .slice Avf1 nvf1 cvf1] 38) from by rw [← hW1, ← hz1]; exact heap_alloc_new _ _)
 have E1 := hid (show Below w.heap.size w W1 from by rw [← hW1]; exact alloc_old)
 obtain ⟨⟨d1_0, d1_1, d1_2, d1_3, d1_4, d1_5, d1_6⟩, _⟩ := cells7 X1.out
 have HL1 := hid (And.intro (hs.l.below E1.out) (And.intro hl1 hl2))
 have HF1 := hid (And.intro (hs.f.below E1.out) (And.intro hf1 hf2))
 clear hR hs hl1 hl2 hf1 hf2 hsz hm
 go_enter Tryz.func30, Tryz.ntmps30
 go_wp2
 go_loopw [3, 11] (fun av iv wr => ∃ (k : Nat) (x : Int), k ≤ nvl1 ∧ av = .int .i64 x ∧ iv = .int .i64 k ∧ Hid (Below W1.heap.size W1 wr ∧ AccC x (count (l1.drop k) + (count (f1))) (1 + count l1 + count f1))) (fun _ iv _ => nvl1 - (intOf iv).toNat)
 case atStart => exact ⟨0, _, Nat.zero_le _, rfl, rfl, hid ⟨Below.refl _ _, AccC.start 1 (by unfold wrap64; omega) _ _ (by simp [T.drop_zero]; omega)⟩⟩
 case round =>
  obtain ⟨k, x, hk, rfl, rfl, HK⟩ := hrel
  by_cases hlt : k < nvl1
  ·have q0 : (k : Int) < (nvl1 : Int) := by omega
   have A2 := HL1.out.1.below HK.out.1
   obtain ⟨g2, k2, a2, n2, op2, s2, vl2, vf2, l2, f2, rfl, hs2, c02, c12, c22, c32, c42, c52, c62⟩ := A2.el0 HL1.out.2.1 hlt
   obtain ⟨Avl2, nvl2, cvl2, rfl, _⟩ := hs2.l.view
   obtain ⟨Avf2, nvf2, cvf2, rfl, _⟩ := hs2.f.view
   obtain ⟨z2, hz2⟩ : ∃ z, wr.heap.size = z := ⟨_, rfl⟩
   obtain ⟨W2, hW2⟩ : ∃ W, wr.alloc (.cells #[.int .i64 k2, .int .i64 a2, .int .i64 n2, .string s2, .int .i64 op2, .slice Avl2 nvl2 cvl2, .slice Avf2 nvf2 cvf2] 38) = W := ⟨_, rfl⟩
   have X2 := hid (show W2.heap[z2]? = some (.cells #[.int .i64 k2, .int .i64 a2, .int .i64 n2, .string s2, .int .i64 op2, .slice Avl2 nvl2 cvl2, .slice Avf2 nvf2 cvf2] 38) from by rw [← hW2, ← hz2]; exact heap_alloc_new _ _)
   have E2 := hid (show Below wr.heap.size wr W2 from by rw [← hW2]; exact alloc_old)
   obtain ⟨⟨d2_0, d2_1, d2_2, d2_3, d2_4, d2_5, d2_6⟩, _⟩ := cells7 X2.out
   have HC := hid (H.e (nth l1 k) (by have := T.sz_nth HL1.out.1.isList (j := k) (by rw [HL1.out.2.1]; exact hlt); have := HSZ.out; omega) W2 k2 a2 n2 op2 s2 (.slice Avl2 nvl2 cvl2) (.slice Avf2 nvf2 cvf2) l2 f2 (hs2.below E2.out))
   obtain ⟨y, hy⟩ : ∃ y, wrap64 (count (nth l1 k)) = y := ⟨_, rfl⟩
   rw [hy] at HC
   have HA := hid (show AccC (wrap64 (x + y)) (count (l1.drop (k + 1)) + (count (f1))) (1 + count l1 + count f1) from by
    rw [← hy]
    refine AccC.step ?_
    have h := HK.out.2
    rw [T.drop_cons (t := l1) (j := k) HL1.out.1.isList (by rw [HL1.out.2.1]; exact hlt)] at h
    exact AccC.assoc h)
   have HW := hid (wrap_succ hlt HL1.out.2.2)
   clear A2 hs2 hy
   go_wp2_with (first | (go_at_call 30; (with_reducible refine (HC.out).mono ?_); rintro e x3 ⟨rfl, hb⟩; have B3 := hid (HK.out.1.trans ((E2.out.trans (hb.mono (Below.size E2.out))).mono (Below.size HK.out.1))); clear hb))
   exact ⟨⟨k + 1, _, hlt, rfl, by rw [HW.out.2], hid ⟨B3.out, HA.out⟩⟩, dec_lt hlt HW.out.2⟩
  ·have q0 : ¬ (k : Int) < (nvl1 : Int) := by omega
   have HA := hid (show AccC x (count (f1.drop 0)) (1 + count l1 + count f1) from by
    have h := HK.out.2
    have e1 := T.drop_len HL1.out.1.isList
    rw [HL1.out.2.1] at e1
    rw [show k = nvl1 by omega, e1] at h
    rw [T.drop_zero]
    exact AccC.zero h)
   have X1b := hid (blk_below X1.out HK.out.1)
   have BB := hid HK.out.1
   clear d1_0 d1_1 d1_2 d1_3 d1_4 d1_5 d1_6
   obtain ⟨⟨d1_0, d1_1, d1_2, d1_3, d1_4, d1_5, d1_6⟩, _⟩ := cells7 X1b.out
   go_wp2
   go_loopw [3, 23] (fun av iv wr => ∃ (k : Nat) (x : Int), k ≤ nvf1 ∧ av = .int .i64 x ∧ iv = .int .i64 k ∧ Hid (Below W1.heap.size W1 wr ∧ AccC x (count (f1.drop k)) (1 + count l1 + count f1))) (fun _ iv _ => nvf1 - (intOf iv).toNat)
   case atStart => exact ⟨0, _, Nat.zero_le _, rfl, rfl, hid ⟨BB.out, HA.out⟩⟩
   case round =>
    obtain ⟨k, x, hk, rfl, rfl, HK⟩ := hrel
    by_cases hlt : k < nvf1
    ·have q0 : (k : Int) < (nvf1 : Int) := by omega
     have A2 := HF1.out.1.below HK.out.1
     obtain ⟨g2, vp2, vd2, ps2, d2, rfl, hs2, c02, c12⟩ := A2.el1 HF1.out.2.1 hlt
     obtain ⟨Avp2, nvp2, cvp2, rfl, _⟩ := hs2.p.view
     obtain ⟨Avd2, nvd2, cvd2, rfl, _⟩ := hs2.d.view
     obtain ⟨z2, hz2⟩ : ∃ z, wr.heap.size = z := ⟨_, rfl⟩
     obtain ⟨W2, hW2⟩ : ∃ W, wr.alloc (.cells #[.slice Avp2 nvp2 cvp2, .slice Avd2 nvd2 cvd2] 88) = W := ⟨_, rfl⟩
     have X2 := hid (show W2.heap[z2]? = some (.cells #[.slice Avp2 nvp2 cvp2, .slice Avd2 nvd2 cvd2] 88) from by rw [← hW2, ← hz2]; exact heap_alloc_new _ _)
     have E2 := hid (show Below wr.heap.size wr W2 from by rw [← hW2]; exact alloc_old)
     obtain ⟨⟨d2_0, d2_1⟩, _⟩ := cells2 X2.out
     have HC := hid (H.b d2 (by have h9 := T.sz_nth HF1.out.1.isList (j := k) (by rw [HF1.out.2.1]; exact hlt); rw [hs2.t] at h9; simp only [T.sz] at h9; have := HSZ.out; omega) W2 _ (hs2.d.below E2.out))
     obtain ⟨y, hy⟩ : ∃ y, wrap64 (count (d2)) = y := ⟨_, rfl⟩
     rw [hy] at HC
     have HA := hid (show AccC (wrap64 (x + y)) (count (f1.drop (k + 1))) (1 + count l1 + count f1) from by
      rw [← hy]
      refine AccC.step ?_
      have h := HK.out.2
      rw [T.drop_cons (t := f1) (j := k) HF1.out.1.isList (by rw [HF1.out.2.1]; exact hlt), hs2.t] at h
      exact h)
     have HW := hid (wrap_succ hlt HF1.out.2.2)
     clear A2 hs2 hy
     go_wp2_with (first | (go_at_call 11; (with_reducible refine (HC.out).mono ?_); rintro e x3 ⟨rfl, hb⟩; have B3 := hid (HK.out.1.trans ((E2.out.trans (hb.mono (Below.size E2.out))).mono (Below.size HK.out.1))); clear hb))
     exact ⟨⟨k + 1, _, hlt, rfl, by rw [HW.out.2], hid ⟨B3.out, HA.out⟩⟩, dec_lt hlt HW.out.2⟩
    ·have q0 : ¬ (k : Int) < (nvf1 : Int) := by omega
     have HV := hid (show x = R from by
      have h := HK.out.2
      have e1 := T.drop_len HF1.out.1.isList
      rw [HF1.out.2.1] at e1
      rw [show k = nvf1 by omega, e1] at h
      rw [← HR.out, AccC.fin h])
     have BE := hid (E1.out.trans (HK.out.1.mono (Below.size E1.out)))
     go_wp2
     exact bodyPost_ret (v := .int .i64 (x)) (by simp [results, Tryz.results30, go_sem]) rfl ⟨by rw [HV.out], by first | exact BE.out | (rw [← hz1]; exact BE.out)⟩
set_option maxRecDepth 100000 in
set_option maxHeartbeats 16000000 in
theorem blk11_is (m : Nat) (H : Allc m) (t0 : T) (v : Value) (w : World) (hm0 : t0.sz ≤ m) (h : SL w FT 2 v t0) : Calls Tryz.prog 11 #[v] w fun e w' => e = .returned (.int .i64 (wrap64 (count (t0)))) ∧ Below w.heap.size w w' := by
 have la := h.isList
 obtain ⟨A, n, c, rfl, hn, hm⟩ := h.view
 have HA0 := hid h
 have H0 := hid hm0
 clear hm0
 have HN := hid hn
 have HM := hid hm
 have HL := hid la
 obtain ⟨R, hR⟩ : ∃ R, wrap64 (count (t0)) = R := ⟨_, rfl⟩
 rw [hR]
 have HR := hid (show wrap64 (count t0) = R from hR)
 clear hR hn hm la h
 go_enter Tryz.func11, Tryz.ntmps11
 go_wp2
 go_loopw [3, 14] (fun av iv wr => ∃ (j : Nat) (x : Int), j ≤ n ∧ av = .int .i64 x ∧ iv = .int .i64 j ∧ Hid (Below w.heap.size w wr ∧ AccC x (kids (t0.drop j)) (count t0))) (fun _ iv _ => n - (intOf iv).toNat)
 case atStart => exact ⟨0, _, Nat.zero_le _, rfl, rfl, hid ⟨Below.refl _ _, AccC.start _ (wrap_len HM.out) _ _ (by rw [T.drop_zero]; have := kids_len HL.out; rw [HN.out] at this; omega)⟩⟩
 case round =>
  obtain ⟨j, x, hj, rfl, rfl, HQ⟩ := hrel
  obtain ⟨V0, rfl⟩ : ∃ V0, V0 = wr := ⟨_, rfl⟩
  by_cases hlt : j < n
  ·have q0 : (j : Int) < (n : Int) := by omega
   have A1 := HA0.out.below HQ.out.1
   obtain ⟨g1, k1, a1, vn1, vl1, vd1, ns1, l1, d1, rfl, hs1, c01, c11, c21, c31, c41⟩ := A1.el2 HN.out hlt
   obtain ⟨Avn1, nvn1, cvn1, rfl, _⟩ := hs1.n.view
   obtain ⟨Avl1, nvl1, cvl1, rfl, _⟩ := hs1.l.view
   obtain ⟨Avd1, nvd1, cvd1, rfl, _⟩ := hs1.d.view
   obtain ⟨z1, hz1⟩ : ∃ z, V0.heap.size = z := ⟨_, rfl⟩
   obtain ⟨W1, hW1⟩ : ∃ W, V0.alloc (.cells #[.int .i64 k1, .int .i64 a1, .slice Avn1 nvn1 cvn1, .slice Avl1 nvl1 cvl1, .slice Avd1 nvd1 cvd1] 34) = W := ⟨_, rfl⟩
   have X1 := hid (show W1.heap[z1]? = some (.cells #[.int .i64 k1, .int .i64 a1, .slice Avn1 nvn1 cvn1, .slice Avl1 nvl1 cvl1, .slice Avd1 nvd1 cvd1] 34) from by rw [← hW1, ← hz1]; exact heap_alloc_new _ _)
   have E1 := hid (show Below V0.heap.size V0 W1 from by rw [← hW1]; exact alloc_old)
   obtain ⟨⟨d1_0, d1_1, d1_2, d1_3, d1_4⟩, _⟩ := cells5 X1.out
   have HL1 := hid (And.intro (hs1.l.below E1.out) (by obtain ⟨_, _, _, e, h, h'⟩ := hs1.l.view; cases e; exact And.intro h h'))
   have HD1 := hid (And.intro (hs1.d.below E1.out) (by obtain ⟨_, _, _, e, h, h'⟩ := hs1.d.view; cases e; exact And.intro h h'))
   have HSZ := hid (show l1.sz + d1.sz + 1 ≤ m from by
    have h := Nat.le_trans (Nat.le_of_lt (T.sz_nth HL.out (by rw [HN.out]; exact hlt))) H0.out
    rw [hs1.t] at h
    exact h)
   have HA := hid (show AccC x (count (l1.drop 0) + (count (d1) + (kids (t0.drop (j + 1))))) (count t0) from by
    have h := HQ.out.2
    rw [T.drop_cons (t := t0) (j := j) HL.out (by rw [HN.out]; exact hlt), hs1.t] at h
    rw [T.drop_zero]
    exact (by simp only [kids, count] at h; show AccC _ (count l1 + (count d1 + kids (t0.drop (j + 1)))) _; rw [show count l1 + (count d1 + kids (t0.drop (j + 1))) = 1 + count l1 + count d1 - 1 + kids (t0.drop (j + 1)) by omega]; exact h))
   have HW := hid (wrap_succ hlt HM.out)
   clear A1 hs1
   go_wp2
   go_loopw [3, 21] (fun av iv wr => ∃ (k : Nat) (x : Int), k ≤ nvl1 ∧ av = .int .i64 x ∧ iv = .int .i64 k ∧ Hid (Below W1.heap.size W1 wr ∧ AccC x (count (l1.drop k) + (count (d1) + (kids (t0.drop (j + 1))))) (count t0))) (fun _ iv _ => nvl1 - (intOf iv).toNat)
   case atStart => exact ⟨0, _, Nat.zero_le _, rfl, rfl, hid ⟨Below.refl _ _, HA.out⟩⟩
   case round =>
    obtain ⟨k, x, hk, rfl, rfl, HK⟩ := hrel
    by_cases hlt2 : k < nvl1
    ·have q0 : (k : Int) < (nvl1 : Int) := by omega
     have A2 := HL1.out.1.below HK.out.1
     obtain ⟨g2, k2, a2, n2, op2, s2, vl2, vf2, l2, f2, rfl, hs2, c02, c12, c22, c32, c42, c52, c62⟩ := A2.el0 HL1.out.2.1 hlt2
     obtain ⟨Avl2, nvl2, cvl2, rfl, _⟩ := hs2.l.view
     obtain ⟨Avf2, nvf2, cvf2, rfl, _⟩ := hs2.f.view
     obtain ⟨z2, hz2⟩ : ∃ z, wr.heap.size = z := ⟨_, rfl⟩
     obtain ⟨W2, hW2⟩ : ∃ W, wr.alloc (.cells #[.int .i64 k2, .int .i64 a2, .int .i64 n2, .string s2, .int .i64 op2, .slice Avl2 nvl2 cvl2, .slice Avf2 nvf2 cvf2] 38) = W := ⟨_, rfl⟩
     have X2 := hid (show W2.heap[z2]? = some (.cells #[.int .i64 k2, .int .i64 a2, .int .i64 n2, .string s2, .int .i64 op2, .slice Avl2 nvl2 cvl2, .slice Avf2 nvf2 cvf2] 38) from by rw [← hW2, ← hz2]; exact heap_alloc_new _ _)
     have E2 := hid (show Below wr.heap.size wr W2 from by rw [← hW2]; exact alloc_old)
     obtain ⟨⟨d2_0, d2_1, d2_2, d2_3, d2_4, d2_5, d2_6⟩, _⟩ := cells7 X2.out
     have HC := hid (H.e (nth l1 k) (by have := T.sz_nth HL1.out.1.isList (j := k) (by rw [HL1.out.2.1]; exact hlt2); have := HSZ.out; omega) W2 k2 a2 n2 op2 s2 (.slice Avl2 nvl2 cvl2) (.slice Avf2 nvf2 cvf2) l2 f2 (hs2.below E2.out))
     obtain ⟨y, hy⟩ : ∃ y, wrap64 (count (nth l1 k)) = y := ⟨_, rfl⟩
     rw [hy] at HC
     have HA := hid (show AccC (wrap64 (x + y)) (count (l1.drop (k + 1)) + (count (d1) + (kids (t0.drop (j + 1))))) (count t0) from by
      rw [← hy]
      refine AccC.step ?_
      have h := HK.out.2
      rw [T.drop_cons (t := l1) (j := k) HL1.out.1.isList (by rw [HL1.out.2.1]; exact hlt2)] at h
      exact AccC.assoc h)
     have HW2 := hid (wrap_succ hlt2 HL1.out.2.2)
     clear A2 hs2 hy
     go_wp2_with (first | (go_at_call 30; (with_reducible refine (HC.out).mono ?_); rintro e x3 ⟨rfl, hb⟩; have B3 := hid (HK.out.1.trans ((E2.out.trans (hb.mono (Below.size E2.out))).mono (Below.size HK.out.1))); clear hb))
     exact ⟨⟨k + 1, _, hlt2, rfl, by rw [HW2.out.2], hid ⟨B3.out, HA.out⟩⟩, dec_lt hlt2 HW2.out.2⟩
    ·have q0 : ¬ (k : Int) < (nvl1 : Int) := by omega
     have HA := hid (show AccC x (count (d1.drop 0) + (kids (t0.drop (j + 1)))) (count t0) from by
      have h := HK.out.2
      have e1 := T.drop_len HL1.out.1.isList
      rw [HL1.out.2.1] at e1
      rw [show k = nvl1 by omega, e1] at h
      rw [T.drop_zero]
      exact AccC.zero h)
     have X1b := hid (blk_below X1.out HK.out.1)
     have BB := hid HK.out.1
     clear d1_0 d1_1 d1_2 d1_3 d1_4
     obtain ⟨⟨d1_0, d1_1, d1_2, d1_3, d1_4⟩, _⟩ := cells5 X1b.out
     go_wp2
     go_loopw [3, 33] (fun av iv wr => ∃ (k : Nat) (x : Int), k ≤ nvd1 ∧ av = .int .i64 x ∧ iv = .int .i64 k ∧ Hid (Below W1.heap.size W1 wr ∧ AccC x (count (d1.drop k) + (kids (t0.drop (j + 1)))) (count t0))) (fun _ iv _ => nvd1 - (intOf iv).toNat)
     case atStart => exact ⟨0, _, Nat.zero_le _, rfl, rfl, hid ⟨BB.out, HA.out⟩⟩
     case round =>
      obtain ⟨k, x, hk, rfl, rfl, HK⟩ := hrel
      by_cases hlt2 : k < nvd1
      ·have q0 : (k : Int) < (nvd1 : Int) := by omega
       have A2 := HD1.out.1.below HK.out.1
       obtain ⟨g3, v3, rfl, hs3, c03⟩ := A2.el3 HD1.out.2.1 hlt2
       obtain ⟨Av3, nv3, cv3, rfl, _⟩ := hs3.view
       have HC := hid (H.b (nth d1 k) (by have := T.sz_nth HD1.out.1.isList (j := k) (by rw [HD1.out.2.1]; exact hlt2); have := HSZ.out; omega) wr _ hs3)
       obtain ⟨y, hy⟩ : ∃ y, wrap64 (count (nth d1 k)) = y := ⟨_, rfl⟩
       rw [hy] at HC
       have HA := hid (show AccC (wrap64 (x + y)) (count (d1.drop (k + 1)) + (kids (t0.drop (j + 1)))) (count t0) from by
        rw [← hy]
        refine AccC.step ?_
        have h := HK.out.2
        rw [T.drop_cons (t := d1) (j := k) HD1.out.1.isList (by rw [HD1.out.2.1]; exact hlt2)] at h
        exact AccC.assoc h)
       have HW2 := hid (wrap_succ hlt2 HD1.out.2.2)
       clear A2 hs3 hy
       go_wp2_with (first | (go_at_call 11; (with_reducible refine (HC.out).mono ?_); rintro e x3 ⟨rfl, hb⟩; have B3 := hid (HK.out.1.trans (hb.mono (Below.size HK.out.1))); clear hb))
       exact ⟨⟨k + 1, _, hlt2, rfl, by rw [HW2.out.2], hid ⟨B3.out, HA.out⟩⟩, dec_lt hlt2 HW2.out.2⟩
      ·have q0 : ¬ (k : Int) < (nvd1 : Int) := by omega
       have HA := hid (show AccC x (kids (t0.drop (j + 1))) (count t0) from by
        have h := HK.out.2
        have e1 := T.drop_len HD1.out.1.isList
        rw [HD1.out.2.1] at e1
        rw [show k = nvd1 by omega, e1] at h
        exact AccC.zero h)
       have BE := hid (HQ.out.1.trans ((E1.out.trans (HK.out.1.mono (Below.size E1.out))).mono (Below.size HQ.out.1)))
       go_wp2
       exact ⟨⟨j + 1, _, hlt, rfl, by rw [HW.out.2], hid ⟨BE.out, HA.out⟩⟩, dec_lt hlt HW.out.2⟩
  ·have q0 : ¬ (j : Int) < (n : Int) := by omega
   have HV := hid (show x = R from by
    have h := HQ.out.2
    have e1 := T.drop_len HL.out
    rw [HN.out] at e1
    rw [show j = n by omega, e1] at h
    rw [← HR.out, AccC.fin h])
   go_wp2
   exact bodyPost_ret (v := .int .i64 (x)) (by simp [results, Tryz.results11, go_sem]) rfl ⟨by rw [HV.out], HQ.out.1⟩
set_option maxRecDepth 100000 in
set_option maxHeartbeats 16000000 in
theorem ref12_isc (m : Nat) (H : Allc m) (t0 : T) (v : Value) (w : World) (hm0 : t0.sz ≤ m) (h : SL w FT 2 v t0) : Calls Tryz.prog 12 #[v] w fun e w' => e = .returned (.int .i64 (wrap64 (count (t0)))) ∧ Below w.heap.size w w' := by
 have la := h.isList
 obtain ⟨A, n, c, rfl, hn, hm⟩ := h.view
 have HA0 := hid h
 have H0 := hid hm0
 clear hm0
 have HN := hid hn
 have HM := hid hm
 have HL := hid la
 obtain ⟨R, hR⟩ : ∃ R, wrap64 (count (t0)) = R := ⟨_, rfl⟩
 rw [hR]
 have HR := hid (show wrap64 (count t0) = R from hR)
 clear hR hn hm la h
 go_enter Tryz.func12, Tryz.ntmps12
 go_wp2
 go_loopw [3, 4] (fun av iv wr => ∃ (j : Nat) (x : Int), j ≤ n ∧ av = .int .i64 x ∧ iv = .int .i64 j ∧ Hid (Below w.heap.size w wr ∧ AccC x (kids (t0.drop j)) (count t0))) (fun _ iv _ => n - (intOf iv).toNat)
 case atStart => exact ⟨0, _, Nat.zero_le _, rfl, rfl, hid ⟨Below.refl _ _, AccC.start _ (wrap_len HM.out) _ _ (by rw [T.drop_zero]; have := kids_len HL.out; rw [HN.out] at this; omega)⟩⟩
 case round =>
  obtain ⟨j, x, hj, rfl, rfl, HQ⟩ := hrel
  obtain ⟨V0, rfl⟩ : ∃ V0, V0 = wr := ⟨_, rfl⟩
  by_cases hlt : j < n
  ·have q0 : (j : Int) < (n : Int) := by omega
   have A1 := HA0.out.below HQ.out.1
   obtain ⟨g1, k1, a1, vn1, vl1, vd1, ns1, l1, d1, rfl, hs1, c01, c11, c21, c31, c41⟩ := A1.el2 HN.out hlt
   obtain ⟨Avn1, nvn1, cvn1, rfl, _⟩ := hs1.n.view
   obtain ⟨Avl1, nvl1, cvl1, rfl, _⟩ := hs1.l.view
   obtain ⟨Avd1, nvd1, cvd1, rfl, _⟩ := hs1.d.view
   have HL1 := hid hs1.l.isList
   have HD1 := hid (And.intro hs1.d (by obtain ⟨_, _, _, e, h, h'⟩ := hs1.d.view; cases e; exact And.intro h h'))
   have HSZ := hid (show l1.sz + d1.sz + 1 ≤ m from by
    have h := Nat.le_trans (Nat.le_of_lt (T.sz_nth HL.out (by rw [HN.out]; exact hlt))) H0.out
    rw [hs1.t] at h
    exact h)
   have HCL := hid (H.rl l1 (by have := HSZ.out; omega) V0 _ hs1.l)
   obtain ⟨y1, hy1⟩ : ∃ y1, wrap64 (count (l1)) = y1 := ⟨_, rfl⟩
   rw [hy1] at HCL
   have HA := hid (show AccC (wrap64 (x + y1)) (count (d1.drop 0) + (kids (t0.drop (j + 1)))) (count t0) from by
    have h := HQ.out.2
    rw [T.drop_cons (t := t0) (j := j) HL.out (by rw [HN.out]; exact hlt), hs1.t] at h
    rw [T.drop_zero, ← hy1]
    refine AccC.step ?_
    exact (by simp only [kids, count] at h; show AccC _ (count l1 + (count d1 + kids (t0.drop (j + 1)))) _; rw [show count l1 + (count d1 + kids (t0.drop (j + 1))) = 1 + count l1 + count d1 - 1 + kids (t0.drop (j + 1)) by omega]; exact h))
   have HW := hid (wrap_succ hlt HM.out)
   have CF := hid c41
   clear A1 hs1 hy1
   go_wp2_with (first | (go_at_call 31; (with_reducible refine (HCL.out).mono ?_); rintro e x2 ⟨rfl, hb⟩; have B2 := hid hb; clear hb))
   clear c01 c11 c21 c31 c41
   go_loopw [3, 5] (fun av iv wr => ∃ (k : Nat) (x : Int), k ≤ nvd1 ∧ av = .int .i64 x ∧ iv = .int .i64 k ∧ Hid (Below V0.heap.size V0 wr ∧ AccC x (count (d1.drop k) + (kids (t0.drop (j + 1)))) (count t0))) (fun _ iv _ => nvd1 - (intOf iv).toNat)
   case atStart => exact ⟨0, _, Nat.zero_le _, rfl, rfl, hid ⟨B2.out, HA.out⟩⟩
   case round =>
    obtain ⟨k, x, hk, rfl, rfl, HK⟩ := hrel
    have cf := (World.cell?_of_block (HK.out.1.block _ (World.block_lt_of_cell? V0 _ CF.out))).trans CF.out
    by_cases hlt2 : k < nvd1
    ·have q0 : (k : Int) < (nvd1 : Int) := by omega
     have A2 := HD1.out.1.below HK.out.1
     obtain ⟨g3, v3, rfl, hs3, c03⟩ := A2.el3 HD1.out.2.1 hlt2
     obtain ⟨Av3, nv3, cv3, rfl, _⟩ := hs3.view
     have HC := hid (H.rb (nth d1 k) (by have := T.sz_nth HD1.out.1.isList (j := k) (by rw [HD1.out.2.1]; exact hlt2); have := HSZ.out; omega) wr _ hs3)
     obtain ⟨y, hy⟩ : ∃ y, wrap64 (count (nth d1 k)) = y := ⟨_, rfl⟩
     rw [hy] at HC
     have HA := hid (show AccC (wrap64 (x + y)) (count (d1.drop (k + 1)) + (kids (t0.drop (j + 1)))) (count t0) from by
      rw [← hy]
      refine AccC.step ?_
      have h := HK.out.2
      rw [T.drop_cons (t := d1) (j := k) HD1.out.1.isList (by rw [HD1.out.2.1]; exact hlt2)] at h
      exact AccC.assoc h)
     have HW2 := hid (wrap_succ hlt2 HD1.out.2.2)
     clear A2 hs3 hy
     go_wp2_with (first | (go_at_call 12; (with_reducible refine (HC.out).mono ?_); rintro e x3 ⟨rfl, hb⟩; have B3 := hid (HK.out.1.trans (hb.mono (Below.size HK.out.1))); clear hb))
     exact ⟨⟨k + 1, _, hlt2, rfl, by rw [HW2.out.2], hid ⟨B3.out, HA.out⟩⟩, dec_lt hlt2 HW2.out.2⟩
    ·have q0 : ¬ (k : Int) < (nvd1 : Int) := by omega
     have HA := hid (show AccC (x) (kids (t0.drop (j + 1))) (count t0) from by
      have h := HK.out.2
      have e1 := T.drop_len HD1.out.1.isList
      rw [HD1.out.2.1] at e1
      rw [show k = nvd1 by omega, e1] at h
      exact AccC.zero h)
     have BE := hid (HQ.out.1.trans (HK.out.1.mono (Below.size HQ.out.1)))
     go_wp2
     exact ⟨⟨j + 1, _, hlt, rfl, by rw [HW.out.2], hid ⟨BE.out, HA.out⟩⟩, dec_lt hlt HW.out.2⟩
  ·have q0 : ¬ (j : Int) < (n : Int) := by omega
   have HV := hid (show x = R from by
    have h := HQ.out.2
    have e1 := T.drop_len HL.out
    rw [HN.out] at e1
    rw [show j = n by omega, e1] at h
    rw [← HR.out, AccC.fin h])
   go_wp2
   exact bodyPost_ret (v := .int .i64 (x)) (by simp [results, Tryz.results12, go_sem]) rfl ⟨by rw [HV.out], HQ.out.1⟩
set_option maxRecDepth 100000 in
set_option maxHeartbeats 16000000 in
theorem ref31_isc (m : Nat) (H : Allc m) (t0 : T) (v : Value) (w : World) (hm0 : t0.sz ≤ m) (h : SL w FT 0 v t0) : Calls Tryz.prog 31 #[v] w fun e w' => e = .returned (.int .i64 (wrap64 (count (t0)))) ∧ Below w.heap.size w w' := by
 have la := h.isList
 obtain ⟨A, n, c, rfl, hn, hm⟩ := h.view
 have HA0 := hid h
 have H0 := hid hm0
 clear hm0
 have HN := hid hn
 have HM := hid hm
 have HL := hid la
 obtain ⟨R, hR⟩ : ∃ R, wrap64 (count (t0)) = R := ⟨_, rfl⟩
 rw [hR]
 have HR := hid (show wrap64 (count t0) = R from hR)
 clear hR hn hm la h
 go_enter Tryz.func31, Tryz.ntmps31
 go_wp2
 go_loopw [3, 4] (fun av iv wr => ∃ (j : Nat) (x : Int), j ≤ n ∧ av = .int .i64 x ∧ iv = .int .i64 j ∧ Hid (Below w.heap.size w wr ∧ AccC x (kids (t0.drop j)) (count t0))) (fun _ iv _ => n - (intOf iv).toNat)
 case atStart => exact ⟨0, _, Nat.zero_le _, rfl, rfl, hid ⟨Below.refl _ _, AccC.start _ (wrap_len HM.out) _ _ (by rw [T.drop_zero]; have := kids_len HL.out; rw [HN.out] at this; omega)⟩⟩
 case round =>
  obtain ⟨j, x, hj, rfl, rfl, HQ⟩ := hrel
  obtain ⟨V0, rfl⟩ : ∃ V0, V0 = wr := ⟨_, rfl⟩
  by_cases hlt : j < n
  ·have q0 : (j : Int) < (n : Int) := by omega
   have A1 := HA0.out.below HQ.out.1
   obtain ⟨g1, k1, a1, n1, op1, s1, vl1, vf1, l1, f1, rfl, hs1, c01, c11, c21, c31, c41, c51, c61⟩ := A1.el0 HN.out hlt
   obtain ⟨Avl1, nvl1, cvl1, rfl, _⟩ := hs1.l.view
   obtain ⟨Avf1, nvf1, cvf1, rfl, _⟩ := hs1.f.view
   have HL1 := hid hs1.l.isList
   have HD1 := hid (And.intro hs1.f (by obtain ⟨_, _, _, e, h, h'⟩ := hs1.f.view; cases e; exact And.intro h h'))
   have HSZ := hid (show l1.sz + f1.sz + 1 ≤ m from by
    have h := Nat.le_trans (Nat.le_of_lt (T.sz_nth HL.out (by rw [HN.out]; exact hlt))) H0.out
    rw [hs1.t] at h
    exact h)
   have HCL := hid (H.rl l1 (by have := HSZ.out; omega) V0 _ hs1.l)
   obtain ⟨y1, hy1⟩ : ∃ y1, wrap64 (count (l1)) = y1 := ⟨_, rfl⟩
   rw [hy1] at HCL
   have HA := hid (show AccC (wrap64 (x + y1)) (count (f1.drop 0) + (kids (t0.drop (j + 1)))) (count t0) from by
    have h := HQ.out.2
    rw [T.drop_cons (t := t0) (j := j) HL.out (by rw [HN.out]; exact hlt), hs1.t] at h
    rw [T.drop_zero, ← hy1]
    refine AccC.step ?_
    exact (by simp only [kids, count] at h; show AccC _ (count l1 + (count f1 + kids (t0.drop (j + 1)))) _; rw [show count l1 + (count f1 + kids (t0.drop (j + 1))) = 1 + count l1 + count f1 - 1 + kids (t0.drop (j + 1)) by omega]; exact h))
   have HW := hid (wrap_succ hlt HM.out)
   have CF := hid c61
   clear A1 hs1 hy1
   go_wp2_with (first | (go_at_call 31; (with_reducible refine (HCL.out).mono ?_); rintro e x2 ⟨rfl, hb⟩; have B2 := hid hb; clear hb))
   clear c01 c11 c21 c31 c41 c51 c61
   go_loopw [3, 5] (fun av iv wr => ∃ (k : Nat) (x : Int), k ≤ nvf1 ∧ av = .int .i64 x ∧ iv = .int .i64 k ∧ Hid (Below V0.heap.size V0 wr ∧ AccC x (count (f1.drop k) + (kids (t0.drop (j + 1)))) (count t0))) (fun _ iv _ => nvf1 - (intOf iv).toNat)
   case atStart => exact ⟨0, _, Nat.zero_le _, rfl, rfl, hid ⟨B2.out, HA.out⟩⟩
   case round =>
    obtain ⟨k, x, hk, rfl, rfl, HK⟩ := hrel
    have cf := (World.cell?_of_block (HK.out.1.block _ (World.block_lt_of_cell? V0 _ CF.out))).trans CF.out
    by_cases hlt2 : k < nvf1
    ·have q0 : (k : Int) < (nvf1 : Int) := by omega
     have A2 := HD1.out.1.below HK.out.1
     obtain ⟨g3, vp3, vd3, ps3, d3, rfl, hs3, c03, c13⟩ := A2.el1 HD1.out.2.1 hlt2
     obtain ⟨Av3, nv3, cv3, rfl, _⟩ := hs3.d.view
     have HC := hid (H.rb d3 (by have h9 := T.sz_nth HD1.out.1.isList (j := k) (by rw [HD1.out.2.1]; exact hlt2); rw [hs3.t] at h9; simp only [T.sz] at h9; have := HSZ.out; omega) wr _ hs3.d)
     obtain ⟨y, hy⟩ : ∃ y, wrap64 (count (d3)) = y := ⟨_, rfl⟩
     rw [hy] at HC
     have HA := hid (show AccC (wrap64 (x + y)) (count (f1.drop (k + 1)) + (kids (t0.drop (j + 1)))) (count t0) from by
      rw [← hy]
      refine AccC.step ?_
      have h := HK.out.2
      rw [T.drop_cons (t := f1) (j := k) HD1.out.1.isList (by rw [HD1.out.2.1]; exact hlt2), hs3.t] at h
      exact AccC.assoc h)
     have HW2 := hid (wrap_succ hlt2 HD1.out.2.2)
     clear A2 hs3 hy
     go_wp2_with (first | (go_at_call 12; (with_reducible refine (HC.out).mono ?_); rintro e x3 ⟨rfl, hb⟩; have B3 := hid (HK.out.1.trans (hb.mono (Below.size HK.out.1))); clear hb))
     exact ⟨⟨k + 1, _, hlt2, rfl, by rw [HW2.out.2], hid ⟨B3.out, HA.out⟩⟩, dec_lt hlt2 HW2.out.2⟩
    ·have q0 : ¬ (k : Int) < (nvf1 : Int) := by omega
     have HA := hid (show AccC (x) (kids (t0.drop (j + 1))) (count t0) from by
      have h := HK.out.2
      have e1 := T.drop_len HD1.out.1.isList
      rw [HD1.out.2.1] at e1
      rw [show k = nvf1 by omega, e1] at h
      exact AccC.zero h)
     have BE := hid (HQ.out.1.trans (HK.out.1.mono (Below.size HQ.out.1)))
     go_wp2
     exact ⟨⟨j + 1, _, hlt, rfl, by rw [HW.out.2], hid ⟨BE.out, HA.out⟩⟩, dec_lt hlt HW.out.2⟩
  ·have q0 : ¬ (j : Int) < (n : Int) := by omega
   have HV := hid (show x = R from by
    have h := HQ.out.2
    have e1 := T.drop_len HL.out
    rw [HN.out] at e1
    rw [show j = n by omega, e1] at h
    rw [← HR.out, AccC.fin h])
   go_wp2
   exact bodyPost_ret (v := .int .i64 (x)) (by simp [results, Tryz.results31, go_sem]) rfl ⟨by rw [HV.out], HQ.out.1⟩
theorem allc : ∀ m, Allc m
 | 0 => ⟨fun _ h => absurd h (Nat.not_lt_zero _), fun _ h => absurd h (Nat.not_lt_zero _), fun _ h => absurd h (Nat.not_lt_zero _), fun _ h => absurd h (Nat.not_lt_zero _)⟩
 | m + 1 => ⟨fun t h w k1 a1 n1 op1 s1 vl1 vf1 l1 f1 hs => exp30_is m (allc m) t (by omega) w k1 a1 n1 op1 s1 vl1 vf1 l1 f1 hs, fun t h w v hv => blk11_is m (allc m) t v w (by omega) hv, fun t h w v hv => ref31_isc m (allc m) t v w (by omega) hv, fun t h w v hv => ref12_isc m (allc m) t v w (by omega) hv⟩
structure Allm (m : Nat) : Prop where
 e : ∀ t : T, t.sz < m → ∀ (w : World) (k1 a1 n1 op1 : Int) (s1 : ByteArray) (vl1 vf1 : Value) (l1 f1 : T), ExR w FT t k1 a1 n1 op1 s1 vl1 vf1 l1 f1 → Calls Tryz.prog 32 #[.agg #[.int .i64 k1, .int .i64 a1, .int .i64 n1, .string s1, .int .i64 op1, vl1, vf1]] w fun e w' => e = .returned (.int .i64 (deep wrap64 false (t))) ∧ Below w.heap.size w w'
 b : ∀ t : T, t.sz < m → ∀ w v, SL w FT 2 v t → Calls Tryz.prog 13 #[v] w fun e w' => e = .returned (.int .i64 (deepB wrap64 (t))) ∧ Below w.heap.size w w'
 rl : ∀ t : T, t.sz < m → ∀ w v, SL w FT 0 v t → Calls Tryz.prog 33 #[v] w fun e w' => e = .returned (.int .i64 (deep wrap64 false (t))) ∧ Below w.heap.size w w'
 rb : ∀ t : T, t.sz < m → ∀ w v, SL w FT 2 v t → Calls Tryz.prog 14 #[v] w fun e w' => e = .returned (.int .i64 (deepB wrap64 (t))) ∧ Below w.heap.size w w'
set_option maxRecDepth 100000 in
set_option maxHeartbeats 16000000 in
theorem exp32_is (m : Nat) (H : Allm m) (t : T) (hm : t.sz ≤ m) (w : World) (k1 a1 n1 op1 : Int) (s1 : ByteArray) (vl1 vf1 : Value) (l1 f1 : T) (hs : ExR w FT t k1 a1 n1 op1 s1 vl1 vf1 l1 f1) : Calls Tryz.prog 32 #[.agg #[.int .i64 k1, .int .i64 a1, .int .i64 n1, .string s1, .int .i64 op1, vl1, vf1]] w fun e w' => e = .returned (.int .i64 (deep wrap64 false (t))) ∧ Below w.heap.size w w' := by
 obtain ⟨Avl1, nvl1, cvl1, rfl, hl1, hl2⟩ := hs.l.view
 obtain ⟨Avf1, nvf1, cvf1, rfl, hf1, hf2⟩ := hs.f.view
 obtain ⟨R, hR⟩ : ∃ R, deep wrap64 false (t) = R := ⟨_, rfl⟩
 rw [hR]
 have HR := hid (show wrap64 (max (deep wrap64 false l1) (deep wrap64 false f1) + 1) = R from by rw [← hR, hs.t]; rfl)
 have hsz : l1.sz + f1.sz + 1 ≤ m := by have := hm; rw [hs.t] at this; exact this
 have HSZ := hid hsz
 obtain ⟨z1, hz1⟩ : ∃ z, w.heap.size = z := ⟨_, rfl⟩
 obtain ⟨W1, hW1⟩ : ∃ W, w.alloc (.cells #[.int .i64 k1, .int .i64 a1, .int .i64 n1, .string s1, .int .i64 op1, .slice Avl1 nvl1 cvl1, .slice Avf1 nvf1 cvf1] 38) = W := ⟨_, rfl⟩
 have X1 := hid (show W1.heap[z1]? = some (.cells #[.int .i64 k1, .int .i64 a1, .int .i64 n1, .string s1, .int .i64 op1, .slice Avl1 nvl1 cvl1, .slice Avf1 nvf1 cvf1] 38) from by rw [← hW1, ← hz1]; exact heap_alloc_new _ _)
 have E1 := hid (show Below w.heap.size w W1 from by rw [← hW1]; exact alloc_old)
 obtain ⟨⟨d1_0, d1_1, d1_2, d1_3, d1_4, d1_5, d1_6⟩, _⟩ := cells7 X1.out
 have HL1 := hid (And.intro (hs.l.below E1.out) (And.intro hl1 hl2))
 have HF1 := hid (And.intro (hs.f.below E1.out) (And.intro hf1 hf2))
 clear hR hs hl1 hl2 hf1 hf2 hsz hm
 go_enter Tryz.func32, Tryz.ntmps32
 go_wp2
 go_loopw [3, 11] (fun av iv wr => ∃ (k : Nat) (x : Int), k ≤ nvl1 ∧ av = .int .i64 x ∧ iv = .int .i64 k ∧ Hid (Below W1.heap.size W1 wr ∧ AccM x (max (deep wrap64 false (l1.drop k)) (deep wrap64 false (f1))) (max (deep wrap64 false l1) (deep wrap64 false f1)))) (fun _ iv _ => nvl1 - (intOf iv).toNat)
 case atStart => exact ⟨0, _, Nat.zero_le _, rfl, rfl, hid ⟨Below.refl _ _, AccM.start (by rw [T.drop_zero]; exact Int.max_eq_right (Int.le_trans (deep_nonneg _ _ _ HL1.out.1.isList) (Int.le_max_left _ _)))⟩⟩
 case round =>
  obtain ⟨k, x, hk, rfl, rfl, HK⟩ := hrel
  by_cases hlt : k < nvl1
  ·have q0 : (k : Int) < (nvl1 : Int) := by omega
   have A2 := HL1.out.1.below HK.out.1
   obtain ⟨g2, k2, a2, n2, op2, s2, vl2, vf2, l2, f2, rfl, hs2, c02, c12, c22, c32, c42, c52, c62⟩ := A2.el0 HL1.out.2.1 hlt
   obtain ⟨Avl2, nvl2, cvl2, rfl, _⟩ := hs2.l.view
   obtain ⟨Avf2, nvf2, cvf2, rfl, _⟩ := hs2.f.view
   obtain ⟨z2, hz2⟩ : ∃ z, wr.heap.size = z := ⟨_, rfl⟩
   obtain ⟨W2, hW2⟩ : ∃ W, wr.alloc (.cells #[.int .i64 k2, .int .i64 a2, .int .i64 n2, .string s2, .int .i64 op2, .slice Avl2 nvl2 cvl2, .slice Avf2 nvf2 cvf2] 38) = W := ⟨_, rfl⟩
   have X2 := hid (show W2.heap[z2]? = some (.cells #[.int .i64 k2, .int .i64 a2, .int .i64 n2, .string s2, .int .i64 op2, .slice Avl2 nvl2 cvl2, .slice Avf2 nvf2 cvf2] 38) from by rw [← hW2, ← hz2]; exact heap_alloc_new _ _)
   have E2 := hid (show Below wr.heap.size wr W2 from by rw [← hW2]; exact alloc_old)
   obtain ⟨⟨d2_0, d2_1, d2_2, d2_3, d2_4, d2_5, d2_6⟩, _⟩ := cells7 X2.out
   have HC := hid (H.e (nth l1 k) (by have := T.sz_nth HL1.out.1.isList (j := k) (by rw [HL1.out.2.1]; exact hlt); have := HSZ.out; omega) W2 k2 a2 n2 op2 s2 (.slice Avl2 nvl2 cvl2) (.slice Avf2 nvf2 cvf2) l2 f2 (hs2.below E2.out))
   obtain ⟨y, hy⟩ : ∃ y, deep wrap64 false (nth l1 k) = y := ⟨_, rfl⟩
   rw [hy] at HC
   have HA := hid (show AccM (if x < y then y else x) (max (deep wrap64 false (l1.drop (k + 1))) (deep wrap64 false (f1))) (max (deep wrap64 false l1) (deep wrap64 false f1)) from by
    rw [← hy]
    refine AccM.step ?_
    have h := HK.out.2
    rw [T.drop_cons (t := l1) (j := k) HL1.out.1.isList (by rw [HL1.out.2.1]; exact hlt)] at h
    exact AccM.assoc h)
   have HW := hid (wrap_succ hlt HL1.out.2.2)
   clear A2 hs2 hy
   go_wp2_with (first | (go_at_call 32; (with_reducible refine (HC.out).mono ?_); rintro e x3 ⟨rfl, hb⟩; have B3 := hid (HK.out.1.trans ((E2.out.trans (hb.mono (Below.size E2.out))).mono (Below.size HK.out.1))); clear hb))
   exact ⟨⟨k + 1, _, hlt, rfl, by rw [HW.out.2], hid ⟨B3.out, HA.out⟩⟩, dec_lt hlt HW.out.2⟩
  ·have q0 : ¬ (k : Int) < (nvl1 : Int) := by omega
   have HA := hid (show AccM x (deep wrap64 false (f1.drop 0)) (max (deep wrap64 false l1) (deep wrap64 false f1)) from by
    have h := HK.out.2
    have e1 := T.drop_len HL1.out.1.isList
    rw [HL1.out.2.1] at e1
    rw [show k = nvl1 by omega, e1] at h
    rw [T.drop_zero]
    exact AccM.zero h)
   have X1b := hid (blk_below X1.out HK.out.1)
   have BB := hid HK.out.1
   clear d1_0 d1_1 d1_2 d1_3 d1_4 d1_5 d1_6
   obtain ⟨⟨d1_0, d1_1, d1_2, d1_3, d1_4, d1_5, d1_6⟩, _⟩ := cells7 X1b.out
   go_wp2
   go_loopw [3, 23] (fun av iv wr => ∃ (k : Nat) (x : Int), k ≤ nvf1 ∧ av = .int .i64 x ∧ iv = .int .i64 k ∧ Hid (Below W1.heap.size W1 wr ∧ AccM x (deep wrap64 false (f1.drop k)) (max (deep wrap64 false l1) (deep wrap64 false f1)))) (fun _ iv _ => nvf1 - (intOf iv).toNat)
   case atStart => exact ⟨0, _, Nat.zero_le _, rfl, rfl, hid ⟨BB.out, HA.out⟩⟩
   case round =>
    obtain ⟨k, x, hk, rfl, rfl, HK⟩ := hrel
    by_cases hlt : k < nvf1
    ·have q0 : (k : Int) < (nvf1 : Int) := by omega
     have A2 := HF1.out.1.below HK.out.1
     obtain ⟨g2, vp2, vd2, ps2, d2, rfl, hs2, c02, c12⟩ := A2.el1 HF1.out.2.1 hlt
     obtain ⟨Avp2, nvp2, cvp2, rfl, _⟩ := hs2.p.view
     obtain ⟨Avd2, nvd2, cvd2, rfl, _⟩ := hs2.d.view
     obtain ⟨z2, hz2⟩ : ∃ z, wr.heap.size = z := ⟨_, rfl⟩
     obtain ⟨W2, hW2⟩ : ∃ W, wr.alloc (.cells #[.slice Avp2 nvp2 cvp2, .slice Avd2 nvd2 cvd2] 88) = W := ⟨_, rfl⟩
     have X2 := hid (show W2.heap[z2]? = some (.cells #[.slice Avp2 nvp2 cvp2, .slice Avd2 nvd2 cvd2] 88) from by rw [← hW2, ← hz2]; exact heap_alloc_new _ _)
     have E2 := hid (show Below wr.heap.size wr W2 from by rw [← hW2]; exact alloc_old)
     obtain ⟨⟨d2_0, d2_1⟩, _⟩ := cells2 X2.out
     have HC := hid (H.b d2 (by have h9 := T.sz_nth HF1.out.1.isList (j := k) (by rw [HF1.out.2.1]; exact hlt); rw [hs2.t] at h9; simp only [T.sz] at h9; have := HSZ.out; omega) W2 _ (hs2.d.below E2.out))
     obtain ⟨y, hy⟩ : ∃ y, deepB wrap64 (d2) = y := ⟨_, rfl⟩
     rw [hy] at HC
     have HA := hid (show AccM (if x < y then y else x) (deep wrap64 false (f1.drop (k + 1))) (max (deep wrap64 false l1) (deep wrap64 false f1)) from by
      rw [← hy]
      refine AccM.step ?_
      have h := HK.out.2
      rw [T.drop_cons (t := f1) (j := k) HF1.out.1.isList (by rw [HF1.out.2.1]; exact hlt), hs2.t] at h
      rw [show deep wrap64 false (T.cons (T.fn ps2 d2) (f1.drop (k + 1))) = max (deepB wrap64 d2) (deep wrap64 false (f1.drop (k + 1))) from by rw [← deep_fn]; rfl] at h; exact h)
     have HW := hid (wrap_succ hlt HF1.out.2.2)
     clear A2 hs2 hy
     go_wp2_with (first | (go_at_call 13; (with_reducible refine (HC.out).mono ?_); rintro e x3 ⟨rfl, hb⟩; have B3 := hid (HK.out.1.trans ((E2.out.trans (hb.mono (Below.size E2.out))).mono (Below.size HK.out.1))); clear hb))
     exact ⟨⟨k + 1, _, hlt, rfl, by rw [HW.out.2], hid ⟨B3.out, HA.out⟩⟩, dec_lt hlt HW.out.2⟩
    ·have q0 : ¬ (k : Int) < (nvf1 : Int) := by omega
     have HV := hid (show wrap64 (x + 1) = R from by
      have h := HK.out.2
      have e1 := T.drop_len HF1.out.1.isList
      rw [HF1.out.2.1] at e1
      rw [show k = nvf1 by omega, e1] at h
      rw [← HR.out, AccM.fin h])
     have BE := hid (E1.out.trans (HK.out.1.mono (Below.size E1.out)))
     go_wp2
     exact bodyPost_ret (v := .int .i64 (wrap64 (x + 1))) (by simp [results, Tryz.results32, go_sem]) rfl ⟨by rw [HV.out], by first | exact BE.out | (rw [← hz1]; exact BE.out)⟩
set_option maxRecDepth 100000 in
set_option maxHeartbeats 16000000 in
theorem blk13_is (m : Nat) (H : Allm m) (t0 : T) (v : Value) (w : World) (hm0 : t0.sz ≤ m) (h : SL w FT 2 v t0) : Calls Tryz.prog 13 #[v] w fun e w' => e = .returned (.int .i64 (deepB wrap64 (t0))) ∧ Below w.heap.size w w' := by
 have la := h.isList
 obtain ⟨A, n, c, rfl, hn, hm⟩ := h.view
 have HA0 := hid h
 have H0 := hid hm0
 clear hm0
 by_cases hn0 : n = 0
 ·subst hn0
  obtain rfl : t0 = .nil := by
   cases t0 with
   | nil => rfl
   | cons _ _ => simp [T.len] at hn
   | _ => exact la.elim
  clear hn hm la h H0 H
  go_enter Tryz.func13, Tryz.ntmps13
  go_wp2
  go_ret
  exact ⟨rfl, Below.refl _ _⟩
 have hn0i : ¬ (n : Int) = 0 := by omega
 have hn0b : ((n : Int) == 0) = false := by simp; omega
 have HN := hid hn
 have HM := hid hm
 have HL := hid la
 obtain ⟨R, hR⟩ : ∃ R, deepB wrap64 (t0) = R := ⟨_, rfl⟩
 rw [hR]
 have HR := hid (show wrap64 (deep wrap64 false t0 + 1) = R from by rw [← hR]; exact (deepB_some _ (fun e => hn0 (by rw [← hn, e]; rfl))).symm)
 clear hR hn hm la h
 go_enter Tryz.func13, Tryz.ntmps13
 go_wp2
 go_loopw [3, 15] (fun av iv wr => ∃ (j : Nat) (x : Int), j ≤ n ∧ av = .int .i64 x ∧ iv = .int .i64 j ∧ Hid (Below w.heap.size w wr ∧ AccM x (deep wrap64 false (t0.drop j)) (deep wrap64 false t0))) (fun _ iv _ => n - (intOf iv).toNat)
 case atStart => exact ⟨0, _, Nat.zero_le _, rfl, rfl, hid ⟨Below.refl _ _, AccM.start (by rw [T.drop_zero]; exact Int.max_eq_right (deep_nonneg _ _ _ HL.out))⟩⟩
 case round =>
  obtain ⟨j, x, hj, rfl, rfl, HQ⟩ := hrel
  obtain ⟨V0, rfl⟩ : ∃ V0, V0 = wr := ⟨_, rfl⟩
  by_cases hlt : j < n
  ·have q0 : (j : Int) < (n : Int) := by omega
   have A1 := HA0.out.below HQ.out.1
   obtain ⟨g1, k1, a1, vn1, vl1, vd1, ns1, l1, d1, rfl, hs1, c01, c11, c21, c31, c41⟩ := A1.el2 HN.out hlt
   obtain ⟨Avn1, nvn1, cvn1, rfl, _⟩ := hs1.n.view
   obtain ⟨Avl1, nvl1, cvl1, rfl, _⟩ := hs1.l.view
   obtain ⟨Avd1, nvd1, cvd1, rfl, _⟩ := hs1.d.view
   obtain ⟨z1, hz1⟩ : ∃ z, V0.heap.size = z := ⟨_, rfl⟩
   obtain ⟨W1, hW1⟩ : ∃ W, V0.alloc (.cells #[.int .i64 k1, .int .i64 a1, .slice Avn1 nvn1 cvn1, .slice Avl1 nvl1 cvl1, .slice Avd1 nvd1 cvd1] 34) = W := ⟨_, rfl⟩
   have X1 := hid (show W1.heap[z1]? = some (.cells #[.int .i64 k1, .int .i64 a1, .slice Avn1 nvn1 cvn1, .slice Avl1 nvl1 cvl1, .slice Avd1 nvd1 cvd1] 34) from by rw [← hW1, ← hz1]; exact heap_alloc_new _ _)
   have E1 := hid (show Below V0.heap.size V0 W1 from by rw [← hW1]; exact alloc_old)
   obtain ⟨⟨d1_0, d1_1, d1_2, d1_3, d1_4⟩, _⟩ := cells5 X1.out
   have HL1 := hid (And.intro (hs1.l.below E1.out) (by obtain ⟨_, _, _, e, h, h'⟩ := hs1.l.view; cases e; exact And.intro h h'))
   have HD1 := hid (And.intro (hs1.d.below E1.out) (by obtain ⟨_, _, _, e, h, h'⟩ := hs1.d.view; cases e; exact And.intro h h'))
   have HSZ := hid (show l1.sz + d1.sz + 1 ≤ m from by
    have h := Nat.le_trans (Nat.le_of_lt (T.sz_nth HL.out (by rw [HN.out]; exact hlt))) H0.out
    rw [hs1.t] at h
    exact h)
   have HA := hid (show AccM x (max (deep wrap64 false (l1.drop 0)) (max (deep wrap64 true (d1)) (deep wrap64 false (t0.drop (j + 1))))) (deep wrap64 false t0) from by
    have h := HQ.out.2
    rw [T.drop_cons (t := t0) (j := j) HL.out (by rw [HN.out]; exact hlt), hs1.t] at h
    rw [T.drop_zero]
    exact (AccM.assoc h))
   have HW := hid (wrap_succ hlt HM.out)
   clear A1 hs1
   go_wp2
   go_loopw [3, 22] (fun av iv wr => ∃ (k : Nat) (x : Int), k ≤ nvl1 ∧ av = .int .i64 x ∧ iv = .int .i64 k ∧ Hid (Below W1.heap.size W1 wr ∧ AccM x (max (deep wrap64 false (l1.drop k)) (max (deep wrap64 true (d1)) (deep wrap64 false (t0.drop (j + 1))))) (deep wrap64 false t0))) (fun _ iv _ => nvl1 - (intOf iv).toNat)
   case atStart => exact ⟨0, _, Nat.zero_le _, rfl, rfl, hid ⟨Below.refl _ _, HA.out⟩⟩
   case round =>
    obtain ⟨k, x, hk, rfl, rfl, HK⟩ := hrel
    by_cases hlt2 : k < nvl1
    ·have q0 : (k : Int) < (nvl1 : Int) := by omega
     have A2 := HL1.out.1.below HK.out.1
     obtain ⟨g2, k2, a2, n2, op2, s2, vl2, vf2, l2, f2, rfl, hs2, c02, c12, c22, c32, c42, c52, c62⟩ := A2.el0 HL1.out.2.1 hlt2
     obtain ⟨Avl2, nvl2, cvl2, rfl, _⟩ := hs2.l.view
     obtain ⟨Avf2, nvf2, cvf2, rfl, _⟩ := hs2.f.view
     obtain ⟨z2, hz2⟩ : ∃ z, wr.heap.size = z := ⟨_, rfl⟩
     obtain ⟨W2, hW2⟩ : ∃ W, wr.alloc (.cells #[.int .i64 k2, .int .i64 a2, .int .i64 n2, .string s2, .int .i64 op2, .slice Avl2 nvl2 cvl2, .slice Avf2 nvf2 cvf2] 38) = W := ⟨_, rfl⟩
     have X2 := hid (show W2.heap[z2]? = some (.cells #[.int .i64 k2, .int .i64 a2, .int .i64 n2, .string s2, .int .i64 op2, .slice Avl2 nvl2 cvl2, .slice Avf2 nvf2 cvf2] 38) from by rw [← hW2, ← hz2]; exact heap_alloc_new _ _)
     have E2 := hid (show Below wr.heap.size wr W2 from by rw [← hW2]; exact alloc_old)
     obtain ⟨⟨d2_0, d2_1, d2_2, d2_3, d2_4, d2_5, d2_6⟩, _⟩ := cells7 X2.out
     have HC := hid (H.e (nth l1 k) (by have := T.sz_nth HL1.out.1.isList (j := k) (by rw [HL1.out.2.1]; exact hlt2); have := HSZ.out; omega) W2 k2 a2 n2 op2 s2 (.slice Avl2 nvl2 cvl2) (.slice Avf2 nvf2 cvf2) l2 f2 (hs2.below E2.out))
     obtain ⟨y, hy⟩ : ∃ y, deep wrap64 false (nth l1 k) = y := ⟨_, rfl⟩
     rw [hy] at HC
     have HA := hid (show AccM (if x < y then y else x) (max (deep wrap64 false (l1.drop (k + 1))) (max (deep wrap64 true (d1)) (deep wrap64 false (t0.drop (j + 1))))) (deep wrap64 false t0) from by
      rw [← hy]
      refine AccM.step ?_
      have h := HK.out.2
      rw [T.drop_cons (t := l1) (j := k) HL1.out.1.isList (by rw [HL1.out.2.1]; exact hlt2)] at h
      exact AccM.assoc h)
     have HW2 := hid (wrap_succ hlt2 HL1.out.2.2)
     clear A2 hs2 hy
     go_wp2_with (first | (go_at_call 32; (with_reducible refine (HC.out).mono ?_); rintro e x3 ⟨rfl, hb⟩; have B3 := hid (HK.out.1.trans ((E2.out.trans (hb.mono (Below.size E2.out))).mono (Below.size HK.out.1))); clear hb))
     exact ⟨⟨k + 1, _, hlt2, rfl, by rw [HW2.out.2], hid ⟨B3.out, HA.out⟩⟩, dec_lt hlt2 HW2.out.2⟩
    ·have q0 : ¬ (k : Int) < (nvl1 : Int) := by omega
     have HA := hid (show AccM x (max (deep wrap64 true (d1.drop 0)) (deep wrap64 false (t0.drop (j + 1)))) (deep wrap64 false t0) from by
      have h := HK.out.2
      have e1 := T.drop_len HL1.out.1.isList
      rw [HL1.out.2.1] at e1
      rw [show k = nvl1 by omega, e1] at h
      rw [T.drop_zero]
      exact AccM.zero h)
     have X1b := hid (blk_below X1.out HK.out.1)
     have BB := hid HK.out.1
     clear d1_0 d1_1 d1_2 d1_3 d1_4
     obtain ⟨⟨d1_0, d1_1, d1_2, d1_3, d1_4⟩, _⟩ := cells5 X1b.out
     go_wp2
     go_loopw [3, 34] (fun av iv wr => ∃ (k : Nat) (x : Int), k ≤ nvd1 ∧ av = .int .i64 x ∧ iv = .int .i64 k ∧ Hid (Below W1.heap.size W1 wr ∧ AccM x (max (deep wrap64 true (d1.drop k)) (deep wrap64 false (t0.drop (j + 1)))) (deep wrap64 false t0))) (fun _ iv _ => nvd1 - (intOf iv).toNat)
     case atStart => exact ⟨0, _, Nat.zero_le _, rfl, rfl, hid ⟨BB.out, HA.out⟩⟩
     case round =>
      obtain ⟨k, x, hk, rfl, rfl, HK⟩ := hrel
      by_cases hlt2 : k < nvd1
      ·have q0 : (k : Int) < (nvd1 : Int) := by omega
       have A2 := HD1.out.1.below HK.out.1
       obtain ⟨g3, v3, rfl, hs3, c03⟩ := A2.el3 HD1.out.2.1 hlt2
       obtain ⟨Av3, nv3, cv3, rfl, _⟩ := hs3.view
       have HC := hid (H.b (nth d1 k) (by have := T.sz_nth HD1.out.1.isList (j := k) (by rw [HD1.out.2.1]; exact hlt2); have := HSZ.out; omega) wr _ hs3)
       obtain ⟨y, hy⟩ : ∃ y, deepB wrap64 (nth d1 k) = y := ⟨_, rfl⟩
       rw [hy] at HC
       have HA := hid (show AccM (if x < y then y else x) (max (deep wrap64 true (d1.drop (k + 1))) (deep wrap64 false (t0.drop (j + 1)))) (deep wrap64 false t0) from by
        rw [← hy]
        refine AccM.step ?_
        have h := HK.out.2
        rw [T.drop_cons (t := d1) (j := k) HD1.out.1.isList (by rw [HD1.out.2.1]; exact hlt2), deep_blk] at h
        exact AccM.assoc h)
       have HW2 := hid (wrap_succ hlt2 HD1.out.2.2)
       clear A2 hs3 hy
       go_wp2_with (first | (go_at_call 13; (with_reducible refine (HC.out).mono ?_); rintro e x3 ⟨rfl, hb⟩; have B3 := hid (HK.out.1.trans (hb.mono (Below.size HK.out.1))); clear hb))
       exact ⟨⟨k + 1, _, hlt2, rfl, by rw [HW2.out.2], hid ⟨B3.out, HA.out⟩⟩, dec_lt hlt2 HW2.out.2⟩
      ·have q0 : ¬ (k : Int) < (nvd1 : Int) := by omega
       have HA := hid (show AccM x (deep wrap64 false (t0.drop (j + 1))) (deep wrap64 false t0) from by
        have h := HK.out.2
        have e1 := T.drop_len HD1.out.1.isList
        rw [HD1.out.2.1] at e1
        rw [show k = nvd1 by omega, e1] at h
        exact AccM.zero h)
       have BE := hid (HQ.out.1.trans ((E1.out.trans (HK.out.1.mono (Below.size E1.out))).mono (Below.size HQ.out.1)))
       go_wp2
       exact ⟨⟨j + 1, _, hlt, rfl, by rw [HW.out.2], hid ⟨BE.out, HA.out⟩⟩, dec_lt hlt HW.out.2⟩
  ·have q0 : ¬ (j : Int) < (n : Int) := by omega
   have HV := hid (show wrap64 (x + 1) = R from by
    have h := HQ.out.2
    have e1 := T.drop_len HL.out
    rw [HN.out] at e1
    rw [show j = n by omega, e1] at h
    rw [← HR.out, AccM.fin h])
   go_wp2
   exact bodyPost_ret (v := .int .i64 (wrap64 (x + 1))) (by simp [results, Tryz.results13, go_sem]) rfl ⟨by rw [HV.out], HQ.out.1⟩
set_option maxRecDepth 100000 in
set_option maxHeartbeats 16000000 in
theorem ref14_ism (m : Nat) (H : Allm m) (t0 : T) (v : Value) (w : World) (hm0 : t0.sz ≤ m) (h : SL w FT 2 v t0) : Calls Tryz.prog 14 #[v] w fun e w' => e = .returned (.int .i64 (deepB wrap64 (t0))) ∧ Below w.heap.size w w' := by
 have la := h.isList
 obtain ⟨A, n, c, rfl, hn, hm⟩ := h.view
 have HA0 := hid h
 have H0 := hid hm0
 clear hm0
 by_cases hn0 : n = 0
 ·subst hn0
  obtain rfl : t0 = .nil := by
   cases t0 with
   | nil => rfl
   | cons _ _ => simp [T.len] at hn
   | _ => exact la.elim
  clear hn hm la h H0 H
  go_enter Tryz.func14, Tryz.ntmps14
  go_wp2
  go_ret
  exact ⟨rfl, Below.refl _ _⟩
 have hn0i : ¬ (n : Int) = 0 := by omega
 have hn0b : ((n : Int) == 0) = false := by simp; omega
 have HN := hid hn
 have HM := hid hm
 have HL := hid la
 obtain ⟨R, hR⟩ : ∃ R, deepB wrap64 (t0) = R := ⟨_, rfl⟩
 rw [hR]
 have HR := hid (show wrap64 (deep wrap64 false t0 + 1) = R from by rw [← hR]; exact (deepB_some _ (fun e => hn0 (by rw [← hn, e]; rfl))).symm)
 clear hR hn hm la h
 go_enter Tryz.func14, Tryz.ntmps14
 go_wp2
 go_loopw [3, 4] (fun av iv wr => ∃ (j : Nat) (x : Int), j ≤ n ∧ av = .int .i64 x ∧ iv = .int .i64 j ∧ Hid (Below w.heap.size w wr ∧ AccM x (deep wrap64 false (t0.drop j)) (deep wrap64 false t0))) (fun _ iv _ => n - (intOf iv).toNat)
 case atStart => exact ⟨0, _, Nat.zero_le _, rfl, rfl, hid ⟨Below.refl _ _, AccM.start (by rw [T.drop_zero]; exact Int.max_eq_right (deep_nonneg _ _ _ HL.out))⟩⟩
 case round =>
  obtain ⟨j, x, hj, rfl, rfl, HQ⟩ := hrel
  obtain ⟨V0, rfl⟩ : ∃ V0, V0 = wr := ⟨_, rfl⟩
  by_cases hlt : j < n
  ·have q0 : (j : Int) < (n : Int) := by omega
   have A1 := HA0.out.below HQ.out.1
   obtain ⟨g1, k1, a1, vn1, vl1, vd1, ns1, l1, d1, rfl, hs1, c01, c11, c21, c31, c41⟩ := A1.el2 HN.out hlt
   obtain ⟨Avn1, nvn1, cvn1, rfl, _⟩ := hs1.n.view
   obtain ⟨Avl1, nvl1, cvl1, rfl, _⟩ := hs1.l.view
   obtain ⟨Avd1, nvd1, cvd1, rfl, _⟩ := hs1.d.view
   have HL1 := hid hs1.l.isList
   have HD1 := hid (And.intro hs1.d (by obtain ⟨_, _, _, e, h, h'⟩ := hs1.d.view; cases e; exact And.intro h h'))
   have HSZ := hid (show l1.sz + d1.sz + 1 ≤ m from by
    have h := Nat.le_trans (Nat.le_of_lt (T.sz_nth HL.out (by rw [HN.out]; exact hlt))) H0.out
    rw [hs1.t] at h
    exact h)
   have HCL := hid (H.rl l1 (by have := HSZ.out; omega) V0 _ hs1.l)
   obtain ⟨y1, hy1⟩ : ∃ y1, deep wrap64 false (l1) = y1 := ⟨_, rfl⟩
   rw [hy1] at HCL
   have HA := hid (show AccM (if x < y1 then y1 else x) (max (deep wrap64 true (d1.drop 0)) (deep wrap64 false (t0.drop (j + 1)))) (deep wrap64 false t0) from by
    have h := HQ.out.2
    rw [T.drop_cons (t := t0) (j := j) HL.out (by rw [HN.out]; exact hlt), hs1.t] at h
    rw [T.drop_zero, ← hy1]
    refine AccM.step ?_
    exact (AccM.assoc h))
   obtain ⟨x1, hx1⟩ : ∃ x1, (if x < y1 then y1 else x) = x1 := ⟨_, rfl⟩
   rw [hx1] at HA
   have HW := hid (wrap_succ hlt HM.out)
   have CF := hid c41
   clear A1 hs1 hy1
   go_wp2_with (first | (go_at_call 33; (with_reducible refine (HCL.out).mono ?_); rintro e x2 ⟨rfl, hb⟩; have B2 := hid hb; clear hb))
   clear c01 c11 c21 c31 c41
   go_loopw [3, 5] (fun av iv wr => ∃ (k : Nat) (x : Int), k ≤ nvd1 ∧ av = .int .i64 x ∧ iv = .int .i64 k ∧ Hid (Below V0.heap.size V0 wr ∧ AccM x (max (deep wrap64 true (d1.drop k)) (deep wrap64 false (t0.drop (j + 1)))) (deep wrap64 false t0))) (fun _ iv _ => nvd1 - (intOf iv).toNat)
   case atStart => exact ⟨0, _, Nat.zero_le _, rfl, rfl, hid ⟨B2.out, HA.out⟩⟩
   case round =>
    obtain ⟨k, x, hk, rfl, rfl, HK⟩ := hrel
    have cf := (World.cell?_of_block (HK.out.1.block _ (World.block_lt_of_cell? V0 _ CF.out))).trans CF.out
    by_cases hlt2 : k < nvd1
    ·have q0 : (k : Int) < (nvd1 : Int) := by omega
     have A2 := HD1.out.1.below HK.out.1
     obtain ⟨g3, v3, rfl, hs3, c03⟩ := A2.el3 HD1.out.2.1 hlt2
     obtain ⟨Av3, nv3, cv3, rfl, _⟩ := hs3.view
     have HC := hid (H.rb (nth d1 k) (by have := T.sz_nth HD1.out.1.isList (j := k) (by rw [HD1.out.2.1]; exact hlt2); have := HSZ.out; omega) wr _ hs3)
     obtain ⟨y, hy⟩ : ∃ y, deepB wrap64 (nth d1 k) = y := ⟨_, rfl⟩
     rw [hy] at HC
     have HA := hid (show AccM (if x < y then y else x) (max (deep wrap64 true (d1.drop (k + 1))) (deep wrap64 false (t0.drop (j + 1)))) (deep wrap64 false t0) from by
      rw [← hy]
      refine AccM.step ?_
      have h := HK.out.2
      rw [T.drop_cons (t := d1) (j := k) HD1.out.1.isList (by rw [HD1.out.2.1]; exact hlt2), deep_blk] at h
      exact AccM.assoc h)
     have HW2 := hid (wrap_succ hlt2 HD1.out.2.2)
     clear A2 hs3 hy
     go_wp2_with (first | (go_at_call 14; (with_reducible refine (HC.out).mono ?_); rintro e x3 ⟨rfl, hb⟩; have B3 := hid (HK.out.1.trans (hb.mono (Below.size HK.out.1))); clear hb))
     exact ⟨⟨k + 1, _, hlt2, rfl, by rw [HW2.out.2], hid ⟨B3.out, HA.out⟩⟩, dec_lt hlt2 HW2.out.2⟩
    ·have q0 : ¬ (k : Int) < (nvd1 : Int) := by omega
     have HA := hid (show AccM (x) (deep wrap64 false (t0.drop (j + 1))) (deep wrap64 false t0) from by
      have h := HK.out.2
      have e1 := T.drop_len HD1.out.1.isList
      rw [HD1.out.2.1] at e1
      rw [show k = nvd1 by omega, e1] at h
      exact AccM.zero h)
     have BE := hid (HQ.out.1.trans (HK.out.1.mono (Below.size HQ.out.1)))
     go_wp2
     exact ⟨⟨j + 1, _, hlt, rfl, by rw [HW.out.2], hid ⟨BE.out, HA.out⟩⟩, dec_lt hlt HW.out.2⟩
  ·have q0 : ¬ (j : Int) < (n : Int) := by omega
   have HV := hid (show wrap64 (x + 1) = R from by
    have h := HQ.out.2
    have e1 := T.drop_len HL.out
    rw [HN.out] at e1
    rw [show j = n by omega, e1] at h
    rw [← HR.out, AccM.fin h])
   go_wp2
   exact bodyPost_ret (v := .int .i64 (wrap64 (x + 1))) (by simp [results, Tryz.results14, go_sem]) rfl ⟨by rw [HV.out], HQ.out.1⟩
set_option maxRecDepth 100000 in
set_option maxHeartbeats 16000000 in
theorem ref33_ism (m : Nat) (H : Allm m) (t0 : T) (v : Value) (w : World) (hm0 : t0.sz ≤ m) (h : SL w FT 0 v t0) : Calls Tryz.prog 33 #[v] w fun e w' => e = .returned (.int .i64 (deep wrap64 false (t0))) ∧ Below w.heap.size w w' := by
 have la := h.isList
 obtain ⟨A, n, c, rfl, hn, hm⟩ := h.view
 have HA0 := hid h
 have H0 := hid hm0
 clear hm0
 have HN := hid hn
 have HM := hid hm
 have HL := hid la
 obtain ⟨R, hR⟩ : ∃ R, deep wrap64 false (t0) = R := ⟨_, rfl⟩
 rw [hR]
 have HR := hid (show deep wrap64 false t0 = R from hR)
 clear hR hn hm la h
 go_enter Tryz.func33, Tryz.ntmps33
 go_wp2
 go_loopw [3, 4] (fun av iv wr => ∃ (j : Nat) (xo : Int), j ≤ n ∧ av = .int .i64 xo ∧ iv = .int .i64 j ∧ Hid (Below w.heap.size w wr ∧ AccM xo (deep wrap64 false (t0.drop j)) (deep wrap64 false t0))) (fun _ iv _ => n - (intOf iv).toNat)
 case atStart => exact ⟨0, _, Nat.zero_le _, rfl, rfl, hid ⟨Below.refl _ _, AccM.start (by rw [T.drop_zero]; exact Int.max_eq_right (deep_nonneg _ _ _ HL.out))⟩⟩
 case round =>
  obtain ⟨j, xo, hj, rfl, rfl, HQ⟩ := hrel
  obtain ⟨V0, rfl⟩ : ∃ V0, V0 = wr := ⟨_, rfl⟩
  by_cases hlt : j < n
  ·have q0 : (j : Int) < (n : Int) := by omega
   have A1 := HA0.out.below HQ.out.1
   obtain ⟨g1, k1, a1, n1, op1, s1, vl1, vf1, l1, f1, rfl, hs1, c01, c11, c21, c31, c41, c51, c61⟩ := A1.el0 HN.out hlt
   obtain ⟨Avl1, nvl1, cvl1, rfl, _⟩ := hs1.l.view
   obtain ⟨Avf1, nvf1, cvf1, rfl, _⟩ := hs1.f.view
   have HL1 := hid hs1.l.isList
   have HD1 := hid (And.intro hs1.f (by obtain ⟨_, _, _, e, h, h'⟩ := hs1.f.view; cases e; exact And.intro h h'))
   have HSZ := hid (show l1.sz + f1.sz + 1 ≤ m from by
    have h := Nat.le_trans (Nat.le_of_lt (T.sz_nth HL.out (by rw [HN.out]; exact hlt))) H0.out
    rw [hs1.t] at h
    exact h)
   have HCL := hid (H.rl l1 (by have := HSZ.out; omega) V0 _ hs1.l)
   obtain ⟨y1, hy1⟩ : ∃ y1, deep wrap64 false (l1) = y1 := ⟨_, rfl⟩
   rw [hy1] at HCL
   have HAO := hid (show AccM xo (max (wrap64 (max (deep wrap64 false l1) (deep wrap64 false f1) + 1)) (deep wrap64 false (t0.drop (j + 1)))) (deep wrap64 false t0) from by
    have h := HQ.out.2
    rw [T.drop_cons (t := t0) (j := j) HL.out (by rw [HN.out]; exact hlt), hs1.t] at h
    exact h)
   have HA := hid (show AccM y1 (deep wrap64 false (f1.drop 0)) (max (deep wrap64 false l1) (deep wrap64 false f1)) from by
    rw [T.drop_zero]
    exact ⟨by rw [← hy1]; exact deep_nonneg _ _ _ HL1.out, by rw [← hy1]⟩)
   have HW := hid (wrap_succ hlt HM.out)
   have CF := hid c61
   clear A1 hs1 hy1
   go_wp2_with (first | (go_at_call 33; (with_reducible refine (HCL.out).mono ?_); rintro e x2 ⟨rfl, hb⟩; have B2 := hid hb; clear hb))
   clear c01 c11 c21 c31 c41 c51 c61
   go_loopw [5, 6] (fun av iv wr => ∃ (k : Nat) (x : Int), k ≤ nvf1 ∧ av = .int .i64 x ∧ iv = .int .i64 k ∧ Hid (Below V0.heap.size V0 wr ∧ AccM x (deep wrap64 false (f1.drop k)) (max (deep wrap64 false l1) (deep wrap64 false f1)))) (fun _ iv _ => nvf1 - (intOf iv).toNat)
   case atStart => exact ⟨0, _, Nat.zero_le _, rfl, rfl, hid ⟨B2.out, HA.out⟩⟩
   case round =>
    obtain ⟨k, x, hk, rfl, rfl, HK⟩ := hrel
    have cf := (World.cell?_of_block (HK.out.1.block _ (World.block_lt_of_cell? V0 _ CF.out))).trans CF.out
    by_cases hlt2 : k < nvf1
    ·have q0 : (k : Int) < (nvf1 : Int) := by omega
     have A2 := HD1.out.1.below HK.out.1
     obtain ⟨g3, vp3, vd3, ps3, d3, rfl, hs3, c03, c13⟩ := A2.el1 HD1.out.2.1 hlt2
     obtain ⟨Av3, nv3, cv3, rfl, _⟩ := hs3.d.view
     have HC := hid (H.rb d3 (by have h9 := T.sz_nth HD1.out.1.isList (j := k) (by rw [HD1.out.2.1]; exact hlt2); rw [hs3.t] at h9; simp only [T.sz] at h9; have := HSZ.out; omega) wr _ hs3.d)
     obtain ⟨y, hy⟩ : ∃ y, deepB wrap64 (d3) = y := ⟨_, rfl⟩
     rw [hy] at HC
     have HA := hid (show AccM (if x < y then y else x) (deep wrap64 false (f1.drop (k + 1))) (max (deep wrap64 false l1) (deep wrap64 false f1)) from by
      rw [← hy]
      refine AccM.step ?_
      have h := HK.out.2
      rw [T.drop_cons (t := f1) (j := k) HD1.out.1.isList (by rw [HD1.out.2.1]; exact hlt2), hs3.t] at h
      rw [show deep wrap64 false (T.cons (T.fn ps3 d3) (f1.drop (k + 1))) = max (deepB wrap64 d3) (deep wrap64 false (f1.drop (k + 1))) from by rw [← deep_fn]; rfl] at h
      exact h)
     have HW2 := hid (wrap_succ hlt2 HD1.out.2.2)
     clear A2 hs3 hy
     go_wp2_with (first | (go_at_call 14; (with_reducible refine (HC.out).mono ?_); rintro e x3 ⟨rfl, hb⟩; have B3 := hid (HK.out.1.trans (hb.mono (Below.size HK.out.1))); clear hb))
     exact ⟨⟨k + 1, _, hlt2, rfl, by rw [HW2.out.2], hid ⟨B3.out, HA.out⟩⟩, dec_lt hlt2 HW2.out.2⟩
    ·have q0 : ¬ (k : Int) < (nvf1 : Int) := by omega
     have HA := hid (show AccM (if xo < wrap64 (x + 1) then wrap64 (x + 1) else xo) (deep wrap64 false (t0.drop (j + 1))) (deep wrap64 false t0) from by
      have h := HK.out.2
      have e1 := T.drop_len HD1.out.1.isList
      rw [HD1.out.2.1] at e1
      rw [show k = nvf1 by omega, e1] at h
      rw [← AccM.fin h]; exact AccM.step HAO.out)
     have BE := hid (HQ.out.1.trans (HK.out.1.mono (Below.size HQ.out.1)))
     go_wp2
     exact ⟨⟨j + 1, _, hlt, rfl, by rw [HW.out.2], hid ⟨BE.out, HA.out⟩⟩, dec_lt hlt HW.out.2⟩
  ·have q0 : ¬ (j : Int) < (n : Int) := by omega
   have HV := hid (show xo = R from by
    have h := HQ.out.2
    have e1 := T.drop_len HL.out
    rw [HN.out] at e1
    rw [show j = n by omega, e1] at h
    rw [← HR.out, AccM.fin h])
   go_wp2
   exact bodyPost_ret (v := .int .i64 (xo)) (by simp [results, Tryz.results33, go_sem]) rfl ⟨by rw [HV.out], HQ.out.1⟩
theorem allm : ∀ m, Allm m
 | 0 => ⟨fun _ h => absurd h (Nat.not_lt_zero _), fun _ h => absurd h (Nat.not_lt_zero _), fun _ h => absurd h (Nat.not_lt_zero _), fun _ h => absurd h (Nat.not_lt_zero _)⟩
 | m + 1 => ⟨fun t h w k1 a1 n1 op1 s1 vl1 vf1 l1 f1 hs => exp32_is m (allm m) t (by omega) w k1 a1 n1 op1 s1 vl1 vf1 l1 f1 hs, fun t h w v hv => blk13_is m (allm m) t v w (by omega) hv, fun t h w v hv => ref33_ism m (allm m) t v w (by omega) hv, fun t h w v hv => ref14_ism m (allm m) t v w (by omega) hv⟩
end Go.Proofs.YtgkejkgailnbmaaGreatDoor
