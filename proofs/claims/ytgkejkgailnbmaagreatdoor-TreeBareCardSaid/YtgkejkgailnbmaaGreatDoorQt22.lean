/- Texts joined: S5, S6 -/
import Derived.Test.YtgkejkgailnbmaaGreatDoorQt21
set_option linter.unusedVariables false
set_option linter.unusedSimpArgs false
namespace Go.Proofs.YtgkejkgailnbmaaGreatDoor
open Lib (hid)
open Go.ChangeShapes Go.WideShapes Go.ChangeAt Go.RowKit TP
set_option maxRecDepth 100000 in
set_option maxHeartbeats 16000000 in
theorem Texts52_is (xs ys : List ByteArray) (va vb : Value) (w : World) (ha : NL w FT va xs) (hb : NL w FT vb ys) : Calls Tryz.prog 52 #[va, vb] w fun e w' => e = .returned (.bool (decide (xs = ys))) ∧ Below w.heap.size w w' := by
 obtain ⟨A, n, c, rfl, hn, hm⟩ := ha.view
 obtain ⟨A2, n2, c2, rfl, hn2, hm2⟩ := hb.view
 by_cases h : n = n2
 ·subst h
  have HA := hid ha
  have HB := hid hb
  have HN := hid (And.intro hn hn2)
  have HM := hid hm
  obtain ⟨R, hR⟩ : ∃ R, decide (xs = ys) = R := ⟨_, rfl⟩
  rw [hR]
  have HR0 := hid hR
  clear hR ha hb hn hn2 hm hm2
  go_enter Tryz.func52, Tryz.ntmps52
  go_wp2
  go_loopw [13] (fun iv wr => ∃ j : Nat, j ≤ n ∧ iv = .int .i64 j ∧ Hid (Below w.heap.size w wr ∧ decide (xs.drop j = ys.drop j) = R)) (fun iv _ => n - (intOf iv).toNat)
  case atStart => exact ⟨0, Nat.zero_le _, rfl, hid ⟨Below.refl _ _, HR0.out⟩⟩
  case round =>
   obtain ⟨j, hj, rfl, HQ⟩ := hrel
   by_cases hlt : j < n
   ·have q0 : (j : Int) < (n : Int) := by omega
    obtain ⟨g1, x1, rfl, hx1, c1⟩ := (HA.out.below HQ.out.1).el HN.out.1 hlt
    obtain ⟨g2, x2, rfl, hx2, c2⟩ := (HB.out.below HQ.out.1).el HN.out.2 hlt
    have HR := hid (show decide (x1 = x2 ∧ xs.drop (j + 1) = ys.drop (j + 1)) = R from by
     rw [← HQ.out.2]
     obtain ⟨h1, h2⟩ := List.getElem?_eq_some_iff.1 hx1
     obtain ⟨h3, h4⟩ := List.getElem?_eq_some_iff.1 hx2
     refine decide_eq_decide.2 ?_
     rw [List.drop_eq_getElem_cons h1, List.drop_eq_getElem_cons h3, h2, h4, List.cons.injEq])
    have HW := hid (wrap_succ hlt HM.out)
    clear hx1 hx2
    by_cases hx : x1 = x2
    ·subst hx
     have HR2 := hid (show decide (xs.drop (j + 1) = ys.drop (j + 1)) = R from by
      rw [← HR.out]
      congr 1
      simp)
     go_wp2
     go_quiet (fail)
     have BX := hid (below_drewN HQ.out.1 nq)
     go_wp2
     exact ⟨⟨j + 1, hlt, by rw [HW.out.2], hid ⟨BX.out, HR2.out⟩⟩, dec_lt hlt HW.out.2⟩
    ·obtain ⟨t1, t2, t3⟩ := txt_ne hx
     obtain rfl : false = R := by rw [← HR.out]; simp [hx]
     go_wp2
     go_quiet (fail)
     have BX := hid (below_drewN HQ.out.1 nq)
     go_wp2
     exact bodyPost_ret (v := .bool false) (by simp [results, Tryz.results52, go_sem]) rfl ⟨rfl, BX.out⟩
   ·have q0 : ¬ (j : Int) < (n : Int) := by omega
    obtain rfl : true = R := by
     have e1 : xs.drop j = [] := List.drop_of_length_le (by have := HN.out.1; omega)
     have e2 : ys.drop j = [] := List.drop_of_length_le (by have := HN.out.2; omega)
     rw [← HQ.out.2, e1, e2]
     rfl
    go_wp2
    exact bodyPost_ret (v := .bool true) (by simp [results, Tryz.results52, go_sem]) rfl ⟨rfl, HQ.out.1⟩
 ·have hne : ¬ (n : Int) = (n2 : Int) := by omega
  rw [decide_eq_false (fun e => h (by rw [← hn, ← hn2, e]))]
  clear ha hb hn hn2 hm hm2
  go_enter Tryz.func52, Tryz.ntmps52
  go_wp2
  go_ret
  exact ⟨rfl, Below.refl _ _⟩
set_option maxRecDepth 100000 in
set_option maxHeartbeats 16000000 in
theorem Texts21_is (xs ys : List ByteArray) (va vb : Value) (w : World) (ha : NL w FT va xs) (hb : NL w FT vb ys) : Calls Tryz.prog 21 #[va, vb] w fun e w' => e = .returned (.bool (decide (xs = ys))) ∧ Below w.heap.size w w' := by
 obtain ⟨A, n, c, rfl, hn, hm⟩ := ha.view
 obtain ⟨A2, n2, c2, rfl, hn2, hm2⟩ := hb.view
 by_cases h : n = n2
 ·subst h
  have HA := hid ha
  have HB := hid hb
  have HN := hid (And.intro hn hn2)
  have HM := hid hm
  obtain ⟨R, hR⟩ : ∃ R, decide (xs = ys) = R := ⟨_, rfl⟩
  rw [hR]
  have HR0 := hid hR
  clear hR ha hb hn hn2 hm hm2
  go_enter Tryz.func21, Tryz.ntmps21
  go_wp2
  go_loopw [5] (fun iv wr => ∃ j : Nat, j ≤ n ∧ iv = .int .i64 j ∧ Hid (Below w.heap.size w wr ∧ decide (xs.drop j = ys.drop j) = R)) (fun iv _ => n - (intOf iv).toNat)
  case atStart => exact ⟨0, Nat.zero_le _, rfl, hid ⟨Below.refl _ _, HR0.out⟩⟩
  case round =>
   obtain ⟨j, hj, rfl, HQ⟩ := hrel
   by_cases hlt : j < n
   ·have q0 : (j : Int) < (n : Int) := by omega
    obtain ⟨g1, x1, rfl, hx1, c1⟩ := (HA.out.below HQ.out.1).el HN.out.1 hlt
    obtain ⟨g2, x2, rfl, hx2, c2⟩ := (HB.out.below HQ.out.1).el HN.out.2 hlt
    have HR := hid (show decide (x1 = x2 ∧ xs.drop (j + 1) = ys.drop (j + 1)) = R from by
     rw [← HQ.out.2]
     obtain ⟨h1, h2⟩ := List.getElem?_eq_some_iff.1 hx1
     obtain ⟨h3, h4⟩ := List.getElem?_eq_some_iff.1 hx2
     refine decide_eq_decide.2 ?_
     rw [List.drop_eq_getElem_cons h1, List.drop_eq_getElem_cons h3, h2, h4, List.cons.injEq])
    have HW := hid (wrap_succ hlt HM.out)
    clear hx1 hx2
    by_cases hx : x1 = x2
    ·subst hx
     have HR2 := hid (show decide (xs.drop (j + 1) = ys.drop (j + 1)) = R from by
      rw [← HR.out]
      congr 1
      simp)
     go_wp2
     go_quiet (fail)
     have BX := hid (below_drewN HQ.out.1 nq)
     go_wp2
     exact ⟨⟨j + 1, hlt, by rw [HW.out.2], hid ⟨BX.out, HR2.out⟩⟩, dec_lt hlt HW.out.2⟩
    ·obtain ⟨t1, t2, t3⟩ := txt_ne hx
     obtain rfl : false = R := by rw [← HR.out]; simp [hx]
     go_wp2
     go_quiet (fail)
     have BX := hid (below_drewN HQ.out.1 nq)
     go_wp2
     exact bodyPost_ret (v := .bool false) (by simp [results, Tryz.results21, go_sem]) rfl ⟨rfl, BX.out⟩
   ·have q0 : ¬ (j : Int) < (n : Int) := by omega
    obtain rfl : true = R := by
     have e1 : xs.drop j = [] := List.drop_of_length_le (by have := HN.out.1; omega)
     have e2 : ys.drop j = [] := List.drop_of_length_le (by have := HN.out.2; omega)
     rw [← HQ.out.2, e1, e2]
     rfl
    go_wp2
    exact bodyPost_ret (v := .bool true) (by simp [results, Tryz.results21, go_sem]) rfl ⟨rfl, HQ.out.1⟩
 ·have hne : ¬ (n : Int) = (n2 : Int) := by omega
  rw [decide_eq_false (fun e => h (by rw [← hn, ← hn2, e]))]
  clear ha hb hn hn2 hm hm2
  go_enter Tryz.func21, Tryz.ntmps21
  go_wp2
  go_ret
  exact ⟨rfl, Below.refl _ _⟩
end Go.Proofs.YtgkejkgailnbmaaGreatDoor
namespace Go.Proofs.YtgkejkgailnbmaaGreatDoor
open Lib (hid)
open Go.ChangeShapes Go.WideShapes Go.ChangeAt Go.RowKit TP
structure EqAll (m : Nat) : Prop where
 c0 : ∀ a b : T, a.sz < m → ∀ w va vb, SL w FT 0 va a → SL w FT 0 vb b → Calls Tryz.prog 53 #[va, vb, .func (.func 54) #[] #[]] w fun e w' => e = .returned (.bool (eqb a b)) ∧ Below w.heap.size w w'
 c1 : ∀ a b : T, a.sz < m → ∀ w va vb, SL w FT 1 va a → SL w FT 1 vb b → Calls Tryz.prog 73 #[va, vb, .func (.func 74) #[] #[]] w fun e w' => e = .returned (.bool (eqb a b)) ∧ Below w.heap.size w w'
 c2 : ∀ a b : T, a.sz < m → ∀ w va vb, SL w FT 2 va a → SL w FT 2 vb b → Calls Tryz.prog 7 #[va, vb] w fun e w' => e = .returned (.bool (eqb a b)) ∧ Below w.heap.size w w'
 c3 : ∀ a b : T, a.sz < m → ∀ w va vb, SL w FT 3 va a → SL w FT 3 vb b → Calls Tryz.prog 55 #[va, vb, .func (.func 7) #[] #[]] w fun e w' => e = .returned (.bool (eqb a b)) ∧ Below w.heap.size w w'
set_option maxRecDepth 100000 in
set_option maxHeartbeats 16000000 in
theorem el0_is (m : Nat) (H : EqAll m) (x y : T) (hx : x.sz ≤ m) : EqEl0 x y := by
 intro w k1 a1 n1 op1 s1 vl1 vf1 l1 f1 k2 a2 n2 op2 s2 vl2 vf2 l2 f2 hs1 hs2
 have hsz := hs1.t ▸ hx
 simp only [T.sz] at hsz
 obtain ⟨Avl1, nvl1, cvl1, rfl, _⟩ := hs1.l.view
 obtain ⟨Avf1, nvf1, cvf1, rfl, _⟩ := hs1.f.view
 obtain ⟨Avl2, nvl2, cvl2, rfl, _⟩ := hs2.l.view
 obtain ⟨Avf2, nvf2, cvf2, rfl, _⟩ := hs2.f.view
 have Q5 := hid (show ∀ X, Below w.heap.size w X → Calls Tryz.prog 53 #[.slice Avl1 nvl1 cvl1, .slice Avl2 nvl2 cvl2, .func (.func 54) #[] #[]] X (fun e w' => e = .returned (.bool (eqb l1 l2)) ∧ Below X.heap.size X w') from fun X (hb : Below w.heap.size w X) => H.c0 l1 l2 (by omega) X (.slice Avl1 nvl1 cvl1) (.slice Avl2 nvl2 cvl2) (hs1.l.below hb) (hs2.l.below hb))
 have Q6 := hid (show ∀ X, Below w.heap.size w X → Calls Tryz.prog 73 #[.slice Avf1 nvf1 cvf1, .slice Avf2 nvf2 cvf2, .func (.func 74) #[] #[]] X (fun e w' => e = .returned (.bool (eqb f1 f2)) ∧ Below X.heap.size X w') from fun X (hb : Below w.heap.size w X) => H.c1 f1 f2 (by omega) X (.slice Avf1 nvf1 cvf1) (.slice Avf2 nvf2 cvf2) (hs1.f.below hb) (hs2.f.below hb))
 obtain ⟨R, hR⟩ : ∃ R, eqb x y = R := ⟨_, rfl⟩
 have HT := hid (show ((decide (k1 = k2)) && (decide (a1 = a2)) && (decide (n1 = n2)) && (decide (s1 = s2)) && (decide (op1 = op2)) && (eqb l1 l2) && (eqb f1 f2)) = R from by rw [← hR, hs1.t, hs2.t]; rfl)
 rw [hR]
 obtain ⟨z1, hz1⟩ : ∃ z1, w.heap.size = z1 := ⟨_, rfl⟩
 obtain ⟨W1, hW1⟩ : ∃ W1, w.alloc (.cells #[.int .i64 k1, .int .i64 a1, .int .i64 n1, .string s1, .int .i64 op1, .slice Avl1 nvl1 cvl1, .slice Avf1 nvf1 cvf1] 38) = W1 := ⟨_, rfl⟩
 have X1 := hid (show W1.heap[z1]? = some (.cells #[.int .i64 k1, .int .i64 a1, .int .i64 n1, .string s1, .int .i64 op1, .slice Avl1 nvl1 cvl1, .slice Avf1 nvf1 cvf1] 38) from by rw [← hW1, ← hz1]; exact heap_alloc_new _ _)
 have E1 := hid (show Below w.heap.size w W1 from by rw [← hW1]; exact alloc_old)
 obtain ⟨z2, hz2⟩ : ∃ z2, W1.heap.size = z2 := ⟨_, rfl⟩
 obtain ⟨W2, hW2⟩ : ∃ W2, W1.alloc (.cells #[.int .i64 k2, .int .i64 a2, .int .i64 n2, .string s2, .int .i64 op2, .slice Avl2 nvl2 cvl2, .slice Avf2 nvf2 cvf2] 38) = W2 := ⟨_, rfl⟩
 have X2 := hid (show W2.heap[z2]? = some (.cells #[.int .i64 k2, .int .i64 a2, .int .i64 n2, .string s2, .int .i64 op2, .slice Avl2 nvl2 cvl2, .slice Avf2 nvf2 cvf2] 38) from by rw [← hW2, ← hz2]; exact heap_alloc_new _ _)
 have E2 := hid (show Below W1.heap.size W1 W2 from by rw [← hW2]; exact alloc_old)
 have W2B := hid (E1.out.trans (E2.out.mono (Below.size E1.out)))
 have X1b := hid (blk_below X1.out E2.out)
 obtain ⟨⟨d01, d11, d21, d31, d41, d51, d61⟩, _⟩ := cells7 X1b.out
 obtain ⟨⟨d02, d12, d22, d32, d42, d52, d62⟩, _⟩ := cells7 X2.out
 generalize eqb l1 l2 = r5 at Q5 HT
 generalize eqb f1 f2 = r6 at Q6 HT
 clear hs1 hs2 hR hsz hx
 go_enter Tryz.func54, Tryz.ntmps54
 by_cases h0 : k1 = k2
 ·subst h0
  by_cases h1 : a1 = a2
  ·subst h1
   by_cases h2 : n1 = n2
   ·subst h2
    by_cases h3 : s1 = s2
    ·subst h3
     by_cases h4 : op1 = op2
     ·subst h4
      cases r5 with
      | false =>
       obtain rfl : false = R := by rw [← HT.out]; simp
       go_wp2_with (first | (go_at_call 53; (with_reducible refine (Q5.out _ W2B.out).mono ?_); rintro e x5 ⟨rfl, h1⟩; have Y5 := hid (W2B.out.trans (h1.mono (Below.size W2B.out))); have U5 := hid (blk_below X1b.out h1); have V5 := hid (blk_below X2.out h1); clear h1; obtain ⟨⟨_e01, _e11, _e21, _e31, _e41, _e51, _e61⟩, _⟩ := cells7 U5.out; obtain ⟨⟨_e02, _e12, _e22, _e32, _e42, _e52, _e62⟩, _⟩ := cells7 V5.out))
       exact bodyPost_ret (v := .bool false) (by simp [results, Tryz.results54, go_sem]) rfl ⟨rfl, by first | exact Y5.out | (rw [← hz1]; exact Y5.out)⟩
      | true =>
       cases r6 with
       | false =>
        obtain rfl : false = R := by rw [← HT.out]; simp
        go_wp2_with (first | (go_at_call 53; (with_reducible refine (Q5.out _ W2B.out).mono ?_); rintro e x5 ⟨rfl, h1⟩; have Y5 := hid (W2B.out.trans (h1.mono (Below.size W2B.out))); have U5 := hid (blk_below X1b.out h1); have V5 := hid (blk_below X2.out h1); clear h1; obtain ⟨⟨_e01, _e11, _e21, _e31, _e41, _e51, _e61⟩, _⟩ := cells7 U5.out; obtain ⟨⟨_e02, _e12, _e22, _e32, _e42, _e52, _e62⟩, _⟩ := cells7 V5.out) | (go_at_call 73; (with_reducible refine (Q6.out _ Y5.out).mono ?_); rintro e x6 ⟨rfl, h1⟩; have Y6 := hid (Y5.out.trans (h1.mono (Below.size Y5.out))); have U6 := hid (blk_below U5.out h1); have V6 := hid (blk_below V5.out h1); clear h1; obtain ⟨⟨_e01, _e11, _e21, _e31, _e41, _e51, _e61⟩, _⟩ := cells7 U6.out; obtain ⟨⟨_e02, _e12, _e22, _e32, _e42, _e52, _e62⟩, _⟩ := cells7 V6.out))
        exact bodyPost_ret (v := .bool false) (by simp [results, Tryz.results54, go_sem]) rfl ⟨rfl, by first | exact Y6.out | (rw [← hz1]; exact Y6.out)⟩
       | true =>
        obtain rfl : true = R := by rw [← HT.out]; simp
        go_wp2_with (first | (go_at_call 53; (with_reducible refine (Q5.out _ W2B.out).mono ?_); rintro e x5 ⟨rfl, h1⟩; have Y5 := hid (W2B.out.trans (h1.mono (Below.size W2B.out))); have U5 := hid (blk_below X1b.out h1); have V5 := hid (blk_below X2.out h1); clear h1; obtain ⟨⟨_e01, _e11, _e21, _e31, _e41, _e51, _e61⟩, _⟩ := cells7 U5.out; obtain ⟨⟨_e02, _e12, _e22, _e32, _e42, _e52, _e62⟩, _⟩ := cells7 V5.out) | (go_at_call 73; (with_reducible refine (Q6.out _ Y5.out).mono ?_); rintro e x6 ⟨rfl, h1⟩; have Y6 := hid (Y5.out.trans (h1.mono (Below.size Y5.out))); have U6 := hid (blk_below U5.out h1); have V6 := hid (blk_below V5.out h1); clear h1; obtain ⟨⟨_e01, _e11, _e21, _e31, _e41, _e51, _e61⟩, _⟩ := cells7 U6.out; obtain ⟨⟨_e02, _e12, _e22, _e32, _e42, _e52, _e62⟩, _⟩ := cells7 V6.out))
        exact bodyPost_ret (v := .bool true) (by simp [results, Tryz.results54, go_sem]) rfl ⟨rfl, by first | exact Y6.out | (rw [← hz1]; exact Y6.out)⟩
     ·skip
      have hi4 : ¬ op1 = op2 := h4
      have hb4 : (op1 == op2) = false := by simp [h4]
      obtain rfl : false = R := by rw [← HT.out]; simp [h4]
      go_wp2
      exact bodyPost_ret (v := .bool false) (by simp [results, Tryz.results54, go_sem]) rfl ⟨rfl, by first | exact W2B.out | (rw [← hz1]; exact W2B.out)⟩
    ·skip
     obtain ⟨t1, t2, t3⟩ := txt_ne h3
     obtain rfl : false = R := by rw [← HT.out]; simp [h3]
     go_wp2
     exact bodyPost_ret (v := .bool false) (by simp [results, Tryz.results54, go_sem]) rfl ⟨rfl, by first | exact W2B.out | (rw [← hz1]; exact W2B.out)⟩
   ·skip
    have hi2 : ¬ n1 = n2 := h2
    have hb2 : (n1 == n2) = false := by simp [h2]
    obtain rfl : false = R := by rw [← HT.out]; simp [h2]
    go_wp2
    exact bodyPost_ret (v := .bool false) (by simp [results, Tryz.results54, go_sem]) rfl ⟨rfl, by first | exact W2B.out | (rw [← hz1]; exact W2B.out)⟩
  ·skip
   have hi1 : ¬ a1 = a2 := h1
   have hb1 : (a1 == a2) = false := by simp [h1]
   obtain rfl : false = R := by rw [← HT.out]; simp [h1]
   go_wp2
   exact bodyPost_ret (v := .bool false) (by simp [results, Tryz.results54, go_sem]) rfl ⟨rfl, by first | exact W2B.out | (rw [← hz1]; exact W2B.out)⟩
 ·skip
  have hi0 : ¬ k1 = k2 := h0
  have hb0 : (k1 == k2) = false := by simp [h0]
  obtain rfl : false = R := by rw [← HT.out]; simp [h0]
  go_wp2
  exact bodyPost_ret (v := .bool false) (by simp [results, Tryz.results54, go_sem]) rfl ⟨rfl, by first | exact W2B.out | (rw [← hz1]; exact W2B.out)⟩
set_option maxRecDepth 100000 in
set_option maxHeartbeats 16000000 in
theorem el1_is (m : Nat) (H : EqAll m) (x y : T) (hx : x.sz ≤ m) : EqEl1 x y := by
 intro w vp1 vd1 ps1 d1 vp2 vd2 ps2 d2 hs1 hs2
 have hsz := hs1.t ▸ hx
 simp only [T.sz] at hsz
 obtain ⟨Avp1, nvp1, cvp1, rfl, _⟩ := hs1.p.view
 obtain ⟨Avd1, nvd1, cvd1, rfl, _⟩ := hs1.d.view
 obtain ⟨Avp2, nvp2, cvp2, rfl, _⟩ := hs2.p.view
 obtain ⟨Avd2, nvd2, cvd2, rfl, _⟩ := hs2.d.view
 have Q0 := hid (show ∀ X, Below w.heap.size w X → Calls Tryz.prog 52 #[.slice Avp1 nvp1 cvp1, .slice Avp2 nvp2 cvp2] X (fun e w' => e = .returned (.bool (decide (ps1 = ps2))) ∧ Below X.heap.size X w') from fun X (hb : Below w.heap.size w X) => Texts52_is ps1 ps2 (.slice Avp1 nvp1 cvp1) (.slice Avp2 nvp2 cvp2) X (hs1.p.below hb) (hs2.p.below hb))
 have Q1 := hid (show ∀ X, Below w.heap.size w X → Calls Tryz.prog 7 #[.slice Avd1 nvd1 cvd1, .slice Avd2 nvd2 cvd2] X (fun e w' => e = .returned (.bool (eqb d1 d2)) ∧ Below X.heap.size X w') from fun X (hb : Below w.heap.size w X) => H.c2 d1 d2 (by omega) X (.slice Avd1 nvd1 cvd1) (.slice Avd2 nvd2 cvd2) (hs1.d.below hb) (hs2.d.below hb))
 obtain ⟨R, hR⟩ : ∃ R, eqb x y = R := ⟨_, rfl⟩
 have HT := hid (show ((decide (ps1 = ps2)) && (eqb d1 d2)) = R from by rw [← hR, hs1.t, hs2.t]; rfl)
 rw [hR]
 obtain ⟨z1, hz1⟩ : ∃ z1, w.heap.size = z1 := ⟨_, rfl⟩
 obtain ⟨W1, hW1⟩ : ∃ W1, w.alloc (.cells #[.slice Avp1 nvp1 cvp1, .slice Avd1 nvd1 cvd1] 88) = W1 := ⟨_, rfl⟩
 have X1 := hid (show W1.heap[z1]? = some (.cells #[.slice Avp1 nvp1 cvp1, .slice Avd1 nvd1 cvd1] 88) from by rw [← hW1, ← hz1]; exact heap_alloc_new _ _)
 have E1 := hid (show Below w.heap.size w W1 from by rw [← hW1]; exact alloc_old)
 obtain ⟨z2, hz2⟩ : ∃ z2, W1.heap.size = z2 := ⟨_, rfl⟩
 obtain ⟨W2, hW2⟩ : ∃ W2, W1.alloc (.cells #[.slice Avp2 nvp2 cvp2, .slice Avd2 nvd2 cvd2] 88) = W2 := ⟨_, rfl⟩
 have X2 := hid (show W2.heap[z2]? = some (.cells #[.slice Avp2 nvp2 cvp2, .slice Avd2 nvd2 cvd2] 88) from by rw [← hW2, ← hz2]; exact heap_alloc_new _ _)
 have E2 := hid (show Below W1.heap.size W1 W2 from by rw [← hW2]; exact alloc_old)
 have W2B := hid (E1.out.trans (E2.out.mono (Below.size E1.out)))
 have X1b := hid (blk_below X1.out E2.out)
 obtain ⟨⟨d01, d11⟩, _⟩ := cells2 X1b.out
 obtain ⟨⟨d02, d12⟩, _⟩ := cells2 X2.out
 generalize decide (ps1 = ps2) = r0 at Q0 HT
 generalize eqb d1 d2 = r1 at Q1 HT
 clear hs1 hs2 hR hsz hx
 go_enter Tryz.func74, Tryz.ntmps74
 cases r0 with
 | false =>
  obtain rfl : false = R := by rw [← HT.out]; simp
  go_wp2_with (first | (go_at_call 52; (with_reducible refine (Q0.out _ W2B.out).mono ?_); rintro e x0 ⟨rfl, h1⟩; have Y0 := hid (W2B.out.trans (h1.mono (Below.size W2B.out))); have U0 := hid (blk_below X1b.out h1); have V0 := hid (blk_below X2.out h1); clear h1; obtain ⟨⟨_e01, _e11⟩, _⟩ := cells2 U0.out; obtain ⟨⟨_e02, _e12⟩, _⟩ := cells2 V0.out))
  exact bodyPost_ret (v := .bool false) (by simp [results, Tryz.results74, go_sem]) rfl ⟨rfl, by first | exact Y0.out | (rw [← hz1]; exact Y0.out)⟩
 | true =>
  cases r1 with
  | false =>
   obtain rfl : false = R := by rw [← HT.out]; simp
   go_wp2_with (first | (go_at_call 52; (with_reducible refine (Q0.out _ W2B.out).mono ?_); rintro e x0 ⟨rfl, h1⟩; have Y0 := hid (W2B.out.trans (h1.mono (Below.size W2B.out))); have U0 := hid (blk_below X1b.out h1); have V0 := hid (blk_below X2.out h1); clear h1; obtain ⟨⟨_e01, _e11⟩, _⟩ := cells2 U0.out; obtain ⟨⟨_e02, _e12⟩, _⟩ := cells2 V0.out) | (go_at_call 7; (with_reducible refine (Q1.out _ Y0.out).mono ?_); rintro e x1 ⟨rfl, h1⟩; have Y1 := hid (Y0.out.trans (h1.mono (Below.size Y0.out))); have U1 := hid (blk_below U0.out h1); have V1 := hid (blk_below V0.out h1); clear h1; obtain ⟨⟨_e01, _e11⟩, _⟩ := cells2 U1.out; obtain ⟨⟨_e02, _e12⟩, _⟩ := cells2 V1.out))
   exact bodyPost_ret (v := .bool false) (by simp [results, Tryz.results74, go_sem]) rfl ⟨rfl, by first | exact Y1.out | (rw [← hz1]; exact Y1.out)⟩
  | true =>
   obtain rfl : true = R := by rw [← HT.out]; simp
   go_wp2_with (first | (go_at_call 52; (with_reducible refine (Q0.out _ W2B.out).mono ?_); rintro e x0 ⟨rfl, h1⟩; have Y0 := hid (W2B.out.trans (h1.mono (Below.size W2B.out))); have U0 := hid (blk_below X1b.out h1); have V0 := hid (blk_below X2.out h1); clear h1; obtain ⟨⟨_e01, _e11⟩, _⟩ := cells2 U0.out; obtain ⟨⟨_e02, _e12⟩, _⟩ := cells2 V0.out) | (go_at_call 7; (with_reducible refine (Q1.out _ Y0.out).mono ?_); rintro e x1 ⟨rfl, h1⟩; have Y1 := hid (Y0.out.trans (h1.mono (Below.size Y0.out))); have U1 := hid (blk_below U0.out h1); have V1 := hid (blk_below V0.out h1); clear h1; obtain ⟨⟨_e01, _e11⟩, _⟩ := cells2 U1.out; obtain ⟨⟨_e02, _e12⟩, _⟩ := cells2 V1.out))
   exact bodyPost_ret (v := .bool true) (by simp [results, Tryz.results74, go_sem]) rfl ⟨rfl, by first | exact Y1.out | (rw [← hz1]; exact Y1.out)⟩
set_option maxRecDepth 100000 in
set_option maxHeartbeats 16000000 in
theorem el2_is (m : Nat) (H : EqAll m) (x y : T) (hx : x.sz ≤ m) : EqEl2 x y := by
 intro w k1 a1 vn1 vl1 vd1 ns1 l1 d1 k2 a2 vn2 vl2 vd2 ns2 l2 d2 hs1 hs2
 have hsz := hs1.t ▸ hx
 simp only [T.sz] at hsz
 obtain ⟨Avn1, nvn1, cvn1, rfl, _⟩ := hs1.n.view
 obtain ⟨Avl1, nvl1, cvl1, rfl, _⟩ := hs1.l.view
 obtain ⟨Avd1, nvd1, cvd1, rfl, _⟩ := hs1.d.view
 obtain ⟨Avn2, nvn2, cvn2, rfl, _⟩ := hs2.n.view
 obtain ⟨Avl2, nvl2, cvl2, rfl, _⟩ := hs2.l.view
 obtain ⟨Avd2, nvd2, cvd2, rfl, _⟩ := hs2.d.view
 have Q2 := hid (show ∀ X, Below w.heap.size w X → Calls Tryz.prog 52 #[.slice Avn1 nvn1 cvn1, .slice Avn2 nvn2 cvn2] X (fun e w' => e = .returned (.bool (decide (ns1 = ns2))) ∧ Below X.heap.size X w') from fun X (hb : Below w.heap.size w X) => Texts52_is ns1 ns2 (.slice Avn1 nvn1 cvn1) (.slice Avn2 nvn2 cvn2) X (hs1.n.below hb) (hs2.n.below hb))
 have Q3 := hid (show ∀ X, Below w.heap.size w X → Calls Tryz.prog 53 #[.slice Avl1 nvl1 cvl1, .slice Avl2 nvl2 cvl2, .func (.func 54) #[] #[]] X (fun e w' => e = .returned (.bool (eqb l1 l2)) ∧ Below X.heap.size X w') from fun X (hb : Below w.heap.size w X) => H.c0 l1 l2 (by omega) X (.slice Avl1 nvl1 cvl1) (.slice Avl2 nvl2 cvl2) (hs1.l.below hb) (hs2.l.below hb))
 have Q4 := hid (show ∀ X, Below w.heap.size w X → Calls Tryz.prog 55 #[.slice Avd1 nvd1 cvd1, .slice Avd2 nvd2 cvd2, .func (.func 7) #[] #[]] X (fun e w' => e = .returned (.bool (eqb d1 d2)) ∧ Below X.heap.size X w') from fun X (hb : Below w.heap.size w X) => H.c3 d1 d2 (by omega) X (.slice Avd1 nvd1 cvd1) (.slice Avd2 nvd2 cvd2) (hs1.d.below hb) (hs2.d.below hb))
 obtain ⟨R, hR⟩ : ∃ R, eqb x y = R := ⟨_, rfl⟩
 have HT := hid (show ((decide (k1 = k2)) && (decide (a1 = a2)) && (decide (ns1 = ns2)) && (eqb l1 l2) && (eqb d1 d2)) = R from by rw [← hR, hs1.t, hs2.t]; rfl)
 rw [hR]
 obtain ⟨z1, hz1⟩ : ∃ z1, w.heap.size = z1 := ⟨_, rfl⟩
 obtain ⟨W1, hW1⟩ : ∃ W1, w.alloc (.cells #[.int .i64 k1, .int .i64 a1, .slice Avn1 nvn1 cvn1, .slice Avl1 nvl1 cvl1, .slice Avd1 nvd1 cvd1] 34) = W1 := ⟨_, rfl⟩
 have X1 := hid (show W1.heap[z1]? = some (.cells #[.int .i64 k1, .int .i64 a1, .slice Avn1 nvn1 cvn1, .slice Avl1 nvl1 cvl1, .slice Avd1 nvd1 cvd1] 34) from by rw [← hW1, ← hz1]; exact heap_alloc_new _ _)
 have E1 := hid (show Below w.heap.size w W1 from by rw [← hW1]; exact alloc_old)
 obtain ⟨z2, hz2⟩ : ∃ z2, W1.heap.size = z2 := ⟨_, rfl⟩
 obtain ⟨W2, hW2⟩ : ∃ W2, W1.alloc (.cells #[.int .i64 k2, .int .i64 a2, .slice Avn2 nvn2 cvn2, .slice Avl2 nvl2 cvl2, .slice Avd2 nvd2 cvd2] 34) = W2 := ⟨_, rfl⟩
 have X2 := hid (show W2.heap[z2]? = some (.cells #[.int .i64 k2, .int .i64 a2, .slice Avn2 nvn2 cvn2, .slice Avl2 nvl2 cvl2, .slice Avd2 nvd2 cvd2] 34) from by rw [← hW2, ← hz2]; exact heap_alloc_new _ _)
 have E2 := hid (show Below W1.heap.size W1 W2 from by rw [← hW2]; exact alloc_old)
 have W2B := hid (E1.out.trans (E2.out.mono (Below.size E1.out)))
 have X1b := hid (blk_below X1.out E2.out)
 obtain ⟨⟨d01, d11, d21, d31, d41⟩, _⟩ := cells5 X1b.out
 obtain ⟨⟨d02, d12, d22, d32, d42⟩, _⟩ := cells5 X2.out
 generalize decide (ns1 = ns2) = r2 at Q2 HT
 generalize eqb l1 l2 = r3 at Q3 HT
 generalize eqb d1 d2 = r4 at Q4 HT
 clear hs1 hs2 hR hsz hx
 go_enter Tryz.func20, Tryz.ntmps20
 by_cases h0 : k1 = k2
 ·subst h0
  by_cases h1 : a1 = a2
  ·subst h1
   cases r2 with
   | false =>
    obtain rfl : false = R := by rw [← HT.out]; simp
    go_wp2_with (first | (go_at_call 52; (with_reducible refine (Q2.out _ W2B.out).mono ?_); rintro e x2 ⟨rfl, h1⟩; have Y2 := hid (W2B.out.trans (h1.mono (Below.size W2B.out))); have U2 := hid (blk_below X1b.out h1); have V2 := hid (blk_below X2.out h1); clear h1; obtain ⟨⟨_e01, _e11, _e21, _e31, _e41⟩, _⟩ := cells5 U2.out; obtain ⟨⟨_e02, _e12, _e22, _e32, _e42⟩, _⟩ := cells5 V2.out))
    exact bodyPost_ret (v := .bool false) (by simp [results, Tryz.results20, go_sem]) rfl ⟨rfl, by first | exact Y2.out | (rw [← hz1]; exact Y2.out)⟩
   | true =>
    cases r3 with
    | false =>
     obtain rfl : false = R := by rw [← HT.out]; simp
     go_wp2_with (first | (go_at_call 52; (with_reducible refine (Q2.out _ W2B.out).mono ?_); rintro e x2 ⟨rfl, h1⟩; have Y2 := hid (W2B.out.trans (h1.mono (Below.size W2B.out))); have U2 := hid (blk_below X1b.out h1); have V2 := hid (blk_below X2.out h1); clear h1; obtain ⟨⟨_e01, _e11, _e21, _e31, _e41⟩, _⟩ := cells5 U2.out; obtain ⟨⟨_e02, _e12, _e22, _e32, _e42⟩, _⟩ := cells5 V2.out) | (go_at_call 53; (with_reducible refine (Q3.out _ Y2.out).mono ?_); rintro e x3 ⟨rfl, h1⟩; have Y3 := hid (Y2.out.trans (h1.mono (Below.size Y2.out))); have U3 := hid (blk_below U2.out h1); have V3 := hid (blk_below V2.out h1); clear h1; obtain ⟨⟨_e01, _e11, _e21, _e31, _e41⟩, _⟩ := cells5 U3.out; obtain ⟨⟨_e02, _e12, _e22, _e32, _e42⟩, _⟩ := cells5 V3.out))
     exact bodyPost_ret (v := .bool false) (by simp [results, Tryz.results20, go_sem]) rfl ⟨rfl, by first | exact Y3.out | (rw [← hz1]; exact Y3.out)⟩
    | true =>
     cases r4 with
     | false =>
      obtain rfl : false = R := by rw [← HT.out]; simp
      go_wp2_with (first | (go_at_call 52; (with_reducible refine (Q2.out _ W2B.out).mono ?_); rintro e x2 ⟨rfl, h1⟩; have Y2 := hid (W2B.out.trans (h1.mono (Below.size W2B.out))); have U2 := hid (blk_below X1b.out h1); have V2 := hid (blk_below X2.out h1); clear h1; obtain ⟨⟨_e01, _e11, _e21, _e31, _e41⟩, _⟩ := cells5 U2.out; obtain ⟨⟨_e02, _e12, _e22, _e32, _e42⟩, _⟩ := cells5 V2.out) | (go_at_call 53; (with_reducible refine (Q3.out _ Y2.out).mono ?_); rintro e x3 ⟨rfl, h1⟩; have Y3 := hid (Y2.out.trans (h1.mono (Below.size Y2.out))); have U3 := hid (blk_below U2.out h1); have V3 := hid (blk_below V2.out h1); clear h1; obtain ⟨⟨_e01, _e11, _e21, _e31, _e41⟩, _⟩ := cells5 U3.out; obtain ⟨⟨_e02, _e12, _e22, _e32, _e42⟩, _⟩ := cells5 V3.out) | (go_at_call 55; (with_reducible refine (Q4.out _ Y3.out).mono ?_); rintro e x4 ⟨rfl, h1⟩; have Y4 := hid (Y3.out.trans (h1.mono (Below.size Y3.out))); have U4 := hid (blk_below U3.out h1); have V4 := hid (blk_below V3.out h1); clear h1; obtain ⟨⟨_e01, _e11, _e21, _e31, _e41⟩, _⟩ := cells5 U4.out; obtain ⟨⟨_e02, _e12, _e22, _e32, _e42⟩, _⟩ := cells5 V4.out))
      exact bodyPost_ret (v := .bool false) (by simp [results, Tryz.results20, go_sem]) rfl ⟨rfl, by first | exact Y4.out | (rw [← hz1]; exact Y4.out)⟩
     | true =>
      obtain rfl : true = R := by rw [← HT.out]; simp
      go_wp2_with (first | (go_at_call 52; (with_reducible refine (Q2.out _ W2B.out).mono ?_); rintro e x2 ⟨rfl, h1⟩; have Y2 := hid (W2B.out.trans (h1.mono (Below.size W2B.out))); have U2 := hid (blk_below X1b.out h1); have V2 := hid (blk_below X2.out h1); clear h1; obtain ⟨⟨_e01, _e11, _e21, _e31, _e41⟩, _⟩ := cells5 U2.out; obtain ⟨⟨_e02, _e12, _e22, _e32, _e42⟩, _⟩ := cells5 V2.out) | (go_at_call 53; (with_reducible refine (Q3.out _ Y2.out).mono ?_); rintro e x3 ⟨rfl, h1⟩; have Y3 := hid (Y2.out.trans (h1.mono (Below.size Y2.out))); have U3 := hid (blk_below U2.out h1); have V3 := hid (blk_below V2.out h1); clear h1; obtain ⟨⟨_e01, _e11, _e21, _e31, _e41⟩, _⟩ := cells5 U3.out; obtain ⟨⟨_e02, _e12, _e22, _e32, _e42⟩, _⟩ := cells5 V3.out) | (go_at_call 55; (with_reducible refine (Q4.out _ Y3.out).mono ?_); rintro e x4 ⟨rfl, h1⟩; have Y4 := hid (Y3.out.trans (h1.mono (Below.size Y3.out))); have U4 := hid (blk_below U3.out h1); have V4 := hid (blk_below V3.out h1); clear h1; obtain ⟨⟨_e01, _e11, _e21, _e31, _e41⟩, _⟩ := cells5 U4.out; obtain ⟨⟨_e02, _e12, _e22, _e32, _e42⟩, _⟩ := cells5 V4.out))
      exact bodyPost_ret (v := .bool true) (by simp [results, Tryz.results20, go_sem]) rfl ⟨rfl, by first | exact Y4.out | (rw [← hz1]; exact Y4.out)⟩
  ·skip
   have hi1 : ¬ a1 = a2 := h1
   have hb1 : (a1 == a2) = false := by simp [h1]
   obtain rfl : false = R := by rw [← HT.out]; simp [h1]
   go_wp2
   exact bodyPost_ret (v := .bool false) (by simp [results, Tryz.results20, go_sem]) rfl ⟨rfl, by first | exact W2B.out | (rw [← hz1]; exact W2B.out)⟩
 ·skip
  have hi0 : ¬ k1 = k2 := h0
  have hb0 : (k1 == k2) = false := by simp [h0]
  obtain rfl : false = R := by rw [← HT.out]; simp [h0]
  go_wp2
  exact bodyPost_ret (v := .bool false) (by simp [results, Tryz.results20, go_sem]) rfl ⟨rfl, by first | exact W2B.out | (rw [← hz1]; exact W2B.out)⟩
set_option maxRecDepth 100000 in
set_option maxHeartbeats 16000000 in
theorem Same7 (a b : T) (va vb : Value) (w : World) (ha : SL w FT 2 va a) (hb : SL w FT 2 vb b) (HE : ∀ j, j < a.len → EqEl2 (nth a j) (nth b j)) : Calls Tryz.prog 7 #[va, vb] w fun e w' => e = .returned (.bool (eqb a b)) ∧ Below w.heap.size w w' := by
 obtain ⟨A, n, c, rfl, _⟩ := ha.view
 obtain ⟨A2, n2, c2, rfl, _⟩ := hb.view
 have E := hid (EqualFunc2 a b _ _ w ha hb HE)
 generalize eqb a b = r at E ⊢
 clear ha hb HE
 go_enter Tryz.func7, Tryz.ntmps7
 go_wp2_with (first | (go_at_call 19; (with_reducible refine (E.out).mono ?_); rintro e w1 ⟨rfl, h1⟩; have B1 := hid h1; clear h1))
 go_ret
 exact ⟨rfl, B1.out⟩
theorem eqAll : ∀ m, EqAll m
 | 0 => ⟨fun _ _ h => absurd h (Nat.not_lt_zero _), fun _ _ h => absurd h (Nat.not_lt_zero _), fun _ _ h => absurd h (Nat.not_lt_zero _), fun _ _ h => absurd h (Nat.not_lt_zero _)⟩
 | m + 1 => by
  have H := eqAll m
  refine ⟨fun a b h w va vb ha hb => EqualFunc0 a b va vb w ha hb (fun j hj => el0_is m H _ _ ?_), fun a b h w va vb ha hb => EqualFunc1 a b va vb w ha hb (fun j hj => el1_is m H _ _ ?_), fun a b h w va vb ha hb => Same7 a b va vb w ha hb (fun j hj => el2_is m H _ _ ?_), fun a b h w va vb ha hb => EqualFunc3 a b va vb w ha hb (fun j hj X v1 v2 h1 h2 => H.c2 _ _ ?_ X v1 v2 h1 h2)⟩ <;> (have := T.sz_nth ha.isList hj; omega)
theorem Same_is (a b : T) (va vb : Value) (w : World) (ha : SL w FT 2 va a) (hb : SL w FT 2 vb b) : Calls Tryz.prog 7 #[va, vb] w fun e w' => e = .returned (.bool (eqb a b)) ∧ Below w.heap.size w w' := (eqAll (a.sz + 1)).c2 a b (Nat.lt_succ_self _) w va vb ha hb
end Go.Proofs.YtgkejkgailnbmaaGreatDoor
