/- Texts joined: TI, TJ, TK -/
import Derived.Test.YtjfejmdnjbekkaaGreatDoorQv2
import Derived.Test.YtjfejmdnjbekkaaGreatDoorQv1
import Derived.BigRegion
set_option linter.unusedVariables false
set_option linter.unusedSimpArgs false

/- The reference's Reply of any value. -/
namespace Go.Proofs.YtjfejmdnjbekkaaGreatDoor
open Go.ChangeShapes Go.WideShapes Go.ChangeAt Go.RowKit
open Fo

theorem rnum_any (n : Int) (w : World) : Calls Tryz.prog 24 #[.int .i64 n] w fun e w' => e = .returned (.agg #[.int .i64 3, .int .i64 n, .string ⟨#[]⟩, .slice none 0 0]) ∧ Below w.heap.size w w' := by
  go_enter Tryz.func24, Tryz.ntmps24
  go_wp2
  exact bodyPost_ret (v := .agg #[.int .i64 3, .int .i64 n, .string ⟨#[]⟩, .slice none 0 0]) (by simp [results, Tryz.results24, go_sem]) rfl ⟨rfl, (Below.refl _ _).alloc (Nat.le_refl _) _⟩
theorem rbulk_any (s : ByteArray) (w : World) : Calls Tryz.prog 25 #[.string s] w fun e w' => e = .returned (.agg #[.int .i64 4, .int .i64 0, .string s, .slice none 0 0]) ∧ Below w.heap.size w w' := by
  go_enter Tryz.func25, Tryz.ntmps25
  go_wp2
  exact bodyPost_ret (v := .agg #[.int .i64 4, .int .i64 0, .string s, .slice none 0 0]) (by simp [results, Tryz.results25, go_sem]) rfl ⟨rfl, (Below.refl _ _).alloc (Nat.le_refl _) _⟩
theorem rlist_any (A : Option Addr) (n c : Nat) (w : World) : Calls Tryz.prog 26 #[.slice A n c] w fun e w' => e = .returned (.agg #[.int .i64 6, .int .i64 0, .string ⟨#[]⟩, .slice A n c]) ∧ Below w.heap.size w w' := by
  go_enter Tryz.func26, Tryz.ntmps26
  go_wp2
  exact bodyPost_ret (v := .agg #[.int .i64 6, .int .i64 0, .string ⟨#[]⟩, .slice A n c]) (by simp [results, Tryz.results26, go_sem]) rfl ⟨rfl, (Below.refl _ _).alloc (Nat.le_refl _) _⟩
theorem rnull_any (w : World) : Calls Tryz.prog 27 #[] w fun e w' => e = .returned (.agg #[.int .i64 5, .int .i64 0, .string ⟨#[]⟩, .slice none 0 0]) ∧ Below w.heap.size w w' := by
  go_enter Tryz.func27, Tryz.ntmps27
  go_wp2
  exact bodyPost_ret (v := .agg #[.int .i64 5, .int .i64 0, .string ⟨#[]⟩, .slice none 0 0]) (by simp [results, Tryz.results27, go_sem]) rfl ⟨rfl, (Below.refl _ _).alloc (Nat.le_refl _) _⟩
set_option maxRecDepth 100000 in
set_option maxHeartbeats 4000000 in
theorem rRe_int (n : Int) (s : ByteArray) (A : Option Addr) (m c : Nat) (w : World) : Calls Tryz.prog 13 #[.agg #[.int .i64 2, .int .i64 n, .string s, .slice A m c]] w fun e w' => e = .returned (.agg #[.int .i64 3, .int .i64 n, .string ⟨#[]⟩, .slice none 0 0]) ∧ Below w.heap.size w w' := by
  have TX := Lib.hid (fun X => rnum_any n X)
  have b0 := Lib.hid (blk2 w (.cells #[.int .i64 2, .int .i64 n, .string s, .slice A m c] 27) (.cells #[.int .i64 0, .int .i64 0, .string ⟨#[]⟩, .slice none 0 0] 24))
  have B0 := Lib.hid (two_old w (.cells #[.int .i64 2, .int .i64 n, .string s, .slice A m c] 27) (.cells #[.int .i64 0, .int .i64 0, .string ⟨#[]⟩, .slice none 0 0] 24))
  have h1 := Nat.le_succ w.heap.size
  go_enter Tryz.func13, Tryz.ntmps13
  go_wp2_with (first | (go_at_call 24; (with_reducible refine (TX.out _).mono ?_); rintro e w1 ⟨rfl, h2⟩; have B1 := Lib.hid (B0.out.trans (h2.mono (Below.size B0.out))); obtain ⟨⟨c0, c1, c2, c3⟩, ⟨f0, f1, f2, f3⟩⟩ := cells4 (blk_below b0.out h2); clear h2))
  exact bodyPost_ret (v := .agg #[.int .i64 3, .int .i64 n, .string ⟨#[]⟩, .slice none 0 0]) (by simp [results, Tryz.results13, go_sem, c0, c1, c2, c3]) rfl ⟨rfl, ((((B1.out.setCell h1 _).setCell h1 _).setCell h1 _).setCell h1 _)⟩
set_option maxRecDepth 100000 in
set_option maxHeartbeats 4000000 in
theorem rRe_text (n : Int) (s : ByteArray) (A : Option Addr) (m c : Nat) (w : World) : Calls Tryz.prog 13 #[.agg #[.int .i64 3, .int .i64 n, .string s, .slice A m c]] w fun e w' => e = .returned (.agg #[.int .i64 4, .int .i64 0, .string s, .slice none 0 0]) ∧ Below w.heap.size w w' := by
  have TX := Lib.hid (fun X => rbulk_any s X)
  have b0 := Lib.hid (blk2 w (.cells #[.int .i64 3, .int .i64 n, .string s, .slice A m c] 27) (.cells #[.int .i64 0, .int .i64 0, .string ⟨#[]⟩, .slice none 0 0] 24))
  have B0 := Lib.hid (two_old w (.cells #[.int .i64 3, .int .i64 n, .string s, .slice A m c] 27) (.cells #[.int .i64 0, .int .i64 0, .string ⟨#[]⟩, .slice none 0 0] 24))
  have h1 := Nat.le_succ w.heap.size
  go_enter Tryz.func13, Tryz.ntmps13
  go_wp2_with (first | (go_at_call 25; (with_reducible refine (TX.out _).mono ?_); rintro e w1 ⟨rfl, h2⟩; have B1 := Lib.hid (B0.out.trans (h2.mono (Below.size B0.out))); obtain ⟨⟨c0, c1, c2, c3⟩, ⟨f0, f1, f2, f3⟩⟩ := cells4 (blk_below b0.out h2); clear h2))
  exact bodyPost_ret (v := .agg #[.int .i64 4, .int .i64 0, .string s, .slice none 0 0]) (by simp [results, Tryz.results13, go_sem, c0, c1, c2, c3]) rfl ⟨rfl, ((((B1.out.setCell h1 _).setCell h1 _).setCell h1 _).setCell h1 _)⟩
set_option maxRecDepth 100000 in
set_option maxHeartbeats 4000000 in
theorem rRe_true  (s : ByteArray) (A : Option Addr) (m c : Nat) (w : World) : Calls Tryz.prog 13 #[.agg #[.int .i64 1, .int .i64 1, .string s, .slice A m c]] w fun e w' => e = .returned (.agg #[.int .i64 3, .int .i64 1, .string ⟨#[]⟩, .slice none 0 0]) ∧ Below w.heap.size w w' := by
  have TX := Lib.hid (fun X => rnum_any 1 X)
  have b0 := Lib.hid (blk2 w (.cells #[.int .i64 1, .int .i64 1, .string s, .slice A m c] 27) (.cells #[.int .i64 0, .int .i64 0, .string ⟨#[]⟩, .slice none 0 0] 24))
  have B0 := Lib.hid (two_old w (.cells #[.int .i64 1, .int .i64 1, .string s, .slice A m c] 27) (.cells #[.int .i64 0, .int .i64 0, .string ⟨#[]⟩, .slice none 0 0] 24))
  have h1 := Nat.le_succ w.heap.size
  go_enter Tryz.func13, Tryz.ntmps13
  go_wp2_with (first | (go_at_call 24; (with_reducible refine (TX.out _).mono ?_); rintro e w1 ⟨rfl, h2⟩; have B1 := Lib.hid (B0.out.trans (h2.mono (Below.size B0.out))); obtain ⟨⟨c0, c1, c2, c3⟩, ⟨f0, f1, f2, f3⟩⟩ := cells4 (blk_below b0.out h2); clear h2))
  exact bodyPost_ret (v := .agg #[.int .i64 3, .int .i64 1, .string ⟨#[]⟩, .slice none 0 0]) (by simp [results, Tryz.results13, go_sem, c0, c1, c2, c3]) rfl ⟨rfl, ((((B1.out.setCell h1 _).setCell h1 _).setCell h1 _).setCell h1 _)⟩
set_option maxRecDepth 100000 in
set_option maxHeartbeats 4000000 in
theorem rRe_false (n : Int) (hn : ¬ n = 1) (s : ByteArray) (A : Option Addr) (m c : Nat) (w : World) : Calls Tryz.prog 13 #[.agg #[.int .i64 1, .int .i64 n, .string s, .slice A m c]] w fun e w' => e = .returned (.agg #[.int .i64 5, .int .i64 0, .string ⟨#[]⟩, .slice none 0 0]) ∧ Below w.heap.size w w' := by
  have TX := Lib.hid (fun X => rnull_any X)
  have b0 := Lib.hid (blk2 w (.cells #[.int .i64 1, .int .i64 n, .string s, .slice A m c] 27) (.cells #[.int .i64 0, .int .i64 0, .string ⟨#[]⟩, .slice none 0 0] 24))
  have B0 := Lib.hid (two_old w (.cells #[.int .i64 1, .int .i64 n, .string s, .slice A m c] 27) (.cells #[.int .i64 0, .int .i64 0, .string ⟨#[]⟩, .slice none 0 0] 24))
  have h1 := Nat.le_succ w.heap.size
  go_enter Tryz.func13, Tryz.ntmps13
  go_wp2_with (first | (go_at_call 27; (with_reducible refine (TX.out _).mono ?_); rintro e w1 ⟨rfl, h2⟩; have B1 := Lib.hid (B0.out.trans (h2.mono (Below.size B0.out))); obtain ⟨⟨c0, c1, c2, c3⟩, ⟨f0, f1, f2, f3⟩⟩ := cells4 (blk_below b0.out h2); clear h2))
  exact bodyPost_ret (v := .agg #[.int .i64 5, .int .i64 0, .string ⟨#[]⟩, .slice none 0 0]) (by simp [results, Tryz.results13, go_sem, c0, c1, c2, c3]) rfl ⟨rfl, ((((B1.out.setCell h1 _).setCell h1 _).setCell h1 _).setCell h1 _)⟩
set_option maxRecDepth 100000 in
set_option maxHeartbeats 4000000 in
theorem rRe_none (k n : Int) (g1 : ¬ k = 1) (g2 : ¬ k = 2) (g3 : ¬ k = 3) (g4 : ¬ k = 4) (s : ByteArray) (A : Option Addr) (m c : Nat) (w : World) : Calls Tryz.prog 13 #[.agg #[.int .i64 k, .int .i64 n, .string s, .slice A m c]] w fun e w' => e = .returned (.agg #[.int .i64 5, .int .i64 0, .string ⟨#[]⟩, .slice none 0 0]) ∧ Below w.heap.size w w' := by
  have TX := Lib.hid (fun X => rnull_any X)
  have b0 := Lib.hid (blk2 w (.cells #[.int .i64 k, .int .i64 n, .string s, .slice A m c] 27) (.cells #[.int .i64 0, .int .i64 0, .string ⟨#[]⟩, .slice none 0 0] 24))
  have B0 := Lib.hid (two_old w (.cells #[.int .i64 k, .int .i64 n, .string s, .slice A m c] 27) (.cells #[.int .i64 0, .int .i64 0, .string ⟨#[]⟩, .slice none 0 0] 24))
  have h1 := Nat.le_succ w.heap.size
  go_enter Tryz.func13, Tryz.ntmps13
  go_wp2_with (first | (go_at_call 27; (with_reducible refine (TX.out _).mono ?_); rintro e w1 ⟨rfl, h2⟩; have B1 := Lib.hid (B0.out.trans (h2.mono (Below.size B0.out))); obtain ⟨⟨c0, c1, c2, c3⟩, ⟨f0, f1, f2, f3⟩⟩ := cells4 (blk_below b0.out h2); clear h2))
  exact bodyPost_ret (v := .agg #[.int .i64 5, .int .i64 0, .string ⟨#[]⟩, .slice none 0 0]) (by simp [results, Tryz.results13, go_sem, c0, c1, c2, c3]) rfl ⟨rfl, ((((B1.out.setCell h1 _).setCell h1 _).setCell h1 _).setCell h1 _)⟩
/-- What the search for a key has come to: nothing behind j pairs, or the first pair that has it. -/
def InQ (l : Fo) (q : Int) (O : Fo) (fb : Bool) (j : Nat) (O' : Fo) : Prop := (fb = false → O' = O ∧ ∀ p, p < j → isK l q p = false) ∧ (fb = true → ∃ p x, fnd l q = some p ∧ l.nth (2 * p + 1) = some x ∧ O' = Fo.app O (cn (rpN x) .nil))
theorem al2h (w : World) (o1 o2 : Obj) : ((w.alloc o1).alloc o2).heap[w.heap.size]? = some o1 ∧ ((w.alloc o1).alloc o2).heap[w.heap.size + 1]? = some o2 ∧ Below w.heap.size w ((w.alloc o1).alloc o2) :=
  ⟨blk_below (heap_alloc_new w o1) alloc_old, blk2 w o1 o2, two_old w o1 o2⟩
set_option maxRecDepth 100000 in
set_option maxHeartbeats 8000000 in
theorem rRe_tab (W0 : World) (n0 : Int) (s0 : ByteArray) (A : Option Addr) (m C : Nat) (l : Fo) (F : Nat → Prop) (hm : l.len = m) (hm9 : m ≤ 1048576) (hIH : ∀ i x, l.nth i = some x → ∀ A c X, Below W0.heap.size W0 X → SL X F A c x.2.2.2 → RPR 13 X A c x) (w : World) (hi : Below W0.heap.size W0 w) (h : SL w F A C l) : Calls Tryz.prog 13 #[.agg #[.int .i64 4, .int .i64 n0, .string s0, .slice A m C]] w fun e w' => ∃ A' L' C', e = .returned (.agg #[.int .i64 6, .int .i64 0, .string ⟨#[]⟩, .slice A' L' C']) ∧ L' = (colF l (rpT l) (l.len / 2) 1).len ∧ SL w' (fun i => w.heap.size ≤ i) A' C' (colF l (rpT l) (l.len / 2) 1) ∧ Below w.heap.size w w' := by
  have HR := Lib.hid h
  obtain ⟨N, hN⟩ : ∃ N, m / 2 = N := ⟨_, rfl⟩
  have HM := Lib.hid (And.intro hm (And.intro hN hm9))
  have HX := Lib.hid hIH
  have HI := Lib.hid hi
  have K := Lib.hid (al2h w (.cells #[.int .i64 4, .int .i64 n0, .string s0, .slice A m C] 27) (.cells #[.int .i64 0, .int .i64 0, .string ⟨#[]⟩, .slice none 0 0] 24))
  have hz : ((w.alloc (.cells #[.int .i64 4, .int .i64 n0, .string s0, .slice A m C] 27)).alloc (.cells #[.int .i64 0, .int .i64 0, .string ⟨#[]⟩, .slice none 0 0] 24)).heap.size = w.heap.size + 1 + 1 := by simp
  have HZ := Lib.hid hz
  obtain ⟨⟨e0, e1, e2, e3⟩, _⟩ := cells4 K.out.1
  clear h hm hN hm9 hIH hi hz
  go_enter Tryz.func13, Tryz.ntmps13
  go_wp2
  clear e0 e1 e2 e3
  generalize (w.alloc (.cells #[.int .i64 4, .int .i64 n0, .string s0, .slice A m C] 27)).alloc (.cells #[.int .i64 0, .int .i64 0, .string ⟨#[]⟩, .slice none 0 0] 24) = y at K HZ ⊢
  go_loopw [3, 4] (fun ov nv wr => ∃ (t : Nat) (A' : Option Addr) (C' : Nat), t ≤ N ∧ ov = .slice A' t C' ∧ nv = .int .i64 ((t : Int) + 1) ∧ Hid (∃ O, Col l t O ∧ OR 24 wr (w.heap.size + 1 + 1) (.slice A' t C') O ∧ wr.heap[w.heap.size]? = some (.cells #[.int .i64 4, .int .i64 n0, .string s0, .slice A m C] 27) ∧ wr.heap[w.heap.size + 1]? = some (.cells #[.int .i64 0, .int .i64 0, .string ⟨#[]⟩, .slice none 0 0] 24) ∧ Below w.heap.size w wr ∧ w.heap.size + 1 + 1 ≤ wr.heap.size)) (fun _ nv _ => N + 2 - (intOf nv).toNat)
  case atStart => exact ⟨0, none, 0, Nat.zero_le _, rfl, rfl, Lib.hid ⟨.nil, Col.zero l, OR.nil _ _ _, K.out.1, K.out.2.1, K.out.2.2, Nat.le_of_eq HZ.out.symm⟩⟩
  case round =>
    obtain ⟨t, A', C', ht, rfl, rfl, HQ⟩ := hrel
    obtain ⟨O, hcol, hr, hp, hz, hb, hs⟩ := HQ.out
    have n9 : N ≤ 1048576 := by have := HM.out; omega
    obtain ⟨q, hq⟩ : ∃ q : Int, (t : Int) + 1 = q := ⟨_, rfl⟩
    rw [hq]
    have HQ9 := Lib.hid hq
    have q9 : q ≤ 1048577 ∧ 1 ≤ q := by omega
    have CO := Lib.hid hcol
    have HL := Lib.hid (show O.len = t from hr.form.symm)
    have HT := Lib.hid ht
    have S0 := Lib.hid (show ∃ O', InQ l q O false 0 O' ∧ OR 24 wr (w.heap.size + 1 + 1) (.slice A' t C') O' ∧ wr.heap[w.heap.size]? = some (.cells #[.int .i64 4, .int .i64 n0, .string s0, .slice A m C] 27) ∧ wr.heap[w.heap.size + 1]? = some (.cells #[.int .i64 0, .int .i64 0, .string ⟨#[]⟩, .slice none 0 0] 24) ∧ Below w.heap.size w wr ∧ w.heap.size + 1 + 1 ≤ wr.heap.size from ⟨O, ⟨fun _ => ⟨rfl, fun p hp => by omega⟩, (fun h => by cases h)⟩, hr, hp, hz, hb, hs⟩)
    obtain ⟨V0, hV0⟩ : ∃ V0, V0 = wr := ⟨_, rfl⟩
    clear hcol hr hp hz hb hs HQ hq ht
    go_wp2
    rw [← hV0] at S0 ⊢
    clear hV0
    go_loopw [3, 5, 6] (fun ov fv iv wr => ∃ (A2 : Option Addr) (t2 C2 : Nat) (fb : Bool) (j d : Nat), j ≤ N ∧ ov = .slice A2 t2 C2 ∧ fv = .bool fb ∧ iv = .int .i64 d ∧ Hid (d = 2 * j ∧ ∃ O', InQ l q O fb j O' ∧ OR 24 wr (w.heap.size + 1 + 1) (.slice A2 t2 C2) O' ∧ wr.heap[w.heap.size]? = some (.cells #[.int .i64 4, .int .i64 n0, .string s0, .slice A m C] 27) ∧ wr.heap[w.heap.size + 1]? = some (.cells #[.int .i64 0, .int .i64 0, .string ⟨#[]⟩, .slice none 0 0] 24) ∧ Below w.heap.size w wr ∧ w.heap.size + 1 + 1 ≤ wr.heap.size)) (fun _ _ iv _ => m + 1 - (intOf iv).toNat)
    case atStart => exact ⟨A', t, C', false, 0, 0, Nat.zero_le _, rfl, rfl, rfl, Lib.hid ⟨rfl, S0.out⟩⟩
    case round =>
      obtain ⟨A2, t2, C2, fb, j, d, hj, rfl, rfl, rfl, HQ⟩ := hrel
      obtain ⟨hd, O', ⟨hno, hyes⟩, hr, hp, hz, hb, hs⟩ := HQ.out
      clear S0
      have d9 : d ≤ 2097152 := by omega
      obtain ⟨⟨a0, a1, a2, a3⟩, _⟩ := cells4 hp
      have WZ := Lib.hid (show wrap64 ((d : Int) + 1) = (d : Int) + 1 ∧ IntKind.i64.wrap ((d : Int) + 1) = (d : Int) + 1 ∧ ((d : Int) + 1).toNat = d + 1 from ⟨by unfold wrap64; omega, by rw [IntKind.wrap_i64]; omega, by omega⟩)
      cases fb with
      | true =>
        obtain ⟨p, x, hf, hx1, hO⟩ := hyes rfl
        obtain ⟨hlt, hcol2⟩ := CO.out.step (by rw [HQ9.out]; exact hf) hx1
        have hlen := hr.form
        have h2 : t2 = t + 1 := by rw [hlen, hO, len_app, HL.out]; rfl
        subst h2
        have hlt2 : t < N := by rw [HM.out.1, HM.out.2.1] at hlt; exact hlt
        have FIN := Lib.hid (show ∃ O, Col l (t + 1) O ∧ OR 24 wr (w.heap.size + 1 + 1) (.slice A2 (t + 1) C2) O ∧ wr.heap[w.heap.size]? = some (.cells #[.int .i64 4, .int .i64 n0, .string s0, .slice A m C] 27) ∧ wr.heap[w.heap.size + 1]? = some (.cells #[.int .i64 0, .int .i64 0, .string ⟨#[]⟩, .slice none 0 0] 24) ∧ Below w.heap.size w wr ∧ w.heap.size + 1 + 1 ≤ wr.heap.size from ⟨_, hcol2, by rw [← hO]; exact hr, hp, hz, hb, hs⟩)
        clear hno hyes hr hp hz hb hs HQ hf hx1 hO hlt hcol2 hlen hj hd
        obtain ⟨w1, w2, w3⟩ := WZ.out
        have W1 : IntKind.i64.wrap (q + 1) = q + 1 := by rw [IntKind.wrap_i64]; omega
        by_cases hd2 : (d : Int) + 1 < (m : Int)
        · go_wp2_with fail
          exact ⟨⟨t + 1, A2, C2, hlt2, rfl, by (have h9 := HQ9.out; congr 1; first | omega | (rw [W1]; omega)), FIN⟩, by have h9 := HQ9.out; simp [intOf]; omega⟩
        · go_wp2_with fail
          exact ⟨⟨t + 1, A2, C2, hlt2, rfl, by (have h9 := HQ9.out; congr 1; first | omega | (rw [W1]; omega)), FIN⟩, by have h9 := HQ9.out; simp [intOf]; omega⟩
      | false =>
        obtain ⟨rfl, hno2⟩ := hno rfl
        have ht2 : t2 = t := by rw [hr.form, HL.out]
        subst ht2
        by_cases hlt : j < N
        · have q0 : (d : Int) + 1 < (m : Int) := by have := HM.out; omega
          have q1 : (d : Int) < (m : Int) := by omega
          have q2 : d + 1 < m := by omega
          obtain ⟨⟨kk, kn, ks, kl⟩, hx0⟩ := nth_lt (t := l) (i := d) (by have := HM.out.1; omega)
          obtain ⟨⟨k2, n2, t3, l2⟩, hx1⟩ := nth_lt (t := l) (i := d + 1) (by have := HM.out.1; omega)
          obtain ⟨g, off, A3, C3, rfl, _, _, U, _⟩ := HR.out.atB hx0
          obtain ⟨g', off', A4, C4, hg, _, _, V, hsl2⟩ := HR.out.atB hx1
          cases hg
          obtain ⟨m3, hm3⟩ : ∃ m3, kl.len = m3 := ⟨_, rfl⟩
          obtain ⟨m2, hm2⟩ : ∃ m2, l2.len = m2 := ⟨_, rfl⟩
          rw [hm3] at U
          rw [hm2] at V
          obtain ⟨u0, u1, u2, u3⟩ := U wr hb
          obtain ⟨v0, v1, v2, v3⟩ := V wr hb
          obtain ⟨w1, w2, w3⟩ := WZ.out
          have RR := Lib.hid hr
          have PP := Lib.hid hp
          have ZZ := Lib.hid hz
          have BB := Lib.hid hb
          have SS := Lib.hid hs
          have HD := Lib.hid hd
          have NO := Lib.hid hno2
          by_cases hk : kk = 2
          · subst hk
            by_cases hn : kn = q
            · subst hn
              have RX := HX.out _ _ hx1 A4 C4 wr (HI.out.trans (hb.mono (Below.size HI.out))) (hsl2.on hb)
              unfold RPR at RX
              have hkj : isK l kn j = true := isK_yes (by rw [← hd]; exact hx0)
              have hfnd := Lib.hid (fnd_some hkj (by rw [HM.out.1, HM.out.2.1]; exact hlt) hno2)
              have X1 := Lib.hid (show l.nth (2 * j + 1) = some (k2, n2, t3, l2) from by rw [← hd]; exact hx1)
              obtain ⟨⟨kd, nn, tt, l3⟩, hv⟩ : ∃ y, rpN (k2, n2, t3, l2) = y := ⟨_, rfl⟩
              have HV := Lib.hid hv
              simp only [hv] at RX
              obtain ⟨m4, hm4⟩ : ∃ m4, l3.len = m4 := ⟨_, rfl⟩
              simp only [hm2, hm4] at RX
              have RX := Lib.hid RX
              have HM4 := Lib.hid hm4
              have t9 : t2 ≤ 1048576 := by have := HT.out; omega
              clear hno hyes hr hp hz hb hs HQ hj hd hno2 U V hsl2 hkj hv hm2 hm3 hm4 hx0 hx1
              go_wp2_with (first | (go_at_call 13; (with_reducible refine (RX.out).mono ?_); rintro e X1' ⟨A5, C5, rfl, hs5, h1⟩; have D1 := Lib.hid (h1.trans ((alloc_old (w := X1') (o := .cells #[.int .i64 kd, .int .i64 nn, .string tt, .slice A5 m4 C5] 24)).mono (Below.size h1))); have b1 := Lib.hid (heap_alloc_new X1' (.cells #[.int .i64 kd, .int .i64 nn, .string tt, .slice A5 m4 C5] 24)); have E5 := Lib.hid (EC.of1 (k := kd) (n := nn) (s := tt) HM4.out (SL.apart RR.out SS.out (Nat.le_refl _) (hs5.on (alloc_old (w := X1') (o := .cells #[.int .i64 kd, .int .i64 nn, .string tt, .slice A5 m4 C5] 24))))); have RY := Lib.hid (RR.out.below D1.out); have SY := Lib.hid (Nat.le_trans SS.out (Below.size D1.out)); have PY := Lib.hid (blk_below PP.out D1.out); have ZY := Lib.hid (blk_below ZZ.out D1.out); have BY := Lib.hid (BB.out.trans (D1.out.mono (Below.size BB.out))); clear h1 hs5) | (at_builtin; refine append_OR _ rfl _ _ 24 22 _ rfl Tryz.underlying22 i37 rfl (w.heap.size + 1 + 1) _ _ _ HL.out rfl RY.out _ _ 1 rfl (by decide) _ rfl b1.out E5.out (by omega) SY.out ?_; intro g1 C1 Y1 h6 h7; have T1 := Lib.hid h6; have PW := Lib.hid ((h7.block w.heap.size (by have := SY.out; omega) (by intro e; have := (RY.out.own _ e.symm).1; omega)).trans PY.out); have ZW := Lib.hid ((h7.block (w.heap.size + 1) (by have := SY.out; omega) (by intro e; have := (RY.out.own _ e.symm).1; omega)).trans ZY.out); have BZ := Lib.hid (BY.out.grown h7 (by have := SY.out; omega) (fun g hg => by have := (RY.out.own g hg).1; omega)); have SZ := Lib.hid (Nat.le_trans SY.out h7.size); clear h6 h7))
              exact ⟨⟨_, _, C1, true, j + 1, d + 2, hlt, rfl, rfl, by go_num, Lib.hid ⟨by have := HD.out; omega, _, ⟨(fun h => by cases h), fun _ => ⟨j, _, hfnd.out, X1.out, by rw [HV.out]; rfl⟩⟩, T1.out, PW.out, ZW.out, BZ.out, SZ.out⟩⟩, by simp [intOf]; omega⟩
            · have kb : (kn == q) = false := by simp [hn]
              have hkj : isK l q j = false := isK_other (by rw [← hd]; exact hx0) q (fun e => hn e.symm)
              have NO2 := Lib.hid (show ∀ p, p < j + 1 → isK l q p = false from fun p hp => by
                by_cases e : p = j
                · rw [e]; exact hkj
                · exact hno2 p (by omega))
              clear hno hyes hr hp hz hb hs HQ hj hd hno2 U V hsl2 hkj hm2 hm3 hx0 hx1
              go_wp2_with fail
              exact ⟨⟨_, _, C2, false, j + 1, d + 2, hlt, rfl, rfl, by go_num, Lib.hid ⟨by have := HD.out; omega, _, ⟨fun _ => ⟨rfl, NO2.out⟩, (fun h => by cases h)⟩, RR.out, PP.out, ZZ.out, BB.out, SS.out⟩⟩, by simp [intOf]; omega⟩
          · have kb : (kk == 2) = false := by simp [hk]
            have hkj : isK l q j = false := isK_not (by rw [← hd]; exact hx0) hk q
            have NO2 := Lib.hid (show ∀ p, p < j + 1 → isK l q p = false from fun p hp => by
              by_cases e : p = j
              · rw [e]; exact hkj
              · exact hno2 p (by omega))
            clear hno hyes hr hp hz hb hs HQ hj hd hno2 U V hsl2 hkj hm2 hm3 hx0 hx1
            go_wp2_with fail
            exact ⟨⟨_, _, C2, false, j + 1, d + 2, hlt, rfl, rfl, by go_num, Lib.hid ⟨by have := HD.out; omega, _, ⟨fun _ => ⟨rfl, NO2.out⟩, (fun h => by cases h)⟩, RR.out, PP.out, ZZ.out, BB.out, SS.out⟩⟩, by simp [intOf]; omega⟩
        · have q0 : ¬ (d : Int) + 1 < (m : Int) := by have := HM.out; omega
          obtain rfl : j = N := by omega
          have hfn : fnd l q = none := fnd_none (fun p hp => hno2 p (by rw [HM.out.1, HM.out.2.1] at hp; exact hp))
          have RF := Lib.hid (show OR 24 wr (w.heap.size + 1 + 1) (.slice A2 t2 C2) (colF l (rpT l) (l.len / 2) 1) from by rw [CO.out.stop (by rw [HQ9.out]; exact hfn)]; exact hr)
          have JA := Lib.hid (fun X => rlist_any A2 t2 C2 X)
          obtain ⟨w1, w2, w3⟩ := WZ.out
          have ZZ := Lib.hid hz
          have BB := Lib.hid hb
          have SS := Lib.hid hs
          clear hno hyes hr hp hz hb hs HQ hno2 hfn hd hj hlt
          go_wp2_with (first | (go_at_call 26; (with_reducible refine (JA.out _).mono ?_); rintro e X1 ⟨rfl, h1⟩; have D1 := Lib.hid h1; clear h1; obtain ⟨⟨c0, c1, c2, c3⟩, ⟨f0, f1, f2, f3⟩⟩ := cells4 (blk_below ZZ.out D1.out)))
          have RQ := Lib.hid (RF.out.below D1.out)
          have BQ := Lib.hid (BB.out.trans (D1.out.mono (Below.size BB.out)))
          have h1 := Nat.le_succ w.heap.size
          refine bodyPost_ret (v := .agg #[.int .i64 6, .int .i64 0, .string ⟨#[]⟩, .slice A2 t2 C2]) (by simp [results, Tryz.results13, go_sem, c0, c1, c2, c3]) rfl ⟨A2, t2, C2, rfl, RF.out.form, ?_, ((((BQ.out.setCell h1 _).setCell h1 _).setCell h1 _).setCell h1 _)⟩
          refine ((RQ.out.keep (fun g hg _ => ?_) (by simp)).mono (by omega)).sl
          rw [Below.heap_setCell _ ⟨w.heap.size + 1, 3, none⟩ _ g (by show g ≠ w.heap.size + 1; omega), Below.heap_setCell _ ⟨w.heap.size + 1, 2, none⟩ _ g (by show g ≠ w.heap.size + 1; omega), Below.heap_setCell _ ⟨w.heap.size + 1, 1, none⟩ _ g (by show g ≠ w.heap.size + 1; omega), Below.heap_setCell _ ⟨w.heap.size + 1, 0, none⟩ _ g (by show g ≠ w.heap.size + 1; omega)]
/-- The reference's Reply of any value. -/
theorem rRe_any {W0 : World} (F : Nat → Prop) : ∀ (N : Nat) (x : Nd), x.2.2.2.wt < N → x.2.2.2.len ≤ 1048576 → okF x.2.2.2 → ∀ A c X, Below W0.heap.size W0 X → SL X F A c x.2.2.2 → RPR 13 X A c x := by
  intro N
  induction N with
  | zero =>
    intro x hw
    exact absurd hw (Nat.not_lt_zero _)
  | succ N ih =>
    rintro ⟨k, n, s, l⟩ hw hl ho A c X hX h
    by_cases h2 : k = 2
    · subst h2
      exact RPR.flat (k := 3) (n := n) (s := ⟨#[]⟩) rfl (rRe_int n s A _ c X)
    · by_cases h3 : k = 3
      · subst h3
        exact RPR.flat (k := 4) (n := 0) (s := s) rfl (rRe_text n s A _ c X)
      · by_cases h1 : k = 1
        · subst h1
          by_cases hn : n = 1
          · subst hn
            exact RPR.flat (k := 3) (n := 1) (s := ⟨#[]⟩) rfl (rRe_true s A _ c X)
          · exact RPR.flat (k := 5) (n := 0) (s := ⟨#[]⟩) (by simp [rpN, rp1, hn]) (rRe_false n hn s A _ c X)
        · by_cases h4 : k = 4
          · subst h4
            refine (rRe_tab W0 n s A _ c l F rfl hl (fun i x hx A c X hX h => ih x (by have := nth_wt hx; simp only at hw; omega) (ho.nth hx).2.1 (ho.nth hx).2.2 A c X hX h) X hX h).mono ?_
            rintro e w' ⟨A', L', C', rfl, rfl, h4, h5⟩
            exact ⟨A', C', rfl, h4, h5⟩
          · exact RPR.flat (k := 5) (n := 0) (s := ⟨#[]⟩) (by simp [rpN, rp1, h1, h2, h3, h4]) (rRe_none k n h1 h2 h3 h4 s A _ c X)
end Go.Proofs.YtjfejmdnjbekkaaGreatDoor

/- The law's size of a reply: it says something. -/
namespace Go.Proofs.YtjfejmdnjbekkaaGreatDoor
open Go.ChangeShapes Go.WideShapes Go.ChangeAt Go.RowKit
open Fo

def SZR (X : World) (A : Option Addr) (c : Nat) (x : Nd) : Prop := Calls Tryz.prog 5 #[.agg #[.int .i64 x.1, .int .i64 x.2.1, .string x.2.2.1, .slice A x.2.2.2.len c]] X fun e w' => (∃ z d, e = .returned (.tuple #[.int .i64 z, .int .i64 d])) ∧ Below X.heap.size X w'
set_option maxRecDepth 100000 in
set_option maxHeartbeats 4000000 in
theorem size_node (k n : Int) (s : ByteArray) (A : Option Addr) (m C : Nat) (l : Fo) (F : Nat → Prop) (hm : l.len = m) (hIH : ∀ i x, l.nth i = some x → ∀ A c X, SL X F A c x.2.2.2 → SZR X A c x) (w : World) (h : SL w F A C l) : Calls Tryz.prog 5 #[.agg #[.int .i64 k, .int .i64 n, .string s, .slice A m C]] w fun e w' => (∃ z d, e = .returned (.tuple #[.int .i64 z, .int .i64 d])) ∧ Below w.heap.size w w' := by
  have HR := Lib.hid h
  have HM := Lib.hid hm
  have HX := Lib.hid hIH
  have hm9 : m ≤ maxLen := by rw [← hm]; exact Nat.le_trans h.1 h.2.1
  have hm64 : (m : Int) ≤ 9223372036854775807 := by unfold maxLen at hm9; omega
  have K0 := Lib.hid (heap_alloc_new w (.cells #[.int .i64 k, .int .i64 n, .string s, .slice A m C] 24))
  have K1 := Lib.hid (alloc_old (w := w) (o := .cells #[.int .i64 k, .int .i64 n, .string s, .slice A m C] 24))
  obtain ⟨⟨e0, e1, e2, e3⟩, _⟩ := cells4 K0.out
  clear h hm hIH hm9
  go_enter Tryz.func5, Tryz.ntmps5
  go_wp2
  clear e0 e1 e2 e3
  generalize w.alloc (.cells #[.int .i64 k, .int .i64 n, .string s, .slice A m C] 24) = y at K0 K1 ⊢
  go_loopw [4, 5, 6] (fun zv dv iv wr => ∃ (z d : Int) (j : Nat), zv = .int .i64 z ∧ dv = .int .i64 d ∧ iv = .int .i64 j ∧ j ≤ m ∧ Hid (Below w.heap.size w wr ∧ wr.heap[w.heap.size]? = some (.cells #[.int .i64 k, .int .i64 n, .string s, .slice A m C] 24))) (fun _ _ iv _ => m - (intOf iv).toNat)
  case atStart => exact ⟨_, _, 0, rfl, rfl, rfl, Nat.zero_le _, Lib.hid ⟨K1.out, K0.out⟩⟩
  case round =>
    obtain ⟨z, d, j, rfl, rfl, rfl, hj, HQ⟩ := hrel
    obtain ⟨⟨r0, r1, r2, r3⟩, _⟩ := cells4 HQ.out.2
    by_cases hlt : j < m
    · have q0 : (j : Int) < (m : Int) := by omega
      obtain ⟨⟨kd, nn, t, l3⟩, hxi⟩ := nth_lt (t := l) (i := j) (by rw [HM.out]; exact hlt)
      obtain ⟨g, off, A3, C3, rfl, _, _, ⟨d0, d1, d2, d3⟩, hsl⟩ := (HR.out.on HQ.out.1).at_ hxi
      have PX := HX.out j _ hxi A3 C3 wr hsl
      unfold SZR at PX
      obtain ⟨m3, hm3⟩ : ∃ m3, l3.len = m3 := ⟨_, rfl⟩
      rw [hm3] at d3
      simp only [hm3] at PX
      have PX := Lib.hid PX
      clear hxi hsl hm3
      go_wp2_with (first | (go_at_call 5; (with_reducible refine (PX.out).mono ?_); rintro e X1 ⟨⟨z2, d2', rfl⟩, h1⟩; have D1 := Lib.hid h1; clear h1))
      exact ⟨⟨_, _, j + 1, rfl, rfl, by go_num, by omega, Lib.hid ⟨HQ.out.1.trans (D1.out.mono (Below.size HQ.out.1)), blk_below HQ.out.2 D1.out⟩⟩, by simp [intOf]; omega⟩
    · have q0 : ¬ (j : Int) < (m : Int) := by omega
      go_wp2
      exact bodyPost_ret (v := .tuple #[.int .i64 z, .int .i64 d]) (by simp [results, Tryz.results5, go_sem]) rfl ⟨⟨z, d, rfl⟩, HQ.out.1⟩
theorem size_any (F : Nat → Prop) : ∀ (N : Nat) (x : Nd), x.2.2.2.wt < N → ∀ A c X, SL X F A c x.2.2.2 → SZR X A c x := by
  intro N
  induction N with
  | zero =>
    intro x hw
    exact absurd hw (Nat.not_lt_zero _)
  | succ N ih =>
    rintro ⟨k, n, s, l⟩ hw A c X h
    exact size_node k n s A _ c l F rfl (fun i x hx => ih x (by have := nth_wt hx; simp only at hw; omega)) X h
end Go.Proofs.YtjfejmdnjbekkaaGreatDoor

/- The law's plain of a value: it says something. -/
namespace Go.Proofs.YtjfejmdnjbekkaaGreatDoor
open Go.ChangeShapes Go.WideShapes Go.ChangeAt Go.RowKit
open Fo

def IsB (e : Ending) : Prop := ∃ b, e = .returned (.bool b)
theorem IsB.mk {e : Ending} (b : Bool) (h : e = .returned (.bool b)) : IsB e := ⟨b, h⟩
def PNR (X : World) (A : Option Addr) (c : Nat) (dp : Int) (x : Nd) : Prop := Calls Tryz.prog 6 #[.agg #[.int .i64 x.1, .int .i64 x.2.1, .string x.2.2.1, .slice A x.2.2.2.len c], .int .i64 dp] X fun e w' => IsB e ∧ Below X.heap.size X w'
set_option maxRecDepth 100000 in
set_option maxHeartbeats 8000000 in
theorem plain_node (k n : Int) (s : ByteArray) (A : Option Addr) (m C : Nat) (dp : Int) (l : Fo) (F : Nat → Prop) (hm : l.len = m) (hm9 : m ≤ 1048576) (hIH : ∀ i x, l.nth i = some x → ∀ A c dp X, SL X F A c x.2.2.2 → PNR X A c dp x) (w : World) (h : SL w F A C l) : Calls Tryz.prog 6 #[.agg #[.int .i64 k, .int .i64 n, .string s, .slice A m C], .int .i64 dp] w fun e w' => IsB e ∧ Below w.heap.size w w' := by
  have HR := Lib.hid h
  have HM := Lib.hid hm
  have HX := Lib.hid hIH
  have K0 := Lib.hid (heap_alloc_new w (.cells #[.int .i64 k, .int .i64 n, .string s, .slice A m C] 27))
  have K1 := Lib.hid (alloc_old (w := w) (o := .cells #[.int .i64 k, .int .i64 n, .string s, .slice A m C] 27))
  obtain ⟨⟨e0, e1, e2, e3⟩, _⟩ := cells4 K0.out
  clear h hm hIH
  go_enter Tryz.func6, Tryz.ntmps6
  by_cases c1 : k < 0
  · go_wp2
    go_ret
    exact ⟨.mk false (by simp), K1.out⟩
  by_cases c2 : 6 < k
  · go_wp2
    go_ret
    exact ⟨.mk false (by simp), K1.out⟩
  by_cases c3 : (500 : Int) < (s.size : Int)
  · go_wp2
    go_ret
    exact ⟨.mk false (by simp), K1.out⟩
  by_cases c4 : (40 : Int) < (m : Int)
  · go_wp2
    go_ret
    exact ⟨.mk false (by simp), K1.out⟩
  by_cases c5 : (m : Int).tmod 2 = 0
  case neg =>
    go_wp2
    go_ret
    exact ⟨.mk false (by simp), K1.out⟩
  by_cases c6 : 5 < dp
  · go_wp2
    go_ret
    exact ⟨.mk false (by simp), K1.out⟩
  go_wp2
  clear e0 e1 e2 e3 c1 c2 c3 c4 c5 c6
  generalize w.alloc (.cells #[.int .i64 k, .int .i64 n, .string s, .slice A m C] 27) = y at K0 K1 ⊢
  go_loopw [5] (fun iv wr => ∃ d : Nat, iv = .int .i64 d ∧ d ≤ m + 1 ∧ Hid (Below w.heap.size w wr ∧ wr.heap[w.heap.size]? = some (.cells #[.int .i64 k, .int .i64 n, .string s, .slice A m C] 27))) (fun iv _ => m + 2 - (intOf iv).toNat)
  case atStart => exact ⟨0, rfl, by omega, Lib.hid ⟨K1.out, K0.out⟩⟩
  case round =>
    obtain ⟨d, rfl, hd9, HQ⟩ := hrel
    obtain ⟨⟨r0, r1, r2, r3⟩, _⟩ := cells4 HQ.out.2
    have WZ : wrap64 ((d : Int) + 1) = (d : Int) + 1 := by unfold wrap64; omega
    by_cases hlt : d + 1 < m
    · have q0 : (d : Int) + 1 < (m : Int) := by omega
      obtain ⟨⟨kd, nn, t, l3⟩, hx0⟩ := nth_lt (t := l) (i := d) (by rw [HM.out]; omega)
      obtain ⟨⟨k4, n4, t4, l4⟩, hx1⟩ := nth_lt (t := l) (i := d + 1) (by rw [HM.out]; omega)
      obtain ⟨g, off, A3, C3, rfl, _, _, U, _⟩ := HR.out.atB hx0
      obtain ⟨g', off', A4, C4, hg, _, _, V, hsl⟩ := HR.out.atB hx1
      cases hg
      obtain ⟨m3, hm3⟩ : ∃ m3, l3.len = m3 := ⟨_, rfl⟩
      obtain ⟨m4, hm4⟩ : ∃ m4, l4.len = m4 := ⟨_, rfl⟩
      have PX := fun dp X (hX : Below w.heap.size w X) => HX.out _ _ hx1 A4 C4 dp X (hsl.on hX)
      unfold PNR at PX
      simp only [hm3, hm4] at U V PX
      have U := Lib.hid U
      have V := Lib.hid V
      have PX := Lib.hid PX
      have HQ0 := HQ
      obtain ⟨V0, hV0⟩ : ∃ V0, V0 = wr := ⟨_, rfl⟩
      clear hx0 hx1 hm3 hm4 hsl HQ
      go_wp2
      rw [← hV0] at HQ0 ⊢
      clear r0 r1 r2 r3 hV0
      go_loopw [6] (fun kv wr => ∃ e : Nat, kv = .int .i64 e ∧ e ≤ d + 1 ∧ Hid (Below w.heap.size w wr ∧ wr.heap[w.heap.size]? = some (.cells #[.int .i64 k, .int .i64 n, .string s, .slice (some ⟨g, off, none⟩) m C] 27))) (fun kv _ => d + 2 - (intOf kv).toNat)
      case atStart => exact ⟨0, rfl, by omega, HQ0⟩
      case round =>
        obtain ⟨e, rfl, he9, HQ⟩ := hrel
        clear HQ0
        obtain ⟨⟨r0, r1, r2, r3⟩, _⟩ := cells4 HQ.out.2
        by_cases hed : e < d
        · have q1 : (e : Int) < (d : Int) := by omega
          obtain ⟨⟨k5, n5, t5, l5⟩, hx2⟩ := nth_lt (t := l) (i := e) (by rw [HM.out]; omega)
          obtain ⟨g2, off2, A5, C5, hg, _, _, X5, _⟩ := HR.out.atB hx2
          cases hg
          obtain ⟨u0, u1, u2, u3⟩ := U.out wr HQ.out.1
          obtain ⟨v0, v1, v2, v3⟩ := X5 wr HQ.out.1
          clear X5 hx2
          have z1 : (d : Int) < (m : Int) := by omega
          have z2 : (e : Int) < (m : Int) := by omega
          have z3 : d < m := by omega
          have z4 : e < m := by omega
          obtain ⟨x1, hx1⟩ : ∃ b, (k5 == kd) = b := ⟨_, rfl⟩
          obtain ⟨x2, hx2⟩ : ∃ b, (n5 == nn) = b := ⟨_, rfl⟩
          obtain ⟨x3, hx3⟩ : ∃ b, (t5.toList == t.toList) = b := ⟨_, rfl⟩
          cases x1 with
          | false =>
            go_wp2
            go_region
            go_wp2_with fail
            exact ⟨⟨e + 2, by go_num, by omega, Lib.hid ⟨HQ.out.1.drew, HQ.out.2⟩⟩, by simp [intOf]; omega⟩
          | true =>
            cases x2 with
            | false =>
              go_wp2
              go_region
              go_wp2_with fail
              exact ⟨⟨e + 2, by go_num, by omega, Lib.hid ⟨HQ.out.1.drew, HQ.out.2⟩⟩, by simp [intOf]; omega⟩
            | true =>
              cases x3 with
              | false =>
                go_wp2
                go_region
                go_wp2_with fail
                exact ⟨⟨e + 2, by go_num, by omega, Lib.hid ⟨HQ.out.1.drew, HQ.out.2⟩⟩, by simp [intOf]; omega⟩
              | true =>
                go_wp2
                go_region
                go_wp2_with fail
                go_ret
                exact ⟨.mk false (by simp), HQ.out.1.drew⟩
        · have q1 : ¬ (e : Int) < (d : Int) := by omega
          obtain ⟨u0, u1, u2, u3⟩ := U.out wr HQ.out.1
          obtain ⟨v0, v1, v2, v3⟩ := V.out wr HQ.out.1
          have z1 : (d : Int) < (m : Int) := by omega
          by_cases h3 : (0 : Int) < (m3 : Int)
          · go_wp2
            go_ret
            exact ⟨.mk false (by simp), HQ.out.1⟩
          · have PY := Lib.hid (fun dp => PX.out dp wr HQ.out.1)
            go_wp2_with (first | (go_at_call 6; (with_reducible refine (PY.out _).mono ?_); rintro ee X1 ⟨⟨b, rfl⟩, h1⟩; have D1 := Lib.hid h1; clear h1; refine Hid.out ?_))
            refine Lib.hid ?_
            cases b with
            | false =>
              go_wp2_with fail
              go_ret
              exact ⟨.mk false (by simp), HQ.out.1.trans (D1.out.mono (Below.size HQ.out.1))⟩
            | true =>
              go_wp2_with fail
              exact ⟨⟨d + 2, by go_num, by omega, Lib.hid ⟨HQ.out.1.trans (D1.out.mono (Below.size HQ.out.1)), blk_below HQ.out.2 D1.out⟩⟩, by simp [intOf]; omega⟩
    · have q0 : ¬ (d : Int) + 1 < (m : Int) := by omega
      go_wp2
      go_ret
      exact ⟨.mk true (by simp), HQ.out.1⟩
theorem plain_any (F : Nat → Prop) : ∀ (N : Nat) (x : Nd), x.2.2.2.wt < N → x.2.2.2.len ≤ 1048576 → okF x.2.2.2 → ∀ A c dp X, SL X F A c x.2.2.2 → PNR X A c dp x := by
  intro N
  induction N with
  | zero =>
    intro x hw
    exact absurd hw (Nat.not_lt_zero _)
  | succ N ih =>
    rintro ⟨k, n, s, l⟩ hw hl ho A c dp X h
    exact plain_node k n s A _ c dp l F rfl hl (fun i x hx => ih x (by have := nth_wt hx; simp only at hw; omega) (ho.nth hx).2.1 (ho.nth hx).2.2) X h
end Go.Proofs.YtjfejmdnjbekkaaGreatDoor
