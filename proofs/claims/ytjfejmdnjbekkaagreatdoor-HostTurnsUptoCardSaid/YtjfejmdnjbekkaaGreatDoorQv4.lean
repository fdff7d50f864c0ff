/- Texts joined: TH -/
import Derived.Test.YtjfejmdnjbekkaaGreatDoorQv2
set_option linter.unusedVariables false
set_option linter.unusedSimpArgs false

/- The reference's Plain of any reply. -/
namespace Go.Proofs.YtjfejmdnjbekkaaGreatDoor
open Go.ChangeShapes Go.WideShapes Go.ChangeAt Go.RowKit
open Fo

theorem rPrint_any {w0 : World} (hT : Tab w0) (n : Int) (hn : I64 n) (w : World) (hi : Below w0.heap.size w0 w) : Calls Tryz.prog 19 #[.int .i64 n] w fun e w' => e = .returned (.string (numT n)) ∧ Below w.heap.size w w' := by
  have C := Lib.hid (show Calls Tryz.prog 34 #[.int .i64 n, .int .i64 10] w fun e w' => e = .returned (.string (numT n)) ∧ Below w.heap.size w w' from by
    have C := Lib.hid (Fmt82 hT n hn w hi)
    clear hT hi hn
    go_enter Tryz.func34, Tryz.ntmps34
    go_wp2_with (go_at_call 43; refine (C.out).mono ?_; rintro e w' ⟨rfl, hi'⟩)
    go_ret
    exact ⟨by simp, by assumption⟩)
  clear hT hi hn
  go_enter Tryz.func19, Tryz.ntmps19
  go_wp2_with (go_at_call 34; refine (C.out).mono ?_; rintro e w' ⟨rfl, hi'⟩)
  go_ret
  exact ⟨by simp, by assumption⟩
set_option maxRecDepth 100000 in
set_option maxHeartbeats 4000000 in
theorem rPl_text (k n : Int) (hk : k = 1 ∨ k = 4) (s : ByteArray) (A : Option Addr) (m c : Nat) (w : World) : Calls Tryz.prog 9 #[.agg #[.int .i64 k, .int .i64 n, .string s, .slice A m c]] w fun e w' => e = .returned (.tuple #[.agg #[.int .i64 3, .int .i64 0, .string s, .slice none 0 0], .bool false]) ∧ Below w.heap.size w w' := by
  rcases hk with rfl | rfl
  · go_enter Tryz.func9, Tryz.ntmps9
    go_wp2
    obtain ⟨⟨c0, c1, c2, c3⟩, _⟩ := cells4 (blk2 w (.cells #[.int .i64 1, .int .i64 n, .string s, .slice A m c] 24) (.cells #[.int .i64 3, .int .i64 0, .string s, .slice none 0 0] 27))
    exact bodyPost_ret (v := .tuple #[.agg #[.int .i64 3, .int .i64 0, .string s, .slice none 0 0], .bool false]) (by simp [results, Tryz.results9, go_sem, c0, c1, c2, c3]) rfl ⟨rfl, two_old w _ _⟩
  · go_enter Tryz.func9, Tryz.ntmps9
    go_wp2
    obtain ⟨⟨c0, c1, c2, c3⟩, _⟩ := cells4 (blk2 w (.cells #[.int .i64 4, .int .i64 n, .string s, .slice A m c] 24) (.cells #[.int .i64 3, .int .i64 0, .string s, .slice none 0 0] 27))
    exact bodyPost_ret (v := .tuple #[.agg #[.int .i64 3, .int .i64 0, .string s, .slice none 0 0], .bool false]) (by simp [results, Tryz.results9, go_sem, c0, c1, c2, c3]) rfl ⟨rfl, two_old w _ _⟩
set_option maxRecDepth 100000 in
set_option maxHeartbeats 4000000 in
theorem rPl_int (n : Int) (s : ByteArray) (A : Option Addr) (m c : Nat) (w : World) : Calls Tryz.prog 9 #[.agg #[.int .i64 3, .int .i64 n, .string s, .slice A m c]] w fun e w' => e = .returned (.tuple #[.agg #[.int .i64 2, .int .i64 n, .string ⟨#[]⟩, .slice none 0 0], .bool false]) ∧ Below w.heap.size w w' := by
  go_enter Tryz.func9, Tryz.ntmps9
  go_wp2
  obtain ⟨⟨c0, c1, c2, c3⟩, _⟩ := cells4 (blk2 w (.cells #[.int .i64 3, .int .i64 n, .string s, .slice A m c] 24) (.cells #[.int .i64 2, .int .i64 n, .string ⟨#[]⟩, .slice none 0 0] 27))
  exact bodyPost_ret (v := .tuple #[.agg #[.int .i64 2, .int .i64 n, .string ⟨#[]⟩, .slice none 0 0], .bool false]) (by simp [results, Tryz.results9, go_sem, c0, c1, c2, c3]) rfl ⟨rfl, two_old w _ _⟩
set_option maxRecDepth 100000 in
set_option maxHeartbeats 4000000 in
theorem rPl_none (k n : Int) (h1 : ¬ k = 1) (h2 : ¬ k = 2) (h3 : ¬ k = 3) (h4 : ¬ k = 4) (h6 : ¬ k = 6) (s : ByteArray) (A : Option Addr) (m c : Nat) (w : World) : Calls Tryz.prog 9 #[.agg #[.int .i64 k, .int .i64 n, .string s, .slice A m c]] w fun e w' => e = .returned (.tuple #[.agg #[.int .i64 0, .int .i64 0, .string ⟨#[]⟩, .slice none 0 0], .bool false]) ∧ Below w.heap.size w w' := by
  go_enter Tryz.func9, Tryz.ntmps9
  go_wp2
  obtain ⟨⟨c0, c1, c2, c3⟩, _⟩ := cells4 (blk2 w (.cells #[.int .i64 k, .int .i64 n, .string s, .slice A m c] 24) (.cells #[.int .i64 0, .int .i64 0, .string ⟨#[]⟩, .slice none 0 0] 27))
  exact bodyPost_ret (v := .tuple #[.agg #[.int .i64 0, .int .i64 0, .string ⟨#[]⟩, .slice none 0 0], .bool false]) (by simp [results, Tryz.results9, go_sem, c0, c1, c2, c3]) rfl ⟨rfl, two_old w _ _⟩
set_option maxRecDepth 100000 in
set_option maxHeartbeats 4000000 in
theorem rPl_err {W0 : World} (hT : Tab W0) (n : Int) (hn : I64 n) (s : ByteArray) (A : Option Addr) (m c : Nat) (w : World) (hi : Below W0.heap.size W0 w) : Calls Tryz.prog 9 #[.agg #[.int .i64 2, .int .i64 n, .string s, .slice A m c]] w fun e w' => e = .returned (.tuple #[.agg #[.int .i64 3, .int .i64 0, .string (errT n), .slice none 0 0], .bool true]) ∧ Below w.heap.size w w' := by
  have b0 := Lib.hid (blk2 w (.cells #[.int .i64 2, .int .i64 n, .string s, .slice A m c] 24) (.cells #[.int .i64 0, .int .i64 0, .string ⟨#[]⟩, .slice none 0 0] 27))
  have B0 := Lib.hid (two_old w (.cells #[.int .i64 2, .int .i64 n, .string s, .slice A m c] 24) (.cells #[.int .i64 0, .int .i64 0, .string ⟨#[]⟩, .slice none 0 0] 27))
  have PR := Lib.hid (fun X (hX : Below w.heap.size w X) => rPrint_any hT n hn X (hi.trans (hX.mono (Below.size hi))))
  have hz := numT_size n hn
  unfold errT
  obtain ⟨t, ht⟩ : ∃ t, numT n = t := ⟨_, rfl⟩
  simp only [ht] at PR hz ⊢
  have q1 : ¬ ((⟨#[69, 82, 82, 32]⟩ : ByteArray).size + t.size > 9223372036854775807) := by
    have : (⟨#[69, 82, 82, 32]⟩ : ByteArray).size = 4 := rfl
    omega
  have h1 := Nat.le_succ w.heap.size
  clear hT hn hi hz ht
  go_enter Tryz.func9, Tryz.ntmps9
  go_wp2_with (first | (go_at_call 19; (with_reducible refine (PR.out _ B0.out).mono ?_); rintro e w1 ⟨rfl, h2⟩; have B1 := Lib.hid (B0.out.trans (h2.mono (Below.size B0.out))); obtain ⟨⟨c0, c1, c2, c3⟩, ⟨f0, f1, f2, f3⟩⟩ := cells4 (blk_below b0.out h2); clear h2))
  exact bodyPost_ret (v := .tuple #[.agg #[.int .i64 3, .int .i64 0, .string (⟨#[69, 82, 82, 32]⟩ ++ t), .slice none 0 0], .bool true]) (by simp [results, Tryz.results9, go_sem, c0, c1, c2, c3]) rfl ⟨rfl, ((((B1.out.setCell h1 _).setCell h1 _).setCell h1 _).setCell h1 _)⟩
set_option maxRecDepth 100000 in
set_option maxHeartbeats 8000000 in
theorem rPl_arr (W0 : World) (n0 : Int) (s0 : ByteArray) (A : Option Addr) (m C : Nat) (l : Fo) (F : Nat → Prop) (hm : l.len = m) (hm9 : m ≤ 1048576) (IH : ∀ i x, l.nth i = some x → ∀ A c X, Below W0.heap.size W0 X → SL X F A c x.2.2.2 → PLR 9 X A c x) (w : World) (hi : Below W0.heap.size W0 w) (h : SL w F A C l) : Calls Tryz.prog 9 #[.agg #[.int .i64 6, .int .i64 n0, .string s0, .slice A m C]] w fun e w' => ∃ A' L' C', e = .returned (.tuple #[.agg #[.int .i64 4, .int .i64 0, .string ⟨#[]⟩, .slice A' L' C'], .bool false]) ∧ L' = (plsT l 0).len ∧ SL w' (fun i => w.heap.size ≤ i) A' C' (plsT l 0) ∧ Below w.heap.size w w' := by
  have HR := Lib.hid h
  have HM := Lib.hid hm
  have HX := Lib.hid IH
  have HI := Lib.hid hi
  obtain ⟨k0, k1, k2, k3⟩ := al3h w (.cells #[.int .i64 6, .int .i64 n0, .string s0, .slice A m C] 24) (.cells #[.int .i64 0, .int .i64 0, .string ⟨#[]⟩, .slice none 0 0] 27) (.cells #[.int .i64 4, .int .i64 0, .string ⟨#[]⟩, .slice none 0 0] 27)
  have K := Lib.hid (And.intro k1 (And.intro k2 (And.intro k3 k0)))
  obtain ⟨⟨e0, e1, e2, e3⟩, _⟩ := cells4 k0
  have hz : (((w.alloc (.cells #[.int .i64 6, .int .i64 n0, .string s0, .slice A m C] 24)).alloc (.cells #[.int .i64 0, .int .i64 0, .string ⟨#[]⟩, .slice none 0 0] 27)).alloc (.cells #[.int .i64 4, .int .i64 0, .string ⟨#[]⟩, .slice none 0 0] 27)).heap.size = w.heap.size + 1 + 1 + 1 := by simp
  have HZ := Lib.hid hz
  clear h hm IH hi k0 k1 k2 k3 hz
  go_enter Tryz.func9, Tryz.ntmps9
  go_wp2
  clear e0 e1 e2 e3
  generalize ((w.alloc (.cells #[.int .i64 6, .int .i64 n0, .string s0, .slice A m C] 24)).alloc (.cells #[.int .i64 0, .int .i64 0, .string ⟨#[]⟩, .slice none 0 0] 27)).alloc (.cells #[.int .i64 4, .int .i64 0, .string ⟨#[]⟩, .slice none 0 0] 27) = y at K HZ ⊢
  go_loopw [5] (fun iv wr => ∃ i : Nat, i ≤ m ∧ iv = .int .i64 i ∧ Hid (∃ A' L' C', wr.heap[w.heap.size + 1 + 1]? = some (.cells #[.int .i64 4, .int .i64 0, .string ⟨#[]⟩, .slice A' L' C'] 27) ∧ OR 27 wr (w.heap.size + 1 + 1 + 1) (.slice A' L' C') (plsT (l.take i) 0) ∧ wr.heap[w.heap.size + 1]? = some (.cells #[.int .i64 0, .int .i64 0, .string ⟨#[]⟩, .slice none 0 0] 27) ∧ Below w.heap.size w wr ∧ w.heap.size + 1 + 1 + 1 ≤ wr.heap.size ∧ wr.heap[w.heap.size]? = some (.cells #[.int .i64 6, .int .i64 n0, .string s0, .slice A m C] 24))) (fun iv _ => m - (intOf iv).toNat)
  case atStart => exact ⟨0, Nat.zero_le _, rfl, Lib.hid ⟨none, 0, 0, K.out.2.1, by rw [take_zero]; exact OR.nil _ _ _, K.out.1, K.out.2.2.1, Nat.le_of_eq HZ.out.symm, K.out.2.2.2⟩⟩
  case round =>
    obtain ⟨i, hi, rfl, HQ⟩ := hrel
    obtain ⟨A', L', C', hp, hr, hz, hb, hs, hbx⟩ := HQ.out
    obtain ⟨⟨r0, r1, r2, r3⟩, _⟩ := cells4 hbx
    by_cases hlt : i < m
    · have q0 : (i : Int) < (m : Int) := by omega
      obtain ⟨⟨kd, nn, t, l3⟩, hxi⟩ := nth_lt (t := l) (i := i) (by rw [HM.out]; exact hlt)
      obtain ⟨g, off, A3, C3, rfl, _, _, ⟨d0, d1, d2, d3⟩, hsl⟩ := (HR.out.on hb).at_ hxi
      obtain ⟨m3, hm3⟩ : ∃ m3, l3.len = m3 := ⟨_, rfl⟩
      rw [hm3] at d3
      have PX := HX.out i _ hxi A3 C3 wr (HI.out.trans (hb.mono (Below.size HI.out))) hsl
      have HT := Lib.hid (plsT_take hxi)
      have hlen : (plsT (l.take i) 0).len ≤ 2097152 := Nat.le_trans (plsT_len _ _) (by rw [len_take l i (by rw [HM.out]; exact hi)]; omega)
      unfold PLR at PX
      obtain ⟨⟨k2, n2, t2, l2⟩, hv⟩ : ∃ y, plN (kd, nn, t, l3) = y := ⟨_, rfl⟩
      simp only [hv, hm3] at PX HT
      obtain ⟨m2, hm2⟩ : ∃ m2, l2.len = m2 := ⟨_, rfl⟩
      simp only [hm2] at PX
      obtain ⟨fb, hfb⟩ : ∃ fb, (kd == 2) = fb := ⟨_, rfl⟩
      simp only [hfb] at PX
      have PX := Lib.hid PX
      obtain ⟨L, hL⟩ : ∃ L, plsT (l.take i) 0 = L := ⟨_, rfl⟩
      rw [hL] at hr hlen
      simp only [hL] at HT
      have hll := hr.form
      have HM2 := Lib.hid hm2
      have HP := Lib.hid hp
      have HRR := Lib.hid hr
      have HZZ := Lib.hid hz
      have HB := Lib.hid hb
      have HS := Lib.hid hs
      have HBX := Lib.hid hbx
      have HLL := Lib.hid (And.intro hll hlen)
      have i9 : i ≤ 1048576 := by omega
      clear hp hr hz hb hs hbx hL hll hlen hxi HQ hi hm3 hm2 hfb hv hsl
      go_wp2_with (first | (go_at_call 9; (with_reducible refine (PX.out).mono ?_); rintro e X1 ⟨A2, C2, rfl, hsl2, h1⟩; have SL2 := Lib.hid hsl2; have D1 := Lib.hid h1; clear h1 hsl2; refine Hid.out ?_))
      refine Lib.hid ?_
      clear d0 d1 d2 d3 r0 r1 r2 r3
      have DW := Lib.hid (D1.out.trans ((alloc_old (w := X1) (o := .cells #[.int .i64 k2, .int .i64 n2, .string t2, .slice A2 m2 C2] 27)).mono (Below.size D1.out)))
      have pw := Lib.hid (blk_below HP.out DW.out)
      have zw := Lib.hid (blk_below HZZ.out DW.out)
      have bxw := Lib.hid (blk_below HBX.out DW.out)
      have rw_ := Lib.hid (HRR.out.below DW.out)
      have bw := Lib.hid (HB.out.trans (DW.out.mono (Below.size HB.out)))
      have sw := Lib.hid (Nat.le_trans HS.out (Below.size DW.out))
      obtain ⟨⟨a0, a1, a2, a3⟩, _⟩ := cells4 pw.out
      obtain ⟨⟨y0, y1, y2, y3⟩, _⟩ := cells4 (heap_alloc_new X1 (.cells #[.int .i64 k2, .int .i64 n2, .string t2, .slice A2 m2 C2] 27))
      by_cases h5 : k2 = 0
      · have HT2 := HT.out
        rw [if_pos h5, app_nil] at HT2
        have HT2 := Lib.hid HT2
        subst h5
        go_wp2_with fail
        exact ⟨⟨i + 1, hlt, by go_num, Lib.hid ⟨A', L', C', pw.out, by rw [HT2.out]; exact rw_.out, zw.out, bw.out, sw.out, bxw.out⟩⟩, by simp [intOf]; omega⟩
      · have HT2 := HT.out
        rw [if_neg h5] at HT2
        have HT2 := Lib.hid HT2
        have w1 : wrap64 ((i : Int) + 1) = (i : Int) + 1 := by unfold wrap64; omega
        have w2 : IntKind.i64.wrap ((i : Int) + 1) = (i : Int) + 1 := by rw [IntKind.wrap_i64]; omega
        have AY := Lib.hid (alloc_old (w := X1.alloc (.cells #[.int .i64 k2, .int .i64 n2, .string t2, .slice A2 m2 C2] 27)) (o := .cells #[.int .i64 2, .int .i64 ((i : Int) + 1), .string ⟨#[]⟩, .slice none 0 0, .int .i64 k2, .int .i64 n2, .string t2, .slice A2 m2 C2] 27))
        have ny := Lib.hid (show ((X1.alloc (.cells #[.int .i64 k2, .int .i64 n2, .string t2, .slice A2 m2 C2] 27)).alloc (.cells #[.int .i64 2, .int .i64 ((i : Int) + 1), .string ⟨#[]⟩, .slice none 0 0, .int .i64 k2, .int .i64 n2, .string t2, .slice A2 m2 C2] 27)).heap[X1.heap.size + 1]? = some (.cells #[.int .i64 2, .int .i64 ((i : Int) + 1), .string ⟨#[]⟩, .slice none 0 0, .int .i64 k2, .int .i64 n2, .string t2, .slice A2 m2 C2] 27) from blk2 X1 _ _)
        have RY := Lib.hid (rw_.out.below AY.out)
        have SY := Lib.hid (Nat.le_trans sw.out (Below.size AY.out))
        have PY := Lib.hid (blk_below pw.out AY.out)
        have ZY := Lib.hid (blk_below zw.out AY.out)
        have XY := Lib.hid (blk_below bxw.out AY.out)
        have BY := Lib.hid (bw.out.trans (AY.out.mono (Below.size bw.out)))
        have EY := Lib.hid (EC.of2 (k2 := 2) (n2 := (i : Int) + 1) (s2 := ⟨#[]⟩) (k := k2) (n := n2) (s := t2) HM2.out (SL.apart HRR.out HS.out (Nat.le_refl _) (SL2.out.on ((alloc_old (w := X1) (o := .cells #[.int .i64 k2, .int .i64 n2, .string t2, .slice A2 m2 C2] 27)).trans (AY.out.mono (by rw [World.size_alloc]; omega))))))
        obtain ⟨rfl, _⟩ := HLL.out
        have l9 := HLL.out.2
        go_wp2_with (first | (at_builtin; refine append_OR _ rfl _ _ 27 25 _ rfl Tryz.underlying25 iPl rfl (w.heap.size + 1 + 1 + 1) _ _ _ rfl rfl RY.out _ _ 2 rfl (by decide) _ rfl ny.out EY.out (by omega) SY.out ?_; intro g1 C1 Z1 h6 h7; have T1 := Lib.hid h6; have E1 := Lib.hid h7; have P1 := Lib.hid ((h7.block (w.heap.size + 1 + 1) (by have := SY.out; omega) (by intro e; have := (RY.out.own _ e.symm).1; omega)).trans PY.out); have Q1 := Lib.hid ((h7.block (w.heap.size + 1) (by have := SY.out; omega) (by intro e; have := (RY.out.own _ e.symm).1; omega)).trans ZY.out); have X9 := Lib.hid ((h7.block w.heap.size (by have := SY.out; omega) (by intro e; have := (RY.out.own _ e.symm).1; omega)).trans XY.out); have F1 := Lib.hid (BY.out.grown h7 (by have := SY.out; omega) (fun g hg => by have := (RY.out.own g hg).1; omega)); have G1 := Lib.hid (Nat.le_trans SY.out h7.size); clear h6 h7; obtain ⟨⟨b0, b1, b2, b3⟩, ⟨f0, f1, f2, f3⟩⟩ := cells4 P1.out))
        exact ⟨⟨i + 1, hlt, by go_num, Lib.hid ⟨_, _, C1, set_cells4h P1.out, by rw [HT2.out]; exact T1.out.keep (fun g hg _ => Below.heap_setCell _ ⟨w.heap.size + 1 + 1, 3, none⟩ _ _ (by show g ≠ w.heap.size + 1 + 1; omega)) (by simp), (Below.heap_setCell _ ⟨w.heap.size + 1 + 1, 3, none⟩ _ _ (by show w.heap.size + 1 ≠ w.heap.size + 1 + 1; omega)).trans Q1.out, F1.out.setCell (by show w.heap.size ≤ w.heap.size + 1 + 1; omega) _, by simpa using G1.out, (Below.heap_setCell _ ⟨w.heap.size + 1 + 1, 3, none⟩ _ _ (by show w.heap.size ≠ w.heap.size + 1 + 1; omega)).trans X9.out⟩⟩, by simp [intOf]; omega⟩
    · have q0 : ¬ (i : Int) < (m : Int) := by omega
      obtain rfl : i = m := by omega
      have hr2 := hr
      rw [show l.take i = l by rw [← HM.out]; exact Fo.take_len l] at hr2
      have hL := hr2.form
      obtain ⟨⟨a0, a1, a2, a3⟩, _⟩ := cells4 hp
      obtain ⟨⟨c0, c1, c2, c3⟩, ⟨f0, f1, f2, f3⟩⟩ := cells4 hz
      have RR := Lib.hid hr2
      have BB := Lib.hid hb
      have SS := Lib.hid hs
      have LL := Lib.hid hL
      clear hr hr2 hp hz hb hbx HQ hlt hi hs hL
      go_wp2
      have h1 := Nat.le_succ w.heap.size
      refine bodyPost_ret (v := .tuple #[.agg #[.int .i64 4, .int .i64 0, .string ⟨#[]⟩, .slice A' L' C'], .bool false]) (by simp [results, Tryz.results9, go_sem, c0, c1, c2, c3]) rfl ⟨A', L', C', rfl, LL.out, ?_, ((((BB.out.setCell h1 _).setCell h1 _).setCell h1 _).setCell h1 _)⟩
      refine ((RR.out.keep (fun g hg _ => ?_) (by simp)).mono (by omega)).sl
      rw [Below.heap_setCell _ ⟨w.heap.size + 1, 3, none⟩ _ g (by show g ≠ w.heap.size + 1; omega), Below.heap_setCell _ ⟨w.heap.size + 1, 2, none⟩ _ g (by show g ≠ w.heap.size + 1; omega), Below.heap_setCell _ ⟨w.heap.size + 1, 1, none⟩ _ g (by show g ≠ w.heap.size + 1; omega), Below.heap_setCell _ ⟨w.heap.size + 1, 0, none⟩ _ g (by show g ≠ w.heap.size + 1; omega)]
/-- The reference's Plain of any reply. -/
theorem rPl_any {W0 : World} (hT : Tab W0) (F : Nat → Prop) : ∀ (N : Nat) (x : Nd), x.2.2.2.wt < N → I64 x.2.1 → x.2.2.2.len ≤ 1048576 → okF x.2.2.2 → ∀ A c X, Below W0.heap.size W0 X → SL X F A c x.2.2.2 → PLR 9 X A c x := by
  intro N
  induction N with
  | zero =>
    intro x hw
    exact absurd hw (Nat.not_lt_zero _)
  | succ N ih =>
    rintro ⟨k, n, s, l⟩ hw hn hl ho A c X hX h
    by_cases h14 : k = 1 ∨ k = 4
    · refine PLR.flat (k := 3) (n := 0) (s := s) (by simp [plN, pl1, h14]) ?_
      rw [show (k == 2) = false by rcases h14 with rfl | rfl <;> rfl]
      exact rPl_text k n h14 s A _ c X
    · by_cases h3 : k = 3
      · subst h3
        exact PLR.flat (k := 2) (n := n) (s := ⟨#[]⟩) rfl (rPl_int n s A _ c X)
      · by_cases h2 : k = 2
        · subst h2
          exact PLR.flat (k := 3) (n := 0) (s := errT n) rfl (rPl_err hT n hn s A _ c X hX)
        · by_cases h6 : k = 6
          · subst h6
            refine (rPl_arr W0 n s A _ c l F rfl hl (fun i x hx A c X hX h => ih x (by have := nth_wt hx; simp only at hw; omega) (ho.nth hx).1 (ho.nth hx).2.1 (ho.nth hx).2.2 A c X hX h) X hX h).mono ?_
            rintro e w' ⟨A', L', C', rfl, rfl, h4, h5⟩
            exact ⟨A', C', rfl, h4, h5⟩
          · refine PLR.flat (k := 0) (n := 0) (s := ⟨#[]⟩) (by simp [plN, pl1, h14, h3, h2, h6]) ?_
            rw [show (k == 2) = false by simp [h2]]
            exact rPl_none k n (fun e => h14 (.inl e)) h2 h3 (fun e => h14 (.inr e)) h6 s A _ c X
end Go.Proofs.YtjfejmdnjbekkaaGreatDoor
