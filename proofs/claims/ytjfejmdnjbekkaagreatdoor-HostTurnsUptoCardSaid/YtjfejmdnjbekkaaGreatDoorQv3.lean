/- Texts joined: TF, TG -/
import Derived.Test.YtjfejmdnjbekkaaGreatDoorQv2
set_option linter.unusedVariables false
set_option linter.unusedSimpArgs false

/- host.Reply of a table. -/
namespace Go.Proofs.YtjfejmdnjbekkaaGreatDoor
open Go.ChangeShapes Go.WideShapes Go.ChangeAt Go.RowKit
open Fo

set_option maxRecDepth 100000 in
set_option maxHeartbeats 8000000 in
theorem hRe_tab (W0 : World) (n0 : Int) (s0 : ByteArray) (A : Option Addr) (m C : Nat) (l : Fo) (F : Nat → Prop) (hm : l.len = m) (hm9 : m ≤ 1048576) (hIH : ∀ i x, l.nth i = some x → ∀ A c X, Below W0.heap.size W0 X → SL X F A c x.2.2.2 → RPR 12 X A c x) (w : World) (hi : Below W0.heap.size W0 w) (h : SL w F A C l) : Calls Tryz.prog 12 #[.agg #[.int .i64 4, .int .i64 n0, .string s0, .slice A m C]] w fun e w' => ∃ A' L' C', e = .returned (.agg #[.int .i64 6, .int .i64 0, .string ⟨#[]⟩, .slice A' L' C']) ∧ L' = (colF l (rpT l) (l.len / 2) 1).len ∧ SL w' (fun i => w.heap.size ≤ i) A' C' (colF l (rpT l) (l.len / 2) 1) ∧ Below w.heap.size w w' := by
  have HR := Lib.hid h
  obtain ⟨N, hN⟩ : ∃ N, m / 2 = N := ⟨_, rfl⟩
  have HM := Lib.hid (And.intro hm (And.intro hN hm9))
  have HX := Lib.hid hIH
  have HI := Lib.hid hi
  obtain ⟨k0, k1, k2, k3⟩ := al3h w (.cells #[.int .i64 4, .int .i64 n0, .string s0, .slice A m C] 27) (.cells #[.int .i64 0, .int .i64 0, .string ⟨#[]⟩, .slice none 0 0] 24) (.map #[] 0)
  have mb0 : MapI.MB (((w.alloc (.cells #[.int .i64 4, .int .i64 n0, .string s0, .slice A m C] 27)).alloc (.cells #[.int .i64 0, .int .i64 0, .string ⟨#[]⟩, .slice none 0 0] 24)).alloc (.map #[] 0)) (w.heap.size + 1 + 1) [] := ⟨#[], 0, k2, rfl, Go.MapKept.stamped_empty 0⟩
  have K := Lib.hid (And.intro k0 (And.intro k1 k3))
  have MB0 := Lib.hid mb0
  have hz : (((w.alloc (.cells #[.int .i64 4, .int .i64 n0, .string s0, .slice A m C] 27)).alloc (.cells #[.int .i64 0, .int .i64 0, .string ⟨#[]⟩, .slice none 0 0] 24)).alloc (.map #[] 0)).heap.size = w.heap.size + 1 + 1 + 1 := by simp
  have HZ := Lib.hid hz
  have hmm := @run_makeMap Tryz.prog
  clear h hm hN hm9 hIH hi k0 k1 k2 k3 hz mb0
  go_enter Tryz.func12, Tryz.ntmps12
  go_wp2
  clear hmm
  generalize ((w.alloc (.cells #[.int .i64 4, .int .i64 n0, .string s0, .slice A m C] 27)).alloc (.cells #[.int .i64 0, .int .i64 0, .string ⟨#[]⟩, .slice none 0 0] 24)).alloc (.map #[] 0) = y at K MB0 HZ ⊢
  go_loopw [4] (fun iv wr => ∃ j d : Nat, j ≤ N ∧ iv = .int .i64 d ∧ Hid (∃ es, d = 2 * j ∧ MapI.MB wr (w.heap.size + 1 + 1) es ∧ Inv1 w l F j es ∧ wr.heap[w.heap.size]? = some (.cells #[.int .i64 4, .int .i64 n0, .string s0, .slice A m C] 27) ∧ wr.heap[w.heap.size + 1]? = some (.cells #[.int .i64 0, .int .i64 0, .string ⟨#[]⟩, .slice none 0 0] 24) ∧ Below w.heap.size w wr ∧ w.heap.size + 1 + 1 + 1 ≤ wr.heap.size)) (fun iv _ => m - (intOf iv).toNat)
  case atStart => exact ⟨0, 0, Nat.zero_le _, rfl, Lib.hid ⟨[], rfl, MB0.out, Inv1.zero _ _ _, K.out.1, K.out.2.1, K.out.2.2, Nat.le_of_eq HZ.out.symm⟩⟩
  case round =>
    obtain ⟨j, d, hj, rfl, HQ⟩ := hrel
    obtain ⟨es, hd, hmb, hinv, hp, hz, hb, hs⟩ := HQ.out
    have n9 : N ≤ 1048576 := by have := HM.out; omega
    have d9 : d ≤ 2097152 := by omega
    obtain ⟨⟨a0, a1, a2, a3⟩, _⟩ := cells4 hp
    have WZ := Lib.hid (show wrap64 ((d : Int) + 1) = (d : Int) + 1 ∧ IntKind.i64.wrap ((d : Int) + 1) = (d : Int) + 1 ∧ ((d : Int) + 1).toNat = d + 1 from ⟨by unfold wrap64; omega, by rw [IntKind.wrap_i64]; omega, by omega⟩)
    by_cases hlt : j < N
    · have q0 : (d : Int) + 1 < (m : Int) := by have := HM.out; omega
      have q1 : (d : Int) < (m : Int) := by omega
      have q2 : d + 1 < m := by omega
      obtain ⟨⟨kk, q, ks, kl⟩, hx0⟩ := nth_lt (t := l) (i := d) (by have := HM.out.1; omega)
      obtain ⟨⟨k2, n2, t2, l2⟩, hx1⟩ := nth_lt (t := l) (i := d + 1) (by have := HM.out.1; omega)
      obtain ⟨g, off, A3, C3, rfl, _, _, U, _⟩ := HR.out.atB hx0
      obtain ⟨g', off', A2, C2, hg, _, _, V, hsl2⟩ := HR.out.atB hx1
      cases hg
      obtain ⟨m3, hm3⟩ : ∃ m3, kl.len = m3 := ⟨_, rfl⟩
      obtain ⟨m2, hm2⟩ : ∃ m2, l2.len = m2 := ⟨_, rfl⟩
      have hVP : VP w l F j (.agg #[.int .i64 k2, .int .i64 n2, .string t2, .slice A2 m2 C2]) := ⟨k2, n2, t2, l2, A2, C2, by rw [← hd]; exact hx1, by rw [hm2], hsl2⟩
      rw [hm3] at U
      rw [hm2] at V
      obtain ⟨u0, u1, u2, u3⟩ := U wr hb
      have V := Lib.hid V
      obtain ⟨z0, z1, z2, A4, m4, C4, th, lk1, lk2, lk3, lk4⟩ := hinv.look q
      have A1 := Lib.hid (alloc_old (w := wr) (o := .cells #[.int .i64 kk, .int .i64 q, .string ks, .slice A3 m3 C3] 27))
      have k1 := Lib.hid (heap_alloc_new wr (.cells #[.int .i64 kk, .int .i64 q, .string ks, .slice A3 m3 C3] 27))
      have M1 := Lib.hid (hmb.below A1.out)
      have LK := MapI.run_lookup (P := Tryz.prog) Tryz.underlying50 Tryz.underlying2 M1.out q true (.agg #[.int .i64 0, .int .i64 0, .string ⟨#[]⟩, .slice none 0 0]) (by kernel_rfl)
      rw [lk1, lk2] at LK
      simp only [if_true] at LK
      have A2' := Lib.hid (two_old wr (.cells #[.int .i64 kk, .int .i64 q, .string ks, .slice A3 m3 C3] 27) (.cells #[.int .i64 z0, .int .i64 z1, .string z2, .slice A4 m4 C4] 27))
      have k2' := Lib.hid (blk_below k1.out (alloc_old (w := wr.alloc (.cells #[.int .i64 kk, .int .i64 q, .string ks, .slice A3 m3 C3] 27)) (o := .cells #[.int .i64 z0, .int .i64 z1, .string z2, .slice A4 m4 C4] 27)))
      have M2 : Hid (MapI.MB ((wr.alloc (.cells #[.int .i64 kk, .int .i64 q, .string ks, .slice A3 m3 C3] 27)).alloc (.cells #[.int .i64 z0, .int .i64 z1, .string z2, .slice A4 m4 C4] 27)).drew (w.heap.size + 1 + 1) es) := Lib.hid (MapI.MB.kept (M1.out.below alloc_old) rfl)
      have P2 := Lib.hid (blk_below hp A2'.out)
      have Z2 := Lib.hid (blk_below hz A2'.out)
      have B2 := Lib.hid (hb.trans (A2'.out.mono (Below.size hb)))
      have S2 := Lib.hid (Nat.le_trans hs (Below.size A2'.out))
      have HD := Lib.hid hd
      obtain ⟨w1, w2, w3⟩ := WZ.out
      obtain ⟨⟨s0', s1, s2, s3⟩, _⟩ := cells4 k2'.out
      obtain ⟨⟨e0, e1, e2, e3⟩, _⟩ := cells4 k1.out
      by_cases hput : kk = 2 ∧ th = false
      · obtain ⟨rfl, rfl⟩ := hput
        have hinv2 := hinv.put (q := q) (v := .agg #[.int .i64 k2, .int .i64 n2, .string t2, .slice A2 m2 C2]) (isK_yes (by rw [← hd]; exact hx0)) (isK_other (by rw [← hd]; exact hx0)) (lk3 rfl) hVP
        have INV := Lib.hid hinv2
        obtain ⟨v0, v1, v2, v3⟩ := V.out _ B2.out
        obtain ⟨⟨r0, r1, r2, r3⟩, _⟩ := cells4 P2.out
        obtain ⟨y1, hrun, m1, g1, z1'⟩ := MapI.run_update (P := Tryz.prog) Tryz.underlying50 Tryz.underlying2 M2.out q (.agg #[.int .i64 k2, .int .i64 n2, .string t2, .slice A2 m2 C2])
        have M3 := Lib.hid m1
        have Bd := Lib.hid (B2.out.drew)
        have Sd : Hid (w.heap.size + 1 + 1 + 1 ≤ ((wr.alloc (.cells #[.int .i64 2, .int .i64 q, .string ks, .slice A3 m3 C3] 27)).alloc (.cells #[.int .i64 z0, .int .i64 z1, .string z2, .slice A4 m4 C4] 27)).drew.heap.size) := Lib.hid S2.out
        have B3 := Lib.hid (Bd.out.grown g1 (Below.size Bd.out) (fun k hk => by cases hk; omega))
        have KB := Lib.hid (show ∀ i, i ≠ w.heap.size + 1 + 1 → i < wr.heap.size → y1.heap[i]? = ((wr.alloc (.cells #[.int .i64 2, .int .i64 q, .string ks, .slice A3 m3 C3] 27)).alloc (.cells #[.int .i64 z0, .int .i64 z1, .string z2, .slice A4 m4 C4] 27)).drew.heap[i]? from fun i hi hl => grown_block g1 (show i < ((wr.alloc (.cells #[.int .i64 2, .int .i64 q, .string ks, .slice A3 m3 C3] 27)).alloc (.cells #[.int .i64 z0, .int .i64 z1, .string z2, .slice A4 m4 C4] 27)).heap.size from Nat.lt_of_lt_of_le hl (Below.size A2'.out)) hi)
        have P3 := Lib.hid ((KB.out w.heap.size (by omega) (by omega)).trans (show ((wr.alloc (.cells #[.int .i64 2, .int .i64 q, .string ks, .slice A3 m3 C3] 27)).alloc (.cells #[.int .i64 z0, .int .i64 z1, .string z2, .slice A4 m4 C4] 27)).drew.heap[w.heap.size]? = _ from P2.out))
        have Z3 := Lib.hid ((KB.out (w.heap.size + 1) (by omega) (by omega)).trans (show ((wr.alloc (.cells #[.int .i64 2, .int .i64 q, .string ks, .slice A3 m3 C3] 27)).alloc (.cells #[.int .i64 z0, .int .i64 z1, .string z2, .slice A4 m4 C4] 27)).drew.heap[w.heap.size + 1]? = _ from Z2.out))
        have S3 := Lib.hid (show w.heap.size + 1 + 1 + 1 ≤ y1.heap.size from by rw [z1']; exact Sd.out)
        clear m1 g1 z1' hinv hinv2 lk1 lk2 lk3 lk4 hx0 hx1 hm3 hm2 hVP hmb hp hz hb hs HQ hj hd U hsl2
        go_wp2
        go_region
        go_wp2_with fail
        exact ⟨⟨j + 1, d + 2, hlt, by go_num, Lib.hid ⟨_, by have := HD.out; omega, M3.out, INV.out, P3.out, Z3.out, B3.out, S3.out⟩⟩, by simp [intOf]; omega⟩
      · have hinv2 : Inv1 w l F (j + 1) es := hinv.skip (fun q' hq' => by
          by_cases hk : kk = 2
          · subst hk
            have e : q' = q := Classical.byContradiction fun hne => by
              rw [isK_other (by rw [← hd]; exact hx0) q' hne] at hq'
              cases hq'
            subst e
            exact lk4 (by cases th with | true => rfl | false => exact absurd ⟨rfl, rfl⟩ hput)
          · rw [isK_not (by rw [← hd]; exact hx0) hk q'] at hq'
            cases hq')
        have INV := Lib.hid hinv2
        have MM := Lib.hid (M1.out.below (alloc_old (o := .cells #[.int .i64 z0, .int .i64 z1, .string z2, .slice A4 m4 C4] 27)))
        by_cases hk : kk = 2
        · subst hk
          obtain rfl : th = true := by cases th with | true => rfl | false => exact absurd ⟨rfl, rfl⟩ hput
          clear hinv hinv2 lk1 lk2 lk3 lk4 hx0 hx1 hm3 hm2 hVP hmb hp hz hb hs HQ hj hd U hsl2 hput
          go_wp2_with fail
          exact ⟨⟨j + 1, d + 2, hlt, by go_num, Lib.hid ⟨_, by have := HD.out; omega, MM.out, INV.out, P2.out, Z2.out, B2.out, S2.out⟩⟩, by simp [intOf]; omega⟩
        · have kb : (kk == 2) = false := by simp [hk]
          clear hinv hinv2 lk1 lk2 lk3 lk4 hx0 hx1 hm3 hm2 hVP hmb hp hz hb hs HQ hj hd U hsl2 hput
          go_wp2_with fail
          exact ⟨⟨j + 1, d + 2, hlt, by go_num, Lib.hid ⟨_, by have := HD.out; omega, MM.out, INV.out, P2.out, Z2.out, B2.out, S2.out⟩⟩, by simp [intOf]; omega⟩
    · have q0 : ¬ (d : Int) + 1 < (m : Int) := by have := HM.out; omega
      obtain rfl : j = N := by omega
      have M0 := Lib.hid hmb
      have V0 := Lib.hid hinv
      have Z0 := Lib.hid hz
      have B0 := Lib.hid hb
      have S0 := Lib.hid hs
      obtain ⟨w1, _, _⟩ := WZ.out
      have HN := Lib.hid (show l.len / 2 = j from by rw [HM.out.1]; exact HM.out.2.1)
      clear hmb hinv hp hz hb hs HQ hd hlt hj
      go_wp2
      clear a0 a1 a2 a3 q0 w1
      go_loopw [8, 9] (fun ov nv wq => ∃ (t : Nat) (A' : Option Addr) (C' : Nat), t ≤ j ∧ ov = .slice A' t C' ∧ nv = .int .i64 ((t : Int) + 1) ∧ Hid (∃ O, Col l t O ∧ OR 24 wq (w.heap.size + 1 + 1 + 1) (.slice A' t C') O ∧ MapI.MB wq (w.heap.size + 1 + 1) es ∧ wq.heap[w.heap.size + 1]? = some (.cells #[.int .i64 0, .int .i64 0, .string ⟨#[]⟩, .slice none 0 0] 24) ∧ Below w.heap.size w wq ∧ w.heap.size + 1 + 1 + 1 ≤ wq.heap.size)) (fun _ nv _ => j + 2 - (intOf nv).toNat)
      case atStart => exact ⟨0, none, 0, Nat.zero_le _, rfl, rfl, Lib.hid ⟨.nil, Col.zero l, OR.nil _ _ _, M0.out, Z0.out, B0.out, S0.out⟩⟩
      case round =>
        obtain ⟨t, A', C', ht, rfl, rfl, HQ⟩ := hrel
        obtain ⟨O, hcol, hr, hmb, hz, hb, hs⟩ := HQ.out
        have LK := MapI.run_lookup (P := Tryz.prog) Tryz.underlying50 Tryz.underlying2 hmb ((t : Int) + 1) true (.agg #[.int .i64 0, .int .i64 0, .string ⟨#[]⟩, .slice none 0 0]) (by kernel_rfl)
        have t9 : t ≤ 1048576 := by omega
        have RR := Lib.hid hr
        have MM := Lib.hid hmb
        have ZZ := Lib.hid hz
        have BB := Lib.hid hb
        have SS := Lib.hid hs
        rcases fnd_cases l ((t : Int) + 1) with ⟨hf, hno⟩ | ⟨p, hf, hp9, hk, hfirst⟩
        · have hfn := V0.out.2 _ (fun p hp => hno p (by rw [HN.out]; exact hp))
          rw [hfn] at LK
          simp only [Option.getD_none, Option.isSome_none, if_true] at LK
          have RF := Lib.hid (show OR 24 wr (w.heap.size + 1 + 1 + 1) (.slice A' t C') (colF l (rpT l) (l.len / 2) 1) from by rw [hcol.stop hf]; exact hr)
          obtain ⟨q, hq⟩ : ∃ q : Int, (t : Int) + 1 = q := ⟨_, rfl⟩
          rw [hq] at LK ⊢
          have LL := Lib.hid hr.form
          have JA := Lib.hid (fun X => jArr A' t C' X)
          have A1 := Lib.hid (alloc_old (w := wr) (o := .cells #[.int .i64 0, .int .i64 0, .string ⟨#[]⟩, .slice none 0 0] 27))
          clear hf hno hq hr hcol hmb hz hb hs HQ ht hfn
          go_wp2_with (first | (go_at_call 22; (with_reducible refine (JA.out _).mono ?_); rintro e X1 ⟨rfl, h1⟩; have D1 := Lib.hid (A1.out.trans (h1.mono (Below.size A1.out))); clear h1; obtain ⟨⟨c0, c1, c2, c3⟩, ⟨f0, f1, f2, f3⟩⟩ := cells4 (blk_below ZZ.out D1.out)))
          have RQ := Lib.hid (RF.out.below D1.out)
          have BQ := Lib.hid (BB.out.trans (D1.out.mono (Below.size BB.out)))
          have h1 := Nat.le_succ w.heap.size
          refine bodyPost_ret (v := .agg #[.int .i64 6, .int .i64 0, .string ⟨#[]⟩, .slice A' t C']) (by simp [results, Tryz.results12, go_sem, c0, c1, c2, c3]) rfl ⟨A', t, C', rfl, RF.out.form, ?_, ((((BQ.out.setCell h1 _).setCell h1 _).setCell h1 _).setCell h1 _)⟩
          refine ((RQ.out.keep (fun g hg _ => ?_) (by simp)).mono (by omega)).sl
          rw [Below.heap_setCell _ ⟨w.heap.size + 1, 3, none⟩ _ g (by show g ≠ w.heap.size + 1; omega), Below.heap_setCell _ ⟨w.heap.size + 1, 2, none⟩ _ g (by show g ≠ w.heap.size + 1; omega), Below.heap_setCell _ ⟨w.heap.size + 1, 1, none⟩ _ g (by show g ≠ w.heap.size + 1; omega), Below.heap_setCell _ ⟨w.heap.size + 1, 0, none⟩ _ g (by show g ≠ w.heap.size + 1; omega)]
        · obtain ⟨v, hfn, k2, n2, t2, l2, A2, C2, hx1, rfl, hsl2⟩ := V0.out.1 _ p (by rw [← HN.out]; exact hp9) hk hfirst
          obtain ⟨hlt, hcol2⟩ := hcol.step hf hx1
          rw [HN.out] at hlt
          rw [hfn] at LK
          simp only [Option.getD_some, Option.isSome_some, if_true] at LK
          have RX := fun X (hX : Below w.heap.size w X) => HX.out _ _ hx1 A2 C2 X (HI.out.trans (hX.mono (Below.size HI.out))) (hsl2.on hX)
          unfold RPR at RX
          obtain ⟨⟨kd, nn, tt, l3⟩, hv⟩ : ∃ y, rpN (k2, n2, t2, l2) = y := ⟨_, rfl⟩
          simp only [hv] at RX hcol2
          obtain ⟨m2, hm2⟩ : ∃ m2, l2.len = m2 := ⟨_, rfl⟩
          obtain ⟨m3, hm3⟩ : ∃ m3, l3.len = m3 := ⟨_, rfl⟩
          simp only [hm2, hm3] at RX LK
          have RX := Lib.hid RX
          have HM3 := Lib.hid hm3
          have CO := Lib.hid hcol2
          have HL := Lib.hid (show O.len = t from hr.form.symm)
          obtain ⟨q, hq⟩ : ∃ q : Int, (t : Int) + 1 = q := ⟨_, rfl⟩
          rw [hq] at LK ⊢
          have HQ9 := Lib.hid hq
          have q9 : q ≤ 1048577 ∧ 1 ≤ q := by omega
          have W1 : IntKind.i64.wrap (q + 1) = q + 1 := by rw [IntKind.wrap_i64]; omega
          have A1 := Lib.hid (alloc_old (w := wr) (o := .cells #[.int .i64 k2, .int .i64 n2, .string t2, .slice A2 m2 C2] 27))
          obtain ⟨⟨x0, x1, x2, x3⟩, _⟩ := cells4 (heap_alloc_new wr (.cells #[.int .i64 k2, .int .i64 n2, .string t2, .slice A2 m2 C2] 27))
          have BA := Lib.hid (hb.trans (A1.out.mono (Below.size hb)))
          clear hf hfn hx1 hv hq hr hmb hz hb hs HQ ht hcol hcol2 hm2 hm3 hk hfirst hp9 hsl2
          go_wp2_with (first | (go_at_call 12; (with_reducible refine (RX.out _ BA.out).mono ?_); rintro e X1 ⟨A5, C5, rfl, hs5, h1⟩; have D0 := Lib.hid (A1.out.trans (h1.mono (Below.size A1.out))); have D1 := Lib.hid (D0.out.trans ((alloc_old (w := X1) (o := .cells #[.int .i64 kd, .int .i64 nn, .string tt, .slice A5 m3 C5] 24)).mono (Below.size D0.out))); have b1 := Lib.hid (heap_alloc_new X1 (.cells #[.int .i64 kd, .int .i64 nn, .string tt, .slice A5 m3 C5] 24)); have E5 := Lib.hid (EC.of1 (k := kd) (n := nn) (s := tt) HM3.out (SL.apart RR.out SS.out (Below.size A1.out) (hs5.on (alloc_old (w := X1) (o := .cells #[.int .i64 kd, .int .i64 nn, .string tt, .slice A5 m3 C5] 24))))); have RY := Lib.hid (RR.out.below D1.out); have SY := Lib.hid (Nat.le_trans SS.out (Below.size D1.out)); have MY := Lib.hid (MM.out.below D1.out); have ZY := Lib.hid (blk_below ZZ.out D1.out); have BY := Lib.hid (BB.out.trans (D1.out.mono (Below.size BB.out))); clear h1 hs5) | (at_builtin; refine append_OR _ rfl _ _ 24 22 _ rfl Tryz.underlying22 i37 rfl (w.heap.size + 1 + 1 + 1) _ _ _ HL.out rfl RY.out _ _ 1 rfl (by decide) _ rfl b1.out E5.out (by omega) SY.out ?_; intro g1 C1 Y1 h6 h7; have T1 := Lib.hid h6; have MZ := Lib.hid (MY.out.kept (h7.block _ (by have := SY.out; omega) (by intro e; have := (RY.out.own _ e.symm).1; omega))); have ZW := Lib.hid ((h7.block (w.heap.size + 1) (by have := SY.out; omega) (by intro e; have := (RY.out.own _ e.symm).1; omega)).trans ZY.out); have BZ := Lib.hid (BY.out.grown h7 (by have := SY.out; omega) (fun g hg => by have := (RY.out.own g hg).1; omega)); have SZ := Lib.hid (Nat.le_trans SY.out h7.size); clear h6 h7))
          exact ⟨⟨t + 1, _, C1, hlt, rfl, by (have h9 := HQ9.out; congr 1; first | omega | (rw [W1]; omega)), Lib.hid ⟨_, CO.out, T1.out, MZ.out, ZW.out, BZ.out, SZ.out⟩⟩, by have h9 := HQ9.out; simp [intOf]; omega⟩
/-- host.Reply of any value. -/
theorem hRe_any {W0 : World} (F : Nat → Prop) : ∀ (N : Nat) (x : Nd), x.2.2.2.wt < N → x.2.2.2.len ≤ 1048576 → okF x.2.2.2 → ∀ A c X, Below W0.heap.size W0 X → SL X F A c x.2.2.2 → RPR 12 X A c x := by
  intro N
  induction N with
  | zero =>
    intro x hw
    exact absurd hw (Nat.not_lt_zero _)
  | succ N ih =>
    rintro ⟨k, n, s, l⟩ hw hl ho A c X hX h
    by_cases h2 : k = 2
    · subst h2
      exact RPR.flat (k := 3) (n := n) (s := ⟨#[]⟩) rfl (hRe_int n s A _ c X)
    · by_cases h3 : k = 3
      · subst h3
        exact RPR.flat (k := 4) (n := 0) (s := s) rfl (hRe_text n s A _ c X)
      · by_cases h1 : k = 1
        · subst h1
          by_cases hn : n = 1
          · subst hn
            exact RPR.flat (k := 3) (n := 1) (s := ⟨#[]⟩) rfl (hRe_true s A _ c X)
          · exact RPR.flat (k := 5) (n := 0) (s := ⟨#[]⟩) (by simp [rpN, rp1, hn]) (hRe_false n hn s A _ c X)
        · by_cases h4 : k = 4
          · subst h4
            refine (hRe_tab W0 n s A _ c l F rfl hl (fun i x hx A c X hX h => ih x (by have := nth_wt hx; simp only at hw; omega) (ho.nth hx).2.1 (ho.nth hx).2.2 A c X hX h) X hX h).mono ?_
            rintro e w' ⟨A', L', C', rfl, rfl, h4, h5⟩
            exact ⟨A', C', rfl, h4, h5⟩
          · exact RPR.flat (k := 5) (n := 0) (s := ⟨#[]⟩) (by simp [rpN, rp1, h1, h2, h3, h4]) (hRe_none k n h1 h2 h3 h4 s A _ c X)
end Go.Proofs.YtjfejmdnjbekkaaGreatDoor

/- The reference's Plains and Same of two trees that are alike. -/
namespace Go.Proofs.YtjfejmdnjbekkaaGreatDoor
open Go.ChangeShapes Go.WideShapes Go.ChangeAt Go.RowKit
open Fo

/-- Two trees that are alike are the same by the function f. -/
def SMR (f : FuncId) (X : World) (A A' : Option Addr) (c c' : Nat) (x : Nd) : Prop := Calls Tryz.prog f #[.agg #[.int .i64 x.1, .int .i64 x.2.1, .string x.2.2.1, .slice A x.2.2.2.len c], .agg #[.int .i64 x.1, .int .i64 x.2.1, .string x.2.2.1, .slice A' x.2.2.2.len c']] X fun e w' => e = .returned (.bool true) ∧ Below X.heap.size X w'
set_option maxRecDepth 100000 in
set_option maxHeartbeats 8000000 in
theorem rPlains_node (k n : Int) (t : ByteArray) (A1 A2 : Option Addr) (m C1 C2 : Nat) (l : Fo) (F1 F2 : Nat → Prop) (hm : l.len = m) (hIH : ∀ i x, l.nth i = some x → ∀ A A' c c' X, SL X F1 A c x.2.2.2 → SL X F2 A' c' x.2.2.2 → SMR 10 X A A' c c' x) (w : World) (h1 : SL w F1 A1 C1 l) (h2 : SL w F2 A2 C2 l) : Calls Tryz.prog 10 #[.agg #[.int .i64 k, .int .i64 n, .string t, .slice A1 m C1], .agg #[.int .i64 k, .int .i64 n, .string t, .slice A2 m C2]] w fun e w' => e = .returned (.bool true) ∧ Below w.heap.size w w' := by
  have k1 := blk_below (heap_alloc_new w (.cells #[.int .i64 k, .int .i64 n, .string t, .slice A1 m C1] 27)) (alloc_old (o := .cells #[.int .i64 k, .int .i64 n, .string t, .slice A2 m C2] 27))
  have k2 := blk2 w (.cells #[.int .i64 k, .int .i64 n, .string t, .slice A1 m C1] 27) (.cells #[.int .i64 k, .int .i64 n, .string t, .slice A2 m C2] 27)
  have hb := two_old w (.cells #[.int .i64 k, .int .i64 n, .string t, .slice A1 m C1] 27) (.cells #[.int .i64 k, .int .i64 n, .string t, .slice A2 m C2] 27)
  have hm9 : m ≤ maxLen := by rw [← hm]; exact Nat.le_trans h1.1 h1.2.1
  have hmx : (maxLen : Nat) ≤ 9223372036854775807 := by decide
  have H1 := Lib.hid h1
  have H2 := Lib.hid h2
  have HM := Lib.hid hm
  have HX := Lib.hid hIH
  have HM9 := Lib.hid (Nat.le_trans hm9 hmx)
  obtain ⟨⟨a0, a1, a2, a3⟩, _⟩ := cells4 k1
  obtain ⟨⟨b0, b1, b2, b3⟩, _⟩ := cells4 k2
  have K := Lib.hid (show (((w.alloc (.cells #[.int .i64 k, .int .i64 n, .string t, .slice A1 m C1] 27)).alloc (.cells #[.int .i64 k, .int .i64 n, .string t, .slice A2 m C2] 27)).heap[w.heap.size]? = some (.cells #[.int .i64 k, .int .i64 n, .string t, .slice A1 m C1] 27) ∧ ((w.alloc (.cells #[.int .i64 k, .int .i64 n, .string t, .slice A1 m C1] 27)).alloc (.cells #[.int .i64 k, .int .i64 n, .string t, .slice A2 m C2] 27)).heap[w.heap.size + 1]? = some (.cells #[.int .i64 k, .int .i64 n, .string t, .slice A2 m C2] 27) ∧ Below w.heap.size w ((w.alloc (.cells #[.int .i64 k, .int .i64 n, .string t, .slice A1 m C1] 27)).alloc (.cells #[.int .i64 k, .int .i64 n, .string t, .slice A2 m C2] 27))) from ⟨k1, k2, hb⟩)
  clear h1 h2 hm k1 k2 hb hm9 hmx hIH
  go_enter Tryz.func10, Tryz.ntmps10
  go_wp2
  clear a0 a1 a2 a3 b0 b1 b2 b3
  generalize (w.alloc (.cells #[.int .i64 k, .int .i64 n, .string t, .slice A1 m C1] 27)).alloc (.cells #[.int .i64 k, .int .i64 n, .string t, .slice A2 m C2] 27) = y at K ⊢
  go_loopw [5] (fun iv wr => ∃ i : Nat, i ≤ m ∧ iv = .int .i64 i ∧ Hid (Below y.heap.size y wr)) (fun iv _ => m - (intOf iv).toNat)
  case atStart => exact ⟨0, Nat.zero_le _, rfl, Lib.hid (Below.refl _ _)⟩
  case round =>
    obtain ⟨i, hi, rfl, HQ⟩ := hrel
    obtain ⟨⟨a0, a1, a2, a3⟩, _⟩ := cells4 (blk_below K.out.1 HQ.out)
    by_cases hlt : i < m
    · have q0 : (i : Int) < (m : Int) := by omega
      obtain ⟨⟨kd, nn, tt, l3⟩, hx⟩ := nth_lt (t := l) (i := i) (by rw [HM.out]; exact hlt)
      obtain ⟨g1, o1, A3, C3, rfl, _, _, U, hsl1⟩ := H1.out.atB hx
      obtain ⟨g2, o2, A4, C4, rfl, _, _, V, hsl2⟩ := H2.out.atB hx
      obtain ⟨m3, hm3⟩ : ∃ m3, l3.len = m3 := ⟨_, rfl⟩
      have PL := fun X (hX : Below w.heap.size w X) => HX.out i _ hx A3 A4 C3 C4 X (hsl1.on hX) (hsl2.on hX)
      unfold SMR at PL
      simp only [hm3] at PL U V
      have PL := Lib.hid PL
      have SX := Lib.hid (show ∀ X, Below y.heap.size y X → (X.cell? ⟨w.heap.size, 3, none⟩ = some (.slice (some ⟨g1, o1, none⟩) m C1) ∧ X.cell? ⟨w.heap.size + 1, 3, none⟩ = some (.slice (some ⟨g2, o2, none⟩) m C2) ∧ X.cell? ⟨g1, o1 + i * 4, none⟩ = some (.int .i64 kd) ∧ X.cell? ⟨g1, o1 + i * 4 + 1, none⟩ = some (.int .i64 nn) ∧ X.cell? ⟨g1, o1 + i * 4 + 2, none⟩ = some (.string tt) ∧ X.cell? ⟨g1, o1 + i * 4 + 3, none⟩ = some (.slice A3 m3 C3) ∧ X.cell? ⟨g2, o2 + i * 4, none⟩ = some (.int .i64 kd) ∧ X.cell? ⟨g2, o2 + i * 4 + 1, none⟩ = some (.int .i64 nn) ∧ X.cell? ⟨g2, o2 + i * 4 + 2, none⟩ = some (.string tt) ∧ X.cell? ⟨g2, o2 + i * 4 + 3, none⟩ = some (.slice A4 m3 C4)) from fun X hX => by
        have hw := K.out.2.2.trans (hX.mono (Below.size K.out.2.2))
        obtain ⟨u0, u1, u2, u3⟩ := U X hw
        obtain ⟨v0, v1, v2, v3⟩ := V X hw
        exact ⟨(cells4 (blk_below K.out.1 hX)).1.2.2.2, (cells4 (blk_below K.out.2.1 hX)).1.2.2.2, u0, u1, u2, u3, v0, v1, v2, v3⟩)
      have S0 := SX.out wr.drew HQ.out.drew
      have Bd := Lib.hid (HQ.out.drew)
      have BW := Lib.hid (show ∀ X, Below y.heap.size y X → Below w.heap.size w X from fun X hX => K.out.2.2.trans (hX.mono (Below.size K.out.2.2)))
      have i9 : (i : Int) + 1 ≤ 9223372036854775807 := by have := HM9.out; omega
      clear hx hm3 U V hsl1 hsl2 hi
      go_wp2
      go_region_held3 (fun X => X.cell? ⟨w.heap.size, 3, none⟩ = some (.slice (some ⟨g1, o1, none⟩) m C1) ∧ X.cell? ⟨w.heap.size + 1, 3, none⟩ = some (.slice (some ⟨g2, o2, none⟩) m C2) ∧ X.cell? ⟨g1, o1 + i * 4, none⟩ = some (.int .i64 kd) ∧ X.cell? ⟨g1, o1 + i * 4 + 1, none⟩ = some (.int .i64 nn) ∧ X.cell? ⟨g1, o1 + i * 4 + 2, none⟩ = some (.string tt) ∧ X.cell? ⟨g1, o1 + i * 4 + 3, none⟩ = some (.slice A3 m3 C3) ∧ X.cell? ⟨g2, o2 + i * 4, none⟩ = some (.int .i64 kd) ∧ X.cell? ⟨g2, o2 + i * 4 + 1, none⟩ = some (.int .i64 nn) ∧ X.cell? ⟨g2, o2 + i * 4 + 2, none⟩ = some (.string tt) ∧ X.cell? ⟨g2, o2 + i * 4 + 3, none⟩ = some (.slice A4 m3 C4)) (first | (with_reducible exact S0) | (with_reducible exact S1.out)) (first | (go_at_call 10; (with_reducible refine (PL.out _ (BW.out _ Bd.out)).mono ?_); rintro ee x1 ⟨rfl, h1⟩; have B1 := Lib.hid (Bd.out.trans (h1.mono (Below.size Bd.out))); have S1 := Lib.hid (SX.out x1 B1.out); clear h1))
      all_goals (
        go_wp2
        exact ⟨⟨i + 1, hlt, by go_num, B1⟩, by simp [intOf]; omega⟩)
    · have q0 : ¬ (i : Int) < (m : Int) := by omega
      have BQ := Lib.hid (K.out.2.2.trans (HQ.out.mono (Below.size K.out.2.2)))
      clear hi HQ
      go_wp2
      go_ret
      exact ⟨rfl, BQ.out⟩
theorem rPlains_any (F1 F2 : Nat → Prop) : ∀ (N : Nat) (x : Nd), x.2.2.2.wt < N → ∀ A A' c c' X, SL X F1 A c x.2.2.2 → SL X F2 A' c' x.2.2.2 → SMR 10 X A A' c c' x := by
  intro N
  induction N with
  | zero =>
    intro x hw
    exact absurd hw (Nat.not_lt_zero _)
  | succ N ih =>
    rintro ⟨k, n, s, l⟩ hw A A' c c' X h1 h2
    exact rPlains_node k n s A A' _ c c' l F1 F2 rfl (fun i x hx => ih x (by have := nth_wt hx; simp only at hw; omega)) X h1 h2
set_option maxRecDepth 100000 in
set_option maxHeartbeats 8000000 in
theorem rSame_node (k n : Int) (t : ByteArray) (A1 A2 : Option Addr) (m C1 C2 : Nat) (l : Fo) (F1 F2 : Nat → Prop) (hm : l.len = m) (hIH : ∀ i x, l.nth i = some x → ∀ A A' c c' X, SL X F1 A c x.2.2.2 → SL X F2 A' c' x.2.2.2 → SMR 11 X A A' c c' x) (w : World) (h1 : SL w F1 A1 C1 l) (h2 : SL w F2 A2 C2 l) : Calls Tryz.prog 11 #[.agg #[.int .i64 k, .int .i64 n, .string t, .slice A1 m C1], .agg #[.int .i64 k, .int .i64 n, .string t, .slice A2 m C2]] w fun e w' => e = .returned (.bool true) ∧ Below w.heap.size w w' := by
  have k1 := blk_below (heap_alloc_new w (.cells #[.int .i64 k, .int .i64 n, .string t, .slice A1 m C1] 24)) (alloc_old (o := .cells #[.int .i64 k, .int .i64 n, .string t, .slice A2 m C2] 24))
  have k2 := blk2 w (.cells #[.int .i64 k, .int .i64 n, .string t, .slice A1 m C1] 24) (.cells #[.int .i64 k, .int .i64 n, .string t, .slice A2 m C2] 24)
  have hb := two_old w (.cells #[.int .i64 k, .int .i64 n, .string t, .slice A1 m C1] 24) (.cells #[.int .i64 k, .int .i64 n, .string t, .slice A2 m C2] 24)
  have hm9 : m ≤ maxLen := by rw [← hm]; exact Nat.le_trans h1.1 h1.2.1
  have hmx : (maxLen : Nat) ≤ 9223372036854775807 := by decide
  have H1 := Lib.hid h1
  have H2 := Lib.hid h2
  have HM := Lib.hid hm
  have HX := Lib.hid hIH
  have HM9 := Lib.hid (Nat.le_trans hm9 hmx)
  obtain ⟨⟨a0, a1, a2, a3⟩, _⟩ := cells4 k1
  obtain ⟨⟨b0, b1, b2, b3⟩, _⟩ := cells4 k2
  have K := Lib.hid (show (((w.alloc (.cells #[.int .i64 k, .int .i64 n, .string t, .slice A1 m C1] 24)).alloc (.cells #[.int .i64 k, .int .i64 n, .string t, .slice A2 m C2] 24)).heap[w.heap.size]? = some (.cells #[.int .i64 k, .int .i64 n, .string t, .slice A1 m C1] 24) ∧ ((w.alloc (.cells #[.int .i64 k, .int .i64 n, .string t, .slice A1 m C1] 24)).alloc (.cells #[.int .i64 k, .int .i64 n, .string t, .slice A2 m C2] 24)).heap[w.heap.size + 1]? = some (.cells #[.int .i64 k, .int .i64 n, .string t, .slice A2 m C2] 24) ∧ Below w.heap.size w ((w.alloc (.cells #[.int .i64 k, .int .i64 n, .string t, .slice A1 m C1] 24)).alloc (.cells #[.int .i64 k, .int .i64 n, .string t, .slice A2 m C2] 24))) from ⟨k1, k2, hb⟩)
  clear h1 h2 hm k1 k2 hb hm9 hmx hIH
  go_enter Tryz.func11, Tryz.ntmps11
  go_wp2
  clear a0 a1 a2 a3 b0 b1 b2 b3
  generalize (w.alloc (.cells #[.int .i64 k, .int .i64 n, .string t, .slice A1 m C1] 24)).alloc (.cells #[.int .i64 k, .int .i64 n, .string t, .slice A2 m C2] 24) = y at K ⊢
  go_loopw [5] (fun iv wr => ∃ i : Nat, i ≤ m ∧ iv = .int .i64 i ∧ Hid (Below y.heap.size y wr)) (fun iv _ => m - (intOf iv).toNat)
  case atStart => exact ⟨0, Nat.zero_le _, rfl, Lib.hid (Below.refl _ _)⟩
  case round =>
    obtain ⟨i, hi, rfl, HQ⟩ := hrel
    obtain ⟨⟨a0, a1, a2, a3⟩, _⟩ := cells4 (blk_below K.out.1 HQ.out)
    by_cases hlt : i < m
    · have q0 : (i : Int) < (m : Int) := by omega
      obtain ⟨⟨kd, nn, tt, l3⟩, hx⟩ := nth_lt (t := l) (i := i) (by rw [HM.out]; exact hlt)
      obtain ⟨g1, o1, A3, C3, rfl, _, _, U, hsl1⟩ := H1.out.atB hx
      obtain ⟨g2, o2, A4, C4, rfl, _, _, V, hsl2⟩ := H2.out.atB hx
      obtain ⟨m3, hm3⟩ : ∃ m3, l3.len = m3 := ⟨_, rfl⟩
      have PL := fun X (hX : Below w.heap.size w X) => HX.out i _ hx A3 A4 C3 C4 X (hsl1.on hX) (hsl2.on hX)
      unfold SMR at PL
      simp only [hm3] at PL U V
      have PL := Lib.hid PL
      have SX := Lib.hid (show ∀ X, Below y.heap.size y X → (X.cell? ⟨w.heap.size, 3, none⟩ = some (.slice (some ⟨g1, o1, none⟩) m C1) ∧ X.cell? ⟨w.heap.size + 1, 3, none⟩ = some (.slice (some ⟨g2, o2, none⟩) m C2) ∧ X.cell? ⟨g1, o1 + i * 4, none⟩ = some (.int .i64 kd) ∧ X.cell? ⟨g1, o1 + i * 4 + 1, none⟩ = some (.int .i64 nn) ∧ X.cell? ⟨g1, o1 + i * 4 + 2, none⟩ = some (.string tt) ∧ X.cell? ⟨g1, o1 + i * 4 + 3, none⟩ = some (.slice A3 m3 C3) ∧ X.cell? ⟨g2, o2 + i * 4, none⟩ = some (.int .i64 kd) ∧ X.cell? ⟨g2, o2 + i * 4 + 1, none⟩ = some (.int .i64 nn) ∧ X.cell? ⟨g2, o2 + i * 4 + 2, none⟩ = some (.string tt) ∧ X.cell? ⟨g2, o2 + i * 4 + 3, none⟩ = some (.slice A4 m3 C4)) from fun X hX => by
        have hw := K.out.2.2.trans (hX.mono (Below.size K.out.2.2))
        obtain ⟨u0, u1, u2, u3⟩ := U X hw
        obtain ⟨v0, v1, v2, v3⟩ := V X hw
        exact ⟨(cells4 (blk_below K.out.1 hX)).1.2.2.2, (cells4 (blk_below K.out.2.1 hX)).1.2.2.2, u0, u1, u2, u3, v0, v1, v2, v3⟩)
      have S0 := SX.out wr.drew HQ.out.drew
      have Bd := Lib.hid (HQ.out.drew)
      have BW := Lib.hid (show ∀ X, Below y.heap.size y X → Below w.heap.size w X from fun X hX => K.out.2.2.trans (hX.mono (Below.size K.out.2.2)))
      have i9 : (i : Int) + 1 ≤ 9223372036854775807 := by have := HM9.out; omega
      clear hx hm3 U V hsl1 hsl2 hi
      go_wp2
      go_region_held3 (fun X => X.cell? ⟨w.heap.size, 3, none⟩ = some (.slice (some ⟨g1, o1, none⟩) m C1) ∧ X.cell? ⟨w.heap.size + 1, 3, none⟩ = some (.slice (some ⟨g2, o2, none⟩) m C2) ∧ X.cell? ⟨g1, o1 + i * 4, none⟩ = some (.int .i64 kd) ∧ X.cell? ⟨g1, o1 + i * 4 + 1, none⟩ = some (.int .i64 nn) ∧ X.cell? ⟨g1, o1 + i * 4 + 2, none⟩ = some (.string tt) ∧ X.cell? ⟨g1, o1 + i * 4 + 3, none⟩ = some (.slice A3 m3 C3) ∧ X.cell? ⟨g2, o2 + i * 4, none⟩ = some (.int .i64 kd) ∧ X.cell? ⟨g2, o2 + i * 4 + 1, none⟩ = some (.int .i64 nn) ∧ X.cell? ⟨g2, o2 + i * 4 + 2, none⟩ = some (.string tt) ∧ X.cell? ⟨g2, o2 + i * 4 + 3, none⟩ = some (.slice A4 m3 C4)) (first | (with_reducible exact S0) | (with_reducible exact S1.out)) (first | (go_at_call 11; (with_reducible refine (PL.out _ (BW.out _ Bd.out)).mono ?_); rintro ee x1 ⟨rfl, h1⟩; have B1 := Lib.hid (Bd.out.trans (h1.mono (Below.size Bd.out))); have S1 := Lib.hid (SX.out x1 B1.out); clear h1))
      all_goals (
        go_wp2
        exact ⟨⟨i + 1, hlt, by go_num, B1⟩, by simp [intOf]; omega⟩)
    · have q0 : ¬ (i : Int) < (m : Int) := by omega
      have BQ := Lib.hid (K.out.2.2.trans (HQ.out.mono (Below.size K.out.2.2)))
      clear hi HQ
      go_wp2
      go_ret
      exact ⟨rfl, BQ.out⟩
theorem rSame_any (F1 F2 : Nat → Prop) : ∀ (N : Nat) (x : Nd), x.2.2.2.wt < N → ∀ A A' c c' X, SL X F1 A c x.2.2.2 → SL X F2 A' c' x.2.2.2 → SMR 11 X A A' c c' x := by
  intro N
  induction N with
  | zero =>
    intro x hw
    exact absurd hw (Nat.not_lt_zero _)
  | succ N ih =>
    rintro ⟨k, n, s, l⟩ hw A A' c c' X h1 h2
    exact rSame_node k n s A A' _ c c' l F1 F2 rfl (fun i x hx => ih x (by have := nth_wt hx; simp only at hw; omega)) X h1 h2
end Go.Proofs.YtjfejmdnjbekkaaGreatDoor
