/- Texts joined: L3 -/
import Derived.Test.YtgkejkgailnbmaaGreatDoorQt33
import Derived.StillTailTactics
import Derived.Deep.RegionHeldLaw
set_option linter.unusedVariables false
set_option linter.unusedSimpArgs false
namespace Go.Proofs.YtgkejkgailnbmaaGreatDoor
open Lib (hid)
open Go.ChangeShapes Go.WideShapes Go.ChangeAt Go.RowKit TP
def QP (R : Option (List UInt8 × Nat)) (a : Nat) (w : World) (e : Ending) (w' : World) : Prop := ∃ t p, e = .returned (.tuple #[.string t, .int .i64 p, .bool R.isSome]) ∧ (∀ q, R = some q → t = B q.1 ∧ p = ((a + q.2 : Nat) : Int)) ∧ Below w.heap.size w w'
set_option maxRecDepth 100000 in
set_option maxHeartbeats 16000000 in
theorem quoted_is (x : ByteArray) (hx : x.size ≤ 100000) (a : Nat) (ha : a < x.size) (mark : UInt8) (hmk : x[a] = mark) (hm1 : mark ≠ 10) (hm2 : mark ≠ 92) (w : World) : Calls Tryz.prog 43 #[.string x, .int .i64 a] w (QP (quotL mark (x.data.toList.drop (a + 1)) [] 1) a w) := by
 obtain ⟨R, hR⟩ : ∃ R, quotL mark (x.data.toList.drop (a + 1)) [] 1 = R := ⟨_, rfl⟩
 rw [hR]
 have HR := hid hR
 obtain ⟨N, hN⟩ : ∃ N, x.size = N := ⟨_, rfl⟩
 have HN := hid hN
 have hix0 := fun w => idx_at x (a : Int) a rfl ha (x[a].toNat : Int) rfl w
 rw [hmk] at hix0
 obtain ⟨k, hk⟩ : ∃ k, mark.toNat = k := ⟨_, rfl⟩
 rw [hk] at hix0
 have HK := hid hk
 have hsz : (x.size : Int) = (N : Int) := by rw [hN]
 rw [hN] at hx
 have haN : a < N := by omega
 have hk256 : k < 256 := by rw [← hk]; exact mark.toNat_lt
 clear hR hN hk hmk ha
 have wa : IntKind.i64.wrap ((a : Int) + 1) = (a : Int) + 1 ∧ wrap64 ((a : Int) + 1) = (a : Int) + 1 := by rw [IntKind.wrap_i64]; unfold wrap64; constructor <;> omega
 obtain ⟨waa, wab⟩ := wa
 go_enter Tryz.func43, Tryz.ntmps43
 go_wp2
 clear hix0 waa wab
 go_loopw [8, 9] (fun ov iv wr => ∃ (i : Nat) (out : List UInt8) (A : Option Addr) (C m : Nat), i ≤ N ∧ out.length = m ∧ ov = .slice A m C ∧ iv = .int .i64 i ∧ Hid (BX wr w.heap.size (.slice A m C) out ∧ Below w.heap.size w wr ∧ quotL mark (x.data.toList.drop i) out (i - a) = R ∧ (m ≤ i ∧ a < i))) (fun _ iv _ => N - (intOf iv).toNat)
 case atStart => exact ⟨a + 1, [], none, 0, 0, by omega, rfl, rfl, by go_num, hid ⟨BX.nil _ _, Below.refl _ _, by rw [show a + 1 - a = 1 by omega]; exact HR.out, by omega⟩⟩
 case round =>
  obtain ⟨i, out, A, C, m, hi, hm, rfl, rfl, HQ⟩ := hrel
  have HM := hid hm
  have HB := hid (show m ≤ 200000 from by have := HQ.out.2.2.2; omega)
  have HQX := hid trivial
  clear hm
  by_cases hlt : i < N
  ·have q0 : (i : Int) < (N : Int) := by omega
   have hl : i < x.size := by rw [HN.out]; exact hlt
   have hix := fun w => idx_at x (i : Int) i rfl hl (x[i].toNat : Int) rfl w
   have hd := drop_cons x i hl
   obtain ⟨c, hc⟩ : ∃ c, x[i] = c := ⟨_, rfl⟩
   rw [hc] at hix hd
   have HD := hid hd
   obtain ⟨n, hn⟩ : ∃ n, c.toNat = n := ⟨_, rfl⟩
   rw [hn] at hix
   have HC := hid hn
   clear hc hn hd
   by_cases a1 : n = 10
   ·subst a1
    have ec : c = 10 := UInt8.toNat_inj.1 HC.out
    have hRn : R = none := by
     have := HQ.out.2.2.1
     rw [HD.out, ec, quotL_nl] at this
     exact this.symm
    subst hRn
    clear HQX
    go_wp2
    exact bodyPost_ret (v := .tuple #[.string ⟨#[]⟩, .int .i64 0, .bool false]) (by simp [results, Tryz.results43, go_sem]) rfl ⟨_, _, rfl, fun q hq => (by cases hq), HQ.out.2.1⟩
   ·have f1 : ((n : Int) == 10) = false := by simp; omega
    have f1n : ¬ (n : Int) = 10 := by omega
    by_cases a2 : n = k
    ·subst a2
     have ec : c = mark := UInt8.toNat_inj.1 (HC.out.trans HK.out.symm)
     have hRe : R = if out.length ≤ 4096 then some (out, i - a + 1) else none := by
      have := HQ.out.2.2.1
      rw [HD.out, ec, quotL_mark mark hm1] at this
      exact this.symm
     rw [HM.out] at hRe
     have hcv := BX.conv HQ.out.1
     have wi : IntKind.i64.wrap ((i : Int) + 1) = (i : Int) + 1 ∧ wrap64 ((i : Int) + 1) = (i : Int) + 1 := by rw [IntKind.wrap_i64]; unfold wrap64; constructor <;> omega
     obtain ⟨wia, wib⟩ := wi
     by_cases hl4 : (m : Int) ≤ 4096
     ·rw [if_pos (by omega)] at hRe
      subst hRe
      clear ec
      go_wp2
      exact bodyPost_ret (v := .tuple #[.string (B out), .int .i64 ((i : Int) + 1), .bool true]) (by simp [results, Tryz.results43, go_sem]) rfl ⟨_, _, rfl, fun q hq => (by cases hq; exact ⟨rfl, by have := HQ.out.2.2.2; simp only; omega⟩), HQ.out.2.1⟩
     ·rw [if_neg (by omega)] at hRe
      subst hRe
      clear ec
      go_wp2
      exact bodyPost_ret (v := .tuple #[.string (B out), .int .i64 ((i : Int) + 1), .bool false]) (by simp [results, Tryz.results43, go_sem]) rfl ⟨_, _, rfl, fun q hq => (by cases hq), HQ.out.2.1⟩
    ·have f2 : ((n : Int) == (k : Int)) = false := by simp; omega
     have f2n : ¬ (n : Int) = (k : Int) := by omega
     by_cases a3 : n = 92
     ·subst a3
      have ec : c = 92 := UInt8.toNat_inj.1 HC.out
      have wi : IntKind.i64.wrap ((i : Int) + 1) = (i : Int) + 1 ∧ wrap64 ((i : Int) + 1) = (i : Int) + 1 := by rw [IntKind.wrap_i64]; unfold wrap64; constructor <;> omega
      obtain ⟨wia, wib⟩ := wi
      have wj : IntKind.i64.wrap ((i : Int) + 1 + 1) = (i : Int) + 1 + 1 ∧ wrap64 ((i : Int) + 1 + 1) = (i : Int) + 1 + 1 := by rw [IntKind.wrap_i64]; unfold wrap64; constructor <;> omega
      obtain ⟨wja, wjb⟩ := wj
      by_cases b1 : i + 1 < N
      ·have q1 : (i : Int) + 1 < (N : Int) := by omega
       have q1n : ¬ (N : Int) ≤ (i : Int) + 1 := by omega
       have hl2 : i + 1 < x.size := by rw [HN.out]; exact b1
       have hix2 := fun w => idx_at x ((i : Int) + 1) (i + 1) rfl hl2 (x[i + 1].toNat : Int) rfl w
       have hd2 := drop_cons x (i + 1) hl2
       obtain ⟨e, he⟩ : ∃ e, x[i + 1] = e := ⟨_, rfl⟩
       rw [he] at hix2 hd2
       have HD2 := hid (show x.data.toList.drop (i + 1) = e :: x.data.toList.drop (i + 2) from hd2)
       obtain ⟨n2, hn2⟩ : ∃ n2, e.toNat = n2 := ⟨_, rfl⟩
       rw [hn2] at hix2
       have HE2 := hid hn2
       clear he hn2 hd2
       by_cases d110 : n2 = 110
       ·subst d110
        have AB := hid (alloc_old (w := wr) (o := .cells #[.int .u8 10] 5))
        have nB := hid (show (wr.alloc (.cells #[.int .u8 10] 5)).heap[wr.heap.size]? = some (.cells #[cellB 10] 5) from by
         have := heap_alloc_new wr (.cells #[.int .u8 10] 5)
         rw [this]
         rfl)
        have hq2 : quotL mark (x.data.toList.drop (i + 2)) (out ++ [10]) (i + 2 - a) = R := by
         have := HQ.out.2.2.1
         rw [HD.out, ec, HD2.out, quotL_esc mark hm2, if_pos (show e = 110 from UInt8.toNat_inj.1 HE2.out)] at this
         rw [show i + 2 - a = i - a + 2 by have := HQ.out.2.2.2; omega]
         exact this
        have HQ2 := hid hq2
        clear hq2
        go_wp2_with (first | (at_builtin; refine append_BX (wr.alloc (.cells #[.int .u8 10] 5)) rfl _ _ rfl w.heap.size (.slice A m C) out m HM.out rfl (HQ.out.1.below AB.out) 10 wr.heap.size rfl nB.out (by have := HB.out; omega) (by have := HQ.out.2.1.size; rw [World.size_alloc]; omega) ?_; intro g cap w2 h1 h2; have H2 := hid h1; have B2 := hid ((HQ.out.1.below AB.out).grown (HQ.out.2.1.trans (AB.out.mono (Below.size HQ.out.2.1))) (Nat.le_refl _) (by have := Below.size HQ.out.2.1; rw [World.size_alloc]; omega) h2); clear h1 h2; refine Hid.out ?_))
        refine hid ?_
        go_wp2
        exact ⟨⟨i + 2, out ++ [10], some ⟨g, 0, none⟩, cap, m + 1, by omega, by simp [HM.out], rfl, by go_num, hid ⟨H2.out, B2.out, HQ2.out, by have := HQ.out.2.2.2; omega⟩⟩, by simp [intOf]; omega⟩
       ·have g110 : ((n2 : Int) == 110) = false := by simp; omega
        have h110 : ¬ (n2 : Int) = 110 := by omega
        by_cases d116 : n2 = 116
        ·subst d116
         have AB := hid (alloc_old (w := wr) (o := .cells #[.int .u8 9] 5))
         have nB := hid (show (wr.alloc (.cells #[.int .u8 9] 5)).heap[wr.heap.size]? = some (.cells #[cellB 9] 5) from by
          have := heap_alloc_new wr (.cells #[.int .u8 9] 5)
          rw [this]
          rfl)
         have hq2 : quotL mark (x.data.toList.drop (i + 2)) (out ++ [9]) (i + 2 - a) = R := by
          have := HQ.out.2.2.1
          rw [HD.out, ec, HD2.out, quotL_esc mark hm2, if_neg (fun h => d110 (by rw [← HE2.out, h]; rfl)), if_pos (show e = 116 from UInt8.toNat_inj.1 HE2.out)] at this
          rw [show i + 2 - a = i - a + 2 by have := HQ.out.2.2.2; omega]
          exact this
         have HQ2 := hid hq2
         clear hq2
         go_wp2_with (first | (at_builtin; refine append_BX (wr.alloc (.cells #[.int .u8 9] 5)) rfl _ _ rfl w.heap.size (.slice A m C) out m HM.out rfl (HQ.out.1.below AB.out) 9 wr.heap.size rfl nB.out (by have := HB.out; omega) (by have := HQ.out.2.1.size; rw [World.size_alloc]; omega) ?_; intro g cap w2 h1 h2; have H2 := hid h1; have B2 := hid ((HQ.out.1.below AB.out).grown (HQ.out.2.1.trans (AB.out.mono (Below.size HQ.out.2.1))) (Nat.le_refl _) (by have := Below.size HQ.out.2.1; rw [World.size_alloc]; omega) h2); clear h1 h2; refine Hid.out ?_))
         refine hid ?_
         go_wp2
         exact ⟨⟨i + 2, out ++ [9], some ⟨g, 0, none⟩, cap, m + 1, by omega, by simp [HM.out], rfl, by go_num, hid ⟨H2.out, B2.out, HQ2.out, by have := HQ.out.2.2.2; omega⟩⟩, by simp [intOf]; omega⟩
        ·have g116 : ((n2 : Int) == 116) = false := by simp; omega
         have h116 : ¬ (n2 : Int) = 116 := by omega
         by_cases d92 : n2 = 92
         ·subst d92
          have AB := hid (alloc_old (w := wr) (o := .cells #[.int .u8 92] 5))
          have nB := hid (show (wr.alloc (.cells #[.int .u8 92] 5)).heap[wr.heap.size]? = some (.cells #[cellB e] 5) from by
           have := heap_alloc_new wr (.cells #[.int .u8 92] 5)
           rw [this]
           show _ = some (Obj.cells #[.int .u8 (e.toNat : Int)] 5); rw [HE2.out]; rfl)
          have hq2 : quotL mark (x.data.toList.drop (i + 2)) (out ++ [e]) (i + 2 - a) = R := by
           have := HQ.out.2.2.1
           rw [HD.out, ec, HD2.out, quotL_esc mark hm2, if_neg (fun h => d110 (by rw [← HE2.out, h]; rfl)), if_neg (fun h => d116 (by rw [← HE2.out, h]; rfl)), if_pos (Or.inl (show e = 92 from UInt8.toNat_inj.1 HE2.out))] at this
           rw [show i + 2 - a = i - a + 2 by have := HQ.out.2.2.2; omega]
           exact this
          have HQ2 := hid hq2
          clear hq2
          go_wp2_with (first | (at_builtin; refine append_BX (wr.alloc (.cells #[.int .u8 92] 5)) rfl _ _ rfl w.heap.size (.slice A m C) out m HM.out rfl (HQ.out.1.below AB.out) e wr.heap.size rfl nB.out (by have := HB.out; omega) (by have := HQ.out.2.1.size; rw [World.size_alloc]; omega) ?_; intro g cap w2 h1 h2; have H2 := hid h1; have B2 := hid ((HQ.out.1.below AB.out).grown (HQ.out.2.1.trans (AB.out.mono (Below.size HQ.out.2.1))) (Nat.le_refl _) (by have := Below.size HQ.out.2.1; rw [World.size_alloc]; omega) h2); clear h1 h2; refine Hid.out ?_))
          refine hid ?_
          go_wp2
          exact ⟨⟨i + 2, out ++ [e], some ⟨g, 0, none⟩, cap, m + 1, by omega, by simp [HM.out], rfl, by go_num, hid ⟨H2.out, B2.out, HQ2.out, by have := HQ.out.2.2.2; omega⟩⟩, by simp [intOf]; omega⟩
         ·have g92 : ((n2 : Int) == 92) = false := by simp; omega
          have h92 : ¬ (n2 : Int) = 92 := by omega
          by_cases d34 : n2 = 34
          ·subst d34
           have AB := hid (alloc_old (w := wr) (o := .cells #[.int .u8 34] 5))
           have nB := hid (show (wr.alloc (.cells #[.int .u8 34] 5)).heap[wr.heap.size]? = some (.cells #[cellB e] 5) from by
            have := heap_alloc_new wr (.cells #[.int .u8 34] 5)
            rw [this]
            show _ = some (Obj.cells #[.int .u8 (e.toNat : Int)] 5); rw [HE2.out]; rfl)
           have hq2 : quotL mark (x.data.toList.drop (i + 2)) (out ++ [e]) (i + 2 - a) = R := by
            have := HQ.out.2.2.1
            rw [HD.out, ec, HD2.out, quotL_esc mark hm2, if_neg (fun h => d110 (by rw [← HE2.out, h]; rfl)), if_neg (fun h => d116 (by rw [← HE2.out, h]; rfl)), if_pos (Or.inr (Or.inl (show e = 34 from UInt8.toNat_inj.1 HE2.out)))] at this
            rw [show i + 2 - a = i - a + 2 by have := HQ.out.2.2.2; omega]
            exact this
           have HQ2 := hid hq2
           clear hq2
           go_wp2_with (first | (at_builtin; refine append_BX (wr.alloc (.cells #[.int .u8 34] 5)) rfl _ _ rfl w.heap.size (.slice A m C) out m HM.out rfl (HQ.out.1.below AB.out) e wr.heap.size rfl nB.out (by have := HB.out; omega) (by have := HQ.out.2.1.size; rw [World.size_alloc]; omega) ?_; intro g cap w2 h1 h2; have H2 := hid h1; have B2 := hid ((HQ.out.1.below AB.out).grown (HQ.out.2.1.trans (AB.out.mono (Below.size HQ.out.2.1))) (Nat.le_refl _) (by have := Below.size HQ.out.2.1; rw [World.size_alloc]; omega) h2); clear h1 h2; refine Hid.out ?_))
           refine hid ?_
           go_wp2
           exact ⟨⟨i + 2, out ++ [e], some ⟨g, 0, none⟩, cap, m + 1, by omega, by simp [HM.out], rfl, by go_num, hid ⟨H2.out, B2.out, HQ2.out, by have := HQ.out.2.2.2; omega⟩⟩, by simp [intOf]; omega⟩
          ·have g34 : ((n2 : Int) == 34) = false := by simp; omega
           have h34 : ¬ (n2 : Int) = 34 := by omega
           by_cases d39 : n2 = 39
           ·subst d39
            have AB := hid (alloc_old (w := wr) (o := .cells #[.int .u8 39] 5))
            have nB := hid (show (wr.alloc (.cells #[.int .u8 39] 5)).heap[wr.heap.size]? = some (.cells #[cellB e] 5) from by
             have := heap_alloc_new wr (.cells #[.int .u8 39] 5)
             rw [this]
             show _ = some (Obj.cells #[.int .u8 (e.toNat : Int)] 5); rw [HE2.out]; rfl)
            have hq2 : quotL mark (x.data.toList.drop (i + 2)) (out ++ [e]) (i + 2 - a) = R := by
             have := HQ.out.2.2.1
             rw [HD.out, ec, HD2.out, quotL_esc mark hm2, if_neg (fun h => d110 (by rw [← HE2.out, h]; rfl)), if_neg (fun h => d116 (by rw [← HE2.out, h]; rfl)), if_pos (Or.inr (Or.inr (show e = 39 from UInt8.toNat_inj.1 HE2.out)))] at this
             rw [show i + 2 - a = i - a + 2 by have := HQ.out.2.2.2; omega]
             exact this
            have HQ2 := hid hq2
            clear hq2
            go_wp2_with (first | (at_builtin; refine append_BX (wr.alloc (.cells #[.int .u8 39] 5)) rfl _ _ rfl w.heap.size (.slice A m C) out m HM.out rfl (HQ.out.1.below AB.out) e wr.heap.size rfl nB.out (by have := HB.out; omega) (by have := HQ.out.2.1.size; rw [World.size_alloc]; omega) ?_; intro g cap w2 h1 h2; have H2 := hid h1; have B2 := hid ((HQ.out.1.below AB.out).grown (HQ.out.2.1.trans (AB.out.mono (Below.size HQ.out.2.1))) (Nat.le_refl _) (by have := Below.size HQ.out.2.1; rw [World.size_alloc]; omega) h2); clear h1 h2; refine Hid.out ?_))
            refine hid ?_
            go_wp2
            exact ⟨⟨i + 2, out ++ [e], some ⟨g, 0, none⟩, cap, m + 1, by omega, by simp [HM.out], rfl, by go_num, hid ⟨H2.out, B2.out, HQ2.out, by have := HQ.out.2.2.2; omega⟩⟩, by simp [intOf]; omega⟩
           ·have g39 : ((n2 : Int) == 39) = false := by simp; omega
            have h39 : ¬ (n2 : Int) = 39 := by omega
            have nor : ¬ (e = 92 ∨ e = 34 ∨ e = 39) := by
             rintro (h | h | h)
             ·exact d92 (by rw [← HE2.out, h]; rfl)
             ·exact d34 (by rw [← HE2.out, h]; rfl)
             ·exact d39 (by rw [← HE2.out, h]; rfl)
            by_cases d120 : n2 = 120
            ·subst d120
             have NOR := hid nor
             clear wia wib wja wjb nor
             have hiN : (i : Int) + 1 < (N : Int) ∧ (N : Int) ≤ 100000 := ⟨q1, by omega⟩
             obtain ⟨wia, wib⟩ := wrapS ((i : Int) + 1) ⟨by omega, by omega⟩
             obtain ⟨wja, wjb⟩ := wrapS ((i : Int) + 1 + 1) ⟨by omega, by omega⟩
             obtain ⟨wka, wkb⟩ := wrapS ((i : Int) + 1 + 2) ⟨by omega, by omega⟩
             by_cases b2 : i + 3 < N
             ·obtain ⟨q2, q2n⟩ := i3_lt b2
              obtain ⟨hl3, hl4⟩ := i3_x HN.out b2
              have hix3 := fun w => idx_at x ((i : Int) + 1 + 1) (i + 2) rfl hl3 (x[i + 2].toNat : Int) rfl w
              have hix4 := fun w => idx_at x ((i : Int) + 1 + 2) (i + 3) rfl hl4 (x[i + 3].toNat : Int) rfl w
              have hd3 := drop4 hl3 hl4
              obtain ⟨y2, hy2⟩ : ∃ y2, x[i + 2] = y2 := ⟨_, rfl⟩
              obtain ⟨y3, hy3⟩ : ∃ y3, x[i + 3] = y3 := ⟨_, rfl⟩
              rw [hy2] at hix3 hd3
              rw [hy3] at hix4 hd3
              have HD3 := hid hd3
              have X2 := hid (fun w => hex_is y2 w)
              have X3 := hid (fun w => hex_is y3 w)
              clear hy2 hy3 hd3
              cases hb2 : hexB y2 with
              | none =>
               have hv : hexI y2 = -1 := by unfold hexI; rw [hb2]
               rw [hv] at X2
               have HB2 := hid hb2
               clear hv hb2
               have hRn : R = none := by
                have := HQ.out.2.2.1
                rw [HD.out, ec, HD2.out, quotL_esc mark hm2, if_neg (fun h => d110 (by rw [← HE2.out, h]; rfl)), if_neg (fun h => d116 (by rw [← HE2.out, h]; rfl)), if_neg NOR.out, if_pos (show e = 120 from UInt8.toNat_inj.1 HE2.out)] at this
                rw [HD3.out] at this
                simp only [HB2.out] at this
                exact this.symm
               subst hRn
               clear HQX
               go_wp2_with (first | (go_at_call 67; (with_reducible refine (X2.out _).mono ?_); rintro e9 w9 ⟨rfl, rfl⟩) | (go_at_call 67; (with_reducible refine (X3.out _).mono ?_); rintro e9 w9 ⟨rfl, rfl⟩))
               exact bodyPost_ret (v := .tuple #[.string ⟨#[]⟩, .int .i64 0, .bool false]) (by simp [results, Tryz.results43, go_sem]) rfl ⟨_, _, rfl, fun q hq => (by cases hq), HQ.out.2.1⟩
              | some p =>
               have hv : hexI y2 = (p : Int) := by unfold hexI; rw [hb2]
               rw [hv] at X2
               have hp0 : ¬ (p : Int) < 0 := by omega
               cases hb3 : hexB y3 with
               | none =>
                have hv3 : hexI y3 = -1 := by unfold hexI; rw [hb3]
                rw [hv3] at X3
                have HB2 := hid (And.intro hb2 hb3)
                clear hv hb2 hv3 hb3
                have hRn : R = none := by
                 have := HQ.out.2.2.1
                 rw [HD.out, ec, HD2.out, quotL_esc mark hm2, if_neg (fun h => d110 (by rw [← HE2.out, h]; rfl)), if_neg (fun h => d116 (by rw [← HE2.out, h]; rfl)), if_neg NOR.out, if_pos (show e = 120 from UInt8.toNat_inj.1 HE2.out)] at this
                 rw [HD3.out] at this
                 simp only [HB2.out.1, HB2.out.2] at this
                 exact this.symm
                subst hRn
                clear HQX
                go_wp2_with (first | (go_at_call 67; (with_reducible refine (X2.out _).mono ?_); rintro e9 w9 ⟨rfl, rfl⟩) | (go_at_call 67; (with_reducible refine (X3.out _).mono ?_); rintro e9 w9 ⟨rfl, rfl⟩))
                exact bodyPost_ret (v := .tuple #[.string ⟨#[]⟩, .int .i64 0, .bool false]) (by simp [results, Tryz.results43, go_sem]) rfl ⟨_, _, rfl, fun q hq => (by cases hq), HQ.out.2.1⟩
               | some q =>
                have hv3 : hexI y3 = (q : Int) := by unfold hexI; rw [hb3]
                rw [hv3] at X3
                have hq0 : ¬ (q : Int) < 0 := by omega
                have HB2 := hid (And.intro hb2 hb3)
                clear hv hb2 hv3 hb3
                go_wp2_with (first | (go_at_call 67; (with_reducible refine (X2.out _).mono ?_); rintro e9 w9 ⟨rfl, rfl⟩) | (go_at_call 67; (with_reducible refine (X3.out _).mono ?_); rintro e9 w9 ⟨rfl, rfl⟩))
                have hpl := hexB_lt HB2.out.1
                have hql := hexB_lt HB2.out.2
                have hor := or16 hpl hql
                obtain ⟨hsh, hcv⟩ := num16 hpl hql
                clear hpl hql
                refine wp_region_held_drew (S := fun _ : World => True) (by kernel_rfl) trivial (fun hH0 => ?_)
                try simp only [Act.put, List.getElem_toArray, List.getElem_cons_zero, List.getElem_cons_succ, List.setIfInBounds_toArray, List.set_cons_zero, List.set_cons_succ]
                refine wpAnyH_take (i := 0) (v := .slice A m C) rfl (by kernel_rfl) (by kernel_rfl) (by kernel_rfl) (fun _ _ _ h => h) (Or.inl ⟨by kernel_rfl, fun w _ => by go_simp⟩) hH0 ?_
                try simp only [Act.put, List.getElem_toArray, List.getElem_cons_zero, List.getElem_cons_succ, List.setIfInBounds_toArray, List.set_cons_zero, List.set_cons_succ]
                refine wpAnyH_take (i := 1) (v := .string x) rfl (by kernel_rfl) (by kernel_rfl) (by kernel_rfl) (fun _ _ _ h => h) (Or.inl ⟨by kernel_rfl, fun w _ => by go_simp⟩) hH0 ?_
                try simp only [Act.put, List.getElem_toArray, List.getElem_cons_zero, List.getElem_cons_succ, List.setIfInBounds_toArray, List.set_cons_zero, List.set_cons_succ]
                refine wpAnyH_take (i := 2) (v := .int .i64 ((i : Int) + 1)) rfl (by kernel_rfl) (by kernel_rfl) (by kernel_rfl) (fun _ _ _ h => h) (Or.inl ⟨by kernel_rfl, fun w _ => by go_simp⟩) hH0 ?_
                try simp only [Act.put, List.getElem_toArray, List.getElem_cons_zero, List.getElem_cons_succ, List.setIfInBounds_toArray, List.set_cons_zero, List.set_cons_succ]
                refine wpAnyH_take (i := 3) (v := .int .i64 ((i : Int) + 1 + 1)) rfl (by kernel_rfl) (by kernel_rfl) (by kernel_rfl) (fun _ _ _ h => h) (Or.inl ⟨by kernel_rfl, fun w _ => by go_simp⟩) hH0 ?_
                try simp only [Act.put, List.getElem_toArray, List.getElem_cons_zero, List.getElem_cons_succ, List.setIfInBounds_toArray, List.set_cons_zero, List.set_cons_succ]
                refine wpAnyH_take (i := 4) (v := .int .u8 (y2.toNat : Int)) rfl (by kernel_rfl) (by kernel_rfl) (by kernel_rfl) (fun _ _ _ h => h) (Or.inl ⟨by kernel_rfl, fun w _ => by go_simp⟩) hH0 ?_
                try simp only [Act.put, List.getElem_toArray, List.getElem_cons_zero, List.getElem_cons_succ, List.setIfInBounds_toArray, List.set_cons_zero, List.set_cons_succ]
                refine wpAnyH_take (i := 7) (v := .string x) rfl (by kernel_rfl) (by kernel_rfl) (by kernel_rfl) (fun _ _ _ h => h) (Or.inl ⟨by kernel_rfl, fun w _ => by go_simp⟩) hH0 ?_
                try simp only [Act.put, List.getElem_toArray, List.getElem_cons_zero, List.getElem_cons_succ, List.setIfInBounds_toArray, List.set_cons_zero, List.set_cons_succ]
                refine wpAnyH_take (i := 8) (v := .int .i64 ((i : Int) + 1)) rfl (by kernel_rfl) (by kernel_rfl) (by kernel_rfl) (fun _ _ _ h => h) (Or.inl ⟨by kernel_rfl, fun w _ => by go_simp⟩) hH0 ?_
                try simp only [Act.put, List.getElem_toArray, List.getElem_cons_zero, List.getElem_cons_succ, List.setIfInBounds_toArray, List.set_cons_zero, List.set_cons_succ]
                refine wpAnyH_take (i := 9) (v := .int .i64 ((i : Int) + 1 + 2)) rfl (by kernel_rfl) (by kernel_rfl) (by kernel_rfl) (fun _ _ _ h => h) (Or.inl ⟨by kernel_rfl, fun w _ => by go_simp⟩) hH0 ?_
                try simp only [Act.put, List.getElem_toArray, List.getElem_cons_zero, List.getElem_cons_succ, List.setIfInBounds_toArray, List.set_cons_zero, List.set_cons_succ]
                refine wpAnyH_take (i := 10) (v := .int .u8 (y3.toNat : Int)) rfl (by kernel_rfl) (by kernel_rfl) (by kernel_rfl) (fun _ _ _ h => h) (Or.inl ⟨by kernel_rfl, fun w _ => by go_simp⟩) hH0 ?_
                try simp only [Act.put, List.getElem_toArray, List.getElem_cons_zero, List.getElem_cons_succ, List.setIfInBounds_toArray, List.set_cons_zero, List.set_cons_succ]
                refine wpAnyH_ready (rs := [5]) (by kernel_rfl) (by simp) ?_
                refine AllReadyH.cons rfl (fun K hK => ?_) AllReadyH.nil
                go_simp
                go_at_call 67
                refine (X2.out _).mono ?_
                rintro e9 w8 ⟨rfl, rfl⟩
                refine hK.out _ _ trivial (fun _ => ?_)
                clear hK K
                try simp only [Act.put, List.getElem_toArray, List.getElem_cons_zero, List.getElem_cons_succ, List.setIfInBounds_toArray, List.set_cons_zero, List.set_cons_succ]
                refine wpAnyH_take (i := 6) (v := .int .i64 ((p : Int) * 16)) rfl (by kernel_rfl) (by kernel_rfl) (by kernel_rfl) (fun _ _ _ h => h) (Or.inl ⟨by kernel_rfl, fun w _ => by go_simp⟩) hH0 ?_
                try simp only [Act.put, List.getElem_toArray, List.getElem_cons_zero, List.getElem_cons_succ, List.setIfInBounds_toArray, List.set_cons_zero, List.set_cons_succ]
                refine wpAnyH_ready (rs := [11]) (by kernel_rfl) (by simp) ?_
                refine AllReadyH.cons rfl (fun K hK => ?_) AllReadyH.nil
                go_simp
                go_at_call 67
                refine (X3.out _).mono ?_
                rintro e9 w8 ⟨rfl, rfl⟩
                refine hK.out _ _ trivial (fun _ => ?_)
                clear hK K
                try simp only [Act.put, List.getElem_toArray, List.getElem_cons_zero, List.getElem_cons_succ, List.setIfInBounds_toArray, List.set_cons_zero, List.set_cons_succ]
                refine wpAnyH_take (i := 12) (v := .int .i64 ((p : Int) * 16 + q)) rfl (by kernel_rfl) (by kernel_rfl) (by kernel_rfl) (fun _ _ _ h => h) (Or.inl ⟨by kernel_rfl, fun w _ => by go_simp⟩) hH0 ?_
                try simp only [Act.put, List.getElem_toArray, List.getElem_cons_zero, List.getElem_cons_succ, List.setIfInBounds_toArray, List.set_cons_zero, List.set_cons_succ]
                refine wpAnyH_take (i := 13) (v := .int .u8 ((p : Int) * 16 + q)) rfl (by kernel_rfl) (by kernel_rfl) (by kernel_rfl) (fun _ _ _ h => h) (Or.inl ⟨by kernel_rfl, fun w _ => by go_simp⟩) hH0 ?_
                try simp only [Act.put, List.getElem_toArray, List.getElem_cons_zero, List.getElem_cons_succ, List.setIfInBounds_toArray, List.set_cons_zero, List.set_cons_succ]
                refine wpAnyH_ready (rs := [14]) (by kernel_rfl) (by simp) ?_
                refine AllReadyH.cons rfl (fun K hK => ?_) AllReadyH.nil
                go_simp
                refine hK.out _ _ trivial (fun _ => ?_)
                clear hK K
                try simp only [Act.put, List.getElem_toArray, List.getElem_cons_zero, List.getElem_cons_succ, List.setIfInBounds_toArray, List.set_cons_zero, List.set_cons_succ]
                refine wpAnyH_ready (rs := [15]) (by kernel_rfl) (by simp) ?_
                refine AllReadyH.cons rfl (fun K hK => ?_) AllReadyH.nil
                have AB := hid (show Below w.heap.size w (w9.drew.alloc (.cells #[.int .u8 ((p : Int) * 16 + q)] 5)) from (HQ.out.2.1.drew).trans (alloc_old.mono (Below.size HQ.out.2.1.drew)))
                have nB := hid (show (w9.drew.alloc (.cells #[.int .u8 ((p : Int) * 16 + q)] 5)).heap[w9.heap.size]? = some (.cells #[cellB (UInt8.ofNat (p * 16 + q))] 5) from by
                 have := heap_alloc_new w9.drew (.cells #[.int .u8 ((p : Int) * 16 + q)] 5)
                 rw [show w9.heap.size = w9.drew.heap.size from rfl, this]
                 show _ = some (Obj.cells #[.int .u8 ((UInt8.ofNat (p * 16 + q)).toNat : Int)] 5)
                 rw [of16 (hexB_lt HB2.out.1) (hexB_lt HB2.out.2)]
                 push_cast
                 rfl)
                refine step_BX (w9.drew.alloc (.cells #[.int .u8 ((p : Int) * 16 + q)] 5)) rfl _ _ rfl w.heap.size (.slice A m C) out m HM.out rfl ((show BX w9.drew w.heap.size (.slice A m C) out from HQ.out.1).below alloc_old) (UInt8.ofNat (p * 16 + q)) w9.heap.size rfl nB.out (by have := HB.out; omega) (by have := HQ.out.2.1.size; rw [World.size_alloc]; exact Nat.le_succ_of_le this) ?_
                intro g cap w2 h1 h2
                have H2 := hid h1
                have B2 := hid (((show BX w9.drew w.heap.size (.slice A m C) out from HQ.out.1).below alloc_old).grown AB.out (Nat.le_refl _) (Below.size AB.out) h2)
                clear h1 h2
                refine hK.out _ _ trivial (fun _ => ?_)
                clear hK K
                try simp only [Act.put, List.getElem_toArray, List.getElem_cons_zero, List.getElem_cons_succ, List.setIfInBounds_toArray, List.set_cons_zero, List.set_cons_succ]
                refine wpAnyH_take (i := 16) (v := .slice (some ⟨g, 0, none⟩) (m + 1) cap) rfl (by kernel_rfl) (by kernel_rfl) (by kernel_rfl) (fun _ _ _ h => h) (Or.inl ⟨by kernel_rfl, fun w _ => by go_simp⟩) hH0 ?_
                try simp only [Act.put, List.getElem_toArray, List.getElem_cons_zero, List.getElem_cons_succ, List.setIfInBounds_toArray, List.set_cons_zero, List.set_cons_succ]
                refine wpAnyH_done (by kernel_rfl) ?_ _
                have hq2 : quotL mark (x.data.toList.drop (i + 4)) (out ++ [UInt8.ofNat (p * 16 + q)]) (i + 4 - a) = R := by
                 have := HQ.out.2.2.1
                 rw [HD.out, ec, HD2.out, quotL_esc mark hm2, if_neg (fun h => d110 (by rw [← HE2.out, h]; rfl)), if_neg (fun h => d116 (by rw [← HE2.out, h]; rfl)), if_neg NOR.out, if_pos (show e = 120 from UInt8.toNat_inj.1 HE2.out)] at this
                 rw [HD3.out] at this
                 simp only [HB2.out.1, HB2.out.2] at this
                 rw [sub4 HQ.out.2.2.2.2]
                 exact this
                have HQ2 := hid hq2
                clear hq2
                have h4 : i + 4 ≤ N := b2
                clear hor hsh hcv hp0 hq0 wia wib wja wjb wka wkb q2 q2n hix3 hix4 X2 X3
                go_wp2
                exact ⟨⟨i + 4, out ++ [UInt8.ofNat (p * 16 + q)], some ⟨g, 0, none⟩, cap, m + 1, h4, by simp [HM.out], rfl, by go_num, hid ⟨H2.out, B2.out, HQ2.out, le4 HQ.out.2.2.2⟩⟩, by simp [intOf]; omega⟩
             ·obtain ⟨q2, q2n⟩ := i3_ge b2
              have hlen := i3_d HN.out b2
              have hRn : R = none := by
               have := HQ.out.2.2.1
               rw [HD.out, ec, HD2.out, quotL_esc mark hm2, if_neg (fun h => d110 (by rw [← HE2.out, h]; rfl)), if_neg (fun h => d116 (by rw [← HE2.out, h]; rfl)), if_neg NOR.out, if_pos (show e = 120 from UInt8.toNat_inj.1 HE2.out)] at this
               revert this hlen
               generalize x.data.toList.drop (i + 2) = r2
               intro hlen this
               match r2, hlen with
               | [], _ => exact this.symm
               | [_], _ => exact this.symm
              subst hRn
              clear HQX
              go_wp2
              exact bodyPost_ret (v := .tuple #[.string ⟨#[]⟩, .int .i64 0, .bool false]) (by simp [results, Tryz.results43, go_sem]) rfl ⟨_, _, rfl, fun q hq => (by cases hq), HQ.out.2.1⟩
            ·have g120 : ((n2 : Int) == 120) = false := by simp; omega
             have h120 : ¬ (n2 : Int) = 120 := by omega
             have hRn : R = none := by
              have := HQ.out.2.2.1
              rw [HD.out, ec, HD2.out, quotL_esc mark hm2, if_neg (fun h => d110 (by rw [← HE2.out, h]; rfl)), if_neg (fun h => d116 (by rw [← HE2.out, h]; rfl)), if_neg nor, if_neg (fun h => d120 (by rw [← HE2.out, h]; rfl))] at this
              exact this.symm
             subst hRn
             clear HQX nor
             go_wp2
             exact bodyPost_ret (v := .tuple #[.string ⟨#[]⟩, .int .i64 0, .bool false]) (by simp [results, Tryz.results43, go_sem]) rfl ⟨_, _, rfl, fun q hq => (by cases hq), HQ.out.2.1⟩
      ·have q1 : ¬ (i : Int) + 1 < (N : Int) := by omega
       have q1n : (N : Int) ≤ (i : Int) + 1 := by omega
       have hRn : R = none := by
        have := HQ.out.2.2.1
        rw [HD.out, ec, List.drop_of_length_le (i := i + 1) (by have := HN.out; simp; omega), quotL_esc0 mark hm2] at this
        exact this.symm
       subst hRn
       clear HQX
       go_wp2
       exact bodyPost_ret (v := .tuple #[.string ⟨#[]⟩, .int .i64 0, .bool false]) (by simp [results, Tryz.results43, go_sem]) rfl ⟨_, _, rfl, fun q hq => (by cases hq), HQ.out.2.1⟩
     ·have f3 : ((n : Int) == 92) = false := by simp; omega
      have f3n : ¬ (n : Int) = 92 := by omega
      have AB := hid (alloc_old (w := wr) (o := .cells #[.int .u8 (n : Int)] 5))
      have nB := hid (show (wr.alloc (.cells #[.int .u8 (n : Int)] 5)).heap[wr.heap.size]? = some (.cells #[cellB c] 5) from by
       have := heap_alloc_new wr (.cells #[.int .u8 (n : Int)] 5)
       rw [this]
       show _ = some (Obj.cells #[.int .u8 (c.toNat : Int)] 5); rw [HC.out])
      have hq2 : quotL mark (x.data.toList.drop (i + 1)) (out ++ [c]) (i + 1 - a) = R := by
       have := HQ.out.2.2.1
       rw [HD.out, quotL_plain mark c _ _ _ (fun e => a1 (by rw [← HC.out, e]; rfl)) (fun e => a2 (by rw [← HC.out, e, HK.out])) (fun e => a3 (by rw [← HC.out, e]; rfl))] at this
       rw [show i + 1 - a = i - a + 1 by have := HQ.out.2.2.2; omega]
       exact this
      have HQ2 := hid hq2
      clear hq2
      go_wp2_with (first | (at_builtin; refine append_BX (wr.alloc (.cells #[.int .u8 (n : Int)] 5)) rfl _ _ rfl w.heap.size (.slice A m C) out m HM.out rfl (HQ.out.1.below AB.out) c wr.heap.size rfl nB.out (by have := HB.out; omega) (by have := HQ.out.2.1.size; rw [World.size_alloc]; omega) ?_; intro g cap w2 h1 h2; have H2 := hid h1; have B2 := hid ((HQ.out.1.below AB.out).grown (HQ.out.2.1.trans (AB.out.mono (Below.size HQ.out.2.1))) (Nat.le_refl _) (by have := Below.size HQ.out.2.1; rw [World.size_alloc]; omega) h2); clear h1 h2; refine Hid.out ?_))
      refine hid ?_
      go_wp2
      exact ⟨⟨i + 1, out ++ [c], some ⟨g, 0, none⟩, cap, m + 1, by omega, by simp [HM.out], rfl, by go_num, hid ⟨H2.out, B2.out, HQ2.out, by have := HQ.out.2.2.2; omega⟩⟩, by simp [intOf]; omega⟩
  ·have q0 : ¬ (i : Int) < (N : Int) := by omega
   have hRn : R = none := by
    have := HQ.out.2.2.1
    rw [List.drop_of_length_le (by have := HN.out; simp; omega), quotL_nil] at this
    exact this.symm
   subst hRn
   clear HQX
   go_wp2
   exact bodyPost_ret (v := .tuple #[.string ⟨#[]⟩, .int .i64 0, .bool false]) (by simp [results, Tryz.results43, go_sem]) rfl ⟨_, _, rfl, fun q hq => (by cases hq), HQ.out.2.1⟩
end Go.Proofs.YtgkejkgailnbmaaGreatDoor
