/- The walk of the law PlaneTotals. -/
import Derived.Test.YtlgfgjcbdnnhfaaDoorTot3
import Derived.BigRegion
import Derived.BigQuiet
namespace Go.Proofs.YtlgfgjcbdnnhfaaDoor
open Go.ChangeShapes Go.WideShapes Go.ChangeAt Go.RowKit Go.Fl

theorem order_self (d : Ieee.Datum) (h : d.isNaN = false) : d.order d = some .eq := by
  cases d with
  | number s m e => simp [Ieee.Datum.order]
  | infinity s => simp [Ieee.Datum.order]
  | nan s f => cases h
theorem read_near (s : Bool) (m : Nat) : (Ieee.double.read (fz s m)).isNaN = false := by
  have key : ∀ r, r ≤ 2047 * 2 ^ 52 → (Ieee.double.read (Ieee.double.word s r)).isNaN = false := by
    intro r hr
    rw [read_word s r (by omega)]
    split
    · rfl
    · split
      · rfl
      · rw [if_pos (by omega)]; rfl
  unfold fz Ieee.Format.nearest
  split
  · exact key 0 (by omega)
  · refine key _ ?_
    rw [infRung_eq]
    exact Nat.min_le_right _ _
theorem order_fi (n : Int) : FloatKind.f64.format.order (fi n) (fi n) = some .eq := order_self _ (read_near _ _)

/-- A slice of whole numbers. -/
def ISl (w : World) (v : Value) (zs : List Int) : Prop := ∃ A cap, v = .slice A zs.length cap ∧ zs.length ≤ cap ∧ cap ≤ maxLen ∧
  (zs ≠ [] → ∃ blk off, A = some ⟨blk, off, none⟩ ∧ blk < w.heap.size ∧ ∀ i z, zs[i]? = some z → w.cell? ⟨blk, off + i, none⟩ = some (.int .i64 z))
theorem ISl.below {w w' : World} {v : Value} {xs : List Int} (h : ISl w v xs) (hb : Below w.heap.size w w') : ISl w' v xs := by
  obtain ⟨A, cap, h1, h2, h3, h4⟩ := h
  refine ⟨A, cap, h1, h2, h3, fun hne => ?_⟩
  obtain ⟨blk, off, h5, h6, h7⟩ := h4 hne
  have := Below.size hb
  exact ⟨blk, off, h5, by omega, fun i s hs => (hb.cell (p := ⟨blk, off + i, none⟩) h6).trans (h7 i s hs)⟩

theorem Tab.of {w0 w : World} (h : Tab w0) (hi : Inv w0 w) : Tab w := h.at_ hi
theorem tm1001 (z : Int) : -1000 ≤ z.tmod 1001 ∧ z.tmod 1001 ≤ 1000 := by
  have h1 := Int.tmod_lt_of_pos z (show (0 : Int) < 1001 by decide)
  have h2 := Int.lt_tmod_of_pos z (show (0 : Int) < 1001 by decide)
  omega
theorem few_rev {ps : List (Int × Int)} (h : FewP ps) : FewP ps.reverse := ⟨by rw [List.length_reverse]; exact h.1, fun x y hm => h.2 x y (by simpa using hm)⟩
theorem close_round {w0 w4 w6 w8 : World} {o1 o2 : Obj} {ps : List (Int × Int)} {x y : Int} {g6 c6 g8 c8 n1 n2 m1 m2 : Nat} {row : Option Nat} (hf : FewP (ps ++ [(x, y)]))
    (l6 : PO w0.heap.size w6 (.slice (some ⟨g6, 0, none⟩) n1 c6) (ps ++ [(x, y)])) (l8 : PO w0.heap.size w8 (.slice (some ⟨g8, 0, none⟩) n2 c8) ([(x, y)] ++ ps.reverse))
    (bg : (w4.alloc o1).grownBy w6 row) (bh : (w6.alloc o2).grownBy w8 (some w6.heap.size)) (hat : w6.heap.size = g8 ∨ g8 = (w6.alloc o2).heap.size) (k2 : g6 < w6.heap.size ∧ w0.heap.size ≤ g6) (ks : w4.heap.size + 1 ≤ w6.heap.size) (z4 : w0.heap.size ≤ w4.heap.size)
    (hb : Below w0.heap.size w0 w4) (hm1 : m1 = n1) (hm2 : m2 = n2) (hr : ∀ k, row = some k → w0.heap.size ≤ k) :
    FewP (ps ++ [(x, y)]) ∧ PO w0.heap.size w8 (.slice (some ⟨g6, 0, none⟩) m1 c6) (ps ++ [(x, y)]) ∧ PO w0.heap.size w8 (.slice (some ⟨g8, 0, none⟩) m2 c8) (ps ++ [(x, y)]).reverse ∧
      (∀ g, (Value.slice (some ⟨g6, 0, none⟩) m1 c6).ownBlock = some g → (Value.slice (some ⟨g8, 0, none⟩) m2 c8).ownBlock ≠ some g) ∧ Below w0.heap.size w0 w8 := by
  subst hm1 hm2
  have hs : (w6.alloc o2).heap.size = w6.heap.size + 1 := by simp
  refine ⟨hf, ?_, ?_, ?_, ?_⟩
  · refine PO.far (l6.below ((Below.refl w6.heap.size w6).alloc (Nat.le_refl _) o2)) bh fun g hg he => ?_
    cases hg
    have := Option.some.inj he
    have := k2.1
    simp only at *
    omega
  · rw [List.reverse_append]; exact l8
  · intro g hg he
    cases hg
    have he := Option.some.inj he
    simp only at he
    rcases hat with hat | hat <;> omega
  · have b1 := hb.alloc z4 o1
    have b2 := b1.grown bg (by simp; omega) hr
    have b3 := b2.alloc (by omega) o2
    exact b3.grown bh (by omega) (fun k hk => by cases hk; omega)
set_option maxRecDepth 100000 in
set_option maxHeartbeats 8000000 in
theorem totals_walk (w0 : World) (hT : Tab w0) (v0 v1 : Value) (xs ys : List Int) (h0 : ISl w0 v0 xs) (h1 : ISl w0 v1 ys) :
    Calls Tryd.prog 3 #[v0, v1] w0 fun e w' => e = .returned (.bool true) ∧ Below w0.heap.size w0 w' := by
  have T := Lib.hid told_any
  have HT := Lib.hid hT
  obtain ⟨A, cap, rfl, p1, p2, p3⟩ := h0
  obtain ⟨A1, cap1, rfl, q1, q2, q3⟩ := h1
  unfold maxLen at p2 q2
  have P3 := Lib.hid p3
  have Q3 := Lib.hid q3
  clear p3 q3 hT
  by_cases hl : (20 : Int) < (xs.length : Int)
  · go_enter Tryd.func3, Tryd.ntmps3
    go_wp2_with (first | (go_at_call 4; (with_reducible refine (T.out _).mono ?_); rintro e w1 ⟨rfl, rfl⟩))
    go_ret
    exact ⟨rfl, Below.refl _ _⟩
  · by_cases hm : (ys.length : Int) < (xs.length : Int)
    · go_enter Tryd.func3, Tryd.ntmps3
      go_wp2_with (first | (go_at_call 4; (with_reducible refine (T.out _).mono ?_); rintro e w1 ⟨rfl, rfl⟩))
      go_ret
      exact ⟨rfl, Below.refl _ _⟩
    · go_enter Tryd.func3, Tryd.ntmps3
      go_wp2
      go_loopw [5, 6, 7, 8, 9, 10, 11, 12, 13] (fun l back sx sy i x y c ok wr => ∃ ps : List (Int × Int), ps.length ≤ xs.length ∧ i = .int .i64 (ps.length : Nat) ∧ sx = .int .i64 (sumX ps) ∧ sy = .int .i64 (sumY ps) ∧ (∃ B c1 D c2, l = .slice B ps.length c1 ∧ back = .slice D ps.length c2) ∧ Hid (FewP ps ∧ PO w0.heap.size wr l ps ∧ PO w0.heap.size wr back ps.reverse ∧ (∀ g, l.ownBlock = some g → back.ownBlock ≠ some g) ∧ Below w0.heap.size w0 wr)) (fun _ _ _ _ i _ _ _ _ _ => xs.length - (intOf i).toNat)
      case atStart => exact ⟨[], Nat.zero_le _, rfl, rfl, rfl, ⟨none, 0, none, 0, rfl, rfl⟩, Lib.hid ⟨⟨Nat.zero_le _, fun x y h => by cases h⟩, PO.nil _ _, PO.nil _ _, (fun g h => by cases h), Below.refl _ _⟩⟩
      case round =>
        obtain ⟨ps, hk, rfl, rfl, rfl, ⟨B, c1, D, c2, rfl, rfl⟩, HR⟩ := hrel
        by_cases hlt : ps.length < xs.length
        · obtain ⟨blk, off, rfl, hblk, hz⟩ := P3.out (by intro e; rw [e] at hlt; simp at hlt)
          have hlt2 : ps.length < ys.length := by omega
          obtain ⟨blk2, off2, rfl, hblk2, hz2⟩ := Q3.out (by intro e; rw [e] at hlt2; simp at hlt2)
          obtain ⟨a, ha⟩ : ∃ z, xs[ps.length]? = some z := ⟨_, List.getElem?_eq_getElem hlt⟩
          obtain ⟨b, hb⟩ : ∃ z, ys[ps.length]? = some z := ⟨_, List.getElem?_eq_getElem hlt2⟩
          have ca := (HR.out.2.2.2.2.cell (p := ⟨blk, off + ps.length, none⟩) hblk).trans (hz _ a ha)
          have cb := (HR.out.2.2.2.2.cell (p := ⟨blk2, off2 + ps.length, none⟩) hblk2).trans (hz2 _ b hb)
          have i1 : (ps.length : Int) < (xs.length : Int) := by omega
          have i2 : (ps.length : Int) < (ys.length : Int) := by omega
          have bx := tm1001 a
          have by_ := tm1001 b
          obtain ⟨x, hx⟩ : ∃ x, a.tmod 1001 = x := ⟨_, rfl⟩
          obtain ⟨y, hy⟩ : ∃ y, b.tmod 1001 = y := ⟨_, rfl⟩
          rw [hx] at bx
          rw [hy] at by_
          have hfp : FewP (ps ++ [(x, y)]) := ⟨by rw [List.length_append]; show ps.length + 1 ≤ 20; omega, fun u v h => by
            rcases List.mem_append.1 h with h | h
            · exact HR.out.1.2 u v h
            · simp at h; obtain ⟨rfl, rfl⟩ := h; exact ⟨bx, by_⟩⟩
          have okx := (FewP.take hfp (ps.length + 1) (by omega)).1
          have oky := (FewP.take hfp (ps.length + 1) (by omega)).2
          rw [List.take_of_length_le (by simp)] at okx oky
          have sx : sumX (ps ++ [(x, y)]) = sumX ps + x := by unfold sumX; simp
          have sy : sumY (ps ++ [(x, y)]) = sumY ps + y := by unfold sumY; simp
          have wx : wrap64 (sumX ps + x) = sumX ps + x := IntWalk.wrap64_in _ (by rw [← sx]; have := okI_abs okx; omega)
          have wy : wrap64 (sumY ps + y) = sumY ps + y := IntWalk.wrap64_in _ (by rw [← sy]; have := okI_abs oky; omega)
          have HS := Lib.hid (And.intro hfp (And.intro sx sy))
          have PX := Lib.hid (fun w (hi : Inv w0 w) => Print6 w (HT.out.of hi) x bx.1 bx.2 w (Below.refl _ _))
          have PY := Lib.hid (fun w (hi : Inv w0 w) => Print6 w (HT.out.of hi) y by_.1 by_.2 w (Below.refl _ _))
          have PP := Lib.hid (fun w => PlaneParse5 x y bx by_ w)
          have okxy : (okI x && okI y) = true := by unfold okI; rw [decide_eq_true (by omega), decide_eq_true (by omega)]; rfl
          have MY := Lib.hid (fun w => (may_fi x y (by omega) (by omega) w).mono (fun e w' (h : e = .returned (.bool (okI x && okI y)) ∧ w = w') => show e = .returned (.bool true) ∧ w = w' by rw [okxy] at h; exact h))
          have IW := Lib.hid (show Inv w0 wr from HR.out.2.2.2.2)
          have HL := Lib.hid HR.out
          have ho := order_fi
          have f1 := floatOfInt_fi
          clear hz hz2 ha hb hfp sx sy okx oky
          go_wp2
          go_quiet (fail)
          go_wp2_with (first | (go_at_call 6; (with_reducible refine (PX.out _ (IW.out.drewN _)).mono ?_); rintro e w2 ⟨rfl, hi2⟩; have HB2 := Lib.hid (show Below wr.heap.size wr w2 from (below_drewN (Below.refl _ _) _).trans hi2); clear hi2; refine Hid.out ?_))
          refine Lib.hid ?_
          have HI2 := Lib.hid (show Inv w0 w2 from Below.trans IW.out (HB2.out.mono (Inv.size IW.out)))
          go_wp2_with (first | (go_at_call 6; (with_reducible refine (PY.out _ HI2.out).mono ?_); rintro e w3 ⟨rfl, hi3⟩; have HB3 := Lib.hid (show Below wr.heap.size wr w3 from HB2.out.trans (Below.mono hi3 (Below.size HB2.out))); clear hi3) | (go_at_call 5; (with_reducible refine (PP.out _).mono ?_); rintro e w4 ⟨rfl, hb4⟩; have HB4 := Lib.hid hb4; clear hb4; refine Hid.out ?_))
          refine Lib.hid ?_
          have BW := Lib.hid (show Below wr.heap.size wr w4 from HB3.out.trans (HB4.out.mono (Below.size HB3.out)))
          have z4 : w0.heap.size ≤ w4.heap.size := Nat.le_trans (Inv.size IW.out) (Below.size BW.out)
          have L1 := Lib.hid (fun o => (HL.out.2.1.below BW.out).below ((Below.refl w4.heap.size w4).alloc (Nat.le_refl _) o))
          have L2 := Lib.hid (PO.fresh w0.heap.size w4 x y z4)
          have L3 := Lib.hid (show ∀ o, w0.heap.size ≤ (w4.alloc o).heap.size from fun o => by simp; omega)
          have q1 : ps.length + [(x, y)].length ≤ 1000 := by simp; omega
          have q2 : [(x, y)] ≠ [] := by simp
          go_wp2_with (first | (go_at_call 7; (with_reducible refine (MY.out _).mono ?_); rintro e w5 ⟨rfl, rfl⟩) | (at_builtin; refine append_P _ rfl _ _ rfl w0.heap.size w0.heap.size ps [(x, y)] (.slice B ps.length c1) _ rfl (L1.out _) rfl L2.out q2 q1 (L3.out _) ?_; intro g6 c6 w6 hp6 hg6 hat6; refine Hid.out ?_))
          refine Lib.hid ?_
          have e1 : ps.length + [(x, y)].length = (ps ++ [(x, y)]).length := by simp
          have q3 : [(x, y)].length + ps.reverse.length ≤ 1000 := by simp; omega
          have ks : w4.heap.size + 1 ≤ w6.heap.size := by have := hg6.size; simp at this; exact this
          have k2 := hp6.lt g6 rfl
          have kb : PO w0.heap.size w6 (Value.slice D ps.length c2) ps.reverse := by
            refine PO.far ((HL.out.2.2.1.below BW.out).below ((Below.refl w4.heap.size w4).alloc (Nat.le_refl _) _)) hg6 fun g hg he => ?_
            exact HL.out.2.2.2.1 g he.symm hg
          have L6 := Lib.hid hp6
          have M1 := Lib.hid (PO.fresh w0.heap.size w6 x y (Nat.le_trans z4 (by omega)))
          have M2 := Lib.hid (fun o => kb.below ((Below.refl w6.heap.size w6).alloc (Nat.le_refl _) o))
          have M3 := Lib.hid (show ∀ o, w0.heap.size ≤ (w6.alloc o).heap.size from fun o => by simp; omega)
          have BG := Lib.hid hg6
          have K2 := Lib.hid k2
          have KS := Lib.hid ks
          have E1 := Lib.hid e1
          clear hp6 hg6 hat6 ks k2 kb e1 L1 L2 L3
          go_wp2_with (at_builtin; refine append_PA _ rfl _ _ rfl w0.heap.size w0.heap.size w6.heap.size 1 1 [(x, y)] ps.reverse _ rfl M1.out rfl rfl (M2.out _) q3 (M3.out _) ?_; intro g8 c8 w8 hp8 hg8 hat8; refine Hid.out ?_)
          refine Lib.hid ?_
          have L8 := Lib.hid hp8
          have BH := Lib.hid hg8
          have AT := Lib.hid hat8
          clear hp8 hg8 hat8
          go_wp2
          refine ⟨⟨ps ++ [(x, y)], by simp; omega, by simp, by rw [HS.out.2.1], by rw [HS.out.2.2], ⟨_, _, _, _, by rw [← E1.out]; rfl, by rw [← E1.out, Nat.add_comm]; rfl⟩, ?_⟩, by simp [intOf]; omega⟩
          refine Lib.hid (close_round HS.out.1 L6.out L8.out BG.out BH.out AT.out K2.out KS.out z4 (Below.trans HL.out.2.2.2.2 (BW.out.mono (Inv.size IW.out))) (by simp) (by simp) (fun g hg => ?_))
          exact (HL.out.2.1.lt g hg).2
        · have S1 := Lib.hid (fun w (hb : Below wr.heap.size wr w) => Sum8 (.slice B ps.length c1) ps w (HR.out.2.1.below hb).row HR.out.1)
          have S2 := Lib.hid (fun w (hb : Below wr.heap.size wr w) => Sum8 (.slice D ps.length c2) ps.reverse w (HR.out.2.2.1.below hb).row (few_rev HR.out.1))
          have IW := Lib.hid (show Below w0.heap.size w0 wr from HR.out.2.2.2.2)
          have RX := Lib.hid (show sumX ps.reverse = sumX ps by unfold sumX; rw [List.map_reverse, sum_rev])
          have RY := Lib.hid (show sumY ps.reverse = sumY ps by unfold sumY; rw [List.map_reverse, sum_rev])
          rw [RX.out, RY.out] at S2
          have i1 : ¬ (ps.length : Int) < (xs.length : Int) := by omega
          have ho := order_fi
          have f1 := floatOfInt_fi
          have BR := Lib.hid (Below.refl wr.heap.size wr)
          clear HR
          go_wp2_with (first | (go_at_call_of 8 (Value.slice B ps.length c1); (with_reducible refine (S1.out _ BR.out).mono ?_); rintro e w1 ⟨rfl, h1⟩; have B1 := Lib.hid h1; clear h1; refine Hid.out ?_))
          refine Lib.hid ?_
          go_wp2_with (first | (go_at_call_of 8 (Value.slice D ps.length c2); (with_reducible refine (S2.out _ B1.out).mono ?_); rintro e w2 ⟨rfl, h2⟩; have B2 := Lib.hid h2; clear h2; refine Hid.out ?_))
          refine Lib.hid ?_
          go_wp2_with (go_at_call 4; (with_reducible refine (T.out _).mono ?_); rintro e w3 ⟨rfl, rfl⟩)
          go_ret
          exact ⟨rfl, IW.out.trans ((B1.out.trans (B2.out.mono (Below.size B1.out))).mono (Below.size IW.out))⟩
end Go.Proofs.YtlgfgjcbdnnhfaaDoor
