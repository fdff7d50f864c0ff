/- The walk of the law RespMany. -/
import Derived.Test.YtennkagolgbamaaDoorRe14
namespace Go.Proofs.YtennkagolgbamaaDoor
open Go.ChangeShapes Go.WideShapes Go.ChangeAt Go.RowKit Go.Resp

theorem many_told (v0 : Value) (xss : List (List ByteArray)) (w : World) (h : RSl w v0 xss) (hno : xss = [] ∨ 8 < xss.length) :
    Calls Tryd.prog 7 #[v0] w fun e w' => e = .returned (.bool true) ∧ Below w.heap.size w w' := by
  obtain ⟨A, cap, rfl, h1, h2, h3⟩ := h
  unfold maxLen at h2
  clear h3
  have T := Lib.hid told_any
  by_cases hx : xss = []
  · subst hx
    clear hno
    go_enter Tryd.func7, Tryd.ntmps7
    go_wp2_with (first | (go_at_call 10; (with_reducible refine (T.out _).mono ?_); rintro e w1 ⟨rfl, hb1⟩))
    go_ret
    exact ⟨rfl, by assumption⟩
  · have hl : (8 : Int) < (xss.length : Int) := by
      rcases hno with h | h
      · exact absurd h hx
      · omega
    have hz : ((xss.length : Int) == 0) = false := by
      rw [beq_eq_false_iff_ne]; intro e; exact hx (List.eq_nil_of_length_eq_zero (by omega))
    have hz' : (xss.length == 0) = false := by
      rw [beq_eq_false_iff_ne]; intro e; exact hx (List.eq_nil_of_length_eq_zero e)
    clear hno hx
    go_enter Tryd.func7, Tryd.ntmps7
    go_wp2_with (first | (go_at_call 10; (with_reducible refine (T.out _).mono ?_); rintro e w1 ⟨rfl, hb1⟩))
    go_ret
    exact ⟨rfl, by assumption⟩
set_option maxHeartbeats 4000000 in
theorem many_walk (w0 : World) (IT : ItoaOn w0) (v0 : Value) (xss : List (List ByteArray)) (w : World) (hi : Inv w0 w) (h : RSl w v0 xss) (hx : xss ≠ []) (hl : xss.length ≤ 8) :
    Calls Tryd.prog 7 #[v0] w fun e w' => e = .returned (.bool true) ∧ Below w.heap.size w w' := by
  have HH := Lib.hid h
  obtain ⟨A, cap, rfl, h1, h2, h3⟩ := h
  unfold maxLen at h2
  obtain ⟨blk, off, rfl, hblk, hc⟩ := h3 hx
  have HC := Lib.hid hc
  have HX := Lib.hid hx
  have HI := Lib.hid hi
  have IT' := Lib.hid IT
  clear h3 hc hi IT
  have T := Lib.hid told_any
  have hz : ((xss.length : Int) == 0) = false := by
    rw [beq_eq_false_iff_ne]; intro e; exact hx (List.eq_nil_of_length_eq_zero (by omega))
  have hz' : (xss.length == 0) = false := by
    rw [beq_eq_false_iff_ne]; intro e; exact hx (List.eq_nil_of_length_eq_zero e)
  have hl8 : ¬ (8 : Int) < (xss.length : Int) := by omega
  have hbel := Lib.hid (Below.refl w.heap.size w)
  clear hx
  go_enter Tryd.func7, Tryd.ntmps7
  go_wp2_with fail
  go_loopw [3, 4] (fun b i wr => ∃ k : Nat, k ≤ xss.length ∧ i = .int .i64 k ∧ Hid (OwnN w.heap.size wr b (allF (xss.take k)) ∧ (∀ xs ∈ xss.take k, okB xs = true) ∧ Below w.heap.size w wr)) (fun _ i _ => xss.length - (intOf i).toNat)
  case atStart => exact ⟨0, Nat.zero_le _, rfl, Lib.hid ⟨.inr ⟨rfl, rfl⟩, fun xs h => by simp at h, hbel.out⟩⟩
  case round =>
    obtain ⟨k, hk, rfl, HR⟩ := hrel
    have bR := Below.size HR.out.2.2
    by_cases hlt : k < xss.length
    · obtain ⟨xs, hxs⟩ : ∃ xs, xss[k]? = some xs := ⟨_, List.getElem?_eq_getElem hlt⟩
      obtain ⟨u, hu, hux⟩ := HC.out k xs hxs
      have hcell := (HR.out.2.2.cell (p := ⟨blk, off + k, none⟩) hblk).trans hu
      have F := few15 u xs wr (hux.below HR.out.2.2)
      have HU := Lib.hid (And.intro hux hxs)
      have hik : (k : Int) < (xss.length : Int) := by omega
      obtain ⟨A1, c1, rfl, _, _, _⟩ := hux
      clear hu hxs
      by_cases hf : fewB xs = true
      · have FR := fun wx (hb : Below wr.heap.size wr wx) => Frame17 w0 IT'.out _ xs wx (HI.out.on (HR.out.2.2.trans (hb.mono bR))) ((HU.out.1.below HR.out.2.2).below hb) hf
        rw [hf] at F
        have F' := Lib.hid F
        have FR' := Lib.hid FR
        clear F FR
        by_cases he : xs = []
        · subst he
          simp only [List.length_nil] at F' FR' hcell
          clear hf
          go_wp2_with (first | (go_at_call 15; (with_reducible refine F'.out.mono ?_); rintro e w1 ⟨rfl, rfl⟩) | (go_at_call 10; (with_reducible refine (T.out _).mono ?_); rintro e w1 ⟨rfl, hb1⟩))
          go_ret
          exact ⟨rfl, HR.out.2.2.trans (Below.mono (by assumption) bR)⟩
        · have z1 : ((xs.length : Int) == 0) = false := by
            rw [beq_eq_false_iff_ne]; intro e; exact he (List.eq_nil_of_length_eq_zero (by omega))
          have z2 : (xs.length == 0) = false := by
            rw [beq_eq_false_iff_ne]; intro e; exact he (List.eq_nil_of_length_eq_zero e)
          have HE := Lib.hid (And.intro he hf)
          clear he hf
          go_wp2_with (first | (go_at_call 15; (with_reducible refine F'.out.mono ?_); rintro e w1 ⟨rfl, rfl⟩) | (go_at_call 17; (with_reducible refine (FR'.out _ (Below.refl _ _)).mono ?_); rintro e w1 ⟨v1, rfl, hO1, hb1⟩; refine Hid.out ?_))
          refine Lib.hid ?_
          have HD := Lib.hid (HR.out.1.below hb1)
          have HS := Lib.hid hO1.slice
          have HB1 := Lib.hid (HR.out.2.2.trans (hb1.mono bR))
          have bB := Below.size HB1.out
          have hok : ∀ ys ∈ xss.take (k + 1), okB ys = true := by
            rw [List.take_add_one, HU.out.2]
            intro ys hys
            rcases List.mem_append.1 hys with hys | hys
            · exact HR.out.2.1 ys hys
            · simp at hys
              subst hys
              unfold okB
              rw [HE.out.2, Bool.true_and]
              cases ys with
              | nil => exact absurd rfl HE.out.1
              | cons _ _ => rfl
          have q1 : (allF (xss.take k)).length + (frameL xs).length ≤ 140737488355328 := by
            have g1 := allF_len _ HR.out.2.1
            have g2 := few_len xs HE.out.2
            rw [List.length_take] at g1
            omega
          have HK := Lib.hid hok
          clear hok hO1 hb1
          go_wp2_with (first | (at_builtin; refine append_N _ rfl _ _ rfl w.heap.size _ _ _ _ rfl HD.out rfl HS.out q1 bB ?_; intro v2 w2 hO2 hb2; refine Hid.out ?_))
          have HO2 := Lib.hid hO2
          have HB2 := Lib.hid (HB1.out.trans hb2)
          clear hO2 hb2
          refine Lib.hid ?_
          go_wp2
          refine ⟨⟨k + 1, by omega, by go_num, Lib.hid ⟨?_, HK.out, HB2.out⟩⟩, by simp [intOf]; omega⟩
          have e : allF (xss.take (k + 1)) = allF (xss.take k) ++ frameL xs := by
            rw [List.take_add_one, HU.out.2]; simp [allF]
          rw [e]
          exact HO2.out
      · rw [Bool.not_eq_true] at hf
        rw [hf] at F
        have F' := Lib.hid F
        clear F hf
        go_wp2_with (first | (go_at_call 15; (with_reducible refine F'.out.mono ?_); rintro e w1 ⟨rfl, rfl⟩) | (go_at_call 10; (with_reducible refine (T.out _).mono ?_); rintro e w1 ⟨rfl, hb1⟩))
        go_ret
        exact ⟨rfl, HR.out.2.2.trans (Below.mono (by assumption) bR)⟩
    · have hkl : k = xss.length := by omega
      subst hkl
      rw [List.take_length] at HR
      go_wp2_with fail
      go_loopw [3, 5] (fun b i wx => ∃ k : Nat, k ≤ xss.length ∧ i = .int .i64 k ∧ Hid (BSl wx b (allF (xss.drop k)) ∧ Below w.heap.size w wx)) (fun _ i _ => xss.length - (intOf i).toNat)
      case atStart => exact ⟨0, Nat.zero_le _, rfl, Lib.hid ⟨HR.out.1.slice, HR.out.2.2⟩⟩
      case round =>
        obtain ⟨k, hk2, rfl, HQ⟩ := hrel
        have bQ := Below.size HQ.out.2
        by_cases hlt2 : k < xss.length
        · obtain ⟨xs, hxs⟩ : ∃ xs, xss[k]? = some xs := ⟨_, List.getElem?_eq_getElem hlt2⟩
          have hok := okB_few (HR.out.2.1 xs (List.mem_of_getElem? hxs))
          obtain ⟨u, hu, hux⟩ := HC.out k xs hxs
          have hcell := (HQ.out.2.cell (p := ⟨blk, off + k, none⟩) hblk).trans hu
          obtain ⟨l, hlE⟩ : ∃ l, allF (xss.drop k) = l := ⟨_, rfl⟩
          have hl2 : l = frameL xs ++ allF (xss.drop (k + 1)) := by
            rw [← hlE]
            have e : xss.drop k = xs :: xss.drop (k + 1) := by
              obtain ⟨h, rfl⟩ := List.getElem?_eq_some_iff.1 hxs
              exact List.drop_eq_getElem_cons h
            rw [e]; rfl
          have hfl := few_len xs hok.1
          obtain ⟨n1, hn1⟩ : ∃ n1, (frameL xs).length = n1 := ⟨_, rfl⟩
          rw [hn1] at hfl
          have hll : n1 ≤ l.length := by rw [hl2, List.length_append]; omega
          have hsm : l.length ≤ 60000 := by
            rw [← hlE]
            have := allF_len (xss.drop k) (fun xs hxs => HR.out.2.1 xs (List.mem_of_mem_drop hxs))
            rw [List.length_drop] at this
            omega
          have hdr : l.drop n1 = allF (xss.drop (k + 1)) := by rw [hl2, ← hn1, List.drop_left]
          have hq := HQ.out.1
          rw [hlE] at hq
          have HQS := Lib.hid hq
          have RT : readT l = (xs.map (fun s => s.data.toList), n1, 0) := by
            rw [hl2, frameL_P, few_read xs hok.2 hok.1, ← frameL_P, hn1]
          have RD := read_of wr u3 l _ _ 0 0 rfl hq RT (by rw [List.length_map]; have := few_n xs hok.1; omega)
          rw [bytes_back] at RD
          obtain ⟨A2, c2, rfl, p1, p2, p3⟩ := hq
          obtain ⟨b2, o2, rfl, p4, p5⟩ := p3 (by intro e; rw [e] at hll; simp at hll; omega)
          unfold maxLen at p2
          have RD' := Lib.hid RD
          have HU := Lib.hid (And.intro (hux.below HQ.out.2) (And.intro hxs hdr))
          have HOK := Lib.hid hok
          clear RD RT hl2 hdr hlE hn1 p5 hok hu hxs
          obtain ⟨A1, c1, rfl, _, _, _⟩ := hux
          have hik : (k : Int) < (xss.length : Int) := by omega
          have e1 : ((n1 : Int) ≤ 0) = False := by simp; omega
          go_wp2_with (first | (go_at_call 13; (with_reducible refine RD'.out.mono ?_); rintro e w4 ⟨v4, rfl, hy, hb4⟩; refine Hid.out ?_))
          refine Lib.hid ?_
          have HY := Lib.hid hy
          have HB4 := Lib.hid (HQ.out.2.trans (hb4.mono bQ))
          have hcell4 := (hb4.cell (p := ⟨blk, off + k, none⟩) (by show blk < _; omega)).trans hcell
          have TX := Texts20 v4 _ xs xs w4 hy (HU.out.1.below hb4)
          rw [show decide (xs = xs) = true by simp] at TX
          have TX' := Lib.hid TX
          have HD := Lib.hid ((HQS.out.below hb4).drop rfl n1 hll)
          clear TX hy hb4 hcell
          by_cases hcn : c2 = n1
          · subst hcn
            rw [if_pos rfl] at HD
            go_wp2_with (first | (go_at_call 20; (with_reducible refine TX'.out.mono ?_); rintro e w7 ⟨rfl, n7, rfl⟩))
            refine ⟨⟨k + 1, by omega, by go_num, Lib.hid ⟨?_, below_drewN HB4.out n7⟩⟩, by simp [intOf]; omega⟩
            have hD := HD.out.below (below_drewN (Below.refl _ _) n7)
            rw [HU.out.2.2] at hD
            rw [show l.length - c2 = 0 by omega, Nat.sub_self] at hD
            exact hD
          · rw [if_neg hcn] at HD
            go_wp2_with (first | (go_at_call 20; (with_reducible refine TX'.out.mono ?_); rintro e w7 ⟨rfl, n7, rfl⟩))
            refine ⟨⟨k + 1, by omega, by go_num, Lib.hid ⟨?_, below_drewN HB4.out n7⟩⟩, by simp [intOf]; omega⟩
            have hD := HD.out.below (below_drewN (Below.refl _ _) n7)
            rw [HU.out.2.2] at hD
            exact hD
        · have hkl2 : k = xss.length := by omega
          subst hkl2
          rw [List.drop_length] at HQ
          obtain ⟨A2, c2, rfl, _, _, _⟩ := HQ.out.1
          have e0 : (allF ([] : List (List ByteArray))).length = 0 := rfl
          simp only [e0]
          clear e0
          go_wp2_with (first | (go_at_call 10; (with_reducible refine (T.out _).mono ?_); rintro e w6 ⟨rfl, hb6⟩))
          go_ret
          exact ⟨by simp, HQ.out.2.trans (Below.mono (by assumption) bQ)⟩
theorem many_law (v0 : Value) (xss : List (List ByteArray)) (w : World) (hT : Tab w) (h : RSl w v0 xss) :
    Calls Tryd.prog 7 #[v0] w fun e w' => e = .returned (.bool true) ∧ Below w.heap.size w w' := by
  by_cases hno : xss = [] ∨ 8 < xss.length
  · exact many_told v0 xss w h hno
  · exact many_walk w (ItoaOn.of hT) v0 xss w (Below.refl _ _) h (fun e => hno (.inl e)) (by rcases Nat.lt_or_ge 8 xss.length with g | g; exact absurd (.inr g) hno; exact g)
end Go.Proofs.YtennkagolgbamaaDoor
