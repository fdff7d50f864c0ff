/- Texts joined: Z7, Z9, Z5 -/
import Derived.Test.YticlacjpgjkhcaaGreatDoorQs29
set_option linter.unusedVariables false
set_option linter.unusedSimpArgs false

/- scores: names; ZRANGEBYSCORE, ZCOUNT. -/
namespace Go.Proofs.YticlacjpgjkhcaaGreatDoor
open Go.ChangeShapes Go.WideShapes Go.ChangeAt Go.RowKit

set_option maxRecDepth 100000 in
set_option maxHeartbeats 8000000 in
theorem zn_any (A : Option Addr) (n C c0 : Nat) (l : List (ByteArray × Int)) (hn : l.length = n) (hm : n ≤ 1000) (w : World) (h : RS w c0 (.slice A n C) l) : Calls Tryz.prog 65 #[.slice A n C] w fun e w' => ∃ A' C', e = .returned (.slice A' n C') ∧ TO w' w.heap.size (.slice A' n C') (l.map Prod.fst) ∧ Below w.heap.size w w' := by
  have HR := Lib.hid h
  have HN := Lib.hid hn
  clear h hn
  go_enter Tryz.func65, Tryz.ntmps65
  go_wp2
  go_loopw [3, 8] (fun ov kv wr => ∃ (k : Nat) (A' : Option Addr) (C' : Nat), k ≤ n ∧ ov = .slice A' k C' ∧ kv = .int .i64 k ∧ Hid (TO wr w.heap.size (.slice A' k C') ((l.take k).map Prod.fst) ∧ Below w.heap.size w wr)) (fun _ kv _ => n - (intOf kv).toNat)
  case atStart => exact ⟨0, none, 0, Nat.zero_le _, rfl, rfl, Lib.hid ⟨by rw [List.take_zero]; exact World.ownsRow_nil _ _ _ _, Below.refl _ _⟩⟩
  case round =>
    obtain ⟨k, A', C', hk, rfl, rfl, HQ⟩ := hrel
    by_cases hlt : k < n
    · have i0 : (k : Int) < (n : Int) := by omega
      obtain ⟨p, hp⟩ : ∃ p, l[k]? = some p := ⟨_, List.getElem?_eq_getElem (by rw [HN.out]; exact hlt)⟩
      obtain ⟨g, C9, hA, _⟩ := HR.out.form (by intro e; have := HN.out; rw [e] at this; simp at this; omega)
      have hA' : A = some ⟨g, 0, none⟩ := by injection hA
      subst hA'
      obtain ⟨d0, d1⟩ := (HR.out.below HQ.out.2).at HN.out k p hp
      have HT := Lib.hid (show (l.take (k + 1)).map Prod.fst = (l.take k).map Prod.fst ++ [p.1] by rw [List.take_add_one, hp]; simp)
      have HL := Lib.hid (show ((l.take k).map Prod.fst).length = k by rw [List.length_map, List.length_take, HN.out]; omega)
      have AX := Lib.hid (alloc_old (w := wr) (o := .cells #[.string p.1, .int .i64 p.2] 52))
      obtain ⟨x0, x1⟩ := cells2 (heap_alloc_new wr (.cells #[.string p.1, .int .i64 p.2] 52))
      have AY := Lib.hid (alloc_old (w := wr.alloc (.cells #[.string p.1, .int .i64 p.2] 52)) (o := .cells #[.string p.1] 9))
      have ny := Lib.hid (show ((wr.alloc (.cells #[.string p.1, .int .i64 p.2] 52)).alloc (.cells #[.string p.1] 9)).heap[wr.heap.size + 1]? = some (.cells #[.string p.1] 9) from by
        have h := heap_alloc_new (wr.alloc (.cells #[.string p.1, .int .i64 p.2] 52)) (.cells #[.string p.1] 9)
        rwa [World.size_alloc] at h)
      have RY := Lib.hid (show TO _ w.heap.size _ _ from row_below (row_below HQ.out.1 AX.out) AY.out)
      have DY := Lib.hid (HQ.out.2.trans ((AX.out.trans (AY.out.mono (Below.size AX.out))).mono (Below.size HQ.out.2)))
      have HZ := Lib.hid (Below.size DY.out)
      clear hp hA
      go_wp2_with (first | (at_builtin; refine append_TO _ rfl _ _ rfl w.heap.size _ _ _ HL.out rfl RY.out [p.1] 1 rfl _ rfl ny.out (by decide) (by omega) HZ.out ?_; intro g1 C1 x1 h6 h7 h8; have T1 := Lib.hid h6; have D1 := Lib.hid (DY.out.grown h7 HZ.out (fun b hb => (row_own RY.out b hb).1)); clear h6 h7 h8))
      exact ⟨⟨k + 1, _, C1, hlt, rfl, by go_num, Lib.hid ⟨by rw [HT.out]; exact T1.out, D1.out⟩⟩, by simp [intOf]; omega⟩
    · obtain rfl : k = n := by omega
      have i0 : ¬ (k : Int) < (k : Int) := by omega
      have hT := HQ.out.1
      rw [List.take_of_length_le (by rw [HN.out]; exact Nat.le_refl _)] at hT
      have hT := Lib.hid hT
      go_wp2
      go_ret
      exact ⟨A', C', rfl, hT.out, HQ.out.2⟩
set_option maxRecDepth 100000 in
set_option maxHeartbeats 8000000 in
theorem cZRANGEBYSCORE (bS bM : Nat) (D : List (ByteArray × List (ByteArray × Int))) (now : Int) (NM k : ByteArray) (b1 b2 : ByteArray) (lo hi : Int) (hb1 : b1.size ≤ 100000) (hp1 : parseI b1.data.toList = some lo) (hb2 : b2.size ≤ 100000) (hp2 : parseI b2.data.toList = some hi)  (F : List (ByteArray × Int)) (hF : (findD k D).getD [] = F)  (w : World) (hDB : DB w) (h3w : 3 < w.heap.size) : CmdD KS okS 63 bS bM D now [NM, k, b1, b2] 6 0 ⟨#[]⟩ (RO (((btZ lo hi F).map Prod.fst).map some)) [] w := by
  intro j vA hS hj hA
  show Calls Tryz.prog 63 #[.pointer (some ⟨j, 0, none⟩)] w _
  have hjw := lt_blk hj
  obtain ⟨blk, off, cap, rfl, hAR⟩ := AR.of hj hA (by simp)
  have HJ := Lib.hid hj
  have A1 := Lib.hid (alloc_old (w := w) (o := .cells #[.int .i64 0, .int .i64 0, .string ⟨#[]⟩, .slice none 0 0] 29))
  have hr := Lib.hid (heap_alloc_new w (.cells #[.int .i64 0, .int .i64 0, .string ⟨#[]⟩, .slice none 0 0] 29))
  have hl2 : ([NM, k, b1, b2]).length = 4 := rfl
  rw [hl2] at HJ ⊢
  have hz : w.heap.size + 1 ≤ (w.alloc (.cells #[.int .i64 0, .int .i64 0, .string ⟨#[]⟩, .slice none 0 0] 29)).heap.size := by simp
  have HO := Lib.hid (fun X hX hc => zof_at bS bM j D now blk off cap ([NM, k, b1, b2]) 4 hl2 (by omega) k rfl (.slice none 0 0) F hF w hDB h3w hS HJ.out hAR X hX (w.heap.size + 1) hc)
  have HFF := Lib.hid (okF_of hS hF)
  have HJA := Lib.hid (fun X (hX : Below w.heap.size w X) => And.intro (HJ.out.below hX) (hA.below hX))
  have HSX := Lib.hid hS
  have HDX := Lib.hid hDB
  have CJ := Lib.hid (fun Y hY => (hAR.job Y hY).1)
  rw [hl2] at CJ
  have CA := Lib.hid (fun Y hY i s hs => hAR.arg Y hY i s hs)
  have hcap := hAR.len
  rw [hl2] at hcap
  have hcap2 := hAR.cap
  have JL := Lib.hid (fun X (hX : Below w.heap.size w X) => JIn 2 j bS now (.slice (some ⟨blk, off, none⟩) 4 cap) (.slice none 0 0) [NM, k, b1, b2] 2 rfl b1 lo hb1 hp1 rfl X (HJ.out.below hX) (hA.below hX))
  have JH := Lib.hid (fun X (hX : Below w.heap.size w X) => JIn 3 j bS now (.slice (some ⟨blk, off, none⟩) 4 cap) (.slice none 0 0) [NM, k, b1, b2] 3 rfl b2 hi hb2 hp2 rfl X (HJ.out.below hX) (hA.below hX))
  have HBL := Lib.hid (show (btZ lo hi F).length ≤ 31 from Nat.le_trans (Nat.le_trans (List.length_filter_le _ _) (by rw [List.length_drop]; omega)) HFF.out.1)
  clear hS hj hA hAR hF hDB hb1 hp1 hb2 hp2
  go_enter Tryz.func63, Tryz.ntmps63
  go_wp2_with (first | (go_at_call 67; (with_reducible refine (HO.out _ A1.out hz).mono ?_); rintro e w1 ⟨h, sp, e3, e4, e5, e6, rfl, hH1, h1⟩; have H1 := Lib.hid hH1; have B1 := Lib.hid (A1.out.trans (h1.mono (Below.size A1.out))); have r1 := Lib.hid (blk_below hr.out h1); clear h1 hH1; refine Hid.out ?_))
  refine Lib.hid ?_
  have ZB := Lib.hid (zbetween_any (w.heap.size + 1) j h sp k e3 e4 e5 e6 F lo hi w1 HFF.out.1 (lt_blk r1.out) H1.out (fun X hX => JL.out X (B1.out.trans (hX.mono (Below.size B1.out)))) (fun X hX => JH.out X (B1.out.trans (hX.mono (Below.size B1.out)))))
  go_wp2_with (first | (go_at_call 66; (with_reducible refine (ZB.out).mono ?_); rintro e w2 ⟨A, m, C, rfl, hm2, hR2, h1⟩; have B2 := Lib.hid (B1.out.trans (h1.mono (Below.size B1.out))); have r2 := Lib.hid (blk_below r1.out h1); have R2 := Lib.hid hR2; have M2 := Lib.hid hm2; clear h1 hR2 hm2; refine Hid.out ?_))
  refine Lib.hid ?_
  have ZN := Lib.hid (zn_any A m C w1.heap.size (btZ lo hi F) M2.out (by have := HBL.out; rw [M2.out] at this; omega) w2 R2.out)
  have HL5 := Lib.hid (show ((btZ lo hi F).map Prod.fst).length ≤ 1000 by rw [List.length_map]; have := HBL.out; omega)
  go_wp2_with (first | (go_at_call 65; (with_reducible refine (ZN.out).mono ?_); rintro e w3 ⟨A3, C3, rfl, hT3, h1⟩; have B3 := Lib.hid (B2.out.trans (h1.mono (Below.size B2.out))); have r3 := Lib.hid (blk_below r2.out h1); have BK := Lib.hid (BULKS _ _ HL5.out w3 hT3.ssl); clear h1 hT3) | (go_at_call 64; (with_reducible refine (BK.out).mono ?_); rintro e w4 ⟨A4, m4, c4, rfl, hR4, h1⟩; have B4 := Lib.hid (B3.out.trans (h1.mono (Below.size B3.out))); have R4 := Lib.hid hR4; obtain ⟨⟨c0, c1, c2, c3⟩, ⟨f0, f1, f2, f3⟩⟩ := cells4 (blk_below r3.out h1); clear h1 hR4))
  have BF : Below w.heap.size w ((((w4.setCell ⟨w.heap.size, 0, none⟩ (.int .i64 6)).setCell ⟨w.heap.size, 1, none⟩ (.int .i64 0)).setCell ⟨w.heap.size, 2, none⟩ (.string ⟨#[]⟩)).setCell ⟨w.heap.size, 3, none⟩ (.slice A4 m4 c4)) := ((((B4.out.setCell (Nat.le_refl _) _).setCell (Nat.le_refl _) _).setCell (Nat.le_refl _) _).setCell (Nat.le_refl _) _)
  have h3 := Below.size B3.out
  have h4 := lt_blk r3.out
  refine bodyPost_ret (v := .agg #[.int .i64 6, .int .i64 0, .string ⟨#[]⟩, .slice A4 m4 c4]) (by simp [results, Tryz.results63, go_sem, c0, c1, c2, c3]) rfl ⟨A4, m4, c4, rfl, row_mono (row_kept R4.out (fun g hg => far4 _ _ _ _ (fun e => ?_))) h3, ⟨_, JD.nil KS _ (HJ.out.below BF)⟩, .of BF⟩
  have h1 := (row_own R4.out g hg).1
  omega
set_option maxRecDepth 100000 in
set_option maxHeartbeats 8000000 in
theorem cZCOUNT (bS bM : Nat) (D : List (ByteArray × List (ByteArray × Int))) (now : Int) (NM k : ByteArray) (b1 b2 : ByteArray) (lo hi : Int) (hb1 : b1.size ≤ 100000) (hp1 : parseI b1.data.toList = some lo) (hb2 : b2.size ≤ 100000) (hp2 : parseI b2.data.toList = some hi)  (F : List (ByteArray × Int)) (hF : (findD k D).getD [] = F)  (w : World) (hDB : DB w) (h3w : 3 < w.heap.size) : CmdD KS okS 68 bS bM D now [NM, k, b1, b2] 3 ((btZ lo hi F).length : Nat) ⟨#[]⟩ R0 [] w := by
  intro j vA hS hj hA
  show Calls Tryz.prog 68 #[.pointer (some ⟨j, 0, none⟩)] w _
  have hjw := lt_blk hj
  obtain ⟨blk, off, cap, rfl, hAR⟩ := AR.of hj hA (by simp)
  have HJ := Lib.hid hj
  have A1 := Lib.hid (alloc_old (w := w) (o := .cells #[.int .i64 0, .int .i64 0, .string ⟨#[]⟩, .slice none 0 0] 29))
  have hr := Lib.hid (heap_alloc_new w (.cells #[.int .i64 0, .int .i64 0, .string ⟨#[]⟩, .slice none 0 0] 29))
  have hl2 : ([NM, k, b1, b2]).length = 4 := rfl
  rw [hl2] at HJ ⊢
  have hz : w.heap.size + 1 ≤ (w.alloc (.cells #[.int .i64 0, .int .i64 0, .string ⟨#[]⟩, .slice none 0 0] 29)).heap.size := by simp
  have HO := Lib.hid (fun X hX hc => zof_at bS bM j D now blk off cap ([NM, k, b1, b2]) 4 hl2 (by omega) k rfl (.slice none 0 0) F hF w hDB h3w hS HJ.out hAR X hX (w.heap.size + 1) hc)
  have HFF := Lib.hid (okF_of hS hF)
  have HJA := Lib.hid (fun X (hX : Below w.heap.size w X) => And.intro (HJ.out.below hX) (hA.below hX))
  have HSX := Lib.hid hS
  have HDX := Lib.hid hDB
  have CJ := Lib.hid (fun Y hY => (hAR.job Y hY).1)
  rw [hl2] at CJ
  have CA := Lib.hid (fun Y hY i s hs => hAR.arg Y hY i s hs)
  have hcap := hAR.len
  rw [hl2] at hcap
  have hcap2 := hAR.cap
  have JL := Lib.hid (fun X (hX : Below w.heap.size w X) => JIn 2 j bS now (.slice (some ⟨blk, off, none⟩) 4 cap) (.slice none 0 0) [NM, k, b1, b2] 2 rfl b1 lo hb1 hp1 rfl X (HJ.out.below hX) (hA.below hX))
  have JH := Lib.hid (fun X (hX : Below w.heap.size w X) => JIn 3 j bS now (.slice (some ⟨blk, off, none⟩) 4 cap) (.slice none 0 0) [NM, k, b1, b2] 3 rfl b2 hi hb2 hp2 rfl X (HJ.out.below hX) (hA.below hX))
  have IN := Lib.hid (fun n X => Int75 n X)
  obtain ⟨M, hM⟩ : ∃ M, (btZ lo hi F).length = M := ⟨_, rfl⟩
  rw [hM]
  have HM := Lib.hid hM
  clear hM hS hj hA hAR hF hDB hb1 hp1 hb2 hp2
  go_enter Tryz.func68, Tryz.ntmps68
  go_wp2_with (first | (go_at_call 67; (with_reducible refine (HO.out _ A1.out hz).mono ?_); rintro e w1 ⟨h, sp, e3, e4, e5, e6, rfl, hH1, h1⟩; have H1 := Lib.hid hH1; have B1 := Lib.hid (A1.out.trans (h1.mono (Below.size A1.out))); have r1 := Lib.hid (blk_below hr.out h1); clear h1 hH1; refine Hid.out ?_))
  refine Lib.hid ?_
  have ZB := Lib.hid (zbetween_any (w.heap.size + 1) j h sp k e3 e4 e5 e6 F lo hi w1 HFF.out.1 (lt_blk r1.out) H1.out (fun X hX => JL.out X (B1.out.trans (hX.mono (Below.size B1.out)))) (fun X hX => JH.out X (B1.out.trans (hX.mono (Below.size B1.out)))))
  go_wp2_with (first | (go_at_call 66; (with_reducible refine (ZB.out).mono ?_); rintro e w2 ⟨A, m, C, rfl, hm2, hR2, h1⟩; have B2 := Lib.hid (B1.out.trans (h1.mono (Below.size B1.out))); have r2 := Lib.hid (blk_below r1.out h1); have R2 := Lib.hid hR2; have M2 := Lib.hid hm2; clear h1 hR2 hm2; refine Hid.out ?_))
  refine Lib.hid ?_
  obtain rfl : m = M := M2.out.symm.trans HM.out
  go_wp2_with (first | (go_at_call 69; (with_reducible refine (IN.out _ _).mono ?_); rintro e w3 ⟨rfl, h1⟩; have B3 := Lib.hid (B2.out.trans (h1.mono (Below.size B2.out))); have r3 := Lib.hid (blk_below r2.out h1); clear h1; obtain ⟨⟨c0, c1, c2, c3⟩, ⟨f0, f1, f2, f3⟩⟩ := cells4 r3.out))
  exact bodyPost_ret (v := .agg #[.int .i64 3, .int .i64 (m : Nat), .string ⟨#[]⟩, .slice none 0 0]) (by simp [results, Tryz.results68, go_sem, c0, c1, c2, c3]) rfl (endD KS HJ.out ((((B3.out.setCell (Nat.le_refl _) _).setCell (Nat.le_refl _) _).setCell (Nat.le_refl _) _).setCell (Nat.le_refl _) _))
end Go.Proofs.YticlacjpgjkhcaaGreatDoor

/- scores: those of some ranks. -/
namespace Go.Proofs.YticlacjpgjkhcaaGreatDoor
open Go.ChangeShapes Go.WideShapes Go.ChangeAt Go.RowKit

/-- Those of some ranks. -/
def spanZ (x y : Int) (F : List (ByteArray × Int)) : List (ByteArray × Int) := if spA x F.length ≤ spC y F.length then (F.drop (spA x F.length).toNat).take ((spC y F.length).toNat + 1 - (spA x F.length).toNat) else []
theorem spanZ_len (x y : Int) (F : List (ByteArray × Int)) : (spanZ x y F).length ≤ F.length := by
  unfold spanZ
  split
  · simp; omega
  · simp
set_option maxRecDepth 100000 in
set_option maxHeartbeats 8000000 in
theorem zspan_any (cz j h sp : Nat) (k : ByteArray) (e3 e4 e5 e6 : Value) (F : List (ByteArray × Int)) (x y : Int) (hx : -1000000000 ≤ x ∧ x ≤ 1000000000) (hy : -1000000000 ≤ y ∧ y ≤ 1000000000) (w : World) (hlen : F.length ≤ 31) (hw : cz ≤ w.heap.size) (s : ZH cz w h sp k e3 e4 e5 e6 F) (h2 : ∀ X, Below w.heap.size w X → Calls Tryz.prog 110 #[.pointer (some ⟨j, 0, none⟩), .int .i64 2] X fun e w' => e = .returned (.int .i64 x) ∧ Below X.heap.size X w') (h3 : ∀ X, Below w.heap.size w X → Calls Tryz.prog 110 #[.pointer (some ⟨j, 0, none⟩), .int .i64 3] X fun e w' => e = .returned (.int .i64 y) ∧ Below X.heap.size X w') : Calls Tryz.prog 75 #[.pointer (some ⟨j, 0, none⟩), .pointer (some ⟨h, 0, none⟩)] w fun e w' => ∃ A m C, e = .returned (.slice A m C) ∧ (spanZ x y F).length = m ∧ RS w' w.heap.size (.slice A m C) (spanZ x y F) ∧ Below w.heap.size w w' := by
  have RL := fun X (hX : Below w.heap.size w X) => LenZ cz sp F X (s.below hX).sk
  have H2 := Lib.hid h2
  have H3 := Lib.hid h3
  have C8 := Lib.hid (show ∀ X, Below w.heap.size w X → X.cell? ⟨h, 8, none⟩ = some (.pointer (some ⟨sp, 0, none⟩)) from fun X hX => (cells9 (s.below hX).blk).1.2.2.2.2.2.2.2.2)
  by_cases hyes : spA x F.length ≤ spC y F.length
  · have ha0 : 0 ≤ spA x F.length := by unfold spA; split <;> omega
    have hc1 : spC y F.length ≤ (F.length : Int) - 1 := by unfold spC; omega
    have SP := fun Y => Span_yes x y F.length hx hy (by omega) hyes Y
    have hst : spanZ x y F = (F.drop (spA x F.length).toNat).take ((spC y F.length).toNat + 1 - (spA x F.length).toNat) := if_pos hyes
    obtain ⟨a, ha⟩ : ∃ a : Nat, spA x F.length = a := ⟨(spA x F.length).toNat, by omega⟩
    obtain ⟨c, hc⟩ : ∃ c : Nat, spC y F.length = c := ⟨(spC y F.length).toNat, by omega⟩
    rw [ha, hc] at hyes
    rw [hc] at hc1
    rw [ha, hc, Int.toNat_natCast, Int.toNat_natCast] at hst
    simp only [ha, hc] at SP
    have RG := fun Y (hY : Below w.heap.size w Y) => Range_any cz sp F a (c + 1 - a) c (by omega) (by omega) (.inl (by omega)) Y (s.below hY).sk (by omega)
    have hw1 : wrap64 (c : Int) = (c : Int) := by unfold wrap64; omega
    have hw2 : wrap64 ((c : Int) + 1 - 1) = (c : Int) := by unfold wrap64; omega
    have hl : ((F.drop a).take (c + 1 - a)).length = c + 1 - a := by simp; omega
    rw [hst]
    obtain ⟨m, hm⟩ : ∃ m, c + 1 - a = m := ⟨_, rfl⟩
    simp only [hm] at RG hl ⊢
    have HX := Lib.hid hl
    obtain ⟨n, hnn⟩ : ∃ n : Nat, F.length = n := ⟨_, rfl⟩
    simp only [hnn] at RL SP
    have RL := Lib.hid RL
    have SP := Lib.hid SP
    have RG := Lib.hid RG
    clear h2 h3 hyes hst hl hnn ha hc hc1 ha0 hx hy hm hlen s
    go_enter Tryz.func75, Tryz.ntmps75
    go_wp2
    have BB := Lib.hid (Below.refl w.heap.size w).drew
    have S0 := C8.out _ BB.out
    go_region_held3 (fun X => X.cell? ⟨h, 8, none⟩ = some (.pointer (some ⟨sp, 0, none⟩))) (first | (with_reducible exact S0) | (with_reducible exact S1.out))
      (first | (go_at_call 110; (first | ((with_reducible refine (H2.out _ BB.out).mono ?_); rintro e w1 ⟨rfl, h1⟩; have BB := Lib.hid (BB.out.trans (h1.mono (Below.size BB.out))); have S1 := Lib.hid (C8.out _ BB.out); clear h1) | ((with_reducible refine (H3.out _ BB.out).mono ?_); rintro e w1 ⟨rfl, h1⟩; have BB := Lib.hid (BB.out.trans (h1.mono (Below.size BB.out))); have S1 := Lib.hid (C8.out _ BB.out); clear h1))) | (go_at_call 123; (with_reducible refine (RL.out _ BB.out).mono ?_); rintro e w9 ⟨rfl, hw9⟩; obtain rfl := hw9.symm; have S1 := Lib.hid (C8.out _ BB.out)) | (go_at_call 125; (with_reducible refine (SP.out _).mono ?_); rintro e w4 ⟨rfl, h1⟩; have BB := Lib.hid (BB.out.trans (h1.mono (Below.size BB.out))); have S1 := Lib.hid (C8.out _ BB.out); clear h1))
    all_goals (
      go_wp2_with (first | (go_at_call 126; (with_reducible refine (RG.out _ BB.out).mono ?_); rintro e w5 ⟨A, C, rfl, hR, h1⟩; have R5 := Lib.hid hR; have B5 := Lib.hid (BB.out.trans (h1.mono (Below.size BB.out))); clear h1 hR))
      go_ret
      exact ⟨A, _, C, rfl, HX.out, row_mono R5.out (Below.size BB.out), B5.out⟩)
  · have SP := fun Y => Span_no x y F.length hx hy (by omega) (by omega) Y
    have hst : spanZ x y F = [] := if_neg hyes
    rw [hst]
    obtain ⟨n, hnn⟩ : ∃ n : Nat, F.length = n := ⟨_, rfl⟩
    simp only [hnn] at RL SP
    have RL := Lib.hid RL
    have SP := Lib.hid SP
    clear h2 h3 hyes hst hnn hx hy hlen s
    go_enter Tryz.func75, Tryz.ntmps75
    go_wp2
    have BB := Lib.hid (Below.refl w.heap.size w).drew
    have S0 := C8.out _ BB.out
    go_region_held3 (fun X => X.cell? ⟨h, 8, none⟩ = some (.pointer (some ⟨sp, 0, none⟩))) (first | (with_reducible exact S0) | (with_reducible exact S1.out))
      (first | (go_at_call 110; (first | ((with_reducible refine (H2.out _ BB.out).mono ?_); rintro e w1 ⟨rfl, h1⟩; have BB := Lib.hid (BB.out.trans (h1.mono (Below.size BB.out))); have S1 := Lib.hid (C8.out _ BB.out); clear h1) | ((with_reducible refine (H3.out _ BB.out).mono ?_); rintro e w1 ⟨rfl, h1⟩; have BB := Lib.hid (BB.out.trans (h1.mono (Below.size BB.out))); have S1 := Lib.hid (C8.out _ BB.out); clear h1))) | (go_at_call 123; (with_reducible refine (RL.out _ BB.out).mono ?_); rintro e w9 ⟨rfl, hw9⟩; obtain rfl := hw9.symm; have S1 := Lib.hid (C8.out _ BB.out)) | (go_at_call 125; (with_reducible refine (SP.out _).mono ?_); rintro e w4 ⟨rfl, h1⟩; have BB := Lib.hid (BB.out.trans (h1.mono (Below.size BB.out))); have S1 := Lib.hid (C8.out _ BB.out); clear h1))
    all_goals (
      go_wp2
      exact bodyPost_ret (v := .slice none 0 0) (by simp [results, Tryz.results75, go_sem]) rfl ⟨none, 0, 0, rfl, rfl, World.ownsRow_nil _ _ _ _, BB.out⟩)
end Go.Proofs.YticlacjpgjkhcaaGreatDoor

/- scores: ZINCRBY. -/
namespace Go.Proofs.YticlacjpgjkhcaaGreatDoor
open Go.ChangeShapes Go.WideShapes Go.ChangeAt Go.RowKit

theorem Tab.turned {w0 w w' : World} {j bS c : Nat} {now : Int} {vA vl : Value} (hT : Tab w0) (hi : Below w0.heap.size w0 w) (hj : JB w j bS now vA vl) (hk : Kp c (fun i => i ≠ j) w w') (hc : w0.heap.size ≤ c) : Tab w' := by
  have h := hT.at_ hi
  have h0 := hT
  unfold Tab Lib.TabIs World.var? at *
  cases hg : Tryz.prog.globalNamed "internal/strconv.uint64pow10" with
  | none => simp [hg] at h
  | some g =>
    simp only [hg, Option.bind_some] at h h0 ⊢
    have hlt : g < w0.heap.size := by
      rcases Nat.lt_or_ge g w0.heap.size with h' | h'
      · exact h'
      · rw [Array.getElem?_eq_none h'] at h0; simp at h0
    have hne : g ≠ j := by
      intro e
      rw [e] at h
      unfold JB at hj
      rw [hj] at h
      simp [Lib.pow10Tab] at h
      have h5 := congrArg List.length h
      simp at h5
    rw [hk.block g (by omega) hne]
    exact h
theorem putZ_ne (k : ByteArray) (s : Int) (Z : List (ByteArray × Int)) : putZ k s Z ≠ [] := by
  unfold putZ insZ
  simp
theorem xoS_put (k : ByteArray) (s : Int) (Z : List (ByteArray × Int)) : xoS (putZ k s Z) = some (putZ k s Z) := if_neg (putZ_ne k s Z)
theorem AddZ (a b : Int) (ha : I64 a) (hb : I64 b) (hr : rng (a + b) = true) (w : World) : Calls Tryz.prog 118 #[.int .i64 a, .int .i64 b] w fun e w' => e = .returned (.tuple #[.int .i64 (a + b), .bool true]) ∧ Below w.heap.size w w' := by
  refine (N13 a b ha.1 ha.2 hb.1 hb.2 w).mono ?_
  rintro e w' ⟨rfl, rfl⟩
  rw [hr]
  exact ⟨rfl, Below.refl _ _⟩
set_option maxRecDepth 100000 in
set_option maxHeartbeats 8000000 in
theorem cZINCRBY (bS bM : Nat) (D : List (ByteArray × List (ByteArray × Int))) (now : Int) (NM k : ByteArray) (nm b : ByteArray) (x y : Int) (hb : b.size ≤ 100000) (hpb : parseI b.data.toList = some x) (hx : I64 x) (hy : I64 y) (hr0 : rng (y + x) = true) (W0 : World) (hT : Tab W0)  (F : List (ByteArray × Int)) (hF : (findD k D).getD [] = F) (hfn : findD nm F = some y) (hok : okS k (putZ nm (y + x) F)) (hlG : (putZ nm (y + x) F).length ≤ 1000) (w : World) (hDB : DB w) (h3w : 3 < w.heap.size) (hI : Below W0.heap.size W0 w) : CmdD KS okS 53 bS bM D now [NM, k, b, nm] 4 0 (numT (y + x)) R0 (dEff k (some (putZ nm (y + x) F)) D) w := by
  intro j vA hS hj hA
  show Calls Tryz.prog 53 #[.pointer (some ⟨j, 0, none⟩)] w _
  have hjw := lt_blk hj
  obtain ⟨blk, off, cap, rfl, hAR⟩ := AR.of hj hA (by simp)
  have HJ := Lib.hid hj
  have A1 := Lib.hid (alloc_old (w := w) (o := .cells #[.int .i64 0, .int .i64 0, .string ⟨#[]⟩, .slice none 0 0] 29))
  have hr := Lib.hid (heap_alloc_new w (.cells #[.int .i64 0, .int .i64 0, .string ⟨#[]⟩, .slice none 0 0] 29))
  have hl2 : ([NM, k, b, nm]).length = 4 := rfl
  rw [hl2] at HJ ⊢
  have hz : w.heap.size + 1 ≤ (w.alloc (.cells #[.int .i64 0, .int .i64 0, .string ⟨#[]⟩, .slice none 0 0] 29)).heap.size := by simp
  have HO := Lib.hid (fun X hX hc => zof_at bS bM j D now blk off cap ([NM, k, b, nm]) 4 hl2 (by omega) k rfl (.slice none 0 0) F hF w hDB h3w hS HJ.out hAR X hX (w.heap.size + 1) hc)
  have HFF := Lib.hid (okF_of hS hF)
  have HJA := Lib.hid (fun X (hX : Below w.heap.size w X) => And.intro (HJ.out.below hX) (hA.below hX))
  have HSX := Lib.hid hS
  have HDX := Lib.hid hDB
  have CJ := Lib.hid (fun Y hY => (hAR.job Y hY).1)
  rw [hl2] at CJ
  have CA := Lib.hid (fun Y hY i s hs => hAR.arg Y hY i s hs)
  have hcap := hAR.len
  rw [hl2] at hcap
  have hcap2 := hAR.cap
  have JI := Lib.hid (fun Y (hY : Below w.heap.size w Y) => JIn 2 j bS now (.slice (some ⟨blk, off, none⟩) 4 cap) (.slice none 0 0) [NM, k, b, nm] 2 rfl b x hb hpb rfl Y (HJ.out.below hY) (hA.below hY))
  obtain ⟨h31, hOrd, hNd⟩ := HFF.out
  have RK := fun c sp X (hX : SK X c sp F) => ScoreZ c sp F nm X hX
  have hi5 : I64 (y + x) := rng_of hr0
  have AD := Lib.hid (fun X => AddZ y x hy hx hr0 X)
  have TP := fun X (hX : Kp w.heap.size (fun i => i ≠ j) w X) => Tab.turned hT hI HJ.out hX (Below.size hI)
  have PR := Lib.hid (fun X (hX : Kp w.heap.size (fun i => i ≠ j) w X) => Print79 (TP X hX) (y + x) hi5 X (Below.refl _ _))
  have XO := xoS_put nm (y + x) F
  have PU := fun sp X (hc : w.heap.size + 1 ≤ X.heap.size) (hX : Below w.heap.size w X) (hZ : SK X (w.heap.size + 1) sp F) => Put_any (w.heap.size + 1) sp F nm (y + x) X hc (by omega) (hDB.at_ hX) (by omega) hZ
  obtain ⟨M, hM⟩ : ∃ M, y + x = M := ⟨_, rfl⟩
  obtain ⟨NT, hNT⟩ : ∃ NT, numT M = NT := ⟨_, rfl⟩
  obtain ⟨G, hG⟩ : ∃ G, putZ nm M F = G := ⟨_, rfl⟩
  simp only [hfn, Option.getD_some, Option.isSome_some, hM, hNT, hG] at RK AD PR XO PU hok hlG ⊢
  have RK := Lib.hid RK
  have PU := Lib.hid PU
  have OK := Lib.hid hok
  have HLG := Lib.hid hlG
  have BK := Lib.hid (fun X => Bulk67 NT X)
  have SX := Lib.hid (show ∀ X, Below w.heap.size w X → (X.cell? ⟨j, 2, none⟩ = some (.slice (some ⟨blk, off, none⟩) 4 cap) ∧ X.cell? ⟨blk, off + 3, none⟩ = some (.string nm)) from fun Y hY => ⟨CJ.out Y hY, CA.out Y hY 3 nm rfl⟩)
  have HS := Lib.hid hS
  clear hS hj hA hAR hF hfn hT hI hNT hDB hM hG TP hok hlG hb hpb hx hy hr0 hi5
  go_enter Tryz.func53, Tryz.ntmps53
  go_wp2_with (first | (go_at_call 67; (with_reducible refine (HO.out _ A1.out hz).mono ?_); rintro e w1 ⟨h, sp, e3, e4, e5, e6, rfl, hH1, h1⟩; have H1 := Lib.hid hH1; have B1 := Lib.hid (A1.out.trans (h1.mono (Below.size A1.out))); have r1 := Lib.hid (blk_below hr.out h1); clear h1 hH1; refine Hid.out ?_))
  refine Lib.hid ?_
  have J1 := Lib.hid (JI.out _ B1.out)
  go_wp2_with (first | (go_at_call 110; (with_reducible refine (J1.out).mono ?_); rintro e w2 ⟨rfl, h1⟩; have B2 := Lib.hid (B1.out.trans (h1.mono (Below.size B1.out))); have r2 := Lib.hid (blk_below r1.out h1); have H2 := Lib.hid (H1.out.below h1); clear h1; refine Hid.out ?_))
  refine Lib.hid ?_
  have K2 := Lib.hid (RK.out _ sp w2.drew (H2.out.below (Below.refl _ _).drew).sk)
  have SY := Lib.hid (show ∀ X, Below w2.heap.size w2 X → (X.cell? ⟨j, 2, none⟩ = some (.slice (some ⟨blk, off, none⟩) 4 cap) ∧ X.cell? ⟨blk, off + 3, none⟩ = some (.string nm) ∧ X.cell? ⟨h, 8, none⟩ = some (.pointer (some ⟨sp, 0, none⟩))) from fun Y hY => ⟨(SX.out Y (B2.out.trans (hY.mono (Below.size B2.out)))).1, (SX.out Y (B2.out.trans (hY.mono (Below.size B2.out)))).2, by obtain ⟨⟨_, _, _, _, _, _, _, _, c8⟩, _⟩ := cells9 (H2.out.below hY).blk; exact c8⟩)
  have S0 := SY.out _ (Below.refl w2.heap.size w2).drew
  go_wp2
  go_region_held3 (fun X => X.cell? ⟨j, 2, none⟩ = some (.slice (some ⟨blk, off, none⟩) 4 cap) ∧ X.cell? ⟨blk, off + 3, none⟩ = some (.string nm) ∧ X.cell? ⟨h, 8, none⟩ = some (.pointer (some ⟨sp, 0, none⟩))) (first | (with_reducible exact S0))
    (first | (go_at_call 117; (with_reducible refine (K2.out).mono ?_); rintro e w9 ⟨rfl, hw9⟩; obtain rfl := hw9.symm))
  clear S0 SY
  have B3 := Lib.hid B2.out.drew
  have r3 := Lib.hid (show w2.drew.heap[w.heap.size]? = _ from r2.out)
  have H3 := Lib.hid (H2.out.below (Below.refl _ _).drew)
  go_wp2_with (first | (go_at_call 118; (with_reducible refine (AD.out _).mono ?_); rintro e w4 ⟨rfl, h1⟩; have B4 := Lib.hid (B3.out.trans (h1.mono (Below.size B3.out))); have r4 := Lib.hid (blk_below r3.out h1); have H4 := Lib.hid (H3.out.below h1); clear h1; refine Hid.out ?_))
  refine Lib.hid ?_
  have hc4 := Lib.hid (show w.heap.size + 1 ≤ w4.heap.size from lt_blk r4.out)
  have P4 := Lib.hid (PU.out sp w4.drew hc4.out B4.out.drew (H4.out.below (Below.refl _ _).drew).sk)
  have SY := Lib.hid (show ∀ X, Below (w.heap.size + 1) w4 X → X.heap[h]? = w4.heap[h]? → (X.cell? ⟨j, 2, none⟩ = some (.slice (some ⟨blk, off, none⟩) 4 cap) ∧ X.cell? ⟨blk, off + 3, none⟩ = some (.string nm) ∧ X.cell? ⟨h, 8, none⟩ = some (.pointer (some ⟨sp, 0, none⟩))) from fun Y hY hh => ⟨(SX.out Y (B4.out.trans (hY.mono (Nat.le_succ _)))).1, (SX.out Y (B4.out.trans (hY.mono (Nat.le_succ _)))).2, by obtain ⟨⟨_, _, _, _, _, _, _, _, c8⟩, _⟩ := cells9 (hh.trans H4.out.blk); exact c8⟩)
  have S0 := SY.out _ (Below.refl _ w4).drew rfl
  go_wp2
  go_region_held3 (fun X => X.cell? ⟨j, 2, none⟩ = some (.slice (some ⟨blk, off, none⟩) 4 cap) ∧ X.cell? ⟨blk, off + 3, none⟩ = some (.string nm) ∧ X.cell? ⟨h, 8, none⟩ = some (.pointer (some ⟨sp, 0, none⟩))) (first | (with_reducible exact S0) | (with_reducible exact S1.out))
    (first | (go_at_call 115; (with_reducible refine (P4.out).mono ?_); rintro e w5 ⟨rfl, h5, h6, h7⟩; have F5 := (H4.out.below (Below.refl _ _).drew).set h6 h5; have S1 := Lib.hid (SY.out w5 ((Below.refl _ w4).drew.trans h7) (F5.blk.trans H4.out.blk.symm)); have H5 := Lib.hid F5; have B5 := Lib.hid (B4.out.drew.trans (h7.mono (Nat.le_succ _))); have r5 := Lib.hid ((h7.block w.heap.size (Nat.lt_succ_self _)).trans (show w4.drew.heap[w.heap.size]? = _ from r4.out)); have hc5 := Lib.hid (Nat.le_trans hc4.out (show w4.heap.size ≤ w5.heap.size from by have := Below.size h7; exact this)); clear h5 h6 h7 F5))
  clear S0 S1 SY
  have TU := zturn_any bS bM j D k now (.slice (some ⟨blk, off, none⟩) 4 cap) w.heap.size (w.heap.size + 1) h sp e3 e4 e5 e6 G HLG.out (fun _ => OK.out) (Nat.le_succ _) w5 hc5.out (fun X hX => SPG.below KS okS HS.out (B5.out.trans (hX.mono (Nat.le_succ _)))) (fun X hX => HJ.out.below (B5.out.trans (hX.mono (Nat.le_succ _)))) H5.out
  rw [XO] at TU
  have TU := Lib.hid TU
  go_wp2_with (first | (go_at_call 116; (with_reducible refine (TU.out).mono ?_); rintro e w6 ⟨rfl, ⟨vl5, hJ5⟩, hK5, _⟩; have J5 := Lib.hid hJ5; have K5 := Lib.hid ((Kp.of B5.out).trans (hK5.mono (Nat.le_succ _) (fun _ h => h))); have r6 := Lib.hid ((hK5.block w.heap.size (Nat.lt_succ_self _) (by omega)).trans r5.out); clear hJ5 hK5) | (go_at_call 120; (with_reducible refine (PR.out _ K5.out).mono ?_); rintro e w7 ⟨rfl, h1⟩; have B7 := Lib.hid h1; have r7 := Lib.hid (blk_below r6.out h1); clear h1) | (go_at_call 119; (with_reducible refine (BK.out _).mono ?_); rintro e w8 ⟨rfl, h1⟩; have B8 := Lib.hid (B7.out.trans (h1.mono (Below.size B7.out))); have r8 := Lib.hid (blk_below r7.out h1); clear h1; obtain ⟨⟨c0, c1, c2, c3⟩, ⟨f0, f1, f2, f3⟩⟩ := cells4 r8.out))
  exact bodyPost_ret (v := .agg #[.int .i64 4, .int .i64 0, .string NT, .slice none 0 0]) (by simp [results, Tryz.results53, go_sem, c0, c1, c2, c3]) rfl (endT KS hjw (JD.below KS J5.out B8.out) r8.out (K5.out.below_after B8.out K5.out.size) _ _ _ _)
end Go.Proofs.YticlacjpgjkhcaaGreatDoor
