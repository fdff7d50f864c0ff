/- Texts joined: Z8, Zf -/
import Derived.Test.YticlacjpgjkhcaaGreatDoorQs30
set_option linter.unusedVariables false
set_option linter.unusedSimpArgs false

/- scores: ZPOPMIN. -/
namespace Go.Proofs.YticlacjpgjkhcaaGreatDoor
open Go.ChangeShapes Go.WideShapes Go.ChangeAt Go.RowKit

theorem SSl.twoZ {w : World} {g : Nat} {a b : ByteArray} (h : w.heap[g]? = some (.cells #[.string a, .string b] 9)) : SSl w (.slice (some ⟨g, 0, none⟩) 2 2) [a, b] := by
  refine ⟨_, 2, rfl, Nat.le_refl _, by unfold maxLen; omega, fun _ => ⟨g, 0, rfl, lt_blk h, fun i s hs => ?_⟩⟩
  rw [cell_of_row _ g _ _ 9 (0, 0) h]
  match i, hs with
  | 0, hs => cases hs; rfl
  | 1, hs => cases hs; rfl
/-- What a command leaves that laid effects and answers with a row. -/
theorem endRow {α : Type} (K : Kd α) {rs : List (Option ByteArray)} {A : Option Addr} {m C : Nat} {w w3 : World} {j bS d : Nat} {now : Int} {vA vl : Value} {des : List (ByteArray × Option α)} {cs : Array Value} (hjw : j < w.heap.size) (hR : RO rs d w3 (.slice A m C)) (hd : w.heap.size < d) (hJ : JD K w3 j bS now vA w.heap.size vl des) (hr : w3.heap[w.heap.size]? = some (.cells cs 29)) (hK : Kp w.heap.size (fun i => i ≠ j) w w3) (v0 v1 v2 v3 : Value) :
    RO rs w.heap.size ((((w3.setCell ⟨w.heap.size, 0, none⟩ v0).setCell ⟨w.heap.size, 1, none⟩ v1).setCell ⟨w.heap.size, 2, none⟩ v2).setCell ⟨w.heap.size, 3, none⟩ v3) (.slice A m C) ∧ (∃ vl, JD K ((((w3.setCell ⟨w.heap.size, 0, none⟩ v0).setCell ⟨w.heap.size, 1, none⟩ v1).setCell ⟨w.heap.size, 2, none⟩ v2).setCell ⟨w.heap.size, 3, none⟩ v3) j bS now vA w.heap.size vl des) ∧ Kp w.heap.size (fun i => i ≠ j) w ((((w3.setCell ⟨w.heap.size, 0, none⟩ v0).setCell ⟨w.heap.size, 1, none⟩ v1).setCell ⟨w.heap.size, 2, none⟩ v2).setCell ⟨w.heap.size, 3, none⟩ v3) := by
  obtain ⟨_, _, _, _, _, h1, h2⟩ := endT K (k := 0) (n := 0) (s := ⟨#[]⟩) hjw hJ hr hK v0 v1 v2 v3
  refine ⟨row_mono (row_kept hR (fun g hg => far4 _ _ _ _ (fun e => ?_))) (Nat.le_of_lt hd), h1, h2⟩
  have h3 := (row_own hR g hg).1
  omega
set_option maxRecDepth 100000 in
set_option maxHeartbeats 8000000 in
theorem zpop_any (bS bM j : Nat) (D : List (ByteArray × List (ByteArray × Int))) (now : Int) (vA : Value) (NM k : ByteArray) (p : ByteArray × Int) (T F : List (ByteArray × Int)) (hFp : F = p :: T) (hs : I64 p.2) (hok : delD p.1 F ≠ [] → okS k (delD p.1 F)) (hlG : (delD p.1 F).length ≤ 1000) (W0 : World) (hT : Tab W0) (hF : (findD k D).getD [] = F) (w : World) (hDB : DB w) (h3w : 3 < w.heap.size) (hI : Below W0.heap.size W0 w) (hS : SPG KS okS w bS bM D) (hj : JB w j bS now vA (.slice none 0 0)) (hA : SSl w vA [NM, k]) : Calls Tryz.prog 71 #[.pointer (some ⟨j, 0, none⟩), .int .i64 0] w fun e w' => ∃ A m C, e = .returned (.agg #[.int .i64 6, .int .i64 0, .string ⟨#[]⟩, .slice A m C]) ∧ RO [some p.1, some (numT p.2)] w.heap.size w' (.slice A m C) ∧ (∃ vl', JD KS w' j bS now vA w.heap.size vl' (dEff k (xoS (delD p.1 F)) D)) ∧ Kp w.heap.size (fun i => i ≠ j) w w' := by
  have hjw := lt_blk hj
  obtain ⟨blk, off, cap, rfl, hAR⟩ := AR.of hj hA (by simp)
  have HJ := Lib.hid hj
  have A1 := Lib.hid (alloc_old (w := w) (o := .cells #[.int .i64 0, .int .i64 0, .string ⟨#[]⟩, .slice none 0 0] 29))
  have hr := Lib.hid (heap_alloc_new w (.cells #[.int .i64 0, .int .i64 0, .string ⟨#[]⟩, .slice none 0 0] 29))
  have hl2 : ([NM, k]).length = 2 := rfl
  rw [hl2] at HJ
  have hz : w.heap.size + 1 ≤ (w.alloc (.cells #[.int .i64 0, .int .i64 0, .string ⟨#[]⟩, .slice none 0 0] 29)).heap.size := by simp
  have HO := Lib.hid (fun X hX hc => zof_at bS bM j D now blk off cap ([NM, k]) 2 hl2 (by omega) k rfl (.slice none 0 0) F hF w hDB h3w hS HJ.out hAR X hX (w.heap.size + 1) hc)
  have HFF := Lib.hid (okF_of hS hF)
  have HJA := Lib.hid (fun X (hX : Below w.heap.size w X) => And.intro (HJ.out.below hX) (hA.below hX))
  have HSX := Lib.hid hS
  have HDX := Lib.hid hDB
  have CJ := Lib.hid (fun Y hY => (hAR.job Y hY).1)
  rw [hl2] at CJ
  have CA := Lib.hid (fun Y hY i s hs => hAR.arg Y hY i s hs)
  have hcap := hAR.len
  rw [hl2] at hcap
  have hcap2 := hAR.cap
  have hp0 : F[0]? = some p := by rw [hFp]; rfl
  have hfn : findD p.1 F = some p.2 := by rw [hFp]; simp [findD]
  have AT := Lib.hid (show ∀ sp X, SK X (w.heap.size + 1) sp F → Calls Tryz.prog 129 #[.pointer (some ⟨sp, 0, none⟩), .int .i64 0] X (fun e w' => e = .returned (.tuple #[.agg #[.string p.1, .int .i64 p.2], .bool true]) ∧ Below X.heap.size X w') from fun sp X hX => At_any (w.heap.size + 1) sp F 0 p hp0 X hX (by have := HFF.out.1; omega))
  have DL := fun sp X (hc : w.heap.size + 1 ≤ X.heap.size) (hX : SK X (w.heap.size + 1) sp F) => Del_any (w.heap.size + 1) sp F p.1 p.2 hfn X hc (by have := HFF.out.1; omega) hX
  have TP := fun X (hX : Kp w.heap.size (fun i => i ≠ j) w X) => Tab.turned hT hI HJ.out hX (Below.size hI)
  have PR := Lib.hid (fun X (hX : Kp w.heap.size (fun i => i ≠ j) w X) => Print79 (TP X hX) p.2 hs X (Below.refl _ _))
  obtain ⟨NT, hNT⟩ : ∃ NT, numT p.2 = NT := ⟨_, rfl⟩
  obtain ⟨G, hG⟩ : ∃ G, delD p.1 F = G := ⟨_, rfl⟩
  simp only [hNT, hG] at PR DL hok hlG ⊢
  have DL := Lib.hid DL
  have OK := Lib.hid hok
  have HLG := Lib.hid hlG
  have HS := Lib.hid hS
  clear hS hj hA hAR hF hfn hT hI hNT hDB hG TP hok hlG hs hp0 hFp
  go_enter Tryz.func71, Tryz.ntmps71
  go_wp2_with (first | (go_at_call 67; (with_reducible refine (HO.out _ A1.out hz).mono ?_); rintro e w1 ⟨h, sp, e3, e4, e5, e6, rfl, hH1, h1⟩; have H1 := Lib.hid hH1; have B1 := Lib.hid (A1.out.trans (h1.mono (Below.size A1.out))); have r1 := Lib.hid (blk_below hr.out h1); clear h1 hH1; refine Hid.out ?_))
  refine Lib.hid ?_
  have A2 := Lib.hid (AT.out sp w1 H1.out.sk)
  obtain ⟨⟨_, _, _, _, _, _, _, _, c8⟩, _⟩ := cells9 H1.out.blk
  go_wp2_with (first | (go_at_call 129; (with_reducible refine (A2.out).mono ?_); rintro e w2 ⟨rfl, h1⟩; have B2 := Lib.hid (B1.out.trans (h1.mono (Below.size B1.out))); have r2 := Lib.hid (blk_below r1.out h1); have H2 := Lib.hid (H1.out.below h1); clear h1; refine Hid.out ?_))
  refine Lib.hid ?_
  clear c8
  go_wp2_with fail
  generalize hW3 : w2.alloc (.cells #[.string p.1, .int .i64 p.2] 52) = W3
  have b3 : Below w2.heap.size w2 W3 := by rw [← hW3]; exact alloc_old
  have q3 : W3.heap[w2.heap.size]? = some (.cells #[.string p.1, .int .i64 p.2] 52) := by rw [← hW3]; exact heap_alloc_new w2 _
  have B3 := Lib.hid (B2.out.trans (b3.mono (Below.size B2.out)))
  have r3 := Lib.hid (blk_below r2.out b3)
  have H3 := Lib.hid (H2.out.below b3)
  have Q3 := Lib.hid q3
  have hc3 := Lib.hid (show w.heap.size + 1 ≤ W3.heap.size from lt_blk r3.out)
  have z3 := Lib.hid (lt_blk q3)
  have D3 := Lib.hid (DL.out sp W3.drew hc3.out (H3.out.below (Below.refl _ _).drew).sk)
  have hjh : h ≠ w2.heap.size := fun e => by
    have h1 := H3.out.blk
    rw [e, q3] at h1
    simp at h1
  have HJH := Lib.hid hjh
  have hjq : j ≠ w2.heap.size := by have := Below.size B2.out; omega
  have HJQ := Lib.hid hjq
  obtain ⟨d0, d1⟩ := cells2 q3
  have SY := Lib.hid (show ∀ X : World, X.heap[h]? = W3.heap[h]? → X.heap[w2.heap.size]? = W3.heap[w2.heap.size]? → (X.cell? ⟨h, 8, none⟩ = some (.pointer (some ⟨sp, 0, none⟩)) ∧ X.cell? ⟨w2.heap.size, 0, none⟩ = some (.string p.1)) from fun Y hh hq => ⟨(cells9 (hh.trans H3.out.blk)).1.2.2.2.2.2.2.2.2, (cells2 (hq.trans Q3.out)).1⟩)
  have S0 := SY.out W3.drew rfl rfl
  clear b3 q3 hW3 hjh hjq
  go_region_held3 (fun X => X.cell? ⟨h, 8, none⟩ = some (.pointer (some ⟨sp, 0, none⟩)) ∧ X.cell? ⟨w2.heap.size, 0, none⟩ = some (.string p.1)) (first | (with_reducible exact S0) | (with_reducible exact S1.out))
    (first | (go_at_call 121; (with_reducible refine (D3.out).mono ?_); rintro e w5 ⟨rfl, h5, h6, h7⟩; have F5 := (H3.out.below (Below.refl _ _).drew).set h6 h5; have E5 := h6 w2.heap.size _ _ (show W3.drew.heap[w2.heap.size]? = _ from Q3.out) (by decide) (by decide) (by decide); have S1 := Lib.hid (SY.out w5 (F5.blk.trans H3.out.blk.symm) (E5.trans Q3.out.symm)); have H5 := Lib.hid F5; have Q5 := Lib.hid E5; have B5 := Lib.hid (B3.out.drew.trans (h7.mono (Nat.le_succ _))); have r5 := Lib.hid ((h7.block w.heap.size (Nat.lt_succ_self _)).trans (show W3.drew.heap[w.heap.size]? = _ from r3.out)); have hc5 := Lib.hid (Nat.le_trans hc3.out (show W3.heap.size ≤ w5.heap.size from by have := Below.size h7; exact this)); clear h5 h6 h7 F5 E5))
  clear S0 S1 SY d0 d1
  have TU := Lib.hid (zturn_any bS bM j D k now (.slice (some ⟨blk, off, none⟩) 2 cap) w.heap.size (w.heap.size + 1) h sp e3 e4 e5 e6 G HLG.out OK.out (Nat.le_succ _) w5 hc5.out (fun X hX => SPG.below KS okS HS.out (B5.out.trans (hX.mono (Nat.le_succ _)))) (fun X hX => HJ.out.below (B5.out.trans (hX.mono (Nat.le_succ _)))) H5.out)
  go_wp2_with (first | (go_at_call 116; (with_reducible refine (TU.out).mono ?_); rintro e w6 ⟨rfl, ⟨vl5, hJ5⟩, hK5, hX5⟩; have J5 := Lib.hid hJ5; have K5 := Lib.hid ((Kp.of B5.out).trans (hK5.mono (Nat.le_succ _) (fun _ h => h))); have r6 := Lib.hid ((hK5.block w.heap.size (Nat.lt_succ_self _) (by omega)).trans r5.out); have Q6 := Lib.hid ((hX5 w2.heap.size (lt_blk Q5.out) (fun e => HJQ.out e.symm) (fun e => HJH.out e.symm)).trans Q5.out); clear hJ5 hK5 hX5; refine Hid.out ?_))
  refine Lib.hid ?_
  have P6 := Lib.hid (PR.out w6.drew K5.out.drew)
  have SY := Lib.hid (show ∀ X : World, X.heap[w2.heap.size]? = w6.heap[w2.heap.size]? → (X.cell? ⟨w2.heap.size, 0, none⟩ = some (.string p.1) ∧ X.cell? ⟨w2.heap.size, 1, none⟩ = some (.int .i64 p.2)) from fun Y hq => cells2 (hq.trans Q6.out))
  have S0 := SY.out w6.drew rfl
  have zq := Lib.hid (lt_blk Q6.out)
  have rq := Lib.hid (show w2.heap.size ≠ w.heap.size from by have := Below.size B2.out; have := lt_blk r2.out; omega)
  go_wp2
  go_region_held3 (fun X => X.cell? ⟨w2.heap.size, 0, none⟩ = some (.string p.1) ∧ X.cell? ⟨w2.heap.size, 1, none⟩ = some (.int .i64 p.2)) (first | (with_reducible exact S0) | (with_reducible exact S1.out) | (with_reducible exact S2.out) | (with_reducible exact S3.out) | (with_reducible exact S4.out))
    (first | (go_at_call 120; (with_reducible refine (P6.out).mono ?_); rintro e w7 ⟨rfl, h1⟩; have D7 := Lib.hid (show Below w6.heap.size w6 w7 from (Below.refl w6.heap.size w6).drew.trans h1); have S1 := Lib.hid (SY.out w7 (D7.out.block _ zq.out)); have A8 := Lib.hid (alloc_old (w := w7) (o := .cells #[.string p.1, .string NT] 9)); have D8 := Lib.hid (D7.out.trans (A8.out.mono (Below.size D7.out))); have S2 := Lib.hid (SY.out _ (D8.out.block _ zq.out)); have BK := Lib.hid (BULKS _ _ (by simp) _ (SSl.twoZ (heap_alloc_new w7 (.cells #[.string p.1, .string NT] 9)))); clear h1) | (go_at_call 64; (with_reducible refine (BK.out).mono ?_); rintro e w9 ⟨A4, m4, c4, rfl, hR4, h1⟩; have D9 := Lib.hid (D8.out.trans (h1.mono (Below.size D8.out))); have S3 := Lib.hid (SY.out w9 (D9.out.block _ zq.out)); have R4 := Lib.hid hR4; have r9 := Lib.hid (blk_below r6.out D9.out); have S4 := Lib.hid (SY.out ((((w9.setCell ⟨w.heap.size, 0, none⟩ (.int .i64 6)).setCell ⟨w.heap.size, 1, none⟩ (.int .i64 0)).setCell ⟨w.heap.size, 2, none⟩ (.string ⟨#[]⟩)).setCell ⟨w.heap.size, 3, none⟩ (.slice A4 m4 c4)) ((far4 _ _ _ _ rq.out).trans (D9.out.block _ zq.out))); obtain ⟨⟨c0, c1, c2, c3⟩, ⟨f0, f1, f2, f3⟩⟩ := cells4 r9.out; clear h1 hR4))
  clear S0 S1 S2 S3 S4 SY
  go_wp2
  obtain ⟨g1, g2, g3⟩ := endRow KS hjw R4.out (by have := lt_blk r6.out; have := Below.size D8.out; omega) (JD.below KS J5.out D9.out) r9.out (K5.out.below_after D9.out K5.out.size) (.int .i64 6) (.int .i64 0) (.string ⟨#[]⟩) (.slice A4 m4 c4)
  exact bodyPost_ret (v := .agg #[.int .i64 6, .int .i64 0, .string ⟨#[]⟩, .slice A4 m4 c4]) (by simp [results, Tryz.results71, go_sem, c0, c1, c2, c3]) rfl ⟨A4, m4, c4, rfl, g1, g2, g3⟩
set_option maxRecDepth 100000 in
set_option maxHeartbeats 8000000 in
theorem cZPOPMIN (bS bM : Nat) (D : List (ByteArray × List (ByteArray × Int))) (now : Int) (NM k : ByteArray) (p : ByteArray × Int) (T F : List (ByteArray × Int)) (hFp : F = p :: T) (hs : I64 p.2) (hok : delD p.1 F ≠ [] → okS k (delD p.1 F)) (hlG : (delD p.1 F).length ≤ 1000) (W0 : World) (hT : Tab W0) (hF : (findD k D).getD [] = F) (w : World) (hDB : DB w) (h3w : 3 < w.heap.size) (hI : Below W0.heap.size W0 w) : CmdD KS okS 70 bS bM D now [NM, k] 6 0 ⟨#[]⟩ (RO [some p.1, some (numT p.2)]) (dEff k (xoS (delD p.1 F)) D) w := by
  intro j vA hS hj hA
  show Calls Tryz.prog 70 #[.pointer (some ⟨j, 0, none⟩)] w _
  have hjw := lt_blk hj
  have A1 := Lib.hid (alloc_old (w := w) (o := .cells #[.int .i64 0, .int .i64 0, .string ⟨#[]⟩, .slice none 0 0] 29))
  have hr := Lib.hid (heap_alloc_new w (.cells #[.int .i64 0, .int .i64 0, .string ⟨#[]⟩, .slice none 0 0] 29))
  have ZP := Lib.hid (fun X (hX : Below w.heap.size w X) => zpop_any bS bM j D now vA NM k p T F hFp hs hok hlG W0 hT hF X (hDB.at_ hX) (Nat.lt_of_lt_of_le h3w (Below.size hX)) (hI.trans (hX.mono (Below.size hI))) (SPG.below KS okS hS hX) (hj.below hX) (hA.below hX))
  have hz : (w.alloc (.cells #[.int .i64 0, .int .i64 0, .string ⟨#[]⟩, .slice none 0 0] 29)).heap.size = w.heap.size + 1 := by simp
  have HZ := Lib.hid hz
  clear hS hj hA hF hDB hFp hs hok hlG hT hI hz
  go_enter Tryz.func70, Tryz.ntmps70
  go_wp2_with (first | (go_at_call 71; (with_reducible refine (ZP.out _ A1.out).mono ?_); rintro e w1 ⟨A, m, C, rfl, hR, ⟨vl, hJ⟩, hK⟩; have R1 := Lib.hid hR; have J1 := Lib.hid hJ; have K1 := Lib.hid hK; have r1 := Lib.hid ((hK.block w.heap.size (lt_blk hr.out) (by omega)).trans hr.out); clear hR hJ hK; obtain ⟨⟨c0, c1, c2, c3⟩, ⟨f0, f1, f2, f3⟩⟩ := cells4 r1.out))
  have hzz := HZ.out
  obtain ⟨g1, g2, g3⟩ := endRow KS hjw R1.out (by omega) (JD.mono KS J1.out (by omega)) r1.out ((Kp.of A1.out).trans (K1.out.mono (by omega) (fun _ h => h))) (.int .i64 6) (.int .i64 0) (.string ⟨#[]⟩) (.slice A m C)
  exact bodyPost_ret (v := .agg #[.int .i64 6, .int .i64 0, .string ⟨#[]⟩, .slice A m C]) (by simp [results, Tryz.results70, go_sem, c0, c1, c2, c3]) rfl ⟨A, m, C, rfl, g1, g2, g3⟩
end Go.Proofs.YticlacjpgjkhcaaGreatDoor

/- scores: ZRANGE. -/
namespace Go.Proofs.YticlacjpgjkhcaaGreatDoor
open Go.ChangeShapes Go.WideShapes Go.ChangeAt Go.RowKit

theorem wzc (c : Nat) (h : c ≤ 1000) : wrap64 (c : Int) = (c : Int) := by unfold wrap64; omega
theorem wzd (c : Nat) (h : c ≤ 1000) : wrap64 ((c : Int) + 1 - 1) = (c : Int) := by unfold wrap64; omega
theorem tdl {F : List (ByteArray × Int)} {a c : Nat} (h : (a : Int) ≤ (c : Int)) (h1 : (c : Int) ≤ (F.length : Int) - 1) : ((F.drop a).take (c + 1 - a)).length = c + 1 - a := by
  simp
  omega
theorem SSl.nilZ (X : World) : SSl X (.slice none 0 0) [] := ⟨none, 0, rfl, Nat.le_refl _, Nat.zero_le _, fun h => absurd rfl h⟩
theorem spA0' {x : Int} {n : Nat} (_ : -1000000000 ≤ x) : 0 ≤ spA x n := by unfold spA; split <;> omega
theorem spC1 (y : Int) (n : Nat) : spC y n ≤ (n : Int) - 1 := by unfold spC; omega
set_option maxRecDepth 100000 in
set_option maxHeartbeats 8000000 in
theorem zranksF (bS bM j : Nat) (D : List (ByteArray × List (ByteArray × Int))) (now : Int) (vA : Value) (NM k : ByteArray) (b1 b2 : ByteArray) (lo hi : Int) (hb1 : b1.size ≤ 100000) (hp1 : parseI b1.data.toList = some lo) (hb2 : b2.size ≤ 100000) (hp2 : parseI b2.data.toList = some hi) (hx : -1000000000 ≤ lo ∧ lo ≤ 1000000000) (hy : -1000000000 ≤ hi ∧ hi ≤ 1000000000) (F : List (ByteArray × Int)) (hF : (findD k D).getD [] = F) (w : World) (hDB : DB w) (h3w : 3 < w.heap.size) (hS : SPG KS okS w bS bM D) (hj : JB w j bS now vA (.slice none 0 0)) (hA : SSl w vA [NM, k, b1, b2]) : Calls Tryz.prog 61 #[.pointer (some ⟨j, 0, none⟩), .bool false] w fun e w' => ∃ A m C, e = .returned (.agg #[.int .i64 6, .int .i64 0, .string ⟨#[]⟩, .slice A m C]) ∧ RO (((spanZ lo hi F).map Prod.fst).map some) w.heap.size w' (.slice A m C) ∧ Below w.heap.size w w' := by
  have hjw := lt_blk hj
  obtain ⟨blk, off, cap, rfl, hAR⟩ := AR.of hj hA (by simp)
  have HJ := Lib.hid hj
  have A1 := Lib.hid (alloc_old (w := w) (o := .cells #[.int .i64 0, .int .i64 0, .string ⟨#[]⟩, .slice none 0 0] 29))
  have hr := Lib.hid (heap_alloc_new w (.cells #[.int .i64 0, .int .i64 0, .string ⟨#[]⟩, .slice none 0 0] 29))
  have hl2 : ([NM, k, b1, b2]).length = 4 := rfl
  rw [hl2] at HJ
  have hz : w.heap.size + 1 ≤ (w.alloc (.cells #[.int .i64 0, .int .i64 0, .string ⟨#[]⟩, .slice none 0 0] 29)).heap.size := by simp
  have HO := Lib.hid (fun X hX hc => zof_at bS bM j D now blk off cap ([NM, k, b1, b2]) 4 hl2 (by omega) k rfl (.slice none 0 0) F hF w hDB h3w hS HJ.out hAR X hX (w.heap.size + 1) hc)
  have HFF := Lib.hid (okF_of hS hF)
  have HJA := Lib.hid (fun X (hX : Below w.heap.size w X) => And.intro (HJ.out.below hX) (hA.below hX))
  have HSX := Lib.hid hS
  have HDX := Lib.hid hDB
  have CJ := Lib.hid (fun Y hY => (hAR.job Y hY).1)
  rw [hl2] at CJ
  have CA := Lib.hid (fun Y hY i s hs => hAR.arg Y hY i s hs)
  have hcap := hAR.len
  rw [hl2] at hcap
  have hcap2 := hAR.cap
  have JL := Lib.hid (fun X (hX : Below w.heap.size w X) => JIn 2 j bS now (.slice (some ⟨blk, off, none⟩) 4 cap) (.slice none 0 0) [NM, k, b1, b2] 2 rfl b1 lo hb1 hp1 rfl X (HJ.out.below hX) (hA.below hX))
  have JH := Lib.hid (fun X (hX : Below w.heap.size w X) => JIn 3 j bS now (.slice (some ⟨blk, off, none⟩) 4 cap) (.slice none 0 0) [NM, k, b1, b2] 3 rfl b2 hi hb2 hp2 rfl X (HJ.out.below hX) (hA.below hX))
  obtain ⟨h31, hOrd, hNd⟩ := HFF.out
  clear hcap hcap2 hl2 hjw
  have LZ := fun c sp X (hX : SK X c sp F) => LenZ c sp F X hX
  by_cases hyes : spA lo F.length ≤ spC hi F.length
  · have ha0 : 0 ≤ spA lo F.length := spA0' hx.1
    have hc1 : spC hi F.length ≤ (F.length : Int) - 1 := spC1 _ _
    have SP := fun Y => Span_yes lo hi F.length hx hy (by omega) hyes Y
    have hst : spanZ lo hi F = (F.drop (spA lo F.length).toNat).take ((spC hi F.length).toNat + 1 - (spA lo F.length).toNat) := if_pos hyes
    obtain ⟨a, ha⟩ : ∃ a : Nat, spA lo F.length = a := ⟨(spA lo F.length).toNat, by omega⟩
    obtain ⟨c, hc⟩ : ∃ c : Nat, spC hi F.length = c := ⟨(spC hi F.length).toNat, by omega⟩
    rw [ha, hc] at hyes
    rw [hc] at hc1
    rw [ha, hc, Int.toNat_natCast, Int.toNat_natCast] at hst
    simp only [ha, hc] at SP
    have RG := fun cz sp Y (hZ : SK Y cz sp F) => Range_any cz sp F a (c + 1 - a) c (by omega) (by omega) (.inl (by omega)) Y hZ (by omega)
    have hc9 : c ≤ 1000 := by omega
    have hw1 := wzc c hc9
    have hw2 := wzd c hc9
    have hl : ((F.drop a).take (c + 1 - a)).length = c + 1 - a := tdl hyes hc1
    rw [← hst] at hl RG
    have hL31 := spanZ_len lo hi F
    obtain ⟨L, hL⟩ : ∃ L, spanZ lo hi F = L := ⟨_, rfl⟩
    obtain ⟨m, hm⟩ : ∃ m, c + 1 - a = m := ⟨_, rfl⟩
    obtain ⟨n, hnn⟩ : ∃ n : Nat, F.length = n := ⟨_, rfl⟩
    simp only [hm, hL, hnn] at RG hl SP LZ hL31 h31 ⊢
    have HX := Lib.hid (And.intro hl (show m ≤ 31 from by rw [← hl]; exact Nat.le_trans hL31 h31))
    have SP := Lib.hid SP
    have RG := Lib.hid RG
    have LZ := Lib.hid LZ
    clear hS hj hA hAR hF hDB hb1 hp1 hb2 hp2 hx hy hyes hst hl ha hc hc1 ha0 hm hL hnn hL31 h31 hOrd hNd
    go_enter Tryz.func61, Tryz.ntmps61
    go_wp2_with (first | (go_at_call 67; (with_reducible refine (HO.out _ A1.out hz).mono ?_); rintro e w1 ⟨h, sp, e3, e4, e5, e6, rfl, hH1, h1⟩; have H1 := Lib.hid hH1; have B1 := Lib.hid (A1.out.trans (h1.mono (Below.size A1.out))); have r1 := Lib.hid (blk_below hr.out h1); clear h1 hH1; refine Hid.out ?_))
    refine Lib.hid ?_
    have LT := Lib.hid (LZ.out _ sp w1 H1.out.sk)
    have DD := Lib.hid (Below.refl w1.heap.size w1)
    obtain ⟨⟨_, _, _, _, _, _, _, _, c8⟩, _⟩ := cells9 H1.out.blk
    go_wp2_with (first | (go_at_call 123; (with_reducible refine (LT.out).mono ?_); rintro e w9 ⟨rfl, hw9⟩; obtain rfl := hw9.symm) | (go_at_call 110; (first | ((with_reducible refine (JL.out _ (B1.out.trans (DD.out.mono (Below.size B1.out)))).mono ?_); rintro e wa ⟨rfl, h1⟩; have DD := Lib.hid (DD.out.trans (h1.mono (Below.size DD.out))); clear h1) | ((with_reducible refine (JH.out _ (B1.out.trans (DD.out.mono (Below.size B1.out)))).mono ?_); rintro e wa ⟨rfl, h1⟩; have DD := Lib.hid (DD.out.trans (h1.mono (Below.size DD.out))); clear h1))) | (go_at_call 125; (with_reducible refine (SP.out _).mono ?_); rintro e wa ⟨rfl, h1⟩; have DD := Lib.hid (DD.out.trans (h1.mono (Below.size DD.out))); clear h1; refine Hid.out ?_))
    refine Lib.hid ?_
    have RA := Lib.hid (RG.out _ sp wa (H1.out.below DD.out).sk)
    go_wp2_with (first | (go_at_call 126; (with_reducible refine (RA.out).mono ?_); rintro e wb ⟨A, C, rfl, hR, h1⟩; have DD := Lib.hid (DD.out.trans (h1.mono (Below.size DD.out))); have ZN := Lib.hid (zn_any A m C _ L HX.out.1 (by have := HX.out.2; omega) wb hR); clear h1 hR) | (go_at_call 65; (with_reducible refine (ZN.out).mono ?_); rintro e wc ⟨A3, C3, rfl, hT3, h1⟩; have DD := Lib.hid (DD.out.trans (h1.mono (Below.size DD.out))); have BK := Lib.hid (BULKS _ _ (show (L.map Prod.fst).length ≤ 1000 by rw [List.length_map, HX.out.1]; have := HX.out.2; omega) wc hT3.ssl); clear h1 hT3) | (go_at_call 64; (with_reducible refine (BK.out).mono ?_); rintro e wz ⟨A4, m4, c4, rfl, hR4, h1⟩; have R4 := Lib.hid hR4; have ZZ := Lib.hid (Below.size DD.out); have DD := Lib.hid (DD.out.trans (h1.mono (Below.size DD.out))); clear h1 hR4; refine Hid.out ?_))
    refine Lib.hid ?_
    have r5 := Lib.hid (blk_below r1.out DD.out)
    have B5 := Lib.hid (B1.out.trans (DD.out.mono (Below.size B1.out)))
    obtain ⟨⟨c0, c1, c2, c3⟩, ⟨f0, f1, f2, f3⟩⟩ := cells4 r5.out
    go_wp2
    have BF : Below w.heap.size w ((((wz.setCell ⟨w.heap.size, 0, none⟩ (.int .i64 6)).setCell ⟨w.heap.size, 1, none⟩ (.int .i64 0)).setCell ⟨w.heap.size, 2, none⟩ (.string ⟨#[]⟩)).setCell ⟨w.heap.size, 3, none⟩ (.slice A4 m4 c4)) := ((((B5.out.setCell (Nat.le_refl _) _).setCell (Nat.le_refl _) _).setCell (Nat.le_refl _) _).setCell (Nat.le_refl _) _)
    have h4 := lt_blk r1.out
    have h3 := ZZ.out
    refine bodyPost_ret (v := .agg #[.int .i64 6, .int .i64 0, .string ⟨#[]⟩, .slice A4 m4 c4]) (by simp [results, Tryz.results61, go_sem, c0, c1, c2, c3]) rfl ⟨A4, m4, c4, rfl, row_mono (row_kept R4.out (fun g hg => far4 _ _ _ _ (fun e => ?_))) (Nat.le_of_lt (Nat.lt_of_lt_of_le h4 h3)), BF⟩
    have h1 := (row_own R4.out g hg).1
    omega
  · have SP := fun Y => Span_no lo hi F.length hx hy (by omega) (by omega) Y
    have hst : spanZ lo hi F = [] := if_neg hyes
    rw [hst]
    obtain ⟨n, hnn⟩ : ∃ n : Nat, F.length = n := ⟨_, rfl⟩
    simp only [hnn] at LZ SP
    have LZ := Lib.hid LZ
    have SP := Lib.hid SP
    have BN := Lib.hid (fun X => BULKS (.slice none 0 0) [] (by simp) X (SSl.nilZ X))
    clear hS hj hA hAR hF hDB hb1 hp1 hb2 hp2 hx hy hyes hst hnn h31 hOrd hNd
    go_enter Tryz.func61, Tryz.ntmps61
    go_wp2_with (first | (go_at_call 67; (with_reducible refine (HO.out _ A1.out hz).mono ?_); rintro e w1 ⟨h, sp, e3, e4, e5, e6, rfl, hH1, h1⟩; have H1 := Lib.hid hH1; have B1 := Lib.hid (A1.out.trans (h1.mono (Below.size A1.out))); have r1 := Lib.hid (blk_below hr.out h1); clear h1 hH1; refine Hid.out ?_))
    refine Lib.hid ?_
    have LT := Lib.hid (LZ.out _ sp w1 H1.out.sk)
    have DD := Lib.hid (Below.refl w1.heap.size w1)
    obtain ⟨⟨_, _, _, _, _, _, _, _, c8⟩, _⟩ := cells9 H1.out.blk
    go_wp2_with (first | (go_at_call 123; (with_reducible refine (LT.out).mono ?_); rintro e w9 ⟨rfl, hw9⟩; obtain rfl := hw9.symm) | (go_at_call 110; (first | ((with_reducible refine (JL.out _ (B1.out.trans (DD.out.mono (Below.size B1.out)))).mono ?_); rintro e wa ⟨rfl, h1⟩; have DD := Lib.hid (DD.out.trans (h1.mono (Below.size DD.out))); clear h1) | ((with_reducible refine (JH.out _ (B1.out.trans (DD.out.mono (Below.size B1.out)))).mono ?_); rintro e wa ⟨rfl, h1⟩; have DD := Lib.hid (DD.out.trans (h1.mono (Below.size DD.out))); clear h1))) | (go_at_call 125; (with_reducible refine (SP.out _).mono ?_); rintro e wa ⟨rfl, h1⟩; have DD := Lib.hid (DD.out.trans (h1.mono (Below.size DD.out))); clear h1; refine Hid.out ?_))
    refine Lib.hid ?_
    have BK := Lib.hid (BN.out wa)
    go_wp2_with (first | (go_at_call 64; (with_reducible refine (BK.out).mono ?_); rintro e wz ⟨A4, m4, c4, rfl, hR4, h1⟩; have R4 := Lib.hid hR4; have ZZ := Lib.hid (Below.size DD.out); have DD := Lib.hid (DD.out.trans (h1.mono (Below.size DD.out))); clear h1 hR4; refine Hid.out ?_))
    refine Lib.hid ?_
    have r5 := Lib.hid (blk_below r1.out DD.out)
    have B5 := Lib.hid (B1.out.trans (DD.out.mono (Below.size B1.out)))
    obtain ⟨⟨c0, c1, c2, c3⟩, ⟨f0, f1, f2, f3⟩⟩ := cells4 r5.out
    go_wp2
    have BF : Below w.heap.size w ((((wz.setCell ⟨w.heap.size, 0, none⟩ (.int .i64 6)).setCell ⟨w.heap.size, 1, none⟩ (.int .i64 0)).setCell ⟨w.heap.size, 2, none⟩ (.string ⟨#[]⟩)).setCell ⟨w.heap.size, 3, none⟩ (.slice A4 m4 c4)) := ((((B5.out.setCell (Nat.le_refl _) _).setCell (Nat.le_refl _) _).setCell (Nat.le_refl _) _).setCell (Nat.le_refl _) _)
    have h4 := lt_blk r1.out
    have h3 := ZZ.out
    refine bodyPost_ret (v := .agg #[.int .i64 6, .int .i64 0, .string ⟨#[]⟩, .slice A4 m4 c4]) (by simp [results, Tryz.results61, go_sem, c0, c1, c2, c3]) rfl ⟨A4, m4, c4, rfl, row_mono (row_kept R4.out (fun g hg => far4 _ _ _ _ (fun e => ?_))) (Nat.le_of_lt (Nat.lt_of_lt_of_le h4 h3)), BF⟩
    have h1 := (row_own R4.out g hg).1
    omega
set_option maxRecDepth 100000 in
set_option maxHeartbeats 8000000 in
theorem cZRANGE (bS bM : Nat) (D : List (ByteArray × List (ByteArray × Int))) (now : Int) (NM k : ByteArray) (b1 b2 : ByteArray) (lo hi : Int) (hb1 : b1.size ≤ 100000) (hp1 : parseI b1.data.toList = some lo) (hb2 : b2.size ≤ 100000) (hp2 : parseI b2.data.toList = some hi) (hx : -1000000000 ≤ lo ∧ lo ≤ 1000000000) (hy : -1000000000 ≤ hi ∧ hi ≤ 1000000000) (F : List (ByteArray × Int)) (hF : (findD k D).getD [] = F) (w : World) (hDB : DB w) (h3w : 3 < w.heap.size) : CmdD KS okS 60 bS bM D now [NM, k, b1, b2] 6 0 ⟨#[]⟩ (RO (((spanZ lo hi F).map Prod.fst).map some)) [] w := by
  intro j vA hS hj hA
  show Calls Tryz.prog 60 #[.pointer (some ⟨j, 0, none⟩)] w _
  have HJ := Lib.hid hj
  have A1 := Lib.hid (alloc_old (w := w) (o := .cells #[.int .i64 0, .int .i64 0, .string ⟨#[]⟩, .slice none 0 0] 29))
  have hr := Lib.hid (heap_alloc_new w (.cells #[.int .i64 0, .int .i64 0, .string ⟨#[]⟩, .slice none 0 0] 29))
  have ZR := Lib.hid (fun X (hX : Below w.heap.size w X) => zranksF bS bM j D now vA NM k b1 b2 lo hi hb1 hp1 hb2 hp2 hx hy F hF X (hDB.at_ hX) (Nat.lt_of_lt_of_le h3w (Below.size hX)) (SPG.below KS okS hS hX) (hj.below hX) (hA.below hX))
  have hz : (w.alloc (.cells #[.int .i64 0, .int .i64 0, .string ⟨#[]⟩, .slice none 0 0] 29)).heap.size = w.heap.size + 1 := by simp
  have HZ := Lib.hid hz
  clear hS hj hA hF hDB hz
  go_enter Tryz.func60, Tryz.ntmps60
  go_wp2_with (first | (go_at_call 61; (with_reducible refine (ZR.out _ A1.out).mono ?_); rintro e w4 ⟨A4, m4, c4, rfl, hR, h1⟩; have R4 := Lib.hid hR; have B4 := Lib.hid (A1.out.trans (h1.mono (Below.size A1.out))); have r4 := Lib.hid (blk_below hr.out h1); clear hR h1; obtain ⟨⟨c0, c1, c2, c3⟩, ⟨f0, f1, f2, f3⟩⟩ := cells4 r4.out))
  have BF : Below w.heap.size w ((((w4.setCell ⟨w.heap.size, 0, none⟩ (.int .i64 6)).setCell ⟨w.heap.size, 1, none⟩ (.int .i64 0)).setCell ⟨w.heap.size, 2, none⟩ (.string ⟨#[]⟩)).setCell ⟨w.heap.size, 3, none⟩ (.slice A4 m4 c4)) := ((((B4.out.setCell (Nat.le_refl _) _).setCell (Nat.le_refl _) _).setCell (Nat.le_refl _) _).setCell (Nat.le_refl _) _)
  have h3 := HZ.out
  refine bodyPost_ret (v := .agg #[.int .i64 6, .int .i64 0, .string ⟨#[]⟩, .slice A4 m4 c4]) (by simp [results, Tryz.results60, go_sem, c0, c1, c2, c3]) rfl ⟨A4, m4, c4, rfl, row_mono (row_kept R4.out (fun g hg => far4 _ _ _ _ (fun e => ?_))) (by omega), ⟨_, JD.nil KS _ (HJ.out.below BF)⟩, .of BF⟩
  have h1 := (row_own R4.out g hg).1
  omega
end Go.Proofs.YticlacjpgjkhcaaGreatDoor
