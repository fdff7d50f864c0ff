/- Texts joined: C5, C6, C8 -/
import Derived.Test.YticlacjpgjkhcaaGreatDoorQh25

/- Commands of hashes: HSET, HSETNX. -/
namespace Go.Proofs.YticlacjpgjkhcaaGreatDoor
open Go.ChangeShapes Go.WideShapes Go.ChangeAt Go.RowKit

theorem idx_row (blk off Ln cap : Nat) (i : Int) (I : Nat) (hi : i = (I : Int)) (h : I < Ln) (w : World) : (Instr.indexAt 58 (.slice (some ⟨blk, off, none⟩) Ln cap) (.int .i64 i)).run Tryz.prog w = .ok (.pointer (some ⟨blk, off + I, none⟩)) w := by
  subst hi
  simp [Instr.indexAt, asIntOf, go_sem]
  omega
theorem tF_at (P : List (ByteArray × ByteArray)) (i : Nat) (p : ByteArray × ByteArray) (h : P[i]? = some p) : (tF P)[2 * i]? = some p.1 ∧ (tF P)[2 * i + 1]? = some p.2 := by
  induction P generalizing i with
  | nil => simp at h
  | cons q r ih =>
    have e : tF (q :: r) = q.1 :: q.2 :: tF r := rfl
    rw [e]
    cases i with
    | zero =>
      simp at h
      subst h
      exact ⟨rfl, rfl⟩
    | succ i =>
      have := ih i (by simpa using h)
      rw [show 2 * (i + 1) = 2 * i + 1 + 1 by omega]
      simpa using this
set_option maxRecDepth 100000 in
set_option maxHeartbeats 8000000 in
theorem cHSET (bS bM : Nat) (D : List (ByteArray × List (ByteArray × ByteArray))) (now : Int) (NM k : ByteArray) (F : List (ByteArray × ByteArray)) (P : List (ByteArray × ByteArray)) (hne : putsD F P ≠ []) (hok : okF k (srtF (putsD F P))) (hsz : ∀ n ∈ namesD (putsD F P), n.size ≤ 1000000) (hps : ∀ (i : Nat) (p : ByteArray × ByteArray), P[i]? = some p → p.1.size ≤ 1000000) (hfp : F.length + P.length ≤ 16) (hF : (findD k D).getD [] = F) (hfew : F.length ≤ 15) (w : World) : CmdD KF okF 77 bS bM D now (NM :: k :: tF P) 3 (newsD F P : Nat) ⟨#[]⟩ R0 (dEff k (some (srtF (putsD F P))) D) w := by
  intro j vA hS hj hA
  show Calls Tryz.prog 77 #[.pointer (some ⟨j, 0, none⟩)] w _
  have hjw := lt_blk hj
  obtain ⟨blk, off, cap, rfl, hAR⟩ := AR.of hj hA (by simp)
  have HJ := Lib.hid hj
  have A1 := Lib.hid (alloc_old (w := w) (o := .cells #[.int .i64 0, .int .i64 0, .string ⟨#[]⟩, .slice none 0 0] 29))
  have hr := Lib.hid (heap_alloc_new w (.cells #[.int .i64 0, .int .i64 0, .string ⟨#[]⟩, .slice none 0 0] 29))
  obtain ⟨Ln, hl2⟩ : ∃ Ln, ((NM :: k :: tF P)).length = Ln := ⟨_, rfl⟩
  have hLn : Ln = (2 * P.length + 2) := by rw [← hl2]; rw [List.length_cons, List.length_cons, tF_len]; omega
  rw [hl2] at HJ ⊢
  have hz : w.heap.size + 1 ≤ (w.alloc (.cells #[.int .i64 0, .int .i64 0, .string ⟨#[]⟩, .slice none 0 0] 29)).heap.size := by simp
  have HO := Lib.hid (fun X hX hc => hof_at bS bM j D now blk off cap ((NM :: k :: tF P)) Ln hl2 (by omega) k rfl (.slice none 0 0) F hF hfew w hS HJ.out hAR X hX (w.heap.size + 1) hc)
  have CJ := Lib.hid (fun Y hY => (hAR.job Y hY).1)
  rw [hl2] at CJ
  have CA := Lib.hid (fun Y hY i s hs => hAR.arg Y hY i s hs)
  have hcap := hAR.len
  rw [hl2] at hcap
  have hcap2 := hAR.cap
  have HS := Lib.hid hS
  have OK := Lib.hid (show (putsD F P ≠ [] → okF k (srtF (putsD F P))) ∧ (∀ n ∈ namesD (putsD F P), n.size ≤ 1000000) from ⟨fun _ => hok, hsz⟩)
  have HP := Lib.hid (show (∀ (i : Nat) (p : ByteArray × ByteArray), P[i]? = some p → p.1.size ≤ 1000000) from hps)
  have CP := Lib.hid (fun Y (hY : Below w.heap.size w Y) m (p : ByteArray × ByteArray) (hp : P[m]? = some p) => (show Y.cell? ⟨blk, off + (2 + 2 * m), none⟩ = some (.string p.1) ∧ Y.cell? ⟨blk, off + (2 + 2 * m + 1), none⟩ = some (.string p.2) from ⟨CA.out Y hY (2 + 2 * m) p.1 (by rw [show 2 + 2 * m = 2 * m + 1 + 1 by omega]; simpa using (tF_at P m p hp).1), CA.out Y hY (2 + 2 * m + 1) p.2 (by rw [show 2 + 2 * m + 1 = 2 * m + 1 + 1 + 1 by omega]; simpa using (tF_at P m p hp).2)⟩))
  have XO : xoF (putsD F P) = some (srtF (putsD F P)) := if_neg hne
  obtain ⟨G, hG⟩ : ∃ G, putsD F P = G := ⟨_, rfl⟩
  obtain ⟨M, hM⟩ : ∃ M, newsD F P = M := ⟨_, rfl⟩
  obtain ⟨N, hN⟩ : ∃ N, P.length = N := ⟨_, rfl⟩
  have hMN : M ≤ N := by rw [← hM, ← hN]; exact newsD_le F P
  simp only [hG, hM, hN] at OK XO hfp hLn ⊢
  have HG := Lib.hid hG
  have HM := Lib.hid hM
  have HN := Lib.hid hN
  have HLn := Lib.hid hLn
  clear hS hj hA hAR hF hok hsz hps hG hM hN CA hne hLn
  go_enter Tryz.func77, Tryz.ntmps77
  go_wp2_with (first | (go_at_call 132; (with_reducible refine (HO.out _ A1.out hz).mono ?_); rintro e w1 ⟨h, e3, e4, e5, e6, rfl, hH1, h1⟩; have H1 := Lib.hid hH1; have B1 := Lib.hid (A1.out.trans (h1.mono (Below.size A1.out))); have r1 := Lib.hid (blk_below hr.out h1); clear h1 hH1; refine Hid.out ?_))
  refine Lib.hid ?_
  have cj := CJ.out _ B1.out
  go_wp2
  go_loopw [4, 5] (fun nv iv wr => ∃ (m cc : Nat) (Fm : List (ByteArray × ByteArray)), m ≤ N ∧ nv = .int .i64 (cc : Int) ∧ iv = .int .i64 ((2 + 2 * m : Nat) : Int) ∧ cc ≤ m ∧ Hid (HH (w.heap.size + 1) wr h (.string k) (.int .i64 3) (.string ⟨#[]⟩) e3 e4 e5 e6 (.int .i64 0) (.bool (findD k D).isSome) Fm (F.length + m) ∧ Below (w.heap.size + 1) w1 wr ∧ putsD Fm (P.drop m) = G ∧ cc + newsD Fm (P.drop m) = M ∧ Fm.length ≤ F.length + m)) (fun _ iv _ => Ln - (intOf iv).toNat)
  case atStart => exact ⟨0, 0, F, Nat.zero_le _, rfl, rfl, Nat.le_refl _, Lib.hid ⟨H1.out, Below.refl _ _, HG.out, by rw [Nat.zero_add]; exact HM.out, Nat.le_refl _⟩⟩
  case round =>
    obtain ⟨m, cc, Fm, hm, rfl, rfl, hcc, HQ⟩ := hrel
    have BW := Lib.hid (B1.out.trans (HQ.out.2.1.mono (Nat.le_succ _)))
    have cj := CJ.out _ BW.out
    have RE := Lib.hid ((HQ.out.2.1.block w.heap.size (Nat.lt_succ_self _)).trans r1.out)
    have hLn := HLn.out
    by_cases hlt : m < N
    · obtain ⟨p, hp⟩ : ∃ p, P[m]? = some p := ⟨_, List.getElem?_eq_getElem (by rw [HN.out]; exact hlt)⟩
      have hdrop : P.drop m = p :: P.drop (m + 1) := by
        rw [List.drop_eq_getElem_cons (by rw [HN.out]; exact hlt)]
        rw [List.getElem?_eq_getElem (by rw [HN.out]; exact hlt)] at hp
        rw [Option.some.inj hp]
      have hQ := HQ.out
      rw [hdrop] at hQ
      obtain ⟨q1, q2, q3, q4, q5⟩ := hQ
      have ca := (CP.out _ BW.out m p hp).1
      have cb := (CP.out _ BW.out m p hp).2
      have HSt := hset_any (w.heap.size + 1) h _ _ _ e3 e4 e5 e6 _ _ Fm (by omega) (F.length + m) (by omega) p.1 p.2 (HP.out m p hp) wr.drew (q1.below (Below.refl _ _).drew)
      have hputs : putsD Fm (p :: P.drop (m + 1)) = putsD (putD p.1 p.2 Fm) (P.drop (m + 1)) := rfl
      have hnews : newsD Fm (p :: P.drop (m + 1)) = (if (findD p.1 Fm).isNone = true then 1 else 0) + newsD (putD p.1 p.2 Fm) (P.drop (m + 1)) := rfl
      have hlen := len_putF p.1 p.2 Fm
      rw [hputs] at q3
      rw [hnews] at q4
      have HPP := Lib.hid hp
      have Q3 := Lib.hid q3
      have Q4 := Lib.hid q4
      have Q2 := Lib.hid q2
      clear hputs hnews hdrop hp q1 q2 q3 q4 HQ
      have i0 : ((2 + 2 * m : Nat) : Int) + 1 < (Ln : Int) := by omega
      have i1 : ((2 + 2 * m : Nat) : Int) < (Ln : Int) := by omega
      have i2 : (0 : Int) ≤ ((2 + 2 * m : Nat) : Int) := by omega
      have i3 : (0 : Int) ≤ ((2 + 2 * m : Nat) : Int) + 1 := by omega
      have w1' : wrap64 (((2 + 2 * m : Nat) : Int) + 1) = ((2 + 2 * m : Nat) : Int) + 1 := by unfold wrap64; omega
      have n1 : (((2 + 2 * m : Nat) : Int) + 1).toNat = 2 + 2 * m + 1 := by omega
      have n2 : (((2 + 2 * m : Nat) : Int)).toNat = 2 + 2 * m := by omega
      have w2' : IntKind.i64.wrap (((2 + 2 * m : Nat) : Int) + 1) = ((2 + 2 * m : Nat) : Int) + 1 := IntWalk.i64_in _ (by omega)
      obtain ⟨I, hI⟩ : ∃ I : Nat, 2 + 2 * m = I := ⟨_, rfl⟩
      have hI2 : off + (2 + 2 * m + 1) = off + (I + 1) := by omega
      rw [hI2] at cb
      simp only [hI] at i0 i1 i2 i3 w1' w2' n1 n2 ca cb ⊢
      have SX := Lib.hid (show ∀ X, Below (w.heap.size + 1) wr X → (X.cell? ⟨j, 2, none⟩ = some (.slice (some ⟨blk, off, none⟩) Ln cap) ∧ X.cell? ⟨blk, off + I, none⟩ = some (.string p.1) ∧ X.cell? ⟨blk, off + (I + 1), none⟩ = some (.string p.2)) from fun X hX => by
        have hY := BW.out.trans (hX.mono (Nat.le_succ _))
        have h1 := CP.out X hY m p HPP.out
        rw [hI2, hI] at h1
        exact ⟨CJ.out X hY, h1⟩)
      have S0 := SX.out wr.drew (Below.refl _ _).drew
      have hx1 := fun X => idx_row blk off Ln cap (I : Int) I rfl (by omega) X
      have hx2 := fun X => idx_row blk off Ln cap ((I : Int) + 1) (I + 1) (by omega) (by omega) X
      clear hLn
      cases hb : (findD p.1 Fm).isNone with
      | true =>
        rw [hb] at HSt
        have HSt := Lib.hid HSt
        have Q4' := Lib.hid (show cc + (1 + newsD (putD p.1 p.2 Fm) (P.drop (m + 1))) = M by have := Q4.out; rw [hb] at this; simpa using this)
        clear Q4 hb
        go_wp2
        go_region_held3 (fun X => X.cell? ⟨j, 2, none⟩ = some (.slice (some ⟨blk, off, none⟩) Ln cap) ∧ X.cell? ⟨blk, off + I, none⟩ = some (.string p.1) ∧ X.cell? ⟨blk, off + (I + 1), none⟩ = some (.string p.2)) (first | (with_reducible exact S0) | (with_reducible exact S1.out))
          (first | (go_at_call 133; (with_reducible refine (HSt.out).mono ?_); rintro e w4 ⟨rfl, h4, h5, h6⟩; have H4 := Lib.hid h4; have B4 := Lib.hid ((Below.refl (w.heap.size + 1) wr).drew.trans h5); have S1 := Lib.hid (SX.out _ B4.out); clear h4 h5 h6))
        clear S0 SX S1 ca cb cj hx1 hx2
        go_wp2
        exact ⟨⟨m + 1, cc + 1, _, by omega, by go_num, by go_num, by omega, Lib.hid ⟨H4.out, Q2.out.trans B4.out, Q3.out, by have := Q4'.out; omega, by omega⟩⟩, by have := HLn.out; simp [intOf]; omega⟩
      | false =>
        rw [hb] at HSt
        have HSt := Lib.hid HSt
        have Q4' := Lib.hid (show cc + (0 + newsD (putD p.1 p.2 Fm) (P.drop (m + 1))) = M by have := Q4.out; rw [hb] at this; simpa using this)
        clear Q4 hb
        go_wp2
        go_region_held3 (fun X => X.cell? ⟨j, 2, none⟩ = some (.slice (some ⟨blk, off, none⟩) Ln cap) ∧ X.cell? ⟨blk, off + I, none⟩ = some (.string p.1) ∧ X.cell? ⟨blk, off + (I + 1), none⟩ = some (.string p.2)) (first | (with_reducible exact S0) | (with_reducible exact S1.out))
          (first | (go_at_call 133; (with_reducible refine (HSt.out).mono ?_); rintro e w4 ⟨rfl, h4, h5, h6⟩; have H4 := Lib.hid h4; have B4 := Lib.hid ((Below.refl (w.heap.size + 1) wr).drew.trans h5); have S1 := Lib.hid (SX.out _ B4.out); clear h4 h5 h6))
        clear S0 SX S1 ca cb cj hx1 hx2
        go_wp2
        exact ⟨⟨m + 1, cc + 0, _, by omega, rfl, by go_num, by omega, Lib.hid ⟨H4.out, Q2.out.trans B4.out, Q3.out, by have := Q4'.out; omega, by omega⟩⟩, by have := HLn.out; simp [intOf]; omega⟩
    · obtain rfl : m = N := by omega
      have hQ := HQ.out
      rw [List.drop_of_length_le (by rw [HN.out]; exact Nat.le_refl _)] at hQ
      obtain ⟨q1, q2, q3, q4, _⟩ := hQ
      have e3' : Fm = G := q3
      have e4' : cc = M := q4
      rw [e3'] at q1
      rw [e4']
      have i0 : ¬ ((2 + 2 * m : Nat) : Int) + 1 < (Ln : Int) := by omega
      have w1' : wrap64 (((2 + 2 * m : Nat) : Int) + 1) = ((2 + 2 * m : Nat) : Int) + 1 := by unfold wrap64; omega
      obtain ⟨I, hI⟩ : ∃ I : Nat, 2 + 2 * m = I := ⟨_, rfl⟩
      simp only [hI] at i0 w1' ⊢
      clear hLn
      have TU := hturn_any bS bM j D k now (.slice (some ⟨blk, off, none⟩) Ln cap) w.heap.size (w.heap.size + 1) h e3 e4 e5 e6 _ G (F.length + m) (by omega) OK.out.1 OK.out.2 (Nat.le_succ _) wr (fun X hX => SPG.below KF okF HS.out (BW.out.trans (hX.mono (Nat.le_succ _)))) (fun X hX => HJ.out.below (BW.out.trans (hX.mono (Nat.le_succ _)))) q1
      rw [XO] at TU
      have TU := Lib.hid TU
      have IN := Lib.hid (fun X => Int75 (M : Int) X)
      clear q1 q2 q3 q4 HQ
      go_wp2_with (first | (go_at_call 134; (with_reducible refine (TU.out).mono ?_); rintro e w5 ⟨rfl, ⟨vl5, hJ5⟩, hK5⟩; have J5 := Lib.hid hJ5; have K5 := Lib.hid hK5; have r5 := Lib.hid ((hK5.block w.heap.size (Nat.lt_succ_self _) (by omega)).trans RE.out); clear hJ5 hK5) | (go_at_call 69; (with_reducible refine (IN.out _).mono ?_); rintro e w7 ⟨rfl, h1⟩; have B7 := Lib.hid h1; have r7 := Lib.hid (blk_below r5.out h1); obtain ⟨⟨c0, c1, c2, c3⟩, ⟨f0, f1, f2, f3⟩⟩ := cells4 (blk_below r5.out h1); clear h1))
      exact bodyPost_ret (v := .agg #[.int .i64 3, .int .i64 (M : Int), .string ⟨#[]⟩, .slice none 0 0]) (by simp [results, Tryz.results77, go_sem, c0, c1, c2, c3]) rfl (endT KF hjw (JD.below KF J5.out B7.out) r7.out (((Kp.of BW.out).trans (K5.out.mono (Nat.le_succ _) (fun _ h => h))).below_after B7.out (Nat.le_trans (Below.size BW.out) K5.out.size)) _ _ _ _)
set_option maxRecDepth 100000 in
set_option maxHeartbeats 8000000 in
theorem cHSETNX (bS bM : Nat) (D : List (ByteArray × List (ByteArray × ByteArray))) (now : Int) (NM k : ByteArray) (nm t : ByteArray) (hnm : nm.size ≤ 1000000) (F : List (ByteArray × ByteArray)) (hF : (findD k D).getD [] = F) (hfn : (findD nm F).isSome = true) (hfew : F.length ≤ 15) (w : World) : CmdD KF okF 78 bS bM D now [NM, k, nm, t] 3 0 ⟨#[]⟩ R0 [] w := by
  intro j vA hS hj hA
  show Calls Tryz.prog 78 #[.pointer (some ⟨j, 0, none⟩)] w _
  have hjw := lt_blk hj
  obtain ⟨blk, off, cap, rfl, hAR⟩ := AR.of hj hA (by simp)
  have HJ := Lib.hid hj
  have A1 := Lib.hid (alloc_old (w := w) (o := .cells #[.int .i64 0, .int .i64 0, .string ⟨#[]⟩, .slice none 0 0] 29))
  have hr := Lib.hid (heap_alloc_new w (.cells #[.int .i64 0, .int .i64 0, .string ⟨#[]⟩, .slice none 0 0] 29))
  have hl2 : ([NM, k, nm, t]).length = 4 := rfl
  rw [hl2] at HJ ⊢
  have hz : w.heap.size + 1 ≤ (w.alloc (.cells #[.int .i64 0, .int .i64 0, .string ⟨#[]⟩, .slice none 0 0] 29)).heap.size := by simp
  have HO := Lib.hid (fun X hX hc => hof_at bS bM j D now blk off cap ([NM, k, nm, t]) 4 hl2 (by omega) k rfl (.slice none 0 0) F hF hfew w hS HJ.out hAR X hX (w.heap.size + 1) hc)
  have CJ := Lib.hid (fun Y hY => (hAR.job Y hY).1)
  rw [hl2] at CJ
  have CA := Lib.hid (fun Y hY i s hs => hAR.arg Y hY i s hs)
  have hcap := hAR.len
  rw [hl2] at hcap
  have hcap2 := hAR.cap
  have BK := fun h e3 e4 e5 e6 X (hX : HH (w.heap.size + 1) X h (.string k) (.int .i64 3) (.string ⟨#[]⟩) e3 e4 e5 e6 (.int .i64 0) (.bool (findD k D).isSome) F F.length) => hget_any (w.heap.size + 1) h _ _ _ e3 e4 e5 e6 _ _ F F.length (by omega) nm hnm X hX
  simp only [hfn] at BK
  have BK := Lib.hid BK
  have IN := Lib.hid (fun X => Int75 0 X)
  clear hS hj hA hAR hF hfn
  go_enter Tryz.func78, Tryz.ntmps78
  go_wp2_with (first | (go_at_call 132; (with_reducible refine (HO.out _ A1.out hz).mono ?_); rintro e w1 ⟨h, e3, e4, e5, e6, rfl, hH1, h1⟩; have H1 := Lib.hid hH1; have B1 := Lib.hid (A1.out.trans (h1.mono (Below.size A1.out))); have r1 := Lib.hid (blk_below hr.out h1); clear h1 hH1; refine Hid.out ?_))
  refine Lib.hid ?_
  have cj := CJ.out _ B1.out
  have ca2 := CA.out _ B1.out 2 nm rfl
  have K1 := Lib.hid (BK.out h e3 e4 e5 e6 w1 H1.out)
  clear BK
  go_wp2_with (first | (go_at_call 135; (with_reducible refine (K1.out).mono ?_); rintro e w2 ⟨rfl, h1⟩; have B2 := Lib.hid (B1.out.trans (h1.mono (Below.size B1.out))); have r2 := Lib.hid (blk_below r1.out h1); clear h1) | (go_at_call 69; (with_reducible refine (IN.out _).mono ?_); rintro e w3 ⟨rfl, h1⟩; have B3 := Lib.hid (B2.out.trans (h1.mono (Below.size B2.out))); have r3 := Lib.hid (blk_below r2.out h1); clear h1; obtain ⟨⟨c0, c1, c2, c3⟩, ⟨f0, f1, f2, f3⟩⟩ := cells4 r3.out))
  exact bodyPost_ret (v := .agg #[.int .i64 3, .int .i64 0, .string ⟨#[]⟩, .slice none 0 0]) (by simp [results, Tryz.results78, go_sem, c0, c1, c2, c3]) rfl (endD KF HJ.out ((((B3.out.setCell (Nat.le_refl _) _).setCell (Nat.le_refl _) _).setCell (Nat.le_refl _) _).setCell (Nat.le_refl _) _))
end Go.Proofs.YticlacjpgjkhcaaGreatDoor

/- Commands of hashes: HDEL. -/
namespace Go.Proofs.YticlacjpgjkhcaaGreatDoor
open Go.ChangeShapes Go.WideShapes Go.ChangeAt Go.RowKit

set_option maxRecDepth 100000 in
set_option maxHeartbeats 8000000 in
theorem cHDEL (bS bM : Nat) (D : List (ByteArray × List (ByteArray × ByteArray))) (now : Int) (NM k : ByteArray) (F : List (ByteArray × ByteArray)) (ns : List ByteArray) (hne : ns ≠ []) (hN1 : ns.length ≤ 1000) (hok : delsD F ns ≠ [] → okF k (srtF (delsD F ns))) (hsz : ∀ n ∈ namesD (delsD F ns), n.size ≤ 1000000) (hps : ∀ (i : Nat) (n : ByteArray), ns[i]? = some n → n.size ≤ 1000000) (hF : (findD k D).getD [] = F) (hfew : F.length ≤ 15) (w : World) : CmdD KF okF 81 bS bM D now (NM :: k :: ns) 3 (goneD F ns : Nat) ⟨#[]⟩ R0 (dEff k (xoF (delsD F ns)) D) w := by
  intro j vA hS hj hA
  show Calls Tryz.prog 81 #[.pointer (some ⟨j, 0, none⟩)] w _
  have hjw := lt_blk hj
  obtain ⟨blk, off, cap, rfl, hAR⟩ := AR.of hj hA (by simp)
  have HJ := Lib.hid hj
  have A1 := Lib.hid (alloc_old (w := w) (o := .cells #[.int .i64 0, .int .i64 0, .string ⟨#[]⟩, .slice none 0 0] 29))
  have hr := Lib.hid (heap_alloc_new w (.cells #[.int .i64 0, .int .i64 0, .string ⟨#[]⟩, .slice none 0 0] 29))
  have hl2 : ((NM :: k :: ns)).length = (ns.length + 2) := rfl
  rw [hl2] at HJ ⊢
  have hz : w.heap.size + 1 ≤ (w.alloc (.cells #[.int .i64 0, .int .i64 0, .string ⟨#[]⟩, .slice none 0 0] 29)).heap.size := by simp
  have HO := Lib.hid (fun X hX hc => hof_at bS bM j D now blk off cap ((NM :: k :: ns)) (ns.length + 2) hl2 (by omega) k rfl (.slice none 0 0) F hF hfew w hS HJ.out hAR X hX (w.heap.size + 1) hc)
  have CJ := Lib.hid (fun Y hY => (hAR.job Y hY).1)
  rw [hl2] at CJ
  have CA := Lib.hid (fun Y hY i s hs => hAR.arg Y hY i s hs)
  have hcap := hAR.len
  rw [hl2] at hcap
  have hcap2 := hAR.cap
  have HS := Lib.hid hS
  have OK := Lib.hid (show (delsD F ns ≠ [] → okF k (srtF (delsD F ns))) ∧ (∀ n ∈ namesD (delsD F ns), n.size ≤ 1000000) from ⟨hok, hsz⟩)
  have HPN := Lib.hid (show (∀ (i : Nat) (n : ByteArray), ns[i]? = some n → n.size ≤ 1000000) from hps)
  have CP := Lib.hid (fun Y (hY : Below w.heap.size w Y) i (s : ByteArray) (hs : ns[i]? = some s) => CA.out Y hY (i + 2) s (by simpa using hs))
  obtain ⟨G, hG⟩ : ∃ G, delsD F ns = G := ⟨_, rfl⟩
  obtain ⟨M, hM⟩ : ∃ M, goneD F ns = M := ⟨_, rfl⟩
  obtain ⟨N, hN⟩ : ∃ N, ns.length = N := ⟨_, rfl⟩
  have hMN : M ≤ N := by rw [← hM, ← hN]; exact goneD_le F ns
  have hpos : 0 < N := by rw [← hN]; exact List.length_pos_iff.2 hne
  simp only [hG, hM, hN] at OK hN1 HJ CJ HO hcap ⊢
  have HG := Lib.hid hG
  have HM := Lib.hid hM
  have HN := Lib.hid hN
  have hc2 : ¬ cap = 2 := by omega
  clear hS hj hA hAR hF hok hsz hps hG hM hN CA hl2
  go_enter Tryz.func81, Tryz.ntmps81
  go_wp2_with (first | (go_at_call 132; (with_reducible refine (HO.out _ A1.out hz).mono ?_); rintro e w1 ⟨h, e3, e4, e5, e6, rfl, hH1, h1⟩; have H1 := Lib.hid hH1; have B1 := Lib.hid (A1.out.trans (h1.mono (Below.size A1.out))); have r1 := Lib.hid (blk_below hr.out h1); clear h1 hH1; refine Hid.out ?_))
  refine Lib.hid ?_
  have cj := CJ.out _ B1.out
  go_wp2
  go_loopw [4, 17] (fun nv iv wr => ∃ (m cc : Nat) (Fm : List (ByteArray × ByteArray)), m ≤ N ∧ nv = .int .i64 (cc : Int) ∧ iv = .int .i64 (m : Int) ∧ cc ≤ m ∧ Hid (HH (w.heap.size + 1) wr h (.string k) (.int .i64 3) (.string ⟨#[]⟩) e3 e4 e5 e6 (.int .i64 0) (.bool (findD k D).isSome) Fm F.length ∧ Below (w.heap.size + 1) w1 wr ∧ delsD Fm (ns.drop m) = G ∧ cc + goneD Fm (ns.drop m) = M)) (fun _ iv _ => N - (intOf iv).toNat)
  case atStart => exact ⟨0, 0, F, Nat.zero_le _, rfl, rfl, Nat.le_refl _, Lib.hid ⟨H1.out, Below.refl _ _, HG.out, by rw [Nat.zero_add]; exact HM.out⟩⟩
  case round =>
    obtain ⟨m, cc, Fm, hm, rfl, rfl, hcc, HQ⟩ := hrel
    have BW := Lib.hid (B1.out.trans (HQ.out.2.1.mono (Nat.le_succ _)))
    have cj := CJ.out _ BW.out
    have RE := Lib.hid ((HQ.out.2.1.block w.heap.size (Nat.lt_succ_self _)).trans r1.out)
    by_cases hlt : m < N
    · obtain ⟨p, hp⟩ : ∃ p, ns[m]? = some p := ⟨_, List.getElem?_eq_getElem (by rw [HN.out]; exact hlt)⟩
      have hdrop : ns.drop m = p :: ns.drop (m + 1) := by
        rw [List.drop_eq_getElem_cons (by rw [HN.out]; exact hlt)]
        rw [List.getElem?_eq_getElem (by rw [HN.out]; exact hlt)] at hp
        rw [Option.some.inj hp]
      have hQ := HQ.out
      rw [hdrop] at hQ
      obtain ⟨q1, q2, q3, q4⟩ := hQ
      have ca := CP.out _ BW.out m p hp
      rw [show off + (m + 2) = off + 2 + m by omega] at ca
      obtain ⟨pT, hp1⟩ := q1.hp
      have cp9 := hp1.cell
      have hdl := hdel_any (w.heap.size + 1) h pT _ _ _ e3 e4 e5 e6 _ _ Fm F.length p (HPN.out m p hp) wr hp1
      have q3' : delsD (delD p Fm) (ns.drop (m + 1)) = G := q3
      have q4' : cc + ((if (findD p Fm).isSome = true then 1 else 0) + goneD (delD p Fm) (ns.drop (m + 1))) = M := q4
      have Q3 := Lib.hid q3'
      have Q4 := Lib.hid q4'
      have Q2 := Lib.hid q2
      have i0 : (m : Int) < (N : Int) := by omega
      clear hdrop hp q1 q2 q3 q4 q3' q4' hp1
      cases hb : (findD p Fm).isSome with
      | true =>
        rw [hb] at hdl
        have HDl := Lib.hid hdl
        have Q4' := Lib.hid (show cc + (1 + goneD (delD p Fm) (ns.drop (m + 1))) = M by have := Q4.out; rw [hb] at this; simpa using this)
        clear Q4 hb hdl
        go_wp2_with (first | (go_at_call 137; (with_reducible refine (HDl.out).mono ?_); rintro e w4 ⟨⟨q, rfl⟩, h4, h5⟩; have H4 := Lib.hid h4.hh; have B4 := Lib.hid h5; clear h4 h5))
        exact ⟨⟨m + 1, cc + 1, _, by omega, by go_num, by go_num, by omega, Lib.hid ⟨H4.out, Q2.out.trans B4.out, Q3.out, by have := Q4'.out; omega⟩⟩, by simp [intOf]; omega⟩
      | false =>
        rw [hb] at hdl
        have HDl := Lib.hid hdl
        have Q4' := Lib.hid (show cc + (0 + goneD (delD p Fm) (ns.drop (m + 1))) = M by have := Q4.out; rw [hb] at this; simpa using this)
        clear Q4 hb hdl
        go_wp2_with (first | (go_at_call 137; (with_reducible refine (HDl.out).mono ?_); rintro e w4 ⟨⟨q, rfl⟩, h4, h5⟩; have H4 := Lib.hid h4.hh; have B4 := Lib.hid h5; clear h4 h5))
        exact ⟨⟨m + 1, cc + 0, _, by omega, rfl, by go_num, by omega, Lib.hid ⟨H4.out, Q2.out.trans B4.out, Q3.out, by have := Q4'.out; omega⟩⟩, by simp [intOf]; omega⟩
    · obtain rfl : m = N := by omega
      have hQ := HQ.out
      rw [List.drop_of_length_le (by rw [HN.out]; exact Nat.le_refl _)] at hQ
      obtain ⟨q1, q2, q3, q4⟩ := hQ
      have e3' : Fm = G := q3
      have e4' : cc = M := q4
      rw [e3'] at q1
      rw [e4']
      have i0 : ¬ (m : Int) < (m : Int) := by omega
      have TU := hturn_any bS bM j D k now (.slice (some ⟨blk, off, none⟩) (m + 2) cap) w.heap.size (w.heap.size + 1) h e3 e4 e5 e6 _ G F.length (by omega) OK.out.1 OK.out.2 (Nat.le_succ _) wr (fun X hX => SPG.below KF okF HS.out (BW.out.trans (hX.mono (Nat.le_succ _)))) (fun X hX => HJ.out.below (BW.out.trans (hX.mono (Nat.le_succ _)))) q1
      have TU := Lib.hid TU
      have IN := Lib.hid (fun X => Int75 (M : Int) X)
      clear q1 q2 q3 q4 HQ
      go_wp2_with (first | (go_at_call 134; (with_reducible refine (TU.out).mono ?_); rintro e w5 ⟨rfl, ⟨vl5, hJ5⟩, hK5⟩; have J5 := Lib.hid hJ5; have K5 := Lib.hid hK5; have r5 := Lib.hid ((hK5.block w.heap.size (Nat.lt_succ_self _) (by omega)).trans RE.out); clear hJ5 hK5) | (go_at_call 69; (with_reducible refine (IN.out _).mono ?_); rintro e w7 ⟨rfl, h1⟩; have B7 := Lib.hid h1; have r7 := Lib.hid (blk_below r5.out h1); obtain ⟨⟨c0, c1, c2, c3⟩, ⟨f0, f1, f2, f3⟩⟩ := cells4 (blk_below r5.out h1); clear h1))
      exact bodyPost_ret (v := .agg #[.int .i64 3, .int .i64 (M : Int), .string ⟨#[]⟩, .slice none 0 0]) (by simp [results, Tryz.results81, go_sem, c0, c1, c2, c3]) rfl (endT KF hjw (JD.below KF J5.out B7.out) r7.out (((Kp.of BW.out).trans (K5.out.mono (Nat.le_succ _) (fun _ h => h))).below_after B7.out (Nat.le_trans (Below.size BW.out) K5.out.size)) _ _ _ _)
end Go.Proofs.YticlacjpgjkhcaaGreatDoor

/- Commands of hashes: HMGET. -/
namespace Go.Proofs.YticlacjpgjkhcaaGreatDoor
open Go.ChangeShapes Go.WideShapes Go.ChangeAt Go.RowKit

set_option maxRecDepth 100000 in
set_option maxHeartbeats 8000000 in
theorem cHMGET (bS bM : Nat) (D : List (ByteArray × List (ByteArray × ByteArray))) (now : Int) (NM k : ByteArray) (ns : List ByteArray) (hne : ns ≠ []) (hN1 : ns.length ≤ 1000) (hps : ∀ (i : Nat) (n : ByteArray), ns[i]? = some n → n.size ≤ 1000000) (F : List (ByteArray × ByteArray)) (hF : (findD k D).getD [] = F) (hfew : F.length ≤ 15) (w : World) : CmdD KF okF 80 bS bM D now (NM :: k :: ns) 6 0 ⟨#[]⟩ (RO (ns.map (fun n => findD n F))) [] w := by
  intro j vA hS hj hA
  show Calls Tryz.prog 80 #[.pointer (some ⟨j, 0, none⟩)] w _
  have hjw := lt_blk hj
  obtain ⟨blk, off, cap, rfl, hAR⟩ := AR.of hj hA (by simp)
  have HJ := Lib.hid hj
  have A1 := Lib.hid (alloc_old (w := w) (o := .cells #[.int .i64 0, .int .i64 0, .string ⟨#[]⟩, .slice none 0 0] 29))
  have hr := Lib.hid (heap_alloc_new w (.cells #[.int .i64 0, .int .i64 0, .string ⟨#[]⟩, .slice none 0 0] 29))
  have hl2 : ((NM :: k :: ns)).length = (ns.length + 2) := rfl
  rw [hl2] at HJ ⊢
  have hz : w.heap.size + 1 ≤ (w.alloc (.cells #[.int .i64 0, .int .i64 0, .string ⟨#[]⟩, .slice none 0 0] 29)).heap.size := by simp
  have HO := Lib.hid (fun X hX hc => hof_at bS bM j D now blk off cap ((NM :: k :: ns)) (ns.length + 2) hl2 (by omega) k rfl (.slice none 0 0) F hF hfew w hS HJ.out hAR X hX (w.heap.size + 1) hc)
  have CJ := Lib.hid (fun Y hY => (hAR.job Y hY).1)
  rw [hl2] at CJ
  have CA := Lib.hid (fun Y hY i s hs => hAR.arg Y hY i s hs)
  have hcap := hAR.len
  rw [hl2] at hcap
  have hcap2 := hAR.cap
  have HPN := Lib.hid (show (∀ (i : Nat) (n : ByteArray), ns[i]? = some n → n.size ≤ 1000000) from hps)
  have CP := Lib.hid (fun Y (hY : Below w.heap.size w Y) i (s : ByteArray) (hs : ns[i]? = some s) => CA.out Y hY (i + 2) s (by simpa using hs))
  obtain ⟨rs, hrs⟩ : ∃ rs, ns.map (fun n => findD n F) = rs := ⟨_, rfl⟩
  have HRS := Lib.hid (show ∀ (i : Nat) (n : ByteArray), ns[i]? = some n → rs[i]? = some (findD n F) from fun i n h => by rw [← hrs, List.getElem?_map, h]; rfl)
  have hrl : rs.length = ns.length := by rw [← hrs, List.length_map]
  obtain ⟨N, hN⟩ : ∃ N, ns.length = N := ⟨_, rfl⟩
  have hpos : 0 < N := by rw [← hN]; exact List.length_pos_iff.2 hne
  simp only [hN, hrs] at hN1 HJ CJ HO hcap hrl ⊢
  have HN := Lib.hid hN
  have HRL := Lib.hid hrl
  have hc2 : ¬ cap = 2 := by omega
  have ARRC := Lib.hid (fun A n c w => ARR A n c w)
  clear hS hj hA hAR hF hps hN CA hl2 hrl hrs
  go_enter Tryz.func80, Tryz.ntmps80
  go_wp2_with (first | (go_at_call 132; (with_reducible refine (HO.out _ A1.out hz).mono ?_); rintro e w1 ⟨h, e3, e4, e5, e6, rfl, hH1, h1⟩; have H1 := Lib.hid hH1; have B1 := Lib.hid (A1.out.trans (h1.mono (Below.size A1.out))); have r1 := Lib.hid (blk_below hr.out h1); clear h1 hH1; refine Hid.out ?_))
  refine Lib.hid ?_
  have cj := CJ.out _ B1.out
  go_wp2
  go_loopw [4, 15] (fun lv iv wr => ∃ (i : Nat) (A : Option Addr) (C : Nat), i ≤ N ∧ lv = .slice A i C ∧ iv = .int .i64 i ∧ Hid (RO (rs.take i) w1.heap.size wr (.slice A i C) ∧ Below w1.heap.size w1 wr)) (fun _ iv _ => N - (intOf iv).toNat)
  case atStart => exact ⟨0, none, 0, Nat.zero_le _, rfl, rfl, Lib.hid ⟨World.ownsRow_nil _ _ _ _, Below.refl _ _⟩⟩
  case round =>
    obtain ⟨i, A, C, hi, rfl, rfl, HQ⟩ := hrel
    have BW := Lib.hid (B1.out.trans (HQ.out.2.mono (Below.size B1.out)))
    have cj := CJ.out _ BW.out
    by_cases hlt : i < N
    · obtain ⟨nm, hp⟩ : ∃ nm, ns[i]? = some nm := ⟨_, List.getElem?_eq_getElem (by rw [HN.out]; exact hlt)⟩
      have ca := CP.out _ BW.out i nm hp
      rw [show off + (i + 2) = off + 2 + i by omega] at ca
      have i0 : (i : Int) < (N : Int) := by omega
      have BK := hbulk_any (w.heap.size + 1) h _ _ _ e3 e4 e5 e6 _ _ F F.length (by omega) nm (HPN.out i nm hp) wr (H1.out.below HQ.out.2)
      have hri := HRS.out i nm hp
      have HTL := Lib.hid (show (rs.take i).length = i by rw [List.length_take, HRL.out]; omega)
      have HTK := Lib.hid (take_at rs i _ hri)
      clear hp hri
      cases hf : findD nm F with
      | none =>
        rw [hf] at BK HTK
        simp only [optR] at BK
        have BK := Lib.hid BK
        clear hf
        go_wp2_with (first | (go_at_call 136; (with_reducible refine (BK.out).mono ?_); rintro e w5 ⟨rfl, h5⟩; have D5 := Lib.hid (show Below wr.heap.size wr (w5.alloc (.cells #[.int .i64 5, .int .i64 0, .string ⟨#[]⟩, .slice none 0 0] 29)) from h5.trans (alloc_old.mono (Below.size h5))); have b5 := Lib.hid (heap_alloc_new w5 (.cells #[.int .i64 5, .int .i64 0, .string ⟨#[]⟩, .slice none 0 0] 29)); have R5 := Lib.hid (row_below HQ.out.1 D5.out); have z5 := Lib.hid (Nat.le_trans (Below.size HQ.out.2) (Below.size D5.out)); clear h5) | (at_builtin; refine append_RO _ rfl _ _ rfl w1.heap.size _ (rs.take i) i HTL.out rfl R5.out (none) _ rfl b5.out (by omega) z5.out ?_; intro g C2 w6 hR6 hB6))
        exact ⟨⟨i + 1, _, C2, by omega, rfl, by go_num, Lib.hid ⟨by rw [HTK.out]; exact hR6, (HQ.out.2.trans (D5.out.mono (Below.size HQ.out.2))).trans hB6⟩⟩, by simp [intOf]; omega⟩
      | some t =>
        rw [hf] at BK HTK
        simp only [optR] at BK
        have BK := Lib.hid BK
        clear hf
        go_wp2_with (first | (go_at_call 136; (with_reducible refine (BK.out).mono ?_); rintro e w5 ⟨rfl, h5⟩; have D5 := Lib.hid (show Below wr.heap.size wr (w5.alloc (.cells #[.int .i64 4, .int .i64 0, .string t, .slice none 0 0] 29)) from h5.trans (alloc_old.mono (Below.size h5))); have b5 := Lib.hid (heap_alloc_new w5 (.cells #[.int .i64 4, .int .i64 0, .string t, .slice none 0 0] 29)); have R5 := Lib.hid (row_below HQ.out.1 D5.out); have z5 := Lib.hid (Nat.le_trans (Below.size HQ.out.2) (Below.size D5.out)); clear h5) | (at_builtin; refine append_RO _ rfl _ _ rfl w1.heap.size _ (rs.take i) i HTL.out rfl R5.out (some t) _ rfl b5.out (by omega) z5.out ?_; intro g C2 w6 hR6 hB6))
        exact ⟨⟨i + 1, _, C2, by omega, rfl, by go_num, Lib.hid ⟨by rw [HTK.out]; exact hR6, (HQ.out.2.trans (D5.out.mono (Below.size HQ.out.2))).trans hB6⟩⟩, by simp [intOf]; omega⟩
    · obtain rfl : i = N := by omega
      have i0 : ¬ (i : Int) < (i : Int) := by omega
      have hR := HQ.out.1
      rw [List.take_of_length_le (by rw [HRL.out]; exact Nat.le_refl _)] at hR
      have RE := Lib.hid (blk_below r1.out HQ.out.2)
      have HR := Lib.hid hR
      have hs1 := lt_blk r1.out
      have h3 := Below.size B1.out
      clear hR HQ
      go_wp2_with (first | (go_at_call 127; (with_reducible refine (ARRC.out _ _ _ _).mono ?_); rintro e w7 ⟨rfl, h7⟩; have H7 := Lib.hid (row_below HR.out h7); have B7 := Lib.hid (BW.out.trans (h7.mono (Below.size BW.out))); obtain ⟨⟨c0, c1, c2, c3⟩, ⟨f0, f1, f2, f3⟩⟩ := cells4 (blk_below RE.out h7); clear h7))
      have BF : Below w.heap.size w ((((w7.setCell ⟨w.heap.size, 0, none⟩ (.int .i64 6)).setCell ⟨w.heap.size, 1, none⟩ (.int .i64 0)).setCell ⟨w.heap.size, 2, none⟩ (.string ⟨#[]⟩)).setCell ⟨w.heap.size, 3, none⟩ (.slice A i C)) := ((((B7.out.setCell (Nat.le_refl _) _).setCell (Nat.le_refl _) _).setCell (Nat.le_refl _) _).setCell (Nat.le_refl _) _)
      refine bodyPost_ret (v := .agg #[.int .i64 6, .int .i64 0, .string ⟨#[]⟩, .slice A i C]) (by simp [results, Tryz.results80, go_sem, c0, c1, c2, c3]) rfl ⟨A, i, C, rfl, row_mono (row_kept H7.out (fun g hg => far4 _ _ _ _ (fun e => ?_))) h3, ⟨_, JD.nil KF _ (HJ.out.below BF)⟩, .of BF⟩
      have h1 := (row_own H7.out g hg).1
      omega
end Go.Proofs.YticlacjpgjkhcaaGreatDoor
