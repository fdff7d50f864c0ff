/- Texts joined: C9, H6, CmdT, St7, St11 -/
import Derived.Test.YticlacjpgjkhcaaGreatDoorQh27
import Derived.Test.YticlacjpgjkhcaaGreatDoorQh24
import Derived.Test.YticlacjpgjkhcaaGreatDoorQh23
import Derived.KernelRfl
import GoSem.Core.World
import Derived.Test.YticlacjpgjkhcaaGreatDoorQh1
import Derived.Deep.Cut
import Derived.Test.YticlacjpgjkhcaaGreatDoorQh4

/- Commands of hashes: HINCRBY. -/
namespace Go.Proofs.YticlacjpgjkhcaaGreatDoor
open Go.ChangeShapes Go.WideShapes Go.ChangeAt Go.RowKit

theorem putsD_ne1 (k t : ByteArray) (F : List (ByteArray × ByteArray)) : putD k t F ≠ [] := by
  cases F with
  | nil => simp [putD]
  | cons q s => unfold putD; split <;> simp
set_option maxRecDepth 100000 in
set_option maxHeartbeats 8000000 in
theorem cHINCRBY0 (bS bM : Nat) (D : List (ByteArray × List (ByteArray × ByteArray))) (now : Int) (NM k : ByteArray) (nm b : ByteArray) (hnm : nm.size ≤ 1000000) (x : Int) (hb : b.size ≤ 100000) (hpb : parseI b.data.toList = some x) (hx : I64 x) (hr0 : rng (0 + x) = true) (W0 : World) (hT : Tab W0)  (F : List (ByteArray × ByteArray)) (hF : (findD k D).getD [] = F) (hfn : findD nm F = none) (hok : okF k (srtF (putD nm (numT (0 + x)) F))) (hsz : ∀ n ∈ namesD (putD nm (numT (0 + x)) F), n.size ≤ 1000000) (hfew : F.length ≤ 15) (w : World) (hI : Below W0.heap.size W0 w) : CmdD KF okF 89 bS bM D now [NM, k, nm, b] 3 (0 + x) ⟨#[]⟩ R0 (dEff k (some (srtF (putD nm (numT (0 + x)) F))) D) w := by
  intro j vA hS hj hA
  show Calls Tryz.prog 89 #[.pointer (some ⟨j, 0, none⟩)] w _
  have hjw := lt_blk hj
  obtain ⟨blk, off, cap, rfl, hAR⟩ := AR.of hj hA (by simp)
  have HJ := Lib.hid hj
  have A1 := Lib.hid (alloc_old (w := w) (o := .cells #[.int .i64 0, .int .i64 0, .string ⟨#[]⟩, .slice none 0 0] 29))
  have hr := Lib.hid (heap_alloc_new w (.cells #[.int .i64 0, .int .i64 0, .string ⟨#[]⟩, .slice none 0 0] 29))
  have hl2 : ([NM, k, nm, b]).length = 4 := rfl
  rw [hl2] at HJ ⊢
  have hz : w.heap.size + 1 ≤ (w.alloc (.cells #[.int .i64 0, .int .i64 0, .string ⟨#[]⟩, .slice none 0 0] 29)).heap.size := by simp
  have HO := Lib.hid (fun X hX hc => hof_at bS bM j D now blk off cap ([NM, k, nm, b]) 4 hl2 (by omega) k rfl (.slice none 0 0) F hF hfew w hS HJ.out hAR X hX (w.heap.size + 1) hc)
  have CJ := Lib.hid (fun Y hY => (hAR.job Y hY).1)
  rw [hl2] at CJ
  have CA := Lib.hid (fun Y hY i s hs => hAR.arg Y hY i s hs)
  have hcap := hAR.len
  rw [hl2] at hcap
  have hcap2 := hAR.cap
  have JI := Lib.hid (fun Y (hY : Below w.heap.size w Y) => JIn 3 j bS now (.slice (some ⟨blk, off, none⟩) 4 cap) (.slice none 0 0) [NM, k, nm, b] 3 rfl b x hb hpb rfl Y (HJ.out.below hY) (hA.below hY))
  have HS := Lib.hid hS
  have hI2 := Lib.hid hI
  have hr2 : I64 (0 + x) := rng_of hr0
  have AD := Lib.hid (fun X => AddY 0 x ⟨by decide, by decide⟩ hx hr0 X)
  have PR := Lib.hid (fun X (hX : Below w.heap.size w X) => Print79 hT (0 + x) hr2 X (hI.trans (hX.mono (Below.size hI))))
  have OK := Lib.hid (show (putD nm (numT (0 + x)) F ≠ [] → okF k (srtF (putD nm (numT (0 + x)) F))) ∧ (∀ n ∈ namesD (putD nm (numT (0 + x)) F), n.size ≤ 1000000) from ⟨fun _ => hok, hsz⟩)
  have XO : xoF (putD nm (numT (0 + x)) F) = some (srtF (putD nm (numT (0 + x)) F)) := if_neg (putsD_ne1 nm _ F)
  have BK := fun h e3 e4 e5 e6 X (hX : HH (w.heap.size + 1) X h (.string k) (.int .i64 3) (.string ⟨#[]⟩) e3 e4 e5 e6 (.int .i64 0) (.bool (findD k D).isSome) F F.length) => hget_any (w.heap.size + 1) h _ _ _ e3 e4 e5 e6 _ _ F F.length (by omega) nm hnm X hX
  simp only [hfn] at BK
  have BK := Lib.hid BK
  have HSt := Lib.hid (fun h e3 e4 e5 e6 X (hX : HH (w.heap.size + 1) X h (.string k) (.int .i64 3) (.string ⟨#[]⟩) e3 e4 e5 e6 (.int .i64 0) (.bool (findD k D).isSome) F F.length) => hset_any (w.heap.size + 1) h _ _ _ e3 e4 e5 e6 _ _ F (by omega) F.length (by omega) nm (numT (0 + x)) hnm X hX)
  obtain ⟨M, hM⟩ : ∃ M, 0 + x = M := ⟨_, rfl⟩
  obtain ⟨NT, hNT⟩ : ∃ NT, numT M = NT := ⟨_, rfl⟩
  obtain ⟨G, hG⟩ : ∃ G, putD nm NT F = G := ⟨_, rfl⟩
  simp only [hM, hNT, hG] at OK XO AD PR HSt ⊢
  have SX := Lib.hid (show ∀ X, Below w.heap.size w X → (X.cell? ⟨j, 2, none⟩ = some (.slice (some ⟨blk, off, none⟩) 4 cap) ∧ X.cell? ⟨blk, off + 2, none⟩ = some (.string nm)) from fun Y hY => ⟨CJ.out Y hY, CA.out Y hY 2 nm rfl⟩)
  have hMw : wrap64 M = M := by rw [← hM]; unfold wrap64; have := hr2.1; have := hr2.2; omega
  clear hS hj hA hAR hF hfn hok hsz hpb hx hr0 hr2 hM hNT hG hI hT CA CJ hb
  go_enter Tryz.func89, Tryz.ntmps89
  go_wp2_with (first | (go_at_call 132; (with_reducible refine (HO.out _ A1.out hz).mono ?_); rintro e w1 ⟨h, e3, e4, e5, e6, rfl, hH1, h1⟩; have H1 := Lib.hid hH1; have B1 := Lib.hid (A1.out.trans (h1.mono (Below.size A1.out))); have r1 := Lib.hid (blk_below hr.out h1); clear h1 hH1; refine Hid.out ?_))
  refine Lib.hid ?_
  have J1 := Lib.hid (JI.out _ B1.out)
  go_wp2_with (first | (go_at_call 110; (with_reducible refine (J1.out).mono ?_); rintro e w2 ⟨rfl, h1⟩; have B2 := Lib.hid (B1.out.trans (h1.mono (Below.size B1.out))); have r2 := Lib.hid (blk_below r1.out h1); have H2 := Lib.hid (H1.out.below h1); clear h1; refine Hid.out ?_))
  refine Lib.hid ?_
  have cj := (SX.out _ B2.out).1
  have ca := (SX.out _ B2.out).2
  have K2 := Lib.hid (BK.out h e3 e4 e5 e6 w2 H2.out)
  go_wp2_with (first | (go_at_call 135; (with_reducible refine (K2.out).mono ?_); rintro e w3 ⟨rfl, h1⟩; have B3 := Lib.hid (B2.out.trans (h1.mono (Below.size B2.out))); have r3 := Lib.hid (blk_below r2.out h1); have H3 := Lib.hid (H2.out.below h1); clear h1; refine Hid.out ?_))
  refine Lib.hid ?_
  go_wp2_with (first | (go_at_call 118; (with_reducible refine (AD.out _).mono ?_); rintro e w5 ⟨rfl, h1⟩; have B5 := Lib.hid (B3.out.trans (h1.mono (Below.size B3.out))); have r5 := Lib.hid (blk_below r3.out h1); have H5 := Lib.hid (H3.out.below h1); clear h1; refine Hid.out ?_))
  refine Lib.hid ?_
  have S0 := SX.out _ B5.out.drew
  have P0 := Lib.hid (PR.out w5.drew B5.out.drew)
  have H5d := Lib.hid (H5.out.below (Below.refl w5.heap.size w5).drew)
  have hc5 := Lib.hid (show w.heap.size + 1 ≤ w5.heap.size from lt_blk r5.out)
  clear cj ca
  go_wp2
  go_region_held3 (fun X => X.cell? ⟨j, 2, none⟩ = some (.slice (some ⟨blk, off, none⟩) 4 cap) ∧ X.cell? ⟨blk, off + 2, none⟩ = some (.string nm)) (first | (with_reducible exact S0) | (with_reducible exact S1.out) | (with_reducible exact S2.out))
    (first | (go_at_call 120; (with_reducible refine (P0.out).mono ?_); rintro e w6 ⟨rfl, h1⟩; have D6 := Lib.hid (show Below w5.heap.size w5 w6 from (Below.refl w5.heap.size w5).drew.trans h1); have S1 := Lib.hid (SX.out _ (B5.out.trans (D6.out.mono (Below.size B5.out)))); have HS6 := Lib.hid (HSt.out h e3 e4 e5 e6 w6 (H5d.out.below h1)); clear h1) | (go_at_call 133; (with_reducible refine (HS6.out).mono ?_); rintro e wr ⟨rfl, h4, h5, h6⟩; have H7 := Lib.hid h4; have D7 := Lib.hid ((D6.out.mono hc5.out).trans h5); have S2 := Lib.hid (SX.out _ (B5.out.trans (D7.out.mono (Nat.le_succ _)))); clear h4 h5 h6))
  clear S0 S1 S2 SX
  have BW := Lib.hid (B5.out.trans (D7.out.mono (Nat.le_succ _)))
  have RE := Lib.hid ((D7.out.block w.heap.size (Nat.lt_succ_self _)).trans r5.out)
  have TU := hturn_any bS bM j D k now (.slice (some ⟨blk, off, none⟩) 4 cap) w.heap.size (w.heap.size + 1) h e3 e4 e5 e6 _ G (F.length + 1) (by omega) OK.out.1 OK.out.2 (Nat.le_succ _) wr (fun X hX => SPG.below KF okF HS.out (BW.out.trans (hX.mono (Nat.le_succ _)))) (fun X hX => HJ.out.below (BW.out.trans (hX.mono (Nat.le_succ _)))) H7.out
  rw [XO] at TU
  have TU := Lib.hid TU
  have w9 : wrap64 M = M := hMw
  go_wp2_with (first | (go_at_call 134; (with_reducible refine (TU.out).mono ?_); rintro e w9 ⟨rfl, ⟨vl5, hJ5⟩, hK5⟩; have J5 := Lib.hid hJ5; have K5 := Lib.hid hK5; have r9 := Lib.hid ((hK5.block w.heap.size (Nat.lt_succ_self _) (by omega)).trans RE.out); clear hJ5 hK5; obtain ⟨⟨c0, c1, c2, c3⟩, ⟨f0, f1, f2, f3⟩⟩ := cells4 r9.out))
  exact bodyPost_ret (v := .agg #[.int .i64 3, .int .i64 M, .string ⟨#[]⟩, .slice none 0 0]) (by simp [results, Tryz.results89, go_sem, c0, c1, c2, c3]) rfl (endT KF hjw J5.out r9.out ((Kp.of BW.out).trans (K5.out.mono (Nat.le_succ _) (fun _ h => h))) _ _ _ _)
set_option maxRecDepth 100000 in
set_option maxHeartbeats 8000000 in
theorem cHINCRBY1 (bS bM : Nat) (D : List (ByteArray × List (ByteArray × ByteArray))) (now : Int) (NM k : ByteArray) (nm b : ByteArray) (hnm : nm.size ≤ 1000000) (x : Int) (hb : b.size ≤ 100000) (hpb : parseI b.data.toList = some x) (hx : I64 x) (t : ByteArray) (y : Int) (ht : t.size ≤ 100000) (hpt : parseI t.data.toList = some y) (hy : I64 y) (hr0 : rng (y + x) = true) (W0 : World) (hT : Tab W0)  (F : List (ByteArray × ByteArray)) (hF : (findD k D).getD [] = F) (hfn : findD nm F = some t) (hok : okF k (srtF (putD nm (numT (y + x)) F))) (hsz : ∀ n ∈ namesD (putD nm (numT (y + x)) F), n.size ≤ 1000000) (hfew : F.length ≤ 15) (w : World) (hI : Below W0.heap.size W0 w) : CmdD KF okF 89 bS bM D now [NM, k, nm, b] 3 (y + x) ⟨#[]⟩ R0 (dEff k (some (srtF (putD nm (numT (y + x)) F))) D) w := by
  intro j vA hS hj hA
  show Calls Tryz.prog 89 #[.pointer (some ⟨j, 0, none⟩)] w _
  have hjw := lt_blk hj
  obtain ⟨blk, off, cap, rfl, hAR⟩ := AR.of hj hA (by simp)
  have HJ := Lib.hid hj
  have A1 := Lib.hid (alloc_old (w := w) (o := .cells #[.int .i64 0, .int .i64 0, .string ⟨#[]⟩, .slice none 0 0] 29))
  have hr := Lib.hid (heap_alloc_new w (.cells #[.int .i64 0, .int .i64 0, .string ⟨#[]⟩, .slice none 0 0] 29))
  have hl2 : ([NM, k, nm, b]).length = 4 := rfl
  rw [hl2] at HJ ⊢
  have hz : w.heap.size + 1 ≤ (w.alloc (.cells #[.int .i64 0, .int .i64 0, .string ⟨#[]⟩, .slice none 0 0] 29)).heap.size := by simp
  have HO := Lib.hid (fun X hX hc => hof_at bS bM j D now blk off cap ([NM, k, nm, b]) 4 hl2 (by omega) k rfl (.slice none 0 0) F hF hfew w hS HJ.out hAR X hX (w.heap.size + 1) hc)
  have CJ := Lib.hid (fun Y hY => (hAR.job Y hY).1)
  rw [hl2] at CJ
  have CA := Lib.hid (fun Y hY i s hs => hAR.arg Y hY i s hs)
  have hcap := hAR.len
  rw [hl2] at hcap
  have hcap2 := hAR.cap
  have JI := Lib.hid (fun Y (hY : Below w.heap.size w Y) => JIn 3 j bS now (.slice (some ⟨blk, off, none⟩) 4 cap) (.slice none 0 0) [NM, k, nm, b] 3 rfl b x hb hpb rfl Y (HJ.out.below hY) (hA.below hY))
  have HS := Lib.hid hS
  have hI2 := Lib.hid hI
  have hr2 : I64 (y + x) := rng_of hr0
  have AD := Lib.hid (fun X => AddY y x hy hx hr0 X)
  have PR := Lib.hid (fun X (hX : Below w.heap.size w X) => Print79 hT (y + x) hr2 X (hI.trans (hX.mono (Below.size hI))))
  have PA := Lib.hid (fun X => ParseY t y ht hpt X)
  have OK := Lib.hid (show (putD nm (numT (y + x)) F ≠ [] → okF k (srtF (putD nm (numT (y + x)) F))) ∧ (∀ n ∈ namesD (putD nm (numT (y + x)) F), n.size ≤ 1000000) from ⟨fun _ => hok, hsz⟩)
  have XO : xoF (putD nm (numT (y + x)) F) = some (srtF (putD nm (numT (y + x)) F)) := if_neg (putsD_ne1 nm _ F)
  have BK := fun h e3 e4 e5 e6 X (hX : HH (w.heap.size + 1) X h (.string k) (.int .i64 3) (.string ⟨#[]⟩) e3 e4 e5 e6 (.int .i64 0) (.bool (findD k D).isSome) F F.length) => hget_any (w.heap.size + 1) h _ _ _ e3 e4 e5 e6 _ _ F F.length (by omega) nm hnm X hX
  simp only [hfn] at BK
  have BK := Lib.hid BK
  have HSt := Lib.hid (fun h e3 e4 e5 e6 X (hX : HH (w.heap.size + 1) X h (.string k) (.int .i64 3) (.string ⟨#[]⟩) e3 e4 e5 e6 (.int .i64 0) (.bool (findD k D).isSome) F F.length) => hset_any (w.heap.size + 1) h _ _ _ e3 e4 e5 e6 _ _ F (by omega) F.length (by omega) nm (numT (y + x)) hnm X hX)
  obtain ⟨M, hM⟩ : ∃ M, y + x = M := ⟨_, rfl⟩
  obtain ⟨NT, hNT⟩ : ∃ NT, numT M = NT := ⟨_, rfl⟩
  obtain ⟨G, hG⟩ : ∃ G, putD nm NT F = G := ⟨_, rfl⟩
  simp only [hM, hNT, hG] at OK XO AD PR HSt ⊢
  have SX := Lib.hid (show ∀ X, Below w.heap.size w X → (X.cell? ⟨j, 2, none⟩ = some (.slice (some ⟨blk, off, none⟩) 4 cap) ∧ X.cell? ⟨blk, off + 2, none⟩ = some (.string nm)) from fun Y hY => ⟨CJ.out Y hY, CA.out Y hY 2 nm rfl⟩)
  have hMw : wrap64 M = M := by rw [← hM]; unfold wrap64; have := hr2.1; have := hr2.2; omega
  clear hS hj hA hAR hF hfn hok hsz hpb hx hr0 hr2 hM hNT hG hI hT CA CJ hb ht hpt hy
  go_enter Tryz.func89, Tryz.ntmps89
  go_wp2_with (first | (go_at_call 132; (with_reducible refine (HO.out _ A1.out hz).mono ?_); rintro e w1 ⟨h, e3, e4, e5, e6, rfl, hH1, h1⟩; have H1 := Lib.hid hH1; have B1 := Lib.hid (A1.out.trans (h1.mono (Below.size A1.out))); have r1 := Lib.hid (blk_below hr.out h1); clear h1 hH1; refine Hid.out ?_))
  refine Lib.hid ?_
  have J1 := Lib.hid (JI.out _ B1.out)
  go_wp2_with (first | (go_at_call 110; (with_reducible refine (J1.out).mono ?_); rintro e w2 ⟨rfl, h1⟩; have B2 := Lib.hid (B1.out.trans (h1.mono (Below.size B1.out))); have r2 := Lib.hid (blk_below r1.out h1); have H2 := Lib.hid (H1.out.below h1); clear h1; refine Hid.out ?_))
  refine Lib.hid ?_
  have cj := (SX.out _ B2.out).1
  have ca := (SX.out _ B2.out).2
  have K2 := Lib.hid (BK.out h e3 e4 e5 e6 w2 H2.out)
  go_wp2_with (first | (go_at_call 135; (with_reducible refine (K2.out).mono ?_); rintro e w3 ⟨rfl, h1⟩; have B3 := Lib.hid (B2.out.trans (h1.mono (Below.size B2.out))); have r3 := Lib.hid (blk_below r2.out h1); have H3 := Lib.hid (H2.out.below h1); clear h1; refine Hid.out ?_))
  refine Lib.hid ?_
  go_wp2_with (first | (go_at_call 141; (with_reducible refine (PA.out _).mono ?_); rintro e w4 ⟨rfl, h1⟩; have B4 := Lib.hid (B3.out.trans (h1.mono (Below.size B3.out))); have r4 := Lib.hid (blk_below r3.out h1); have H4 := Lib.hid (H3.out.below h1); clear h1; refine Hid.out ?_))
  refine Lib.hid ?_
  go_wp2_with (first | (go_at_call 118; (with_reducible refine (AD.out _).mono ?_); rintro e w5 ⟨rfl, h1⟩; have B5 := Lib.hid (B4.out.trans (h1.mono (Below.size B4.out))); have r5 := Lib.hid (blk_below r4.out h1); have H5 := Lib.hid (H4.out.below h1); clear h1; refine Hid.out ?_))
  refine Lib.hid ?_
  have S0 := SX.out _ B5.out.drew
  have P0 := Lib.hid (PR.out w5.drew B5.out.drew)
  have H5d := Lib.hid (H5.out.below (Below.refl w5.heap.size w5).drew)
  have hc5 := Lib.hid (show w.heap.size + 1 ≤ w5.heap.size from lt_blk r5.out)
  clear cj ca
  go_wp2
  go_region_held3 (fun X => X.cell? ⟨j, 2, none⟩ = some (.slice (some ⟨blk, off, none⟩) 4 cap) ∧ X.cell? ⟨blk, off + 2, none⟩ = some (.string nm)) (first | (with_reducible exact S0) | (with_reducible exact S1.out) | (with_reducible exact S2.out))
    (first | (go_at_call 120; (with_reducible refine (P0.out).mono ?_); rintro e w6 ⟨rfl, h1⟩; have D6 := Lib.hid (show Below w5.heap.size w5 w6 from (Below.refl w5.heap.size w5).drew.trans h1); have S1 := Lib.hid (SX.out _ (B5.out.trans (D6.out.mono (Below.size B5.out)))); have HS6 := Lib.hid (HSt.out h e3 e4 e5 e6 w6 (H5d.out.below h1)); clear h1) | (go_at_call 133; (with_reducible refine (HS6.out).mono ?_); rintro e wr ⟨rfl, h4, h5, h6⟩; have H7 := Lib.hid h4; have D7 := Lib.hid ((D6.out.mono hc5.out).trans h5); have S2 := Lib.hid (SX.out _ (B5.out.trans (D7.out.mono (Nat.le_succ _)))); clear h4 h5 h6))
  clear S0 S1 S2 SX
  have BW := Lib.hid (B5.out.trans (D7.out.mono (Nat.le_succ _)))
  have RE := Lib.hid ((D7.out.block w.heap.size (Nat.lt_succ_self _)).trans r5.out)
  have TU := hturn_any bS bM j D k now (.slice (some ⟨blk, off, none⟩) 4 cap) w.heap.size (w.heap.size + 1) h e3 e4 e5 e6 _ G (F.length + 1) (by omega) OK.out.1 OK.out.2 (Nat.le_succ _) wr (fun X hX => SPG.below KF okF HS.out (BW.out.trans (hX.mono (Nat.le_succ _)))) (fun X hX => HJ.out.below (BW.out.trans (hX.mono (Nat.le_succ _)))) H7.out
  rw [XO] at TU
  have TU := Lib.hid TU
  have w9 : wrap64 M = M := hMw
  go_wp2_with (first | (go_at_call 134; (with_reducible refine (TU.out).mono ?_); rintro e w9 ⟨rfl, ⟨vl5, hJ5⟩, hK5⟩; have J5 := Lib.hid hJ5; have K5 := Lib.hid hK5; have r9 := Lib.hid ((hK5.block w.heap.size (Nat.lt_succ_self _) (by omega)).trans RE.out); clear hJ5 hK5; obtain ⟨⟨c0, c1, c2, c3⟩, ⟨f0, f1, f2, f3⟩⟩ := cells4 r9.out))
  exact bodyPost_ret (v := .agg #[.int .i64 3, .int .i64 M, .string ⟨#[]⟩, .slice none 0 0]) (by simp [results, Tryz.results89, go_sem, c0, c1, c2, c3]) rfl (endT KF hjw J5.out r9.out ((Kp.of BW.out).trans (K5.out.mono (Nat.le_succ _) (fun _ h => h))) _ _ _ _)
set_option maxRecDepth 100000 in
set_option maxHeartbeats 8000000 in
theorem fHINCRBY (w0 : World) (bS bM : Nat) (D : List (ByteArray × List (ByteArray × ByteArray))) (l0 : MapT.Ents) (now : Int) (NM k nm b : ByteArray) (hnm : nm.size ≤ 1000000) (x : Int) (hb : b.size ≤ 100000) (hpb : parseI b.data.toList = some x) (t : ByteArray) (ht : t.size ≤ 100000) (hpt : parseI t.data.toList = none) (F : List (ByteArray × ByteArray)) (hF : (findD k D).getD [] = F) (hfn : findD nm F = some t) (hfew : F.length ≤ 15) (hS0 : SPG KF okF w0 bS bM D) : CmdFail w0 89 bS bM l0 now [NM, k, nm, b] 4 := by
  intro w j vA hB0 _ hj hA
  have hS := SPG.below KF okF hS0 hB0
  obtain ⟨blk, off, cap, rfl, hAR⟩ := AR.of hj hA (by simp)
  have HJ := Lib.hid hj
  have A1 := Lib.hid (alloc_old (w := w) (o := .cells #[.int .i64 0, .int .i64 0, .string ⟨#[]⟩, .slice none 0 0] 29))
  have hr := Lib.hid (heap_alloc_new w (.cells #[.int .i64 0, .int .i64 0, .string ⟨#[]⟩, .slice none 0 0] 29))
  have hl2 : ([NM, k, nm, b]).length = 4 := rfl
  rw [hl2] at HJ
  have hz : w.heap.size + 1 ≤ (w.alloc (.cells #[.int .i64 0, .int .i64 0, .string ⟨#[]⟩, .slice none 0 0] 29)).heap.size := by simp
  have HO := Lib.hid (fun X hX hc => hof_at bS bM j D now blk off cap [NM, k, nm, b] 4 hl2 (by omega) k rfl (.slice none 0 0) F hF hfew w hS HJ.out hAR X hX (w.heap.size + 1) hc)
  have SX := Lib.hid (show ∀ X, Below w.heap.size w X → (X.cell? ⟨j, 2, none⟩ = some (.slice (some ⟨blk, off, none⟩) 4 cap) ∧ X.cell? ⟨blk, off + 2, none⟩ = some (.string nm)) from fun Y hY => ⟨by have := (hAR.job Y hY).1; rw [hl2] at this; exact this, hAR.arg Y hY 2 nm rfl⟩)
  have JI := Lib.hid (fun Y (hY : Below w.heap.size w Y) => JIn 3 j bS now (.slice (some ⟨blk, off, none⟩) 4 cap) (.slice none 0 0) [NM, k, nm, b] 3 rfl b x hb hpb rfl Y (HJ.out.below hY) (hA.below hY))
  have PA := Lib.hid (fun X => ParseN t ht hpt X)
  have BK := fun h e3 e4 e5 e6 X (hX : HH (w.heap.size + 1) X h (.string k) (.int .i64 3) (.string ⟨#[]⟩) e3 e4 e5 e6 (.int .i64 0) (.bool (findD k D).isSome) F F.length) => hget_any (w.heap.size + 1) h _ _ _ e3 e4 e5 e6 _ _ F F.length (by omega) nm hnm X hX
  simp only [hfn] at BK
  have BK := Lib.hid BK
  have FL := Lib.hid (fun X => Fail69 4 X)
  have hcap := hAR.len
  rw [hl2] at hcap
  have hcap2 := hAR.cap
  clear hS hj hA hAR hF hfn hpb hpt hS0 hb ht
  go_enter Tryz.func89, Tryz.ntmps89
  go_wp2_with (first | (go_at_call 132; (with_reducible refine (HO.out _ A1.out hz).mono ?_); rintro e w1 ⟨h, e3, e4, e5, e6, rfl, hH1, h1⟩; have H1 := Lib.hid hH1; have B1 := Lib.hid (A1.out.trans (h1.mono (Below.size A1.out))); have r1 := Lib.hid (blk_below hr.out h1); clear h1 hH1; refine Hid.out ?_))
  refine Lib.hid ?_
  have J1 := Lib.hid (JI.out _ B1.out)
  go_wp2_with (first | (go_at_call 110; (with_reducible refine (J1.out).mono ?_); rintro e w2 ⟨rfl, h1⟩; have B2 := Lib.hid (B1.out.trans (h1.mono (Below.size B1.out))); have H2 := Lib.hid (H1.out.below h1); clear h1; refine Hid.out ?_))
  refine Lib.hid ?_
  have cj := (SX.out _ B2.out).1
  have ca := (SX.out _ B2.out).2
  have K2 := Lib.hid (BK.out h e3 e4 e5 e6 w2 H2.out)
  go_wp2_with (first | (go_at_call 135; (with_reducible refine (K2.out).mono ?_); rintro e w3 ⟨rfl, h1⟩; have B3 := Lib.hid (B2.out.trans (h1.mono (Below.size B2.out))); clear h1) | (go_at_call 141; (with_reducible refine (PA.out _).mono ?_); rintro e w4 ⟨rfl, h1⟩; have B4 := Lib.hid (B3.out.trans (h1.mono (Below.size B3.out))); clear h1) | (go_at_call 108; (with_reducible refine (FL.out _).mono ?_); rintro e w5 ⟨rfl, h1⟩; have B5 := Lib.hid (B4.out.trans (h1.mono (Below.size B4.out))); clear h1))
  exact ⟨rfl, rfl, .of B5.out⟩
end Go.Proofs.YticlacjpgjkhcaaGreatDoor

/- Fields that may be; a space of one hash, plain. -/
namespace Go.Proofs.YticlacjpgjkhcaaGreatDoor
open Go.ChangeShapes Go.WideShapes Go.ChangeAt Go.RowKit

theorem srt_strict {D : List (ByteArray × ByteArray)} (h : (namesD D).Nodup) (i : Nat) (p q : ByteArray × ByteArray) (hp : (srtF D)[i]? = some p) (hq : (srtF D)[i + 1]? = some q) : bl p.1 < bl q.1 := by
  have hr := rises_srtF D
  have hn := nd_srtF h
  have e1 : (namesD (srtF D))[i]? = some p.1 := by unfold namesD; rw [List.getElem?_map, hp]; rfl
  have e2 : (namesD (srtF D))[i + 1]? = some q.1 := by unfold namesD; rw [List.getElem?_map, hq]; rfl
  obtain ⟨l1, e1⟩ := List.getElem?_eq_some_iff.1 e1
  obtain ⟨l2, e2⟩ := List.getElem?_eq_some_iff.1 e2
  have h1 := List.pairwise_iff_getElem.1 hr i (i + 1) l1 l2 (by omega)
  have h2 := List.pairwise_iff_getElem.1 hn i (i + 1) l1 l2 (by omega)
  rw [e1, e2] at h1 h2
  refine Decidable.byContradiction fun hlt => h2 (leN_anti h1 ?_)
  exact decide_eq_true hlt
theorem mem_srtF {D : List (ByteArray × ByteArray)} {p : ByteArray × ByteArray} (h : p ∈ srtF D) : p ∈ D := by
  obtain ⟨n, hn, rfl⟩ := List.mem_map.1 h
  have := mem_names.1 ((srtN_mem _ _).1 hn)
  cases hf : findD n D with
  | none => rw [hf] at this; cases this
  | some v => exact findD_mem hf
theorem sumSz_mul (B : Nat) : ∀ l : List ByteArray, (∀ s ∈ l, s.size ≤ B) → sumSz l ≤ l.length * B
  | [], _ => by simp [sumSz]
  | s :: r, h => by
    have h1 := sumSz_mul B r fun t ht => h t (List.mem_cons_of_mem _ ht)
    have h2 := h s List.mem_cons_self
    have e : sumSz (s :: r) = s.size + sumSz r := by simp [sumSz]
    rw [e, List.length_cons, Nat.add_mul, Nat.one_mul]
    omega
theorem okF_of {k : ByteArray} {D : List (ByteArray × ByteArray)} (hk : 1 ≤ k.size ∧ k.size ≤ 512) (hne : D ≠ []) (hl : D.length ≤ 16) (hnd : (namesD D).Nodup) (hs : ∀ p ∈ D, p.1.size ≤ 4000 ∧ p.2.size ≤ 4000) : okF k (srtF D) := by
  have hm : ∀ s ∈ tF (srtF D), s.size ≤ 4000 := by
    intro s hs'
    obtain ⟨p, hp, h⟩ := List.mem_flatMap.1 hs'
    have := hs p (mem_srtF hp)
    simp at h
    rcases h with rfl | rfl
    · exact this.1
    · exact this.2
  have h1 := sumSz_mul 4000 (tF (srtF D)) hm
  rw [tF_len, len_srtF] at h1
  refine ⟨hk.1, hk.2, fun e => ?_, by rw [len_srtF]; omega, fun s hs => Nat.le_trans (hm s hs) (by decide), by rw [len_srtF]; omega, srt_strict hnd⟩
  have := len_srtF D
  rw [e] at this
  exact hne (List.length_eq_zero_iff.1 this.symm)
theorem findD_puts {F G : List (ByteArray × ByteArray)} (P : List (ByteArray × ByteArray)) (h : ∀ n, findD n F = findD n G) : ∀ n, findD n (putsD F P) = findD n (putsD G P) := by
  induction P generalizing F G with
  | nil => exact h
  | cons p r ih => exact ih fun n => by rw [findD_putD, findD_putD, h]
theorem nd_puts {F : List (ByteArray × ByteArray)} (P : List (ByteArray × ByteArray)) (h : (namesD F).Nodup) : (namesD (putsD F P)).Nodup := by
  induction P generalizing F with
  | nil => exact h
  | cons p r ih => exact ih (nd_putD h)
theorem news_congr {F G : List (ByteArray × ByteArray)} (P : List (ByteArray × ByteArray)) (h : ∀ n, findD n F = findD n G) : newsD F P = newsD G P := by
  induction P generalizing F G with
  | nil => rfl
  | cons p r ih =>
    have e : newsD (putD p.1 p.2 F) r = newsD (putD p.1 p.2 G) r := ih fun n => by rw [findD_putD, findD_putD, h]
    unfold newsD
    rw [h, e]
theorem srtF_puts {F : List (ByteArray × ByteArray)} (P : List (ByteArray × ByteArray)) (h : (namesD F).Nodup) : srtF (putsD (srtF F) P) = srtF (putsD F P) :=
  srtF_ext (nd_puts P (nd_srtF h)) (nd_puts P h) (findD_puts P fun n => findD_srtF F n)
theorem srtF_nil {F : List (ByteArray × ByteArray)} : srtF F = [] ↔ F = [] := by
  have := len_srtF F
  rw [← List.length_eq_zero_iff, ← List.length_eq_zero_iff, this]
theorem putsD_ne {F P : List (ByteArray × ByteArray)} (h : P ≠ []) : putsD F P ≠ [] := by
  have key : ∀ (P F : List (ByteArray × ByteArray)), F ≠ [] → putsD F P ≠ [] := by
    intro P
    induction P with
    | nil => exact fun F h => h
    | cons p r ih =>
      intro F hF
      refine ih _ ?_
      cases F with
      | nil => exact absurd rfl hF
      | cons q s => unfold putD; split <;> simp
  cases P with
  | nil => exact absurd rfl h
  | cons p r =>
    refine key r _ ?_
    cases F with
    | nil => simp [putD]
    | cons q s => unfold putD; split <;> simp
/-- The space with one hash. -/
def dF (F : List (ByteArray × ByteArray)) : List (ByteArray × List (ByteArray × ByteArray)) := if F = [] then [] else [(⟨#[107]⟩, srtF F)]
theorem dF_find (F : List (ByteArray × ByteArray)) : (findD ⟨#[107]⟩ (dF F)).getD [] = srtF F := by
  unfold dF
  by_cases h : F = []
  · subst h
    rw [if_pos rfl, show srtF [] = [] from srtF_nil.2 rfl]
    rfl
  · rw [if_neg h]
    simp [findD]
theorem dF_set (F G : List (ByteArray × ByteArray)) : setX ⟨#[107]⟩ (xoF G) (dF F) = dF G := by
  unfold dF xoF
  by_cases h : F = []
  · by_cases g : G = []
    · simp [h, g, setX, delD]
    · simp [h, g, setX, putD]
  · by_cases g : G = []
    · simp [h, g, setX, delD]
    · simp [h, g, setX, putD]
theorem dF_set' (F G G' : List (ByteArray × ByteArray)) (h : srtF G' = srtF G) : setX ⟨#[107]⟩ (xoF G') (dF F) = dF G := by
  have e : xoF G' = xoF G := by
    unfold xoF
    rw [h]
    have : G' = [] ↔ G = [] := (srtF_nil (F := G')).symm.trans (by rw [h]; exact srtF_nil)
    by_cases g : G = []
    · rw [if_pos g, if_pos (this.2 g)]
    · rw [if_neg g, if_neg (fun e => g (this.1 e))]
  rw [e]
  exact dF_set F G
theorem dF_len (F : List (ByteArray × ByteArray)) : (dF F).length < 4096 := by unfold dF; split <;> simp
end Go.Proofs.YticlacjpgjkhcaaGreatDoor

/- The commands' table as plain data (no program). -/
namespace Go.CmdT

/-- A command's row: its name, least and most arguments, does it write, first key, last key, step. -/
abbrev Row := List UInt8 × Int × Int × Bool × Int × Int × Int
def rowsT : List Row := [
  ([68, 69, 76], 2, 0, true, 1, (-1), 1),
  ([69, 88, 73, 83, 84, 83], 2, 0, false, 1, (-1), 1),
  ([84, 89, 80, 69], 2, 2, false, 1, 1, 1),
  ([82, 69, 78, 65, 77, 69], 3, 3, true, 1, 2, 1),
  ([82, 69, 78, 65, 77, 69, 78, 88], 3, 3, true, 1, 2, 1),
  ([69, 88, 80, 73, 82, 69], 3, 3, true, 1, 1, 1),
  ([80, 69, 88, 80, 73, 82, 69], 3, 3, true, 1, 1, 1),
  ([80, 69, 88, 80, 73, 82, 69, 65, 84], 3, 3, true, 1, 1, 1),
  ([84, 84, 76], 2, 2, false, 1, 1, 1),
  ([80, 84, 84, 76], 2, 2, false, 1, 1, 1),
  ([80, 69, 82, 83, 73, 83, 84], 2, 2, true, 1, 1, 1),
  ([75, 69, 89, 83], 1, 1, false, 0, 0, 0),
  ([68, 66, 83, 73, 90, 69], 1, 1, false, 0, 0, 0),
  ([70, 76, 85, 83, 72, 65, 76, 76], 1, 1, true, 0, 0, 0),
  ([71, 69, 84], 2, 2, false, 1, 1, 1),
  ([83, 69, 84], 3, 6, true, 1, 1, 1),
  ([83, 69, 84, 78, 88], 3, 3, true, 1, 1, 1),
  ([71, 69, 84, 83, 69, 84], 3, 3, true, 1, 1, 1),
  ([71, 69, 84, 68, 69, 76], 2, 2, true, 1, 1, 1),
  ([65, 80, 80, 69, 78, 68], 3, 3, true, 1, 1, 1),
  ([83, 84, 82, 76, 69, 78], 2, 2, false, 1, 1, 1),
  ([73, 78, 67, 82], 2, 2, true, 1, 1, 1),
  ([68, 69, 67, 82], 2, 2, true, 1, 1, 1),
  ([73, 78, 67, 82, 66, 89], 3, 3, true, 1, 1, 1),
  ([68, 69, 67, 82, 66, 89], 3, 3, true, 1, 1, 1),
  ([71, 69, 84, 82, 65, 78, 71, 69], 4, 4, false, 1, 1, 1),
  ([83, 69, 84, 82, 65, 78, 71, 69], 4, 4, true, 1, 1, 1),
  ([77, 71, 69, 84], 2, 0, false, 1, (-1), 1),
  ([77, 83, 69, 84], 3, 0, true, 1, (-2), 2),
  ([76, 80, 85, 83, 72], 3, 0, true, 1, 1, 1),
  ([82, 80, 85, 83, 72], 3, 0, true, 1, 1, 1),
  ([76, 80, 85, 83, 72, 88], 3, 0, true, 1, 1, 1),
  ([82, 80, 85, 83, 72, 88], 3, 0, true, 1, 1, 1),
  ([76, 80, 79, 80], 2, 2, true, 1, 1, 1),
  ([82, 80, 79, 80], 2, 2, true, 1, 1, 1),
  ([76, 76, 69, 78], 2, 2, false, 1, 1, 1),
  ([76, 73, 78, 68, 69, 88], 3, 3, false, 1, 1, 1),
  ([76, 83, 69, 84], 4, 4, true, 1, 1, 1),
  ([76, 82, 65, 78, 71, 69], 4, 4, false, 1, 1, 1),
  ([76, 84, 82, 73, 77], 4, 4, true, 1, 1, 1),
  ([76, 82, 69, 77], 4, 4, true, 1, 1, 1),
  ([76, 73, 78, 83, 69, 82, 84], 5, 5, true, 1, 1, 1),
  ([82, 80, 79, 80, 76, 80, 85, 83, 72], 3, 3, true, 1, 2, 1),
  ([72, 83, 69, 84], 4, 0, true, 1, 1, 1),
  ([72, 83, 69, 84, 78, 88], 4, 4, true, 1, 1, 1),
  ([72, 71, 69, 84], 3, 3, false, 1, 1, 1),
  ([72, 77, 71, 69, 84], 3, 0, false, 1, 1, 1),
  ([72, 68, 69, 76], 3, 0, true, 1, 1, 1),
  ([72, 69, 88, 73, 83, 84, 83], 3, 3, false, 1, 1, 1),
  ([72, 76, 69, 78], 2, 2, false, 1, 1, 1),
  ([72, 83, 84, 82, 76, 69, 78], 3, 3, false, 1, 1, 1),
  ([72, 75, 69, 89, 83], 2, 2, false, 1, 1, 1),
  ([72, 86, 65, 76, 83], 2, 2, false, 1, 1, 1),
  ([72, 71, 69, 84, 65, 76, 76], 2, 2, false, 1, 1, 1),
  ([72, 73, 78, 67, 82, 66, 89], 4, 4, true, 1, 1, 1),
  ([90, 65, 68, 68], 4, 0, true, 1, 1, 1),
  ([90, 73, 78, 67, 82, 66, 89], 4, 4, true, 1, 1, 1),
  ([90, 82, 69, 77], 3, 0, true, 1, 1, 1),
  ([90, 83, 67, 79, 82, 69], 3, 3, false, 1, 1, 1),
  ([90, 67, 65, 82, 68], 2, 2, false, 1, 1, 1),
  ([90, 82, 65, 78, 75], 3, 3, false, 1, 1, 1),
  ([90, 82, 69, 86, 82, 65, 78, 75], 3, 3, false, 1, 1, 1),
  ([90, 82, 65, 78, 71, 69], 4, 4, false, 1, 1, 1),
  ([90, 82, 69, 86, 82, 65, 78, 71, 69], 4, 4, false, 1, 1, 1),
  ([90, 82, 65, 78, 71, 69, 66, 89, 83, 67, 79, 82, 69], 4, 4, false, 1, 1, 1),
  ([90, 67, 79, 85, 78, 84], 4, 4, false, 1, 1, 1),
  ([90, 80, 79, 80, 77, 73, 78], 2, 2, true, 1, 1, 1),
  ([90, 80, 79, 80, 77, 65, 88], 2, 2, true, 1, 1, 1),
  ([90, 82, 69, 77, 82, 65, 78, 71, 69, 66, 89, 82, 65, 78, 75], 4, 4, true, 1, 1, 1),
  ([90, 82, 69, 77, 82, 65, 78, 71, 69, 66, 89, 83, 67, 79, 82, 69], 4, 4, true, 1, 1, 1),
  ([80, 65, 68, 68], 5, 0, true, 1, 1, 1),
  ([80, 82, 69, 77], 3, 0, true, 1, 1, 1),
  ([80, 80, 79, 83], 3, 3, false, 1, 1, 1),
  ([80, 67, 65, 82, 68], 2, 2, false, 1, 1, 1),
  ([80, 77, 79, 86, 69], 4, 4, true, 1, 1, 1),
  ([80, 84, 85, 82, 78], 3, 3, true, 1, 1, 1),
  ([80, 83, 67, 65, 76, 69], 4, 4, true, 1, 1, 1),
  ([80, 78, 69, 65, 82], 4, 4, false, 1, 1, 1),
  ([80, 83, 85, 77], 2, 2, false, 1, 1, 1),
  ([80, 65, 76, 76], 2, 2, false, 1, 1, 1),
  ([80, 73, 78, 71], 1, 1, false, 0, 0, 0),
  ([69, 67, 72, 79], 2, 2, false, 0, 0, 0)]
def rowC (r : Row) : List Value := [.string ⟨r.1.toArray⟩, .int .i64 r.2.1, .int .i64 r.2.2.1, .bool r.2.2.2.1, .int .i64 r.2.2.2.2.1, .int .i64 r.2.2.2.2.2.1, .int .i64 r.2.2.2.2.2.2]
def rowsC : Array Value := (rowsT.flatMap rowC).toArray
theorem rowsT_len : rowsT.length = 82 := by kernel_rfl
theorem flat_at (l : List Row) (k j : Nat) (r : Row) (v : Value) (hk : l[k]? = some r) (hv : (rowC r)[j]? = some v) : (l.flatMap rowC)[k * 7 + j]? = some v := by
  induction l generalizing k with
  | nil => cases hk
  | cons q t ih =>
    rw [List.flatMap_cons]
    have hj : j < 7 := (List.getElem?_eq_some_iff.1 hv).1
    have hl : (rowC q).length = 7 := rfl
    cases k with
    | zero =>
      cases hk
      rw [List.getElem?_append_left (by omega), Nat.zero_mul, Nat.zero_add]
      exact hv
    | succ k =>
      rw [List.getElem?_append_right (by omega), hl, show (k + 1) * 7 + j - 7 = k * 7 + j by omega]
      exact ih k hk
theorem rows_at (k j : Nat) (r : Row) (v : Value) (hk : rowsT[k]? = some r) (hv : (rowC r)[j]? = some v) : rowsC[k * 7 + j]? = some v := by
  unfold rowsC
  rw [List.getElem?_toArray]
  exact flat_at _ k j r v hk hv
def nameAt (k : Nat) : List UInt8 := (rowsT.getD k default).1
theorem names_apart : ((List.range 82).all fun k => (List.range k).all fun j => !(nameAt j == nameAt k)) = true := by kernel_rfl
theorem name_ne {k j : Nat} (hk : k < 82) (hj : j < k) : (nameAt j == nameAt k) = false := by
  have h1 := List.all_eq_true.1 names_apart k (List.mem_range.2 hk)
  have h2 := List.all_eq_true.1 h1 j (List.mem_range.2 hj)
  simpa using h2
end Go.CmdT

/- The commands' table: what command.rows lays in memory. -/
namespace Go.Proofs.YticlacjpgjkhcaaGreatDoor
open Go.ChangeShapes Go.WideShapes Go.ChangeAt Go.RowKit

/-- A region's operations, run one behind the other, where none is guarded, none enters a function, none halts. -/
def runOps (P : Program) : List Oper → Act → World → Option (Act × World)
  | [], a, w => some (a, w)
  | o :: rest, a, w =>
    match o.guard with
    | some _ => none
    | none =>
      match (execOp a.eval o).run P w with
      | .ok (.value v) w' => runOps P rest (a.put o.dst v) w'
      | .ok .skip w' => runOps P rest (a.put o.dst undef) w'
      | _ => none
theorem wpList_run {P : Program} {ops : Array Oper} {Q : Exit → Act → World → Prop} : ∀ (l : List Oper) (a : Act) (w : World) (r : Act × World), runOps P l a w = some r → Q .normal r.1 r.2 → wpList P ops Q l a w := by
  intro l
  induction l with
  | nil =>
    intro a w r h k
    unfold runOps at h
    cases h
    exact k
  | cons o rest ih =>
    intro a w r h k
    unfold runOps at h
    split at h
    · cases h
    · rename_i hg
      split at h
      · rename_i v w' hrun
        refine wpList_plain hg fun K hK => ?_
        unfold Oper.wp
        rw [hrun, Oper.upon_value]
        exact hK _ _ (ih _ _ _ h k)
      · rename_i w' hrun
        refine wpList_plain hg fun K hK => ?_
        unfold Oper.wp
        rw [hrun, Oper.upon_skip]
        exact hK _ _ (ih _ _ _ h k)
      · cases h
theorem wpList_run0 {P : Program} {ops : Array Oper} {Q : Exit → Act → World → Prop} {l : List Oper} {a : Act} {w : World} (v0 : Value) (w' : World) (h : (runOps P l a w).map (fun r => (r.1.tmps.getD 0 undef, r.1.defers, r.2)) = some (v0, [], w'))
    (k : ∀ a', a'.tmps.getD 0 undef = v0 → a'.defers = [] → Q .normal a' w') : wpList P ops Q l a w := by
  cases hr : runOps P l a w with
  | none => rw [hr] at h; cases h
  | some r =>
    rw [hr] at h
    simp only [Option.map_some, Option.some.injEq, Prod.mk.injEq] at h
    obtain ⟨h1, h2, h3⟩ := h
    refine wpList_run l a w r hr ?_
    rw [h3]
    exact k _ h1 h2
set_option maxRecDepth 100000 in
set_option maxHeartbeats 4000000 in
theorem rows96 (w : World) : Calls Tryz.prog 207 #[] w fun e w' => e = .returned (.slice (some ⟨w.heap.size, 0, none⟩) 82 82) ∧ w.alloc (.cells CmdT.rowsC 171) = w' := by
  go_enter Tryz.func207, Tryz.ntmps207
  go_step
  apply wp_seq_k
  intro K1 hK1
  apply wp_region_lit
  refine wpList_run _ _ _ _ rfl ?_
  simp only [Exit.then]
  apply hK1
  apply wp_seq_k
  intro K2 hK2
  apply wp_region_list
  refine wpList_run0 (.slice (some ⟨w.heap.size, 0, none⟩) 82 82) (w.alloc (.cells CmdT.rowsC 171)) (by kernel_rfl) ?_
  intro a' h1 h2
  simp only [Exit.then]
  apply hK2
  clear hK1 hK2
  go_step
  exact bodyPost_ret (v := .slice (some ⟨w.heap.size, 0, none⟩) 82 82) (by simp [results, Tryz.results207, go_sem]; simpa using h1) h2 ⟨rfl, rfl⟩
end Go.Proofs.YticlacjpgjkhcaaGreatDoor

/- command.Find at any row of the table. -/
namespace Go.Proofs.YticlacjpgjkhcaaGreatDoor
open Go.ChangeShapes Go.WideShapes Go.ChangeAt Go.RowKit

/-- A block of seven cells that is known whole. -/
theorem cells7 {X : World} {b : Nat} {a0 a1 a2 a3 a4 a5 a6 : Value} {t : TypeId} (h : X.heap[b]? = some (.cells #[a0, a1, a2, a3, a4, a5, a6] t)) :
    (X.cell? ⟨b, 0, none⟩ = some a0 ∧ X.cell? ⟨b, 1, none⟩ = some a1 ∧ X.cell? ⟨b, 2, none⟩ = some a2 ∧ X.cell? ⟨b, 3, none⟩ = some a3 ∧ X.cell? ⟨b, 4, none⟩ = some a4 ∧ X.cell? ⟨b, 5, none⟩ = some a5 ∧ X.cell? ⟨b, 6, none⟩ = some a6) ∧
    (X.frozen? ⟨b, 0, none⟩ = false ∧ X.frozen? ⟨b, 1, none⟩ = false ∧ X.frozen? ⟨b, 2, none⟩ = false ∧ X.frozen? ⟨b, 3, none⟩ = false ∧ X.frozen? ⟨b, 4, none⟩ = false ∧ X.frozen? ⟨b, 5, none⟩ = false ∧ X.frozen? ⟨b, 6, none⟩ = false) ∧ b < X.heap.size := by
  refine ⟨⟨?_, ?_, ?_, ?_, ?_, ?_, ?_⟩, ⟨?_, ?_, ?_, ?_, ?_, ?_, ?_⟩, (Array.getElem?_eq_some_iff.1 h).1⟩ <;> simp [World.cell?, World.frozen?, h]
def zero7 : Array Value := #[.string ⟨#[]⟩, .int .i64 0, .int .i64 0, .bool false, .int .i64 0, .int .i64 0, .int .i64 0]
theorem row_cells {X : World} {R : Nat} (h : X.heap[R]? = some (.cells CmdT.rowsC 171)) (k : Nat) (r : CmdT.Row) (hk : CmdT.rowsT[k]? = some r) (j : Nat) (v : Value) (hv : (CmdT.rowC r)[j]? = some v) : X.cell? ⟨R, k * 7 + j, none⟩ = some v := by
  have := CmdT.rows_at k j r v hk hv
  simp [World.cell?, h, this]
theorem name_at {k : Nat} {r : CmdT.Row} (h : CmdT.rowsT[k]? = some r) : CmdT.nameAt k = r.1 := by unfold CmdT.nameAt; rw [List.getD, h]; rfl
set_option maxHeartbeats 4000000 in
theorem Find_at (K : Nat) (raw b0 : ByteArray) (b1 b2 : Int) (b3 : Bool) (b4 b5 b6 : Int) (l0 : List UInt8) (hl0 : b0 = ⟨l0.toArray⟩) (hK : CmdT.rowsT[K]? = some (l0, b1, b2, b3, b4, b5, b6))
    (hu : ∀ w, Calls Tryz.prog 96 #[.string raw] w fun e w' => e = .returned (.string b0) ∧ Below w.heap.size w w') (w : World) :
    Calls Tryz.prog 153 #[.string raw] w fun e w' => e = .returned (.tuple #[.agg #[.string b0, .int .i64 b1, .int .i64 b2, .bool b3, .int .i64 b4, .int .i64 b5, .int .i64 b6], .bool true]) ∧ Below w.heap.size w w' := by
  have U := Lib.hid hu
  have R := Lib.hid (fun w => rows96 w)
  have HK := Lib.hid hK
  have HL := Lib.hid hl0
  have hKl : K < 82 := by have := (List.getElem?_eq_some_iff.1 hK).1; rw [CmdT.rowsT_len] at this; exact this
  have HKL := Lib.hid hKl
  clear hu hK hl0 hKl
  go_enter Tryz.func153, Tryz.ntmps153
  go_wp2_with (first | (go_at_call 96; (with_reducible refine (U.out _).mono ?_); rintro e w1 ⟨rfl, hb1⟩; have HB1 := Lib.hid hb1; clear hb1) | (go_at_call 207; (with_reducible refine (R.out _).mono ?_); rintro e w2 ⟨rfl, hw2⟩; refine Hid.out ?_))
  obtain ⟨RR, hR⟩ : ∃ R, w1.heap.size = R := ⟨_, rfl⟩
  rw [hR]
  have hz1 : w1.heap[w.heap.size]? = some (.cells zero7 171) := blk_below (W := w.alloc (.cells zero7 171)) (heap_alloc_new w _) HB1.out
  have hz2 : w2.heap[w.heap.size]? = some (.cells zero7 171) := by rw [← hw2]; exact blk_below hz1 alloc_old
  have hz3 : w2.heap[RR]? = some (.cells CmdT.rowsC 171) := by rw [← hw2, ← hR]; exact heap_alloc_new w1 _
  have hlt1 : w.heap.size < w1.heap.size := (Array.getElem?_eq_some_iff.1 hz1).1
  have hz4 : Below w.heap.size w w2 := by
    rw [← hw2]
    exact ((Below.alloc (Below.refl _ _) (Nat.le_refl _) _).trans (HB1.out.mono (by simp))).alloc (by omega) _
  have HZ := Lib.hid (And.intro hz2 (And.intro hz3 hz4))
  clear hz1 hz2 hz3 hz4 hw2 hR hlt1
  refine Lib.hid ?_
  go_wp2_with fail
  go_loopw [10] (fun i wr => ∃ k : Nat, k ≤ K ∧ i = .int .i64 k ∧ Hid (wr.heap[w.heap.size]? = some (.cells zero7 171) ∧ wr.heap[RR]? = some (.cells CmdT.rowsC 171) ∧ Below w.heap.size w wr)) (fun i _ => 82 - (intOf i).toNat)
  case atStart => exact ⟨0, by omega, rfl, HZ⟩
  case round =>
    obtain ⟨k, hk, rfl, HQ⟩ := hrel
    have hkl := HKL.out
    have ik : (k : Int) < 82 := by omega
    obtain ⟨⟨x, a1, a2, a3, a4, a5, a6⟩, hrow⟩ : ∃ r, CmdT.rowsT[k]? = some r := ⟨_, List.getElem?_eq_getElem (by rw [CmdT.rowsT_len]; omega)⟩
    have hc0 := row_cells HQ.out.2.1 k _ hrow 0 _ rfl
    have hc1 := row_cells HQ.out.2.1 k _ hrow 1 _ rfl
    have hc2 := row_cells HQ.out.2.1 k _ hrow 2 _ rfl
    have hc3 := row_cells HQ.out.2.1 k _ hrow 3 _ rfl
    have hc4 := row_cells HQ.out.2.1 k _ hrow 4 _ rfl
    have hc5 := row_cells HQ.out.2.1 k _ hrow 5 _ rfl
    have hc6 := row_cells HQ.out.2.1 k _ hrow 6 _ rfl
    rw [Nat.add_zero] at hc0
    obtain ⟨a0, ha0⟩ : ∃ a0 : ByteArray, (⟨x.toArray⟩ : ByteArray) = a0 := ⟨_, rfl⟩
    simp only [ha0] at hc0
    by_cases hlt : k < K
    · have hne : ¬ a0.toList = b0.toList := by
        rw [← ha0, HL.out, ByteArray.toList_mk, ByteArray.toList_mk]
        have h1 := CmdT.name_ne HKL.out hlt
        rw [name_at hrow, name_at HK.out] at h1
        exact beq_eq_false_iff_ne.1 h1
      have hne2 : (a0.toList == b0.toList) = false := beq_eq_false_iff_ne.2 hne
      clear hrow ha0
      go_wp2
      have hsz : w.heap.size ≤ wr.heap.size := Below.size HQ.out.2.2
      exact ⟨⟨k + 1, by omega, by go_num, Lib.hid ⟨blk_below HQ.out.1 alloc_old, blk_below HQ.out.2.1 alloc_old, HQ.out.2.2.trans (alloc_old.mono hsz)⟩⟩, by simp [intOf]; omega⟩
    · have hkK : k = K := by omega
      subst hkK
      have hq := hrow.symm.trans HK.out
      cases hq
      have ha1 : b0 = a0 := HL.out.trans ha0
      subst ha1
      obtain ⟨⟨d0, d1, d2, d3, d4, d5, d6⟩, ⟨g0, g1, g2, g3, g4, g5, g6⟩, zz⟩ := cells7 HQ.out.1
      have BB := Lib.hid HQ.out.2.2
      have hsz := Lib.hid (Below.size HQ.out.2.2)
      clear hrow ha0 hlt
      go_wp2
      exact bodyPost_ret (v := .tuple #[.agg #[.string b0, .int .i64 b1, .int .i64 b2, .bool b3, .int .i64 b4, .int .i64 b5, .int .i64 b6], .bool true]) (by simp [results, Tryz.results153, go_sem, d0, d1, d2, d3, d4, d5, d6, zz]) rfl ⟨rfl, ((((((((BB.out.setCell (Nat.le_refl _) _).setCell (Nat.le_refl _) _).setCell (Nat.le_refl _) _).setCell (Nat.le_refl _) _).setCell (Nat.le_refl _) _).setCell (Nat.le_refl _) _).setCell (Nat.le_refl _) _).alloc (by simp; omega) _)⟩
end Go.Proofs.YticlacjpgjkhcaaGreatDoor
