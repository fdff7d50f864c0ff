/- Texts joined: Z3, Z6 -/
import Derived.Test.YticlacjpgjkhcaaGreatDoorQs26
import Derived.Test.YticlacjpgjkhcaaGreatDoorQs27
import Derived.Test.YticlacjpgjkhcaaGreatDoorQs28
set_option linter.unusedVariables false
set_option linter.unusedSimpArgs false

/- scores: a set of a command; ZCARD, ZRANK, ZREVRANK. -/
namespace Go.Proofs.YticlacjpgjkhcaaGreatDoor
open Go.ChangeShapes Go.WideShapes Go.ChangeAt Go.RowKit

theorem ZH.mono {c d : Nat} {w : World} {h sp : Nat} {k : ByteArray} {e3 e4 e5 e6 : Value} {Z : List (ByteArray × Int)} (s : ZH c w h sp k e3 e4 e5 e6 Z) (hd : d ≤ c) : ZH d w h sp k e3 e4 e5 e6 Z := ⟨s.blk, Nat.le_trans hd s.hc, s.sk.mono hd⟩
theorem okF_of {w : World} {bS bM : Nat} {D : List (ByteArray × List (ByteArray × Int))} {k : ByteArray} {F : List (ByteArray × Int)} (hS : SPG KS okS w bS bM D) (hF : (findD k D).getD [] = F) : F.length ≤ 31 ∧ Ord F ∧ (namesD F).Nodup := by
  cases hf : findD k D with
  | none => rw [hf] at hF; subst hF; exact ⟨by simp, List.Pairwise.nil, List.nodup_nil⟩
  | some G =>
    rw [hf] at hF
    obtain rfl : G = F := hF
    obtain ⟨_, _, _, g1, _, _, g2, g3⟩ := hS.2 _ (findD_mem hf)
    exact ⟨g1, ord_of_rise g2, g3⟩
theorem zof_at (bS bM j : Nat) (D : List (ByteArray × List (ByteArray × Int))) (now : Int) (blk off cap : Nat) (xs : List ByteArray) (n : Nat) (hn : xs.length = n) (h2 : 2 ≤ n) (k : ByteArray) (hk : xs[1]? = some k) (vl : Value) (F : List (ByteArray × Int)) (hF : (findD k D).getD [] = F) (w : World) (hDB : DB w) (h3 : 3 < w.heap.size) (hS : SPG KS okS w bS bM D) (hj : JB w j bS now (.slice (some ⟨blk, off, none⟩) n cap) vl) (hA : AR w j now blk off cap xs) (X : World) (hX : Below w.heap.size w X) (c : Nat) (hc : c ≤ X.heap.size) : Calls Tryz.prog 67 #[.pointer (some ⟨j, 0, none⟩)] X fun e w' => ∃ (h sp : Nat) (e3 e4 e5 e6 : Value), e = .returned (.pointer (some ⟨h, 0, none⟩)) ∧ ZH c w' h sp k e3 e4 e5 e6 F ∧ Below X.heap.size X w' := by
  refine (zof_any bS bM j D now blk off cap xs n hn h2 k hk vl F hF X (hDB.at_ hX) (Nat.lt_of_lt_of_le h3 (Below.size hX)) (SPG.below KS okS hS hX) (hj.below hX) (hA.below hX)).mono ?_
  rintro e w1 ⟨h, sp, e3, e4, e5, e6, he, hH, hb⟩
  exact ⟨h, sp, e3, e4, e5, e6, he, hH.mono hc, hb⟩
theorem LenZ (c sp : Nat) (Z : List (ByteArray × Int)) (w : World) (h : SK w c sp Z) : Calls Tryz.prog 123 #[.pointer (some ⟨sp, 0, none⟩)] w fun e w' => e = .returned (.int .i64 (Z.length : Nat)) ∧ w' = w := by
  obtain ⟨bM, hd, L, E, made, high, h, rfl⟩ := h
  have := Len_any c sp bM hd L E made high w h
  rwa [show (zN L).length = L.length from by simp [zN]]
theorem ScoreZ (c sp : Nat) (Z : List (ByteArray × Int)) (k : ByteArray) (w : World) (h : SK w c sp Z) : Calls Tryz.prog 117 #[.pointer (some ⟨sp, 0, none⟩), .string k] w fun e w' => e = .returned (.tuple #[.int .i64 ((findD k Z).getD 0), .bool (findD k Z).isSome]) ∧ w' = w := by
  obtain ⟨bM, hd, L, E, made, high, h, rfl⟩ := h
  exact Score_any c sp bM hd L E made high k w h
set_option maxRecDepth 100000 in
set_option maxHeartbeats 8000000 in
theorem cZCARD (bS bM : Nat) (D : List (ByteArray × List (ByteArray × Int))) (now : Int) (NM k : ByteArray)  (F : List (ByteArray × Int)) (hF : (findD k D).getD [] = F)  (w : World) (hDB : DB w) (h3w : 3 < w.heap.size) : CmdD KS okS 56 bS bM D now [NM, k] 3 (F.length : Nat) ⟨#[]⟩ R0 [] w := by
  intro j vA hS hj hA
  show Calls Tryz.prog 56 #[.pointer (some ⟨j, 0, none⟩)] w _
  have hjw := lt_blk hj
  obtain ⟨blk, off, cap, rfl, hAR⟩ := AR.of hj hA (by simp)
  have HJ := Lib.hid hj
  have A1 := Lib.hid (alloc_old (w := w) (o := .cells #[.int .i64 0, .int .i64 0, .string ⟨#[]⟩, .slice none 0 0] 29))
  have hr := Lib.hid (heap_alloc_new w (.cells #[.int .i64 0, .int .i64 0, .string ⟨#[]⟩, .slice none 0 0] 29))
  have hl2 : ([NM, k]).length = 2 := rfl
  rw [hl2] at HJ ⊢
  have hz : w.heap.size + 1 ≤ (w.alloc (.cells #[.int .i64 0, .int .i64 0, .string ⟨#[]⟩, .slice none 0 0] 29)).heap.size := by simp
  have HO := Lib.hid (fun X hX hc => zof_at bS bM j D now blk off cap ([NM, k]) 2 hl2 (by omega) k rfl (.slice none 0 0) F hF w hDB h3w hS HJ.out hAR X hX (w.heap.size + 1) hc)
  have HFF := Lib.hid (okF_of hS hF)
  have HJA := Lib.hid (fun X (hX : Below w.heap.size w X) => And.intro (HJ.out.below hX) (hA.below hX))
  have HSX := Lib.hid hS
  have HDX := Lib.hid hDB
  have CJ := Lib.hid (fun Y hY => (hAR.job Y hY).1)
  rw [hl2] at CJ
  have CA := Lib.hid (fun Y hY i s hs => hAR.arg Y hY i s hs)
  have hcap := hAR.len
  rw [hl2] at hcap
  have hcap2 := hAR.cap
  have IN := Lib.hid (fun X => Int75 (F.length : Nat) X)
  clear hS hj hA hAR hF
  go_enter Tryz.func56, Tryz.ntmps56
  go_wp2_with (first | (go_at_call 67; (with_reducible refine (HO.out _ A1.out hz).mono ?_); rintro e w1 ⟨h, sp, e3, e4, e5, e6, rfl, hH1, h1⟩; have H1 := Lib.hid hH1; have B1 := Lib.hid (A1.out.trans (h1.mono (Below.size A1.out))); have r1 := Lib.hid (blk_below hr.out h1); clear h1 hH1; refine Hid.out ?_))
  refine Lib.hid ?_
  have LT := Lib.hid (LenZ _ sp F w1 H1.out.sk)
  obtain ⟨⟨_, _, _, _, _, _, _, _, c8⟩, _⟩ := cells9 H1.out.blk
  go_wp2_with (first | (go_at_call 123; (with_reducible refine (LT.out).mono ?_); rintro e w9 ⟨rfl, hw9⟩; obtain rfl := hw9.symm) | (go_at_call 69; (with_reducible refine (IN.out _).mono ?_); rintro e w3 ⟨rfl, h1⟩; have B3 := Lib.hid (B1.out.trans (h1.mono (Below.size B1.out))); have r3 := Lib.hid (blk_below r1.out h1); clear h1; obtain ⟨⟨c0, c1, c2, c3⟩, ⟨f0, f1, f2, f3⟩⟩ := cells4 r3.out))
  exact bodyPost_ret (v := .agg #[.int .i64 3, .int .i64 (F.length : Nat), .string ⟨#[]⟩, .slice none 0 0]) (by simp [results, Tryz.results56, go_sem, c0, c1, c2, c3]) rfl (endD KS HJ.out ((((B3.out.setCell (Nat.le_refl _) _).setCell (Nat.le_refl _) _).setCell (Nat.le_refl _) _).setCell (Nat.le_refl _) _))
theorem rank_lt {F : List (ByteArray × Int)} {k : ByteArray} {s : Int} (h : findD k F = some s) : rankZ (k, s) F < F.length := by
  have hm := findD_mem h
  unfold rankZ loZ
  exact List.length_filter_lt_length_iff_exists.2 ⟨(k, s), hm, by simp [ltZ]⟩
set_option maxRecDepth 100000 in
set_option maxHeartbeats 8000000 in
theorem zrankf0 (bS bM j : Nat) (D : List (ByteArray × List (ByteArray × Int))) (now : Int) (vA : Value) (NM k nm : ByteArray) (F : List (ByteArray × Int)) (hF : (findD k D).getD [] = F) (hfn : findD nm F = none) (w : World) (hDB : DB w) (h3w : 3 < w.heap.size) (hS : SPG KS okS w bS bM D) (hj : JB w j bS now vA (.slice none 0 0)) (hA : SSl w vA [NM, k, nm]) : Calls Tryz.prog 58 #[.pointer (some ⟨j, 0, none⟩), .bool false] w fun e w' => e = .returned (.agg #[.int .i64 5, .int .i64 0, .string ⟨#[]⟩, .slice none 0 0]) ∧ Below w.heap.size w w' := by
  have hjw := lt_blk hj
  obtain ⟨blk, off, cap, rfl, hAR⟩ := AR.of hj hA (by simp)
  have HJ := Lib.hid hj
  have A1 := Lib.hid (alloc_old (w := w) (o := .cells #[.int .i64 0, .int .i64 0, .string ⟨#[]⟩, .slice none 0 0] 29))
  have hr := Lib.hid (heap_alloc_new w (.cells #[.int .i64 0, .int .i64 0, .string ⟨#[]⟩, .slice none 0 0] 29))
  have hl2 : ([NM, k, nm]).length = 3 := rfl
  rw [hl2] at HJ
  have hz : w.heap.size + 1 ≤ (w.alloc (.cells #[.int .i64 0, .int .i64 0, .string ⟨#[]⟩, .slice none 0 0] 29)).heap.size := by simp
  have HO := Lib.hid (fun X hX hc => zof_at bS bM j D now blk off cap ([NM, k, nm]) 3 hl2 (by omega) k rfl (.slice none 0 0) F hF w hDB h3w hS HJ.out hAR X hX (w.heap.size + 1) hc)
  have HFF := Lib.hid (okF_of hS hF)
  have HJA := Lib.hid (fun X (hX : Below w.heap.size w X) => And.intro (HJ.out.below hX) (hA.below hX))
  have HSX := Lib.hid hS
  have HDX := Lib.hid hDB
  have CJ := Lib.hid (fun Y hY => (hAR.job Y hY).1)
  rw [hl2] at CJ
  have CA := Lib.hid (fun Y hY i s hs => hAR.arg Y hY i s hs)
  have hcap := hAR.len
  rw [hl2] at hcap
  have hcap2 := hAR.cap
  obtain ⟨h31, hOrd, hNd⟩ := HFF.out
  have RK := fun c sp X (hX : SK X c sp F) => Rank_any c sp F nm X hX (by omega)
  simp only [hfn] at RK
  have NI := Lib.hid (fun X => Nil66 X)
  have RK := Lib.hid RK
  clear hS hj hA hAR hF hfn hOrd hNd
  go_enter Tryz.func58, Tryz.ntmps58
  go_wp2_with (first | (go_at_call 67; (with_reducible refine (HO.out _ A1.out hz).mono ?_); rintro e w1 ⟨h, sp, e3, e4, e5, e6, rfl, hH1, h1⟩; have H1 := Lib.hid hH1; have B1 := Lib.hid (A1.out.trans (h1.mono (Below.size A1.out))); have r1 := Lib.hid (blk_below hr.out h1); clear h1 hH1; refine Hid.out ?_))
  refine Lib.hid ?_
  have cj := CJ.out _ B1.out
  have ca := CA.out _ B1.out 2 nm rfl
  have R1 := Lib.hid (RK.out _ sp w1 H1.out.sk)
  obtain ⟨⟨_, _, _, _, _, _, _, _, c8⟩, _⟩ := cells9 H1.out.blk
  go_wp2_with (first | (go_at_call 124; (with_reducible refine (R1.out).mono ?_); rintro e w2 ⟨rfl, h1⟩; have B2 := Lib.hid (B1.out.trans (h1.mono (Below.size B1.out))); have r2 := Lib.hid (blk_below r1.out h1); have H2 := Lib.hid (H1.out.below h1); clear h1; refine Hid.out ?_))
  refine Lib.hid ?_
  go_wp2_with (first | (go_at_call 122; (with_reducible refine (NI.out _).mono ?_); rintro e w3 ⟨rfl, h1⟩; have B3 := Lib.hid (B2.out.trans (h1.mono (Below.size B2.out))); have r3 := Lib.hid (blk_below r2.out h1); clear h1; obtain ⟨⟨c0, c1, c2, c3⟩, ⟨f0, f1, f2, f3⟩⟩ := cells4 r3.out))
  exact bodyPost_ret (v := .agg #[.int .i64 5, .int .i64 0, .string ⟨#[]⟩, .slice none 0 0]) (by simp [results, Tryz.results58, go_sem, c0, c1, c2, c3]) rfl ⟨rfl, ((((B3.out.setCell (Nat.le_refl _) _).setCell (Nat.le_refl _) _).setCell (Nat.le_refl _) _).setCell (Nat.le_refl _) _)⟩
set_option maxRecDepth 100000 in
set_option maxHeartbeats 8000000 in
theorem cZRANK0 (bS bM : Nat) (D : List (ByteArray × List (ByteArray × Int))) (now : Int) (NM k nm : ByteArray) (F : List (ByteArray × Int)) (hF : (findD k D).getD [] = F) (hfn : findD nm F = none) (w : World) (hDB : DB w) (h3w : 3 < w.heap.size) : CmdD KS okS 57 bS bM D now [NM, k, nm] 5 0 ⟨#[]⟩ R0 [] w := by
  intro j vA hS hj hA
  show Calls Tryz.prog 57 #[.pointer (some ⟨j, 0, none⟩)] w _
  have A1 := Lib.hid (alloc_old (w := w) (o := .cells #[.int .i64 0, .int .i64 0, .string ⟨#[]⟩, .slice none 0 0] 29))
  have hr := Lib.hid (heap_alloc_new w (.cells #[.int .i64 0, .int .i64 0, .string ⟨#[]⟩, .slice none 0 0] 29))
  have HJ := Lib.hid hj
  have ZR := Lib.hid (fun X (hX : Below w.heap.size w X) => zrankf0 bS bM j D now vA NM k nm F hF hfn X (hDB.at_ hX) (Nat.lt_of_lt_of_le h3w (Below.size hX)) (SPG.below KS okS hS hX) (hj.below hX) (hA.below hX))
  clear hS hj hA hF hfn hDB
  go_enter Tryz.func57, Tryz.ntmps57
  go_wp2_with (first | (go_at_call 58; (with_reducible refine (ZR.out _ A1.out).mono ?_); rintro e w1 ⟨rfl, h1⟩; have B1 := Lib.hid (A1.out.trans (h1.mono (Below.size A1.out))); obtain ⟨⟨c0, c1, c2, c3⟩, ⟨f0, f1, f2, f3⟩⟩ := cells4 (blk_below hr.out h1); clear h1))
  exact bodyPost_ret (v := .agg #[.int .i64 5, .int .i64 0, .string ⟨#[]⟩, .slice none 0 0]) (by simp [results, Tryz.results57, go_sem, c0, c1, c2, c3]) rfl (endD KS HJ.out ((((B1.out.setCell (Nat.le_refl _) _).setCell (Nat.le_refl _) _).setCell (Nat.le_refl _) _).setCell (Nat.le_refl _) _))
set_option maxRecDepth 100000 in
set_option maxHeartbeats 8000000 in
theorem zrankf1 (bS bM j : Nat) (D : List (ByteArray × List (ByteArray × Int))) (now : Int) (vA : Value) (NM k nm : ByteArray) (s : Int) (F : List (ByteArray × Int)) (hF : (findD k D).getD [] = F) (hfn : findD nm F = some s) (w : World) (hDB : DB w) (h3w : 3 < w.heap.size) (hS : SPG KS okS w bS bM D) (hj : JB w j bS now vA (.slice none 0 0)) (hA : SSl w vA [NM, k, nm]) : Calls Tryz.prog 58 #[.pointer (some ⟨j, 0, none⟩), .bool false] w fun e w' => e = .returned (.agg #[.int .i64 3, .int .i64 ((rankZ (nm, s) F : Nat) : Int), .string ⟨#[]⟩, .slice none 0 0]) ∧ Below w.heap.size w w' := by
  have hjw := lt_blk hj
  obtain ⟨blk, off, cap, rfl, hAR⟩ := AR.of hj hA (by simp)
  have HJ := Lib.hid hj
  have A1 := Lib.hid (alloc_old (w := w) (o := .cells #[.int .i64 0, .int .i64 0, .string ⟨#[]⟩, .slice none 0 0] 29))
  have hr := Lib.hid (heap_alloc_new w (.cells #[.int .i64 0, .int .i64 0, .string ⟨#[]⟩, .slice none 0 0] 29))
  have hl2 : ([NM, k, nm]).length = 3 := rfl
  rw [hl2] at HJ
  have hz : w.heap.size + 1 ≤ (w.alloc (.cells #[.int .i64 0, .int .i64 0, .string ⟨#[]⟩, .slice none 0 0] 29)).heap.size := by simp
  have HO := Lib.hid (fun X hX hc => zof_at bS bM j D now blk off cap ([NM, k, nm]) 3 hl2 (by omega) k rfl (.slice none 0 0) F hF w hDB h3w hS HJ.out hAR X hX (w.heap.size + 1) hc)
  have HFF := Lib.hid (okF_of hS hF)
  have HJA := Lib.hid (fun X (hX : Below w.heap.size w X) => And.intro (HJ.out.below hX) (hA.below hX))
  have HSX := Lib.hid hS
  have HDX := Lib.hid hDB
  have CJ := Lib.hid (fun Y hY => (hAR.job Y hY).1)
  rw [hl2] at CJ
  have CA := Lib.hid (fun Y hY i s hs => hAR.arg Y hY i s hs)
  have hcap := hAR.len
  rw [hl2] at hcap
  have hcap2 := hAR.cap
  obtain ⟨h31, hOrd, hNd⟩ := HFF.out
  have hrk : rankZ (nm, s) F < F.length := rank_lt hfn
  obtain ⟨N, hN⟩ : ∃ N, F.length = N := ⟨_, rfl⟩
  obtain ⟨R, hR⟩ : ∃ R, rankZ (nm, s) F = R := ⟨_, rfl⟩
  have RK := fun c sp X (hX : SK X c sp F) => Rank_any c sp F nm X hX (by omega)
  have LZ := fun c sp X (hX : SK X c sp F) => LenZ c sp F X hX
  simp only [hfn, hR, hN] at RK LZ hrk h31 ⊢
  have LZ := Lib.hid LZ
  have wr1 : wrap64 ((N : Int) - 1) = (N : Int) - 1 := by unfold wrap64; omega
  have wr2 : wrap64 ((N : Int) - 1 - (R : Int)) = (N : Int) - 1 - (R : Int) := by unfold wrap64; omega
  have IN := Lib.hid (fun n X => Int75 n X)
  have RK := Lib.hid RK
  clear hS hj hA hAR hF hfn hOrd hNd hN hR
  go_enter Tryz.func58, Tryz.ntmps58
  go_wp2_with (first | (go_at_call 67; (with_reducible refine (HO.out _ A1.out hz).mono ?_); rintro e w1 ⟨h, sp, e3, e4, e5, e6, rfl, hH1, h1⟩; have H1 := Lib.hid hH1; have B1 := Lib.hid (A1.out.trans (h1.mono (Below.size A1.out))); have r1 := Lib.hid (blk_below hr.out h1); clear h1 hH1; refine Hid.out ?_))
  refine Lib.hid ?_
  have cj := CJ.out _ B1.out
  have ca := CA.out _ B1.out 2 nm rfl
  have R1 := Lib.hid (RK.out _ sp w1 H1.out.sk)
  obtain ⟨⟨_, _, _, _, _, _, _, _, c8⟩, _⟩ := cells9 H1.out.blk
  go_wp2_with (first | (go_at_call 124; (with_reducible refine (R1.out).mono ?_); rintro e w2 ⟨rfl, h1⟩; have B2 := Lib.hid (B1.out.trans (h1.mono (Below.size B1.out))); have r2 := Lib.hid (blk_below r1.out h1); have H2 := Lib.hid (H1.out.below h1); clear h1; refine Hid.out ?_))
  refine Lib.hid ?_
  go_wp2_with (first | (go_at_call 69; (with_reducible refine (IN.out _ _).mono ?_); rintro e w3 ⟨rfl, h1⟩; have B3 := Lib.hid (B2.out.trans (h1.mono (Below.size B2.out))); have r3 := Lib.hid (blk_below r2.out h1); clear h1; obtain ⟨⟨c0, c1, c2, c3⟩, ⟨f0, f1, f2, f3⟩⟩ := cells4 r3.out))
  exact bodyPost_ret (v := .agg #[.int .i64 3, .int .i64 ((R : Nat) : Int), .string ⟨#[]⟩, .slice none 0 0]) (by simp [results, Tryz.results58, go_sem, c0, c1, c2, c3]) rfl ⟨rfl, ((((B3.out.setCell (Nat.le_refl _) _).setCell (Nat.le_refl _) _).setCell (Nat.le_refl _) _).setCell (Nat.le_refl _) _)⟩
set_option maxRecDepth 100000 in
set_option maxHeartbeats 8000000 in
theorem cZRANK1 (bS bM : Nat) (D : List (ByteArray × List (ByteArray × Int))) (now : Int) (NM k nm : ByteArray) (s : Int) (F : List (ByteArray × Int)) (hF : (findD k D).getD [] = F) (hfn : findD nm F = some s) (w : World) (hDB : DB w) (h3w : 3 < w.heap.size) : CmdD KS okS 57 bS bM D now [NM, k, nm] 3 ((rankZ (nm, s) F : Nat) : Int) ⟨#[]⟩ R0 [] w := by
  intro j vA hS hj hA
  show Calls Tryz.prog 57 #[.pointer (some ⟨j, 0, none⟩)] w _
  have A1 := Lib.hid (alloc_old (w := w) (o := .cells #[.int .i64 0, .int .i64 0, .string ⟨#[]⟩, .slice none 0 0] 29))
  have hr := Lib.hid (heap_alloc_new w (.cells #[.int .i64 0, .int .i64 0, .string ⟨#[]⟩, .slice none 0 0] 29))
  have HJ := Lib.hid hj
  have ZR := Lib.hid (fun X (hX : Below w.heap.size w X) => zrankf1 bS bM j D now vA NM k nm s F hF hfn X (hDB.at_ hX) (Nat.lt_of_lt_of_le h3w (Below.size hX)) (SPG.below KS okS hS hX) (hj.below hX) (hA.below hX))
  clear hS hj hA hF hfn hDB
  go_enter Tryz.func57, Tryz.ntmps57
  go_wp2_with (first | (go_at_call 58; (with_reducible refine (ZR.out _ A1.out).mono ?_); rintro e w1 ⟨rfl, h1⟩; have B1 := Lib.hid (A1.out.trans (h1.mono (Below.size A1.out))); obtain ⟨⟨c0, c1, c2, c3⟩, ⟨f0, f1, f2, f3⟩⟩ := cells4 (blk_below hr.out h1); clear h1))
  exact bodyPost_ret (v := .agg #[.int .i64 3, .int .i64 ((rankZ (nm, s) F : Nat) : Int), .string ⟨#[]⟩, .slice none 0 0]) (by simp [results, Tryz.results57, go_sem, c0, c1, c2, c3]) rfl (endD KS HJ.out ((((B1.out.setCell (Nat.le_refl _) _).setCell (Nat.le_refl _) _).setCell (Nat.le_refl _) _).setCell (Nat.le_refl _) _))
set_option maxRecDepth 100000 in
set_option maxHeartbeats 8000000 in
theorem zrankt0 (bS bM j : Nat) (D : List (ByteArray × List (ByteArray × Int))) (now : Int) (vA : Value) (NM k nm : ByteArray) (F : List (ByteArray × Int)) (hF : (findD k D).getD [] = F) (hfn : findD nm F = none) (w : World) (hDB : DB w) (h3w : 3 < w.heap.size) (hS : SPG KS okS w bS bM D) (hj : JB w j bS now vA (.slice none 0 0)) (hA : SSl w vA [NM, k, nm]) : Calls Tryz.prog 58 #[.pointer (some ⟨j, 0, none⟩), .bool true] w fun e w' => e = .returned (.agg #[.int .i64 5, .int .i64 0, .string ⟨#[]⟩, .slice none 0 0]) ∧ Below w.heap.size w w' := by
  have hjw := lt_blk hj
  obtain ⟨blk, off, cap, rfl, hAR⟩ := AR.of hj hA (by simp)
  have HJ := Lib.hid hj
  have A1 := Lib.hid (alloc_old (w := w) (o := .cells #[.int .i64 0, .int .i64 0, .string ⟨#[]⟩, .slice none 0 0] 29))
  have hr := Lib.hid (heap_alloc_new w (.cells #[.int .i64 0, .int .i64 0, .string ⟨#[]⟩, .slice none 0 0] 29))
  have hl2 : ([NM, k, nm]).length = 3 := rfl
  rw [hl2] at HJ
  have hz : w.heap.size + 1 ≤ (w.alloc (.cells #[.int .i64 0, .int .i64 0, .string ⟨#[]⟩, .slice none 0 0] 29)).heap.size := by simp
  have HO := Lib.hid (fun X hX hc => zof_at bS bM j D now blk off cap ([NM, k, nm]) 3 hl2 (by omega) k rfl (.slice none 0 0) F hF w hDB h3w hS HJ.out hAR X hX (w.heap.size + 1) hc)
  have HFF := Lib.hid (okF_of hS hF)
  have HJA := Lib.hid (fun X (hX : Below w.heap.size w X) => And.intro (HJ.out.below hX) (hA.below hX))
  have HSX := Lib.hid hS
  have HDX := Lib.hid hDB
  have CJ := Lib.hid (fun Y hY => (hAR.job Y hY).1)
  rw [hl2] at CJ
  have CA := Lib.hid (fun Y hY i s hs => hAR.arg Y hY i s hs)
  have hcap := hAR.len
  rw [hl2] at hcap
  have hcap2 := hAR.cap
  obtain ⟨h31, hOrd, hNd⟩ := HFF.out
  have RK := fun c sp X (hX : SK X c sp F) => Rank_any c sp F nm X hX (by omega)
  simp only [hfn] at RK
  have NI := Lib.hid (fun X => Nil66 X)
  have RK := Lib.hid RK
  clear hS hj hA hAR hF hfn hOrd hNd
  go_enter Tryz.func58, Tryz.ntmps58
  go_wp2_with (first | (go_at_call 67; (with_reducible refine (HO.out _ A1.out hz).mono ?_); rintro e w1 ⟨h, sp, e3, e4, e5, e6, rfl, hH1, h1⟩; have H1 := Lib.hid hH1; have B1 := Lib.hid (A1.out.trans (h1.mono (Below.size A1.out))); have r1 := Lib.hid (blk_below hr.out h1); clear h1 hH1; refine Hid.out ?_))
  refine Lib.hid ?_
  have cj := CJ.out _ B1.out
  have ca := CA.out _ B1.out 2 nm rfl
  have R1 := Lib.hid (RK.out _ sp w1 H1.out.sk)
  obtain ⟨⟨_, _, _, _, _, _, _, _, c8⟩, _⟩ := cells9 H1.out.blk
  go_wp2_with (first | (go_at_call 124; (with_reducible refine (R1.out).mono ?_); rintro e w2 ⟨rfl, h1⟩; have B2 := Lib.hid (B1.out.trans (h1.mono (Below.size B1.out))); have r2 := Lib.hid (blk_below r1.out h1); have H2 := Lib.hid (H1.out.below h1); clear h1; refine Hid.out ?_))
  refine Lib.hid ?_
  go_wp2_with (first | (go_at_call 122; (with_reducible refine (NI.out _).mono ?_); rintro e w3 ⟨rfl, h1⟩; have B3 := Lib.hid (B2.out.trans (h1.mono (Below.size B2.out))); have r3 := Lib.hid (blk_below r2.out h1); clear h1; obtain ⟨⟨c0, c1, c2, c3⟩, ⟨f0, f1, f2, f3⟩⟩ := cells4 r3.out))
  exact bodyPost_ret (v := .agg #[.int .i64 5, .int .i64 0, .string ⟨#[]⟩, .slice none 0 0]) (by simp [results, Tryz.results58, go_sem, c0, c1, c2, c3]) rfl ⟨rfl, ((((B3.out.setCell (Nat.le_refl _) _).setCell (Nat.le_refl _) _).setCell (Nat.le_refl _) _).setCell (Nat.le_refl _) _)⟩
set_option maxRecDepth 100000 in
set_option maxHeartbeats 8000000 in
theorem cZREVRANK0 (bS bM : Nat) (D : List (ByteArray × List (ByteArray × Int))) (now : Int) (NM k nm : ByteArray) (F : List (ByteArray × Int)) (hF : (findD k D).getD [] = F) (hfn : findD nm F = none) (w : World) (hDB : DB w) (h3w : 3 < w.heap.size) : CmdD KS okS 59 bS bM D now [NM, k, nm] 5 0 ⟨#[]⟩ R0 [] w := by
  intro j vA hS hj hA
  show Calls Tryz.prog 59 #[.pointer (some ⟨j, 0, none⟩)] w _
  have A1 := Lib.hid (alloc_old (w := w) (o := .cells #[.int .i64 0, .int .i64 0, .string ⟨#[]⟩, .slice none 0 0] 29))
  have hr := Lib.hid (heap_alloc_new w (.cells #[.int .i64 0, .int .i64 0, .string ⟨#[]⟩, .slice none 0 0] 29))
  have HJ := Lib.hid hj
  have ZR := Lib.hid (fun X (hX : Below w.heap.size w X) => zrankt0 bS bM j D now vA NM k nm F hF hfn X (hDB.at_ hX) (Nat.lt_of_lt_of_le h3w (Below.size hX)) (SPG.below KS okS hS hX) (hj.below hX) (hA.below hX))
  clear hS hj hA hF hfn hDB
  go_enter Tryz.func59, Tryz.ntmps59
  go_wp2_with (first | (go_at_call 58; (with_reducible refine (ZR.out _ A1.out).mono ?_); rintro e w1 ⟨rfl, h1⟩; have B1 := Lib.hid (A1.out.trans (h1.mono (Below.size A1.out))); obtain ⟨⟨c0, c1, c2, c3⟩, ⟨f0, f1, f2, f3⟩⟩ := cells4 (blk_below hr.out h1); clear h1))
  exact bodyPost_ret (v := .agg #[.int .i64 5, .int .i64 0, .string ⟨#[]⟩, .slice none 0 0]) (by simp [results, Tryz.results59, go_sem, c0, c1, c2, c3]) rfl (endD KS HJ.out ((((B1.out.setCell (Nat.le_refl _) _).setCell (Nat.le_refl _) _).setCell (Nat.le_refl _) _).setCell (Nat.le_refl _) _))
set_option maxRecDepth 100000 in
set_option maxHeartbeats 8000000 in
theorem zrankt1 (bS bM j : Nat) (D : List (ByteArray × List (ByteArray × Int))) (now : Int) (vA : Value) (NM k nm : ByteArray) (s : Int) (F : List (ByteArray × Int)) (hF : (findD k D).getD [] = F) (hfn : findD nm F = some s) (w : World) (hDB : DB w) (h3w : 3 < w.heap.size) (hS : SPG KS okS w bS bM D) (hj : JB w j bS now vA (.slice none 0 0)) (hA : SSl w vA [NM, k, nm]) : Calls Tryz.prog 58 #[.pointer (some ⟨j, 0, none⟩), .bool true] w fun e w' => e = .returned (.agg #[.int .i64 3, .int .i64 (F.length - 1 - (rankZ (nm, s) F : Nat) : Int), .string ⟨#[]⟩, .slice none 0 0]) ∧ Below w.heap.size w w' := by
  have hjw := lt_blk hj
  obtain ⟨blk, off, cap, rfl, hAR⟩ := AR.of hj hA (by simp)
  have HJ := Lib.hid hj
  have A1 := Lib.hid (alloc_old (w := w) (o := .cells #[.int .i64 0, .int .i64 0, .string ⟨#[]⟩, .slice none 0 0] 29))
  have hr := Lib.hid (heap_alloc_new w (.cells #[.int .i64 0, .int .i64 0, .string ⟨#[]⟩, .slice none 0 0] 29))
  have hl2 : ([NM, k, nm]).length = 3 := rfl
  rw [hl2] at HJ
  have hz : w.heap.size + 1 ≤ (w.alloc (.cells #[.int .i64 0, .int .i64 0, .string ⟨#[]⟩, .slice none 0 0] 29)).heap.size := by simp
  have HO := Lib.hid (fun X hX hc => zof_at bS bM j D now blk off cap ([NM, k, nm]) 3 hl2 (by omega) k rfl (.slice none 0 0) F hF w hDB h3w hS HJ.out hAR X hX (w.heap.size + 1) hc)
  have HFF := Lib.hid (okF_of hS hF)
  have HJA := Lib.hid (fun X (hX : Below w.heap.size w X) => And.intro (HJ.out.below hX) (hA.below hX))
  have HSX := Lib.hid hS
  have HDX := Lib.hid hDB
  have CJ := Lib.hid (fun Y hY => (hAR.job Y hY).1)
  rw [hl2] at CJ
  have CA := Lib.hid (fun Y hY i s hs => hAR.arg Y hY i s hs)
  have hcap := hAR.len
  rw [hl2] at hcap
  have hcap2 := hAR.cap
  obtain ⟨h31, hOrd, hNd⟩ := HFF.out
  have hrk : rankZ (nm, s) F < F.length := rank_lt hfn
  obtain ⟨N, hN⟩ : ∃ N, F.length = N := ⟨_, rfl⟩
  obtain ⟨R, hR⟩ : ∃ R, rankZ (nm, s) F = R := ⟨_, rfl⟩
  have RK := fun c sp X (hX : SK X c sp F) => Rank_any c sp F nm X hX (by omega)
  have LZ := fun c sp X (hX : SK X c sp F) => LenZ c sp F X hX
  simp only [hfn, hR, hN] at RK LZ hrk h31 ⊢
  have LZ := Lib.hid LZ
  have wr1 : wrap64 ((N : Int) - 1) = (N : Int) - 1 := by unfold wrap64; omega
  have wr2 : wrap64 ((N : Int) - 1 - (R : Int)) = (N : Int) - 1 - (R : Int) := by unfold wrap64; omega
  have IN := Lib.hid (fun n X => Int75 n X)
  have RK := Lib.hid RK
  clear hS hj hA hAR hF hfn hOrd hNd hN hR
  go_enter Tryz.func58, Tryz.ntmps58
  go_wp2_with (first | (go_at_call 67; (with_reducible refine (HO.out _ A1.out hz).mono ?_); rintro e w1 ⟨h, sp, e3, e4, e5, e6, rfl, hH1, h1⟩; have H1 := Lib.hid hH1; have B1 := Lib.hid (A1.out.trans (h1.mono (Below.size A1.out))); have r1 := Lib.hid (blk_below hr.out h1); clear h1 hH1; refine Hid.out ?_))
  refine Lib.hid ?_
  have cj := CJ.out _ B1.out
  have ca := CA.out _ B1.out 2 nm rfl
  have R1 := Lib.hid (RK.out _ sp w1 H1.out.sk)
  obtain ⟨⟨_, _, _, _, _, _, _, _, c8⟩, _⟩ := cells9 H1.out.blk
  go_wp2_with (first | (go_at_call 124; (with_reducible refine (R1.out).mono ?_); rintro e w2 ⟨rfl, h1⟩; have B2 := Lib.hid (B1.out.trans (h1.mono (Below.size B1.out))); have r2 := Lib.hid (blk_below r1.out h1); have H2 := Lib.hid (H1.out.below h1); clear h1; refine Hid.out ?_))
  refine Lib.hid ?_
  have LT := Lib.hid (LZ.out _ sp w2 H2.out.sk)
  go_wp2_with (first | (go_at_call 123; (with_reducible refine (LT.out).mono ?_); rintro e w9 ⟨rfl, hw9⟩; obtain rfl := hw9.symm) | (go_at_call 69; (with_reducible refine (IN.out _ _).mono ?_); rintro e w3 ⟨rfl, h1⟩; have B3 := Lib.hid (B2.out.trans (h1.mono (Below.size B2.out))); have r3 := Lib.hid (blk_below r2.out h1); clear h1; obtain ⟨⟨c0, c1, c2, c3⟩, ⟨f0, f1, f2, f3⟩⟩ := cells4 r3.out))
  exact bodyPost_ret (v := .agg #[.int .i64 3, .int .i64 (N - 1 - (R : Nat) : Int), .string ⟨#[]⟩, .slice none 0 0]) (by simp [results, Tryz.results58, go_sem, c0, c1, c2, c3]) rfl ⟨rfl, ((((B3.out.setCell (Nat.le_refl _) _).setCell (Nat.le_refl _) _).setCell (Nat.le_refl _) _).setCell (Nat.le_refl _) _)⟩
set_option maxRecDepth 100000 in
set_option maxHeartbeats 8000000 in
theorem cZREVRANK1 (bS bM : Nat) (D : List (ByteArray × List (ByteArray × Int))) (now : Int) (NM k nm : ByteArray) (s : Int) (F : List (ByteArray × Int)) (hF : (findD k D).getD [] = F) (hfn : findD nm F = some s) (w : World) (hDB : DB w) (h3w : 3 < w.heap.size) : CmdD KS okS 59 bS bM D now [NM, k, nm] 3 (F.length - 1 - (rankZ (nm, s) F : Nat) : Int) ⟨#[]⟩ R0 [] w := by
  intro j vA hS hj hA
  show Calls Tryz.prog 59 #[.pointer (some ⟨j, 0, none⟩)] w _
  have A1 := Lib.hid (alloc_old (w := w) (o := .cells #[.int .i64 0, .int .i64 0, .string ⟨#[]⟩, .slice none 0 0] 29))
  have hr := Lib.hid (heap_alloc_new w (.cells #[.int .i64 0, .int .i64 0, .string ⟨#[]⟩, .slice none 0 0] 29))
  have HJ := Lib.hid hj
  have ZR := Lib.hid (fun X (hX : Below w.heap.size w X) => zrankt1 bS bM j D now vA NM k nm s F hF hfn X (hDB.at_ hX) (Nat.lt_of_lt_of_le h3w (Below.size hX)) (SPG.below KS okS hS hX) (hj.below hX) (hA.below hX))
  clear hS hj hA hF hfn hDB
  go_enter Tryz.func59, Tryz.ntmps59
  go_wp2_with (first | (go_at_call 58; (with_reducible refine (ZR.out _ A1.out).mono ?_); rintro e w1 ⟨rfl, h1⟩; have B1 := Lib.hid (A1.out.trans (h1.mono (Below.size A1.out))); obtain ⟨⟨c0, c1, c2, c3⟩, ⟨f0, f1, f2, f3⟩⟩ := cells4 (blk_below hr.out h1); clear h1))
  exact bodyPost_ret (v := .agg #[.int .i64 3, .int .i64 (F.length - 1 - (rankZ (nm, s) F : Nat) : Int), .string ⟨#[]⟩, .slice none 0 0]) (by simp [results, Tryz.results59, go_sem, c0, c1, c2, c3]) rfl (endD KS HJ.out ((((B1.out.setCell (Nat.le_refl _) _).setCell (Nat.le_refl _) _).setCell (Nat.le_refl _) _).setCell (Nat.le_refl _) _))
end Go.Proofs.YticlacjpgjkhcaaGreatDoor

/- scores: those of some scores. -/
namespace Go.Proofs.YticlacjpgjkhcaaGreatDoor
open Go.ChangeShapes Go.WideShapes Go.ChangeAt Go.RowKit

/-- Those of some scores. -/
def btF (hi : Int) (p : ByteArray × Int) : Bool := decide (p.2 ≤ hi)
def btZ (lo hi : Int) (F : List (ByteArray × Int)) : List (ByteArray × Int) := (F.drop (rankZ (⟨#[]⟩, lo) F)).filter (btF hi)
def btG (r : Nat) (hi : Int) (F : List (ByteArray × Int)) (i : Nat) : List (ByteArray × Int) := ((F.drop r).take (i - r)).filter (btF hi)
theorem btG_0 (r : Nat) (hi : Int) (F : List (ByteArray × Int)) : btG r hi F r = [] := by simp [btG]
theorem btG_s {r : Nat} {hi : Int} {F : List (ByteArray × Int)} {i : Nat} {p : ByteArray × Int} (hr : r ≤ i) (hp : F[i]? = some p) : btG r hi F (i + 1) = btG r hi F i ++ (if p.2 ≤ hi then [p] else []) := by
  unfold btG
  rw [show i + 1 - r = (i - r) + 1 by omega, List.take_add_one, List.getElem?_drop, show r + (i - r) = i by omega, hp, List.filter_append]
  congr 1
  by_cases h : p.2 ≤ hi <;> simp [btF, h]
theorem btG_n {r : Nat} {hi : Int} {F : List (ByteArray × Int)} {N : Nat} (hN : F.length = N) : btG r hi F N = (F.drop r).filter (btF hi) := by
  unfold btG
  rw [List.take_of_length_le (by rw [List.length_drop]; omega)]
theorem cells2 {X : World} {b : Nat} {a0 a1 : Value} {t : TypeId} (h : X.heap[b]? = some (.cells #[a0, a1] t)) : X.cell? ⟨b, 0, none⟩ = some a0 ∧ X.cell? ⟨b, 1, none⟩ = some a1 := by
  refine ⟨?_, ?_⟩ <;> (rw [cell_of_row _ b _ _ t (0, 0) h]; rfl)
theorem rank_le (x : ByteArray × Int) (F : List (ByteArray × Int)) : rankZ x F ≤ F.length := List.length_filter_le _ _
set_option maxRecDepth 100000 in
set_option maxHeartbeats 8000000 in
theorem zbetween_any (c j h sp : Nat) (k : ByteArray) (e3 e4 e5 e6 : Value) (F : List (ByteArray × Int)) (lo hi : Int) (w : World) (hlen : F.length ≤ 31) (hw : c ≤ w.heap.size) (s : ZH c w h sp k e3 e4 e5 e6 F) (hlo : ∀ X, Below w.heap.size w X → Calls Tryz.prog 110 #[.pointer (some ⟨j, 0, none⟩), .int .i64 2] X fun e w' => e = .returned (.int .i64 lo) ∧ Below X.heap.size X w') (hhi : ∀ X, Below w.heap.size w X → Calls Tryz.prog 110 #[.pointer (some ⟨j, 0, none⟩), .int .i64 3] X fun e w' => e = .returned (.int .i64 hi) ∧ Below X.heap.size X w') : Calls Tryz.prog 66 #[.pointer (some ⟨j, 0, none⟩), .pointer (some ⟨h, 0, none⟩)] w fun e w' => ∃ A m C, e = .returned (.slice A m C) ∧ (btZ lo hi F).length = m ∧ RS w' w.heap.size (.slice A m C) (btZ lo hi F) ∧ Below w.heap.size w w' := by
  obtain ⟨N, hN⟩ : ∃ N, F.length = N := ⟨_, rfl⟩
  obtain ⟨r, hr⟩ : ∃ r, rankZ (⟨#[]⟩, lo) F = r := ⟨_, rfl⟩
  have hrn := rank_le (⟨#[]⟩, lo) F
  unfold btZ
  have BL := fun X (hX : Below w.heap.size w X) => Below_any c sp F lo X (s.below hX).sk (by omega)
  have LN := fun X (hX : Below w.heap.size w X) => LenZ c sp F X (s.below hX).sk
  have AT := Lib.hid (fun X (hX : Below w.heap.size w X) i p (hp : F[i]? = some p) => At_any c sp F i p hp X (s.below hX).sk (by omega))
  have GN := btG_n (r := r) (hi := hi) hN
  simp only [hN, hr] at hrn LN BL hlen ⊢
  have BL := Lib.hid BL
  have LN := Lib.hid LN
  have GN := Lib.hid GN
  have HN := Lib.hid hN
  have LO := Lib.hid hlo
  have HI := Lib.hid hhi
  have HS := Lib.hid s
  have C8 := Lib.hid (show ∀ X, Below w.heap.size w X → X.cell? ⟨h, 8, none⟩ = some (.pointer (some ⟨sp, 0, none⟩)) from fun X hX => (cells9 (s.below hX).blk).1.2.2.2.2.2.2.2.2)
  clear s hlo hhi hr hN
  have L0 := LO.out w (Below.refl _ _)
  go_enter Tryz.func66, Tryz.ntmps66
  go_wp2_with (first | (go_at_call 110; (first | ((with_reducible refine (L0).mono ?_); rintro e w1 ⟨rfl, h1⟩; have B1 := Lib.hid h1; have I1 := HI.out w1 h1; clear h1) | ((with_reducible refine (I1).mono ?_); rintro e w2 ⟨rfl, h1⟩; have B2 := Lib.hid (B1.out.trans (h1.mono (Below.size B1.out))); clear h1; refine Hid.out ?_))))
  refine Lib.hid ?_
  have c8 := C8.out w2 B2.out
  have BB := Lib.hid (BL.out w2 B2.out)
  clear L0 I1
  go_wp2_with (first | (go_at_call 128; (with_reducible refine (BB.out).mono ?_); rintro e w3 ⟨rfl, h1⟩; have B3 := Lib.hid (B2.out.trans (h1.mono (Below.size B2.out))); clear h1; refine Hid.out ?_))
  refine Lib.hid ?_
  clear c8
  go_wp2
  go_loopw [7, 8] (fun ov iv wr => ∃ (i : Nat) (A : Option Addr) (m C : Nat), r ≤ i ∧ i ≤ N ∧ ov = .slice A m C ∧ iv = .int .i64 i ∧ Hid (RS wr w.heap.size (.slice A m C) (btG r hi F i) ∧ (btG r hi F i).length = m ∧ Below w.heap.size w wr)) (fun _ iv _ => N - (intOf iv).toNat)
  case atStart => exact ⟨r, none, 0, 0, Nat.le_refl _, hrn, rfl, rfl, Lib.hid ⟨by rw [btG_0]; exact World.ownsRow_nil _ _ _ _, by rw [btG_0]; rfl, B3.out⟩⟩
  case round =>
    obtain ⟨i, A, m, C, hri, hi9, rfl, rfl, HQ⟩ := hrel
    have c8 := C8.out wr HQ.out.2.2
    have LT := Lib.hid (LN.out wr HQ.out.2.2)
    by_cases hlt : i < N
    · have q0 : (i : Int) < (N : Int) := by omega
      obtain ⟨p, hp⟩ : ∃ p, F[i]? = some p := ⟨_, List.getElem?_eq_getElem (by rw [HN.out]; exact hlt)⟩
      have AC := Lib.hid (AT.out wr HQ.out.2.2 i p hp)
      have GS := btG_s (hi := hi) hri hp
      clear hp
      go_wp2_with (first | (go_at_call 123; (with_reducible refine (LT.out).mono ?_); rintro e w2 ⟨rfl, hw2⟩; obtain rfl := hw2.symm) | (go_at_call 129; (with_reducible refine (AC.out).mono ?_); rintro e w4 ⟨rfl, h4⟩; have H4 := Lib.hid h4; clear h4; refine Hid.out ?_))
      refine Lib.hid ?_
      have AX := Lib.hid (alloc_old (w := w4) (o := .cells #[.string p.1, .int .i64 p.2] 52))
      have nx := heap_alloc_new w4 (.cells #[.string p.1, .int .i64 p.2] 52)
      have BX := Lib.hid (HQ.out.2.2.trans ((H4.out.trans (AX.out.mono (Below.size H4.out))).mono (Below.size HQ.out.2.2)))
      obtain ⟨d0, d1⟩ := cells2 nx
      by_cases hps : p.2 ≤ hi
      · rw [if_pos hps] at GS
        have GS := Lib.hid GS
        have AY := Lib.hid (alloc_old (w := w4.alloc (.cells #[.string p.1, .int .i64 p.2] 52)) (o := .cells #[.string p.1, .int .i64 p.2] 52))
        have ny := Lib.hid (show ((w4.alloc (.cells #[.string p.1, .int .i64 p.2] 52)).alloc (.cells #[.string p.1, .int .i64 p.2] 52)).heap[w4.heap.size + 1]? = some (.cells #[.string p.1, .int .i64 p.2] 52) from by
          have h := heap_alloc_new (w4.alloc (.cells #[.string p.1, .int .i64 p.2] 52)) (.cells #[.string p.1, .int .i64 p.2] 52)
          rwa [World.size_alloc] at h)
        have RY := Lib.hid ((HQ.out.1.below ((H4.out.trans (AX.out.mono (Below.size H4.out))))).below AY.out)
        have HM := Lib.hid HQ.out.2.1
        have hm : m ≤ 100000 := by
          have h1 := HQ.out.2.1
          have h2 : (btG r hi F i).length ≤ F.length := by
            unfold btG
            exact Nat.le_trans (List.length_filter_le _ _) (by simp; omega)
          have := HN.out
          omega
        have HZ := Lib.hid (Nat.le_trans (Below.size BX.out) (Below.size AY.out))
        go_wp2_with (first | (at_builtin; refine append_RS _ rfl _ _ rfl w.heap.size (.slice A m C) _ m HM.out rfl RY.out p _ rfl ny.out hm HZ.out ?_; intro g6 C6 w6 h6 h7 h8; have R6 := Lib.hid h6; have B6 := Lib.hid (BX.out.trans ((AY.out.mono (Below.size BX.out)).trans h7)); clear h6 h7 h8))
        exact ⟨⟨i + 1, _, m + 1, C6, by omega, by omega, rfl, by go_num, Lib.hid ⟨by rw [GS.out]; exact R6.out, by rw [GS.out, List.length_append, HM.out]; rfl, B6.out⟩⟩, by simp [intOf]; omega⟩
      · rw [if_neg hps, List.append_nil] at GS
        have GS := Lib.hid GS
        have RY := Lib.hid (HQ.out.1.below ((H4.out.trans (AX.out.mono (Below.size H4.out)))))
        go_wp2
        exact ⟨⟨i + 1, A, m, C, by omega, by omega, rfl, by go_num, Lib.hid ⟨by rw [GS.out]; exact RY.out, by rw [GS.out]; exact HQ.out.2.1, BX.out⟩⟩, by simp [intOf]; omega⟩
    · obtain rfl : i = N := by omega
      have q0 : ¬ (i : Int) < (i : Int) := by omega
      have hR := HQ.out
      rw [GN.out] at hR
      have hR := Lib.hid hR
      clear HQ
      go_wp2_with (first | (go_at_call 123; (with_reducible refine (LT.out).mono ?_); rintro e w2 ⟨rfl, hw2⟩; obtain rfl := hw2.symm))
      go_ret
      exact ⟨A, m, C, rfl, hR.out.2.1, hR.out.1, hR.out.2.2⟩
end Go.Proofs.YticlacjpgjkhcaaGreatDoor
