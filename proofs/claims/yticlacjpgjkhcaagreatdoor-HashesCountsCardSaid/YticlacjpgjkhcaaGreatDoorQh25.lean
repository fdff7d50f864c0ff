/- Texts joined: C4, G21 -/
import Derived.Test.YticlacjpgjkhcaaGreatDoorQh23
import Derived.Test.YticlacjpgjkhcaaGreatDoorQh24
import Derived.Test.YticlacjpgjkhcaaGreatDoorQh1

/- Commands of hashes that read one field: HGET, HEXISTS, HLEN, HSTRLEN. -/
namespace Go.Proofs.YticlacjpgjkhcaaGreatDoor
open Go.ChangeShapes Go.WideShapes Go.ChangeAt Go.RowKit

theorem TabT.mono {c d : Nat} {w : World} {p g : Nat} {f : Nat → Value} {D : List (ByteArray × Nat)} (h : TabT c w p g f D) (hd : d ≤ c) : TabT d w p g f D :=
  ⟨Nat.le_trans hd h.hp, Nat.le_trans hd h.hg, h.tab, h.slots, fun j hj => row_mono (h.row j hj) hd, h.dist, h.few, h.nd⟩
theorem HH.mono {c d : Nat} {w : World} {h : Nat} {e0 e1 e2 e3 e4 e5 e6 e7 e8 : Value} {F : List (ByteArray × ByteArray)} {N : Nat} (s : HH c w h e0 e1 e2 e3 e4 e5 e6 e7 e8 F N) (hd : d ≤ c) : HH d w h e0 e1 e2 e3 e4 e5 e6 e7 e8 F N := by
  obtain ⟨p, g, f, D, l, L, s, hL⟩ := s
  exact ⟨p, g, f, D, l, L, ⟨Nat.le_trans hd s.hc, s.blk, s.tab.mono hd, row_mono s.row hd, s.hf⟩, hL⟩
theorem hof_at (bS bM j : Nat) (D : List (ByteArray × List (ByteArray × ByteArray))) (now : Int) (blk off cap : Nat) (xs : List ByteArray) (n : Nat) (hn : xs.length = n) (h2 : 2 ≤ n) (k : ByteArray) (hk : xs[1]? = some k) (vl : Value) (F : List (ByteArray × ByteArray)) (hF : (findD k D).getD [] = F) (hfew : F.length ≤ 15) (w : World) (hS : SPG KF okF w bS bM D) (hj : JB w j bS now (.slice (some ⟨blk, off, none⟩) n cap) vl) (hA : AR w j now blk off cap xs) (X : World) (hX : Below w.heap.size w X) (c : Nat) (hc : c ≤ X.heap.size) : Calls Tryz.prog 132 #[.pointer (some ⟨j, 0, none⟩)] X fun e w' => ∃ (h : Nat) (e3 e4 e5 e6 : Value), e = .returned (.pointer (some ⟨h, 0, none⟩)) ∧ HH c w' h (.string k) (.int .i64 3) (.string ⟨#[]⟩) e3 e4 e5 e6 (.int .i64 0) (.bool (findD k D).isSome) F F.length ∧ Below X.heap.size X w' := by
  refine (hof_any bS bM j D now blk off cap xs n hn h2 k hk vl F hF hfew X (SPG.below KF okF hS hX) (hj.below hX) (hA.below hX)).mono ?_
  rintro e w1 ⟨h, e3, e4, e5, e6, he, hH, hb⟩
  exact ⟨h, e3, e4, e5, e6, he, hH.mono hc, hb⟩
theorem ParseY (t : ByteArray) (n : Int) (ht : t.size ≤ 100000) (hp : parseI t.data.toList = some n) (w : World) : Calls Tryz.prog 141 #[.string t] w fun e w' => e = .returned (.tuple #[.int .i64 n, .bool true]) ∧ Below w.heap.size w w' := by
  refine (Parse9 t (by omega) w).mono ?_
  rintro e w' ⟨rfl, m, rfl⟩
  rw [hp]
  exact ⟨rfl, below_drewN (Below.refl _ _) m⟩
theorem ParseN (t : ByteArray) (ht : t.size ≤ 100000) (hp : parseI t.data.toList = none) (w : World) : Calls Tryz.prog 141 #[.string t] w fun e w' => e = .returned (.tuple #[.int .i64 0, .bool false]) ∧ Below w.heap.size w w' := by
  refine (Parse9 t (by omega) w).mono ?_
  rintro e w' ⟨rfl, m, rfl⟩
  rw [hp]
  exact ⟨rfl, below_drewN (Below.refl _ _) m⟩
theorem AddY (a b : Int) (ha : I64 a) (hb : I64 b) (hr : rng (a + b) = true) (w : World) : Calls Tryz.prog 118 #[.int .i64 a, .int .i64 b] w fun e w' => e = .returned (.tuple #[.int .i64 (a + b), .bool true]) ∧ Below w.heap.size w w' := by
  refine (N13 a b ha.1 ha.2 hb.1 hb.2 w).mono ?_
  rintro e w' ⟨rfl, rfl⟩
  rw [hr]
  exact ⟨rfl, Below.refl _ _⟩
set_option maxRecDepth 100000 in
set_option maxHeartbeats 8000000 in
theorem cHGET1 (bS bM : Nat) (D : List (ByteArray × List (ByteArray × ByteArray))) (now : Int) (NM k : ByteArray) (nm : ByteArray) (hnm : nm.size ≤ 1000000) (t : ByteArray)  (F : List (ByteArray × ByteArray)) (hF : (findD k D).getD [] = F) (hfn : findD nm F = some t) (hfew : F.length ≤ 15) (w : World) : CmdD KF okF 79 bS bM D now [NM, k, nm] 4 0 t R0 [] w := by
  intro j vA hS hj hA
  show Calls Tryz.prog 79 #[.pointer (some ⟨j, 0, none⟩)] w _
  have hjw := lt_blk hj
  obtain ⟨blk, off, cap, rfl, hAR⟩ := AR.of hj hA (by simp)
  have HJ := Lib.hid hj
  have A1 := Lib.hid (alloc_old (w := w) (o := .cells #[.int .i64 0, .int .i64 0, .string ⟨#[]⟩, .slice none 0 0] 29))
  have hr := Lib.hid (heap_alloc_new w (.cells #[.int .i64 0, .int .i64 0, .string ⟨#[]⟩, .slice none 0 0] 29))
  have hl2 : ([NM, k, nm]).length = 3 := rfl
  rw [hl2] at HJ ⊢
  have hz : w.heap.size + 1 ≤ (w.alloc (.cells #[.int .i64 0, .int .i64 0, .string ⟨#[]⟩, .slice none 0 0] 29)).heap.size := by simp
  have HO := Lib.hid (fun X hX hc => hof_at bS bM j D now blk off cap ([NM, k, nm]) 3 hl2 (by omega) k rfl (.slice none 0 0) F hF hfew w hS HJ.out hAR X hX (w.heap.size + 1) hc)
  have CJ := Lib.hid (fun Y hY => (hAR.job Y hY).1)
  rw [hl2] at CJ
  have CA := Lib.hid (fun Y hY i s hs => hAR.arg Y hY i s hs)
  have hcap := hAR.len
  rw [hl2] at hcap
  have hcap2 := hAR.cap
  have BK := fun h e3 e4 e5 e6 X (hX : HH (w.heap.size + 1) X h (.string k) (.int .i64 3) (.string ⟨#[]⟩) e3 e4 e5 e6 (.int .i64 0) (.bool (findD k D).isSome) F F.length) => hbulk_any (w.heap.size + 1) h _ _ _ e3 e4 e5 e6 _ _ F F.length (by omega) nm hnm X hX
  simp only [hfn, optR] at BK
  have BK := Lib.hid BK
  clear hS hj hA hAR hF hfn
  have SX := Lib.hid (show ∀ X, Below w.heap.size w X → (X.cell? ⟨j, 2, none⟩ = some (.slice (some ⟨blk, off, none⟩) 3 cap) ∧ X.cell? ⟨blk, off + 2, none⟩ = some (.string nm)) from fun Y hY => ⟨CJ.out Y hY, CA.out Y hY 2 nm rfl⟩)
  have S0 := SX.out _ A1.out.drew
  have HOd := Lib.hid (HO.out _ A1.out.drew hz)
  have rd := Lib.hid (show (w.alloc (.cells #[.int .i64 0, .int .i64 0, .string ⟨#[]⟩, .slice none 0 0] 29)).drew.heap[w.heap.size]? = some (.cells #[.int .i64 0, .int .i64 0, .string ⟨#[]⟩, .slice none 0 0] 29) from hr.out)
  go_enter Tryz.func79, Tryz.ntmps79
  go_wp2
  go_region_held3 (fun X => X.cell? ⟨j, 2, none⟩ = some (.slice (some ⟨blk, off, none⟩) 3 cap) ∧ X.cell? ⟨blk, off + 2, none⟩ = some (.string nm)) (first | (with_reducible exact S0) | (with_reducible exact S1.out) | (with_reducible exact S2.out) | (with_reducible exact S3.out))
    (first | (go_at_call 132; (with_reducible refine (HOd.out).mono ?_); rintro e w1 ⟨h, e3, e4, e5, e6, rfl, hH1, h1⟩; have B1 := Lib.hid (A1.out.drew.trans (h1.mono (Below.size A1.out.drew))); have r1 := Lib.hid (blk_below rd.out h1); have S1 := Lib.hid (SX.out _ B1.out); have K1 := Lib.hid (BK.out h e3 e4 e5 e6 w1 hH1); clear h1 hH1) | (go_at_call 136; (with_reducible refine (K1.out).mono ?_); rintro e w2 ⟨rfl, h1⟩; have B2 := Lib.hid (B1.out.trans (h1.mono (Below.size B1.out))); have r2 := Lib.hid (blk_below r1.out h1); have S2 := Lib.hid (SX.out _ B2.out); have S3 := Lib.hid (SX.out _ ((((B2.out.setCell (p := ⟨w.heap.size, 0, none⟩) (Nat.le_refl _) (.int .i64 4)).setCell (p := ⟨w.heap.size, 1, none⟩) (Nat.le_refl _) (.int .i64 0)).setCell (p := ⟨w.heap.size, 2, none⟩) (Nat.le_refl _) (.string t)).setCell (p := ⟨w.heap.size, 3, none⟩) (Nat.le_refl _) (.slice none 0 0))); obtain ⟨⟨c0, c1, c2, c3⟩, f0, f1, f2, f3⟩ := cells4 (blk_below r1.out h1); clear h1))
  go_wp2
  exact bodyPost_ret (v := .agg #[.int .i64 4, .int .i64 0, .string t, .slice none 0 0]) (by simp [results, Tryz.results79, go_sem, c0, c1, c2, c3]) rfl (endD KF HJ.out ((((B2.out.setCell (Nat.le_refl _) _).setCell (Nat.le_refl _) _).setCell (Nat.le_refl _) _).setCell (Nat.le_refl _) _))
set_option maxRecDepth 100000 in
set_option maxHeartbeats 8000000 in
theorem cHGET0 (bS bM : Nat) (D : List (ByteArray × List (ByteArray × ByteArray))) (now : Int) (NM k : ByteArray) (nm : ByteArray) (hnm : nm.size ≤ 1000000)  (F : List (ByteArray × ByteArray)) (hF : (findD k D).getD [] = F) (hfn : findD nm F = none) (hfew : F.length ≤ 15) (w : World) : CmdD KF okF 79 bS bM D now [NM, k, nm] 5 0 ⟨#[]⟩ R0 [] w := by
  intro j vA hS hj hA
  show Calls Tryz.prog 79 #[.pointer (some ⟨j, 0, none⟩)] w _
  have hjw := lt_blk hj
  obtain ⟨blk, off, cap, rfl, hAR⟩ := AR.of hj hA (by simp)
  have HJ := Lib.hid hj
  have A1 := Lib.hid (alloc_old (w := w) (o := .cells #[.int .i64 0, .int .i64 0, .string ⟨#[]⟩, .slice none 0 0] 29))
  have hr := Lib.hid (heap_alloc_new w (.cells #[.int .i64 0, .int .i64 0, .string ⟨#[]⟩, .slice none 0 0] 29))
  have hl2 : ([NM, k, nm]).length = 3 := rfl
  rw [hl2] at HJ ⊢
  have hz : w.heap.size + 1 ≤ (w.alloc (.cells #[.int .i64 0, .int .i64 0, .string ⟨#[]⟩, .slice none 0 0] 29)).heap.size := by simp
  have HO := Lib.hid (fun X hX hc => hof_at bS bM j D now blk off cap ([NM, k, nm]) 3 hl2 (by omega) k rfl (.slice none 0 0) F hF hfew w hS HJ.out hAR X hX (w.heap.size + 1) hc)
  have CJ := Lib.hid (fun Y hY => (hAR.job Y hY).1)
  rw [hl2] at CJ
  have CA := Lib.hid (fun Y hY i s hs => hAR.arg Y hY i s hs)
  have hcap := hAR.len
  rw [hl2] at hcap
  have hcap2 := hAR.cap
  have BK := fun h e3 e4 e5 e6 X (hX : HH (w.heap.size + 1) X h (.string k) (.int .i64 3) (.string ⟨#[]⟩) e3 e4 e5 e6 (.int .i64 0) (.bool (findD k D).isSome) F F.length) => hbulk_any (w.heap.size + 1) h _ _ _ e3 e4 e5 e6 _ _ F F.length (by omega) nm hnm X hX
  simp only [hfn, optR] at BK
  have BK := Lib.hid BK
  clear hS hj hA hAR hF hfn
  have SX := Lib.hid (show ∀ X, Below w.heap.size w X → (X.cell? ⟨j, 2, none⟩ = some (.slice (some ⟨blk, off, none⟩) 3 cap) ∧ X.cell? ⟨blk, off + 2, none⟩ = some (.string nm)) from fun Y hY => ⟨CJ.out Y hY, CA.out Y hY 2 nm rfl⟩)
  have S0 := SX.out _ A1.out.drew
  have HOd := Lib.hid (HO.out _ A1.out.drew hz)
  have rd := Lib.hid (show (w.alloc (.cells #[.int .i64 0, .int .i64 0, .string ⟨#[]⟩, .slice none 0 0] 29)).drew.heap[w.heap.size]? = some (.cells #[.int .i64 0, .int .i64 0, .string ⟨#[]⟩, .slice none 0 0] 29) from hr.out)
  go_enter Tryz.func79, Tryz.ntmps79
  go_wp2
  go_region_held3 (fun X => X.cell? ⟨j, 2, none⟩ = some (.slice (some ⟨blk, off, none⟩) 3 cap) ∧ X.cell? ⟨blk, off + 2, none⟩ = some (.string nm)) (first | (with_reducible exact S0) | (with_reducible exact S1.out) | (with_reducible exact S2.out) | (with_reducible exact S3.out))
    (first | (go_at_call 132; (with_reducible refine (HOd.out).mono ?_); rintro e w1 ⟨h, e3, e4, e5, e6, rfl, hH1, h1⟩; have B1 := Lib.hid (A1.out.drew.trans (h1.mono (Below.size A1.out.drew))); have r1 := Lib.hid (blk_below rd.out h1); have S1 := Lib.hid (SX.out _ B1.out); have K1 := Lib.hid (BK.out h e3 e4 e5 e6 w1 hH1); clear h1 hH1) | (go_at_call 136; (with_reducible refine (K1.out).mono ?_); rintro e w2 ⟨rfl, h1⟩; have B2 := Lib.hid (B1.out.trans (h1.mono (Below.size B1.out))); have r2 := Lib.hid (blk_below r1.out h1); have S2 := Lib.hid (SX.out _ B2.out); have S3 := Lib.hid (SX.out _ ((((B2.out.setCell (p := ⟨w.heap.size, 0, none⟩) (Nat.le_refl _) (.int .i64 5)).setCell (p := ⟨w.heap.size, 1, none⟩) (Nat.le_refl _) (.int .i64 0)).setCell (p := ⟨w.heap.size, 2, none⟩) (Nat.le_refl _) (.string ⟨#[]⟩)).setCell (p := ⟨w.heap.size, 3, none⟩) (Nat.le_refl _) (.slice none 0 0))); obtain ⟨⟨c0, c1, c2, c3⟩, f0, f1, f2, f3⟩ := cells4 (blk_below r1.out h1); clear h1))
  go_wp2
  exact bodyPost_ret (v := .agg #[.int .i64 5, .int .i64 0, .string ⟨#[]⟩, .slice none 0 0]) (by simp [results, Tryz.results79, go_sem, c0, c1, c2, c3]) rfl (endD KF HJ.out ((((B2.out.setCell (Nat.le_refl _) _).setCell (Nat.le_refl _) _).setCell (Nat.le_refl _) _).setCell (Nat.le_refl _) _))
set_option maxRecDepth 100000 in
set_option maxHeartbeats 8000000 in
theorem Is_true (w : World) : Calls Tryz.prog 138 #[.bool true] w fun e w' => e = .returned (.agg #[.int .i64 3, .int .i64 1, .string ⟨#[]⟩, .slice none 0 0]) ∧ Below w.heap.size w w' := by
  have A1 := Lib.hid (alloc_old (w := w) (o := .cells #[.int .i64 0, .int .i64 0, .string ⟨#[]⟩, .slice none 0 0] 29))
  have hr := Lib.hid (heap_alloc_new w (.cells #[.int .i64 0, .int .i64 0, .string ⟨#[]⟩, .slice none 0 0] 29))
  have IN := Lib.hid (fun X => Int75 1 X)
  go_enter Tryz.func138, Tryz.ntmps138
  go_wp2_with (first | (go_at_call 69; (with_reducible refine (IN.out _).mono ?_); rintro e w1 ⟨rfl, h1⟩; have B1 := Lib.hid (A1.out.trans (h1.mono (Below.size A1.out))); obtain ⟨⟨c0, c1, c2, c3⟩, ⟨f0, f1, f2, f3⟩⟩ := cells4 (blk_below hr.out h1); clear h1))
  exact bodyPost_ret (v := .agg #[.int .i64 3, .int .i64 1, .string ⟨#[]⟩, .slice none 0 0]) (by simp [results, Tryz.results138, go_sem, c0, c1, c2, c3]) rfl ⟨rfl, (((B1.out.setCell (Nat.le_refl _) _).setCell (Nat.le_refl _) _).setCell (Nat.le_refl _) _).setCell (Nat.le_refl _) _⟩
set_option maxRecDepth 100000 in
set_option maxHeartbeats 8000000 in
theorem Is_false (w : World) : Calls Tryz.prog 138 #[.bool false] w fun e w' => e = .returned (.agg #[.int .i64 3, .int .i64 0, .string ⟨#[]⟩, .slice none 0 0]) ∧ Below w.heap.size w w' := by
  have A1 := Lib.hid (alloc_old (w := w) (o := .cells #[.int .i64 0, .int .i64 0, .string ⟨#[]⟩, .slice none 0 0] 29))
  have hr := Lib.hid (heap_alloc_new w (.cells #[.int .i64 0, .int .i64 0, .string ⟨#[]⟩, .slice none 0 0] 29))
  have IN := Lib.hid (fun X => Int75 0 X)
  go_enter Tryz.func138, Tryz.ntmps138
  go_wp2_with (first | (go_at_call 69; (with_reducible refine (IN.out _).mono ?_); rintro e w1 ⟨rfl, h1⟩; have B1 := Lib.hid (A1.out.trans (h1.mono (Below.size A1.out))); obtain ⟨⟨c0, c1, c2, c3⟩, ⟨f0, f1, f2, f3⟩⟩ := cells4 (blk_below hr.out h1); clear h1))
  exact bodyPost_ret (v := .agg #[.int .i64 3, .int .i64 0, .string ⟨#[]⟩, .slice none 0 0]) (by simp [results, Tryz.results138, go_sem, c0, c1, c2, c3]) rfl ⟨rfl, (((B1.out.setCell (Nat.le_refl _) _).setCell (Nat.le_refl _) _).setCell (Nat.le_refl _) _).setCell (Nat.le_refl _) _⟩
set_option maxRecDepth 100000 in
set_option maxHeartbeats 8000000 in
theorem cHEXISTS1 (bS bM : Nat) (D : List (ByteArray × List (ByteArray × ByteArray))) (now : Int) (NM k : ByteArray) (nm : ByteArray) (hnm : nm.size ≤ 1000000) (F : List (ByteArray × ByteArray)) (hF : (findD k D).getD [] = F) (hfn : (findD nm F).isSome = true) (hfew : F.length ≤ 15) (w : World) : CmdD KF okF 82 bS bM D now [NM, k, nm] 3 1 ⟨#[]⟩ R0 [] w := by
  intro j vA hS hj hA
  show Calls Tryz.prog 82 #[.pointer (some ⟨j, 0, none⟩)] w _
  have hjw := lt_blk hj
  obtain ⟨blk, off, cap, rfl, hAR⟩ := AR.of hj hA (by simp)
  have HJ := Lib.hid hj
  have A1 := Lib.hid (alloc_old (w := w) (o := .cells #[.int .i64 0, .int .i64 0, .string ⟨#[]⟩, .slice none 0 0] 29))
  have hr := Lib.hid (heap_alloc_new w (.cells #[.int .i64 0, .int .i64 0, .string ⟨#[]⟩, .slice none 0 0] 29))
  have hl2 : ([NM, k, nm]).length = 3 := rfl
  rw [hl2] at HJ ⊢
  have hz : w.heap.size + 1 ≤ (w.alloc (.cells #[.int .i64 0, .int .i64 0, .string ⟨#[]⟩, .slice none 0 0] 29)).heap.size := by simp
  have HO := Lib.hid (fun X hX hc => hof_at bS bM j D now blk off cap ([NM, k, nm]) 3 hl2 (by omega) k rfl (.slice none 0 0) F hF hfew w hS HJ.out hAR X hX (w.heap.size + 1) hc)
  have CJ := Lib.hid (fun Y hY => (hAR.job Y hY).1)
  rw [hl2] at CJ
  have CA := Lib.hid (fun Y hY i s hs => hAR.arg Y hY i s hs)
  have hcap := hAR.len
  rw [hl2] at hcap
  have hcap2 := hAR.cap
  have BK := fun h e3 e4 e5 e6 X (hX : HH (w.heap.size + 1) X h (.string k) (.int .i64 3) (.string ⟨#[]⟩) e3 e4 e5 e6 (.int .i64 0) (.bool (findD k D).isSome) F F.length) => hget_any (w.heap.size + 1) h _ _ _ e3 e4 e5 e6 _ _ F F.length (by omega) nm hnm X hX
  simp only [hfn] at BK
  have BK := Lib.hid BK
  have IS := Lib.hid (fun X => Is_true X)
  clear hS hj hA hAR hF hfn
  have SX := Lib.hid (show ∀ X, Below w.heap.size w X → (X.cell? ⟨j, 2, none⟩ = some (.slice (some ⟨blk, off, none⟩) 3 cap) ∧ X.cell? ⟨blk, off + 2, none⟩ = some (.string nm)) from fun Y hY => ⟨CJ.out Y hY, CA.out Y hY 2 nm rfl⟩)
  have S0 := SX.out _ A1.out.drew
  have HOd := Lib.hid (HO.out _ A1.out.drew hz)
  have rd := Lib.hid (show (w.alloc (.cells #[.int .i64 0, .int .i64 0, .string ⟨#[]⟩, .slice none 0 0] 29)).drew.heap[w.heap.size]? = some (.cells #[.int .i64 0, .int .i64 0, .string ⟨#[]⟩, .slice none 0 0] 29) from hr.out)
  go_enter Tryz.func82, Tryz.ntmps82
  go_wp2
  go_region_held3 (fun X => X.cell? ⟨j, 2, none⟩ = some (.slice (some ⟨blk, off, none⟩) 3 cap) ∧ X.cell? ⟨blk, off + 2, none⟩ = some (.string nm)) (first | (with_reducible exact S0) | (with_reducible exact S1.out) | (with_reducible exact S2.out) | (with_reducible exact S3.out))
    (first | (go_at_call 132; (with_reducible refine (HOd.out).mono ?_); rintro e w1 ⟨h, e3, e4, e5, e6, rfl, hH1, h1⟩; have B1 := Lib.hid (A1.out.drew.trans (h1.mono (Below.size A1.out.drew))); have r1 := Lib.hid (blk_below rd.out h1); have S1 := Lib.hid (SX.out _ B1.out); have K1 := Lib.hid (BK.out h e3 e4 e5 e6 w1 hH1); clear h1 hH1) | (go_at_call 135; (with_reducible refine (K1.out).mono ?_); rintro e w2 ⟨rfl, h1⟩; have B2 := Lib.hid (B1.out.trans (h1.mono (Below.size B1.out))); have r2 := Lib.hid (blk_below r1.out h1); have S2 := Lib.hid (SX.out _ B2.out); clear h1))
  go_wp2_with (first | (go_at_call 138; (with_reducible refine (IS.out _).mono ?_); rintro e w3 ⟨rfl, h1⟩; have B3 := Lib.hid (B2.out.trans (h1.mono (Below.size B2.out))); have r3 := Lib.hid (blk_below r2.out h1); clear h1; obtain ⟨⟨c0, c1, c2, c3⟩, ⟨f0, f1, f2, f3⟩⟩ := cells4 r3.out))
  exact bodyPost_ret (v := .agg #[.int .i64 3, .int .i64 1, .string ⟨#[]⟩, .slice none 0 0]) (by simp [results, Tryz.results82, go_sem, c0, c1, c2, c3]) rfl (endD KF HJ.out ((((B3.out.setCell (Nat.le_refl _) _).setCell (Nat.le_refl _) _).setCell (Nat.le_refl _) _).setCell (Nat.le_refl _) _))
set_option maxRecDepth 100000 in
set_option maxHeartbeats 8000000 in
theorem cHEXISTS0 (bS bM : Nat) (D : List (ByteArray × List (ByteArray × ByteArray))) (now : Int) (NM k : ByteArray) (nm : ByteArray) (hnm : nm.size ≤ 1000000) (F : List (ByteArray × ByteArray)) (hF : (findD k D).getD [] = F) (hfn : (findD nm F).isSome = false) (hfew : F.length ≤ 15) (w : World) : CmdD KF okF 82 bS bM D now [NM, k, nm] 3 0 ⟨#[]⟩ R0 [] w := by
  intro j vA hS hj hA
  show Calls Tryz.prog 82 #[.pointer (some ⟨j, 0, none⟩)] w _
  have hjw := lt_blk hj
  obtain ⟨blk, off, cap, rfl, hAR⟩ := AR.of hj hA (by simp)
  have HJ := Lib.hid hj
  have A1 := Lib.hid (alloc_old (w := w) (o := .cells #[.int .i64 0, .int .i64 0, .string ⟨#[]⟩, .slice none 0 0] 29))
  have hr := Lib.hid (heap_alloc_new w (.cells #[.int .i64 0, .int .i64 0, .string ⟨#[]⟩, .slice none 0 0] 29))
  have hl2 : ([NM, k, nm]).length = 3 := rfl
  rw [hl2] at HJ ⊢
  have hz : w.heap.size + 1 ≤ (w.alloc (.cells #[.int .i64 0, .int .i64 0, .string ⟨#[]⟩, .slice none 0 0] 29)).heap.size := by simp
  have HO := Lib.hid (fun X hX hc => hof_at bS bM j D now blk off cap ([NM, k, nm]) 3 hl2 (by omega) k rfl (.slice none 0 0) F hF hfew w hS HJ.out hAR X hX (w.heap.size + 1) hc)
  have CJ := Lib.hid (fun Y hY => (hAR.job Y hY).1)
  rw [hl2] at CJ
  have CA := Lib.hid (fun Y hY i s hs => hAR.arg Y hY i s hs)
  have hcap := hAR.len
  rw [hl2] at hcap
  have hcap2 := hAR.cap
  have BK := fun h e3 e4 e5 e6 X (hX : HH (w.heap.size + 1) X h (.string k) (.int .i64 3) (.string ⟨#[]⟩) e3 e4 e5 e6 (.int .i64 0) (.bool (findD k D).isSome) F F.length) => hget_any (w.heap.size + 1) h _ _ _ e3 e4 e5 e6 _ _ F F.length (by omega) nm hnm X hX
  simp only [hfn] at BK
  have BK := Lib.hid BK
  have IS := Lib.hid (fun X => Is_false X)
  clear hS hj hA hAR hF hfn
  have SX := Lib.hid (show ∀ X, Below w.heap.size w X → (X.cell? ⟨j, 2, none⟩ = some (.slice (some ⟨blk, off, none⟩) 3 cap) ∧ X.cell? ⟨blk, off + 2, none⟩ = some (.string nm)) from fun Y hY => ⟨CJ.out Y hY, CA.out Y hY 2 nm rfl⟩)
  have S0 := SX.out _ A1.out.drew
  have HOd := Lib.hid (HO.out _ A1.out.drew hz)
  have rd := Lib.hid (show (w.alloc (.cells #[.int .i64 0, .int .i64 0, .string ⟨#[]⟩, .slice none 0 0] 29)).drew.heap[w.heap.size]? = some (.cells #[.int .i64 0, .int .i64 0, .string ⟨#[]⟩, .slice none 0 0] 29) from hr.out)
  go_enter Tryz.func82, Tryz.ntmps82
  go_wp2
  go_region_held3 (fun X => X.cell? ⟨j, 2, none⟩ = some (.slice (some ⟨blk, off, none⟩) 3 cap) ∧ X.cell? ⟨blk, off + 2, none⟩ = some (.string nm)) (first | (with_reducible exact S0) | (with_reducible exact S1.out) | (with_reducible exact S2.out) | (with_reducible exact S3.out))
    (first | (go_at_call 132; (with_reducible refine (HOd.out).mono ?_); rintro e w1 ⟨h, e3, e4, e5, e6, rfl, hH1, h1⟩; have B1 := Lib.hid (A1.out.drew.trans (h1.mono (Below.size A1.out.drew))); have r1 := Lib.hid (blk_below rd.out h1); have S1 := Lib.hid (SX.out _ B1.out); have K1 := Lib.hid (BK.out h e3 e4 e5 e6 w1 hH1); clear h1 hH1) | (go_at_call 135; (with_reducible refine (K1.out).mono ?_); rintro e w2 ⟨rfl, h1⟩; have B2 := Lib.hid (B1.out.trans (h1.mono (Below.size B1.out))); have r2 := Lib.hid (blk_below r1.out h1); have S2 := Lib.hid (SX.out _ B2.out); clear h1))
  go_wp2_with (first | (go_at_call 138; (with_reducible refine (IS.out _).mono ?_); rintro e w3 ⟨rfl, h1⟩; have B3 := Lib.hid (B2.out.trans (h1.mono (Below.size B2.out))); have r3 := Lib.hid (blk_below r2.out h1); clear h1; obtain ⟨⟨c0, c1, c2, c3⟩, ⟨f0, f1, f2, f3⟩⟩ := cells4 r3.out))
  exact bodyPost_ret (v := .agg #[.int .i64 3, .int .i64 0, .string ⟨#[]⟩, .slice none 0 0]) (by simp [results, Tryz.results82, go_sem, c0, c1, c2, c3]) rfl (endD KF HJ.out ((((B3.out.setCell (Nat.le_refl _) _).setCell (Nat.le_refl _) _).setCell (Nat.le_refl _) _).setCell (Nat.le_refl _) _))
set_option maxRecDepth 100000 in
set_option maxHeartbeats 8000000 in
theorem cHSTRLEN (bS bM : Nat) (D : List (ByteArray × List (ByteArray × ByteArray))) (now : Int) (NM k : ByteArray) (nm : ByteArray) (hnm : nm.size ≤ 1000000) (F : List (ByteArray × ByteArray)) (hF : (findD k D).getD [] = F) (hfew : F.length ≤ 15) (w : World) : CmdD KF okF 84 bS bM D now [NM, k, nm] 3 (((findD nm F).getD ⟨#[]⟩).size : Nat) ⟨#[]⟩ R0 [] w := by
  intro j vA hS hj hA
  show Calls Tryz.prog 84 #[.pointer (some ⟨j, 0, none⟩)] w _
  have hjw := lt_blk hj
  obtain ⟨blk, off, cap, rfl, hAR⟩ := AR.of hj hA (by simp)
  have HJ := Lib.hid hj
  have A1 := Lib.hid (alloc_old (w := w) (o := .cells #[.int .i64 0, .int .i64 0, .string ⟨#[]⟩, .slice none 0 0] 29))
  have hr := Lib.hid (heap_alloc_new w (.cells #[.int .i64 0, .int .i64 0, .string ⟨#[]⟩, .slice none 0 0] 29))
  have hl2 : ([NM, k, nm]).length = 3 := rfl
  rw [hl2] at HJ ⊢
  have hz : w.heap.size + 1 ≤ (w.alloc (.cells #[.int .i64 0, .int .i64 0, .string ⟨#[]⟩, .slice none 0 0] 29)).heap.size := by simp
  have HO := Lib.hid (fun X hX hc => hof_at bS bM j D now blk off cap ([NM, k, nm]) 3 hl2 (by omega) k rfl (.slice none 0 0) F hF hfew w hS HJ.out hAR X hX (w.heap.size + 1) hc)
  have CJ := Lib.hid (fun Y hY => (hAR.job Y hY).1)
  rw [hl2] at CJ
  have CA := Lib.hid (fun Y hY i s hs => hAR.arg Y hY i s hs)
  have hcap := hAR.len
  rw [hl2] at hcap
  have hcap2 := hAR.cap
  have BK := Lib.hid (fun h e3 e4 e5 e6 X (hX : HH (w.heap.size + 1) X h (.string k) (.int .i64 3) (.string ⟨#[]⟩) e3 e4 e5 e6 (.int .i64 0) (.bool (findD k D).isSome) F F.length) => hget_any (w.heap.size + 1) h _ _ _ e3 e4 e5 e6 _ _ F F.length (by omega) nm hnm X hX)
  obtain ⟨t, ht⟩ : ∃ t, (findD nm F).getD ⟨#[]⟩ = t := ⟨_, rfl⟩
  simp only [ht] at BK ⊢
  have IN := Lib.hid (fun X => Int75 (t.size : Nat) X)
  clear hS hj hA hAR hF ht
  have SX := Lib.hid (show ∀ X, Below w.heap.size w X → (X.cell? ⟨j, 2, none⟩ = some (.slice (some ⟨blk, off, none⟩) 3 cap) ∧ X.cell? ⟨blk, off + 2, none⟩ = some (.string nm)) from fun Y hY => ⟨CJ.out Y hY, CA.out Y hY 2 nm rfl⟩)
  have S0 := SX.out _ A1.out.drew
  have HOd := Lib.hid (HO.out _ A1.out.drew hz)
  have rd := Lib.hid (show (w.alloc (.cells #[.int .i64 0, .int .i64 0, .string ⟨#[]⟩, .slice none 0 0] 29)).drew.heap[w.heap.size]? = some (.cells #[.int .i64 0, .int .i64 0, .string ⟨#[]⟩, .slice none 0 0] 29) from hr.out)
  go_enter Tryz.func84, Tryz.ntmps84
  go_wp2
  go_region_held3 (fun X => X.cell? ⟨j, 2, none⟩ = some (.slice (some ⟨blk, off, none⟩) 3 cap) ∧ X.cell? ⟨blk, off + 2, none⟩ = some (.string nm)) (first | (with_reducible exact S0) | (with_reducible exact S1.out) | (with_reducible exact S2.out) | (with_reducible exact S3.out))
    (first | (go_at_call 132; (with_reducible refine (HOd.out).mono ?_); rintro e w1 ⟨h, e3, e4, e5, e6, rfl, hH1, h1⟩; have B1 := Lib.hid (A1.out.drew.trans (h1.mono (Below.size A1.out.drew))); have r1 := Lib.hid (blk_below rd.out h1); have S1 := Lib.hid (SX.out _ B1.out); have K1 := Lib.hid (BK.out h e3 e4 e5 e6 w1 hH1); clear h1 hH1) | (go_at_call 135; (with_reducible refine (K1.out).mono ?_); rintro e w2 ⟨rfl, h1⟩; have B2 := Lib.hid (B1.out.trans (h1.mono (Below.size B1.out))); have r2 := Lib.hid (blk_below r1.out h1); have S2 := Lib.hid (SX.out _ B2.out); clear h1))
  go_wp2_with (first | (go_at_call 69; (with_reducible refine (IN.out _).mono ?_); rintro e w3 ⟨rfl, h1⟩; have B3 := Lib.hid (B2.out.trans (h1.mono (Below.size B2.out))); have r3 := Lib.hid (blk_below r2.out h1); clear h1; obtain ⟨⟨c0, c1, c2, c3⟩, ⟨f0, f1, f2, f3⟩⟩ := cells4 r3.out))
  exact bodyPost_ret (v := .agg #[.int .i64 3, .int .i64 (t.size : Nat), .string ⟨#[]⟩, .slice none 0 0]) (by simp [results, Tryz.results84, go_sem, c0, c1, c2, c3]) rfl (endD KF HJ.out ((((B3.out.setCell (Nat.le_refl _) _).setCell (Nat.le_refl _) _).setCell (Nat.le_refl _) _).setCell (Nat.le_refl _) _))
set_option maxRecDepth 100000 in
set_option maxHeartbeats 8000000 in
theorem cHLEN (bS bM : Nat) (D : List (ByteArray × List (ByteArray × ByteArray))) (now : Int) (NM k : ByteArray)  (F : List (ByteArray × ByteArray)) (hF : (findD k D).getD [] = F) (hfew : F.length ≤ 15) (w : World) : CmdD KF okF 83 bS bM D now [NM, k] 3 (F.length : Nat) ⟨#[]⟩ R0 [] w := by
  intro j vA hS hj hA
  show Calls Tryz.prog 83 #[.pointer (some ⟨j, 0, none⟩)] w _
  have hjw := lt_blk hj
  obtain ⟨blk, off, cap, rfl, hAR⟩ := AR.of hj hA (by simp)
  have HJ := Lib.hid hj
  have A1 := Lib.hid (alloc_old (w := w) (o := .cells #[.int .i64 0, .int .i64 0, .string ⟨#[]⟩, .slice none 0 0] 29))
  have hr := Lib.hid (heap_alloc_new w (.cells #[.int .i64 0, .int .i64 0, .string ⟨#[]⟩, .slice none 0 0] 29))
  have hl2 : ([NM, k]).length = 2 := rfl
  rw [hl2] at HJ ⊢
  have hz : w.heap.size + 1 ≤ (w.alloc (.cells #[.int .i64 0, .int .i64 0, .string ⟨#[]⟩, .slice none 0 0] 29)).heap.size := by simp
  have HO := Lib.hid (fun X hX hc => hof_at bS bM j D now blk off cap ([NM, k]) 2 hl2 (by omega) k rfl (.slice none 0 0) F hF hfew w hS HJ.out hAR X hX (w.heap.size + 1) hc)
  have CJ := Lib.hid (fun Y hY => (hAR.job Y hY).1)
  rw [hl2] at CJ
  have CA := Lib.hid (fun Y hY i s hs => hAR.arg Y hY i s hs)
  have hcap := hAR.len
  rw [hl2] at hcap
  have hcap2 := hAR.cap
  have IN := Lib.hid (fun X => Int75 (F.length : Nat) X)
  clear hS hj hA hAR hF
  go_enter Tryz.func83, Tryz.ntmps83
  go_wp2_with (first | (go_at_call 132; (with_reducible refine (HO.out _ A1.out hz).mono ?_); rintro e w1 ⟨h, e3, e4, e5, e6, rfl, hH1, h1⟩; have H1 := Lib.hid hH1; have B1 := Lib.hid (A1.out.trans (h1.mono (Below.size A1.out))); have r1 := Lib.hid (blk_below hr.out h1); clear h1 hH1; refine Hid.out ?_))
  refine Lib.hid ?_
  obtain ⟨p, g, f, Dt, l, L, s, hL⟩ := H1.out
  obtain ⟨⟨_, _, _, _, _, _, _, _, _, c9, _⟩, _⟩ := cells11 s.blk
  have LT := len_T _ p g f Dt w1 s.tab
  rw [← s.hf.len] at LT
  have LT := Lib.hid LT
  clear s hL
  go_wp2_with (first | (go_at_call 139; (with_reducible refine (LT.out).mono ?_); rintro e w2 ⟨rfl, h1⟩; have B2 := Lib.hid (B1.out.trans (h1.mono (Below.size B1.out))); have r2 := Lib.hid (blk_below r1.out h1); clear h1) | (go_at_call 69; (with_reducible refine (IN.out _).mono ?_); rintro e w3 ⟨rfl, h1⟩; have B3 := Lib.hid (B2.out.trans (h1.mono (Below.size B2.out))); have r3 := Lib.hid (blk_below r2.out h1); clear h1; obtain ⟨⟨c0, c1, c2, c3⟩, ⟨f0, f1, f2, f3⟩⟩ := cells4 r3.out))
  exact bodyPost_ret (v := .agg #[.int .i64 3, .int .i64 (F.length : Nat), .string ⟨#[]⟩, .slice none 0 0]) (by simp [results, Tryz.results83, go_sem, c0, c1, c2, c3]) rfl (endD KF HJ.out ((((B3.out.setCell (Nat.le_refl _) _).setCell (Nat.le_refl _) _).setCell (Nat.le_refl _) _).setCell (Nat.le_refl _) _))
end Go.Proofs.YticlacjpgjkhcaaGreatDoor

/- Texts in a reply. -/
namespace Go.Proofs.YticlacjpgjkhcaaGreatDoor
open Go.ChangeShapes Go.WideShapes Go.ChangeAt Go.RowKit

theorem ARR (A : Option Addr) (n c : Nat) (w : World) : Calls Tryz.prog 127 #[.slice A n c] w fun e w' => e = .returned (.agg #[.int .i64 6, .int .i64 0, .string ⟨#[]⟩, .slice A n c]) ∧ Below w.heap.size w w' := by
  go_enter Tryz.func127, Tryz.ntmps127
  go_wp2
  exact bodyPost_ret (v := .agg #[.int .i64 6, .int .i64 0, .string ⟨#[]⟩, .slice A n c]) (by simp [results, Tryz.results127, go_sem]) rfl ⟨rfl, (Below.refl _ _).alloc (Nat.le_refl _) _⟩
set_option maxRecDepth 100000 in
set_option maxHeartbeats 8000000 in
theorem BULKS (v : Value) (zs : List ByteArray) (hn : zs.length ≤ 1000) (w : World) (hA : SSl w v zs) : Calls Tryz.prog 64 #[v] w fun e w' => ∃ A m c, e = .returned (.agg #[.int .i64 6, .int .i64 0, .string ⟨#[]⟩, .slice A m c]) ∧ RO (zs.map some) w.heap.size w' (.slice A m c) ∧ Below w.heap.size w w' := by
  obtain ⟨aA, cap, rfl, p1, p2, p3⟩ := hA
  have A1 := Lib.hid (alloc_old (w := w) (o := .cells #[.int .i64 0, .int .i64 0, .string ⟨#[]⟩, .slice none 0 0] 29))
  have hr := Lib.hid (heap_alloc_new w (.cells #[.int .i64 0, .int .i64 0, .string ⟨#[]⟩, .slice none 0 0] 29))
  obtain ⟨n, hnn⟩ : ∃ n, zs.length = n := ⟨_, rfl⟩
  have P3 := Lib.hid p3
  have HN := Lib.hid hnn
  rw [hnn] at hn ⊢
  have BU := Lib.hid (fun t w => Bulk67 t w)
  have AR := Lib.hid (fun A n c w => ARR A n c w)
  have hw1 : w.heap.size < (w.alloc (.cells #[.int .i64 0, .int .i64 0, .string ⟨#[]⟩, .slice none 0 0] 29)).heap.size := by simp
  clear p1 p2 p3 hnn
  go_enter Tryz.func64, Tryz.ntmps64
  go_wp2_with fail
  have hw1 := Lib.hid (show (w.alloc (.cells #[.int .i64 0, .int .i64 0, .string ⟨#[]⟩, .slice none 0 0] 29)).heap.size = w.heap.size + 1 by simp)
  generalize (w.alloc (.cells #[.int .i64 0, .int .i64 0, .string ⟨#[]⟩, .slice none 0 0] 29)) = W1 at A1 hr hw1 ⊢
  go_loopw [3, 5, 8] (fun lv _ iv wr => ∃ (i : Nat) (A : Option Addr) (C : Nat), i ≤ n ∧ lv = .slice A i C ∧ iv = .int .i64 i ∧ Hid (RO ((zs.map some).take i) W1.heap.size wr (.slice A i C) ∧ Below W1.heap.size W1 wr)) (fun _ _ iv _ => n - (intOf iv).toNat)
  case atStart => exact ⟨0, none, 0, Nat.zero_le _, rfl, rfl, Lib.hid ⟨World.ownsRow_nil _ _ _ _, Below.refl _ _⟩⟩
  case round =>
    obtain ⟨i, A, C, hi, rfl, rfl, HQ⟩ := hrel
    by_cases hlt : i < n
    · have q0 : (i : Int) < (n : Int) := by omega
      have hlz : i < zs.length := by rw [HN.out]; exact hlt
      obtain ⟨blk, off, rfl, hblt, hc⟩ := P3.out (by intro e; rw [e] at hlz; simp at hlz)
      obtain ⟨s, hs⟩ : ∃ s, zs[i]? = some s := ⟨_, List.getElem?_eq_getElem hlz⟩
      have ca : wr.cell? ⟨blk, off + i, none⟩ = some (.string s) := ((A1.out.trans (HQ.out.2.mono (Below.size A1.out))).cell (p := ⟨blk, off + i, none⟩) hblt).trans (hc i s hs)
      have HT := Lib.hid (show ((zs.map some).take i).length = i by simp; omega)
      have hcc := Lib.hid (Below.size HQ.out.2)
      have HTK := Lib.hid (take_at (zs.map some) i (some s) (by simp [hs]))
      clear hc hs
      go_wp2_with (first | (go_at_call 119; (with_reducible refine (BU.out _ _).mono ?_); rintro e w5 ⟨rfl, h5⟩; have D5 := Lib.hid (show Below wr.heap.size wr (w5.alloc (.cells #[.int .i64 4, .int .i64 0, .string s, .slice none 0 0] 29)) from h5.trans (alloc_old.mono (Below.size h5))); have b5 := Lib.hid (heap_alloc_new w5 (.cells #[.int .i64 4, .int .i64 0, .string s, .slice none 0 0] 29)); have R5 := Lib.hid (row_below HQ.out.1 D5.out); have z5 := Lib.hid (Nat.le_trans hcc.out (Below.size D5.out)); clear h5) | (at_builtin; refine append_RO _ rfl _ _ rfl W1.heap.size _ ((zs.map some).take i) i HT.out rfl R5.out (some s) _ rfl b5.out (by omega) z5.out ?_; intro g C2 w6 hR6 hB6))
      exact ⟨⟨i + 1, _, C2, by omega, rfl, by go_num, Lib.hid ⟨by rw [HTK.out]; exact hR6, (HQ.out.2.trans (D5.out.mono hcc.out)).trans hB6⟩⟩, by simp [intOf]; omega⟩
    · obtain rfl : i = n := by omega
      have q0 : ¬ (i : Int) < (i : Int) := by omega
      have hQ := HQ.out
      rw [List.take_of_length_le (by simp [HN.out])] at hQ
      have r1 := Lib.hid (blk_below hr.out (hQ.2.mono (Nat.le_refl _)))
      have H1 := Lib.hid hQ.1
      have H2 := Lib.hid hQ.2
      clear hQ HQ
      go_wp2_with (first | (go_at_call 127; (with_reducible refine (AR.out _ _ _ _).mono ?_); rintro e w7 ⟨rfl, h7⟩; have H7 := Lib.hid (row_below H1.out h7); have B7 := Lib.hid (H2.out.trans (h7.mono (Below.size H2.out))); obtain ⟨⟨c0, c1, c2, c3⟩, ⟨f0, f1, f2, f3⟩⟩ := cells4 (blk_below r1.out h7); clear h7))
      refine bodyPost_ret (v := .agg #[.int .i64 6, .int .i64 0, .string ⟨#[]⟩, .slice A i C]) (by simp [results, Tryz.results64, go_sem, c0, c1, c2, c3]) rfl ⟨A, i, C, rfl, row_mono (row_kept H7.out (fun g hg => far4 _ _ _ _ (fun e => ?_))) (by rw [hw1.out]; omega), ((((((A1.out.trans (B7.out.mono (Below.size A1.out))).setCell (Nat.le_refl _) _).setCell (Nat.le_refl _) _).setCell (Nat.le_refl _) _).setCell (Nat.le_refl _) _))⟩
      have h1 := (row_own H7.out g hg).1
      rw [hw1.out] at h1
      omega
end Go.Proofs.YticlacjpgjkhcaaGreatDoor
