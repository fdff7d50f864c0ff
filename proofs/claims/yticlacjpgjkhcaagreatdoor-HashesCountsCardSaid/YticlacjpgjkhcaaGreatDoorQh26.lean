/- Texts joined: C7 -/
import Derived.Test.YticlacjpgjkhcaaGreatDoorQh25

/- Commands of hashes: HKEYS, HVALS, HGETALL. -/
namespace Go.Proofs.YticlacjpgjkhcaaGreatDoor
open Go.ChangeShapes Go.WideShapes Go.ChangeAt Go.RowKit

/-- Names, texts, or both. -/
def allT (a b : Bool) (F : List (ByteArray × ByteArray)) : List ByteArray := F.flatMap fun p => (if a then [p.1] else []) ++ (if b then [p.2] else [])
theorem allT_snoc (a b : Bool) (F : List (ByteArray × ByteArray)) (i : Nat) (p : ByteArray × ByteArray) (h : F[i]? = some p) : allT a b (F.take (i + 1)) = allT a b (F.take i) ++ ((if a then [p.1] else []) ++ (if b then [p.2] else [])) := by
  unfold allT
  rw [List.take_add_one, h]
  simp
theorem allT_len (a b : Bool) (F : List (ByteArray × ByteArray)) : (allT a b F).length = F.length * ((if a then 1 else 0) + (if b then 1 else 0)) := by
  induction F with
  | nil => simp [allT]
  | cons p r ih =>
    have e : allT a b (p :: r) = ((if a then [p.1] else []) ++ (if b then [p.2] else [])) ++ allT a b r := rfl
    rw [e, List.length_append, ih, List.length_cons, Nat.add_mul]
    cases a <;> cases b <;> simp <;> omega
set_option maxRecDepth 100000 in
set_option maxHeartbeats 8000000 in
theorem hall_TF (bS bM j : Nat) (D : List (ByteArray × List (ByteArray × ByteArray))) (now : Int) (blk off cap : Nat) (xs : List ByteArray) (n : Nat) (hn : xs.length = n) (h2 : 2 ≤ n) (k : ByteArray) (hk : xs[1]? = some k) (vl : Value) (F : List (ByteArray × ByteArray)) (hF : (findD k D).getD [] = F) (hfew : F.length ≤ 15) (hsz : ∀ n ∈ namesD F, n.size ≤ 1000000) (w : World) (hS : SPG KF okF w bS bM D) (hj : JB w j bS now (.slice (some ⟨blk, off, none⟩) n cap) vl) (hA : AR w j now blk off cap xs) : Calls Tryz.prog 86 #[.pointer (some ⟨j, 0, none⟩), .bool true, .bool false] w fun e w' => ∃ A m c, e = .returned (.agg #[.int .i64 6, .int .i64 0, .string ⟨#[]⟩, .slice A m c]) ∧ RO ((allT true false (srtF F)).map some) w.heap.size w' (.slice A m c) ∧ Below w.heap.size w w' := by
  have A1 := Lib.hid (alloc_old (w := w) (o := .cells #[.int .i64 0, .int .i64 0, .string ⟨#[]⟩, .slice none 0 0] 29))
  have hr := Lib.hid (heap_alloc_new w (.cells #[.int .i64 0, .int .i64 0, .string ⟨#[]⟩, .slice none 0 0] 29))
  have hz : w.heap.size + 1 ≤ (w.alloc (.cells #[.int .i64 0, .int .i64 0, .string ⟨#[]⟩, .slice none 0 0] 29)).heap.size := by simp
  have HO := Lib.hid (fun X hX hc => hof_at bS bM j D now blk off cap xs n hn h2 k hk vl F hF hfew w hS hj hA X hX (w.heap.size + 1) hc)
  have SZ := Lib.hid hsz
  clear hS hj hA hF hk hsz
  go_enter Tryz.func86, Tryz.ntmps86
  go_wp2_with (first | (go_at_call 132; (with_reducible refine (HO.out _ A1.out hz).mono ?_); rintro e w1 ⟨h, e3, e4, e5, e6, rfl, hH1, h1⟩; have H1 := Lib.hid hH1; have B1 := Lib.hid (A1.out.trans (h1.mono (Below.size A1.out))); have r1 := Lib.hid (blk_below hr.out h1); clear h1 hH1; refine Hid.out ?_))
  refine Lib.hid ?_
  obtain ⟨p, g, f, Dt, l, L, s, hL⟩ := id H1.out
  obtain ⟨⟨_, _, _, _, _, _, _, _, _, c9, _⟩, _⟩ := cells11 s.blk
  have NT := names_T _ p g f Dt w1 s.tab
  rw [← s.hf.names] at NT
  have NT := Lib.hid NT
  clear s hL
  go_wp2_with (first | (go_at_call 140; (with_reducible refine (NT.out).mono ?_); rintro e w2 ⟨v, rfl, hT, h1⟩; have T2 := Lib.hid hT; have B2 := Lib.hid h1; clear h1 hT; refine Hid.out ?_))
  refine Lib.hid ?_
  obtain ⟨A, C, rfl, hA, hC⟩ := row_form T2.out
  have hnl : (srtN (namesD F)).length = F.length := by rw [srtN_len, len_names]
  have HNL := Lib.hid hnl
  rw [hnl] at hA hC
  simp only [hnl]
  clear NT
  have HGT := Lib.hid (fun X n (hn : n ∈ namesD F) (hX : Below w1.heap.size w1 X) => hget_any (w.heap.size + 1) h _ _ _ e3 e4 e5 e6 _ _ F F.length (by omega) n (SZ.out n hn) X (H1.out.below hX))
  obtain ⟨N, hN⟩ : ∃ N, F.length = N := ⟨_, rfl⟩
  simp only [hN] at hA hC hfew HNL ⊢
  have HN := Lib.hid hN
  clear hnl hN
  go_wp2
  go_loopw [8, 21] (fun lv iv wr => ∃ i : Nat, i ≤ N ∧ iv = .int .i64 i ∧ Hid (TO wr w2.heap.size lv (allT true false ((srtF F).take i)) ∧ Below w2.heap.size w2 wr)) (fun _ iv _ => N - (intOf iv).toNat)
  case atStart => exact ⟨0, Nat.zero_le _, rfl, Lib.hid ⟨World.ownsRow_nil _ _ _ _, Below.refl _ _⟩⟩
  case round =>
    obtain ⟨i, hi, rfl, HQ⟩ := hrel
    by_cases hlt : i < N
    · have q0 : (i : Int) < (N : Int) := by omega
      obtain ⟨nm, hnm⟩ : ∃ nm, (srtN (namesD F))[i]? = some nm := ⟨_, List.getElem?_eq_getElem (by rw [HNL.out]; exact hlt)⟩
      obtain ⟨gN, rfl⟩ : ∃ gN, A = some ⟨gN, 0, none⟩ := hA.resolve_left (by omega)
      have T2r := Lib.hid (row_below T2.out HQ.out.2)
      rw [HNL.out] at T2r
      have d0 := row_cell T2r i (.string nm) (by rw [List.getElem?_map, hnm]; rfl)
      have hmem : nm ∈ namesD F := (srtN_mem _ _).1 (List.mem_of_getElem? hnm)
      have hsa := srtF_at F i nm hnm
      have G0 := fun X hX => HGT.out X nm hmem hX
      obtain ⟨t, ht⟩ : ∃ t, (findD nm F).getD ⟨#[]⟩ = t := ⟨_, rfl⟩
      simp only [ht] at G0 hsa
      have G0 := Lib.hid G0
      have HTS := Lib.hid (allT_snoc true false (srtF F) i (nm, t) hsa)
      obtain ⟨q, hq⟩ : ∃ q, (allT true false ((srtF F).take i)).length = q := ⟨_, rfl⟩
      have hq2 : q ≤ 2 * N := by
        rw [← hq, allT_len, List.length_take]
        simp
        omega
      have HL1 := Lib.hid hq
      clear hnm hmem hsa ht T2r hq
      have b1 := Lib.hid (heap_alloc_new wr (.cells #[.string nm] 9))
      have A1' := Lib.hid (alloc_old (w := wr) (o := .cells #[.string nm] 9))
      have R1 := Lib.hid (show TO _ w2.heap.size _ _ from row_below HQ.out.1 A1'.out)
      have D1p := Lib.hid (HQ.out.2.trans (A1'.out.mono (Below.size HQ.out.2)))
      have z1 := Lib.hid (Below.size D1p.out)
      go_wp2_with (first | (at_builtin; refine append_TO _ rfl _ _ rfl w2.heap.size _ _ _ HL1.out rfl R1.out [nm] 1 rfl _ rfl b1.out (by decide) (by omega) z1.out ?_; intro g1 C1 x1 h6 h7 h8; have T1 := Lib.hid h6; have D1 := Lib.hid (D1p.out.grown h7 z1.out (fun b hb => (row_own R1.out b hb).1)); clear h6 h7 h8) | (go_at_call 135; (with_reducible refine (G0.out _ (belT B2.out D1.out)).mono ?_); rintro e x3 ⟨rfl, h1⟩; have DG := Lib.hid (D1.out.trans (h1.mono (Below.size D1.out))); have T3 := Lib.hid (row_below T1.out h1); clear h1))
      exact ⟨⟨i + 1, by omega, by go_num, Lib.hid ⟨by rw [HTS.out]; exact T3.out, DG.out⟩⟩, by simp [intOf]; omega⟩
    · obtain rfl : i = N := by omega
      have q0 : ¬ (i : Int) < (i : Int) := by omega
      have hT := HQ.out.1
      rw [List.take_of_length_le (by rw [len_srtF, HN.out]; exact Nat.le_refl _)] at hT
      have hlen := allT_len true false (srtF F)
      rw [len_srtF, HN.out] at hlen
      have BW := Lib.hid (B1.out.trans ((B2.out.trans (HQ.out.2.mono (Below.size B2.out))).mono (Below.size B1.out)))
      have re := Lib.hid (blk_below r1.out (B2.out.trans (HQ.out.2.mono (Below.size B2.out))))
      have BK := Lib.hid (BULKS _ _ (by rw [hlen]; simp; omega) wr hT.ssl)
      obtain ⟨A9, C9, rfl, _, _⟩ := row_form HQ.out.1
      have hlt3 := lt_blk hr.out
      clear hT hlen HQ
      go_wp2_with (first | (go_at_call 64; (with_reducible refine (BK.out).mono ?_); rintro e w4 ⟨A4, m4, c4, rfl, hR4, h1⟩; have B4 := Lib.hid (BW.out.trans (h1.mono (Below.size BW.out))); have R4 := Lib.hid hR4; obtain ⟨⟨c0, c1, c2, c3⟩, ⟨f0, f1, f2, f3⟩⟩ := cells4 (blk_below re.out h1); clear h1 hR4))
      have BF : Below w.heap.size w ((((w4.setCell ⟨w.heap.size, 0, none⟩ (.int .i64 6)).setCell ⟨w.heap.size, 1, none⟩ (.int .i64 0)).setCell ⟨w.heap.size, 2, none⟩ (.string ⟨#[]⟩)).setCell ⟨w.heap.size, 3, none⟩ (.slice A4 m4 c4)) := ((((B4.out.setCell (Nat.le_refl _) _).setCell (Nat.le_refl _) _).setCell (Nat.le_refl _) _).setCell (Nat.le_refl _) _)
      have h3 := Below.size BW.out
      have h4 := lt_blk re.out
      refine bodyPost_ret (v := .agg #[.int .i64 6, .int .i64 0, .string ⟨#[]⟩, .slice A4 m4 c4]) (by simp [results, Tryz.results86, go_sem, c0, c1, c2, c3]) rfl ⟨A4, m4, c4, rfl, row_mono (row_kept R4.out (fun g hg => far4 _ _ _ _ (fun e => ?_))) h3, BF⟩
      have h1 := (row_own R4.out g hg).1
      omega
set_option maxRecDepth 100000 in
set_option maxHeartbeats 8000000 in
theorem hall_FT (bS bM j : Nat) (D : List (ByteArray × List (ByteArray × ByteArray))) (now : Int) (blk off cap : Nat) (xs : List ByteArray) (n : Nat) (hn : xs.length = n) (h2 : 2 ≤ n) (k : ByteArray) (hk : xs[1]? = some k) (vl : Value) (F : List (ByteArray × ByteArray)) (hF : (findD k D).getD [] = F) (hfew : F.length ≤ 15) (hsz : ∀ n ∈ namesD F, n.size ≤ 1000000) (w : World) (hS : SPG KF okF w bS bM D) (hj : JB w j bS now (.slice (some ⟨blk, off, none⟩) n cap) vl) (hA : AR w j now blk off cap xs) : Calls Tryz.prog 86 #[.pointer (some ⟨j, 0, none⟩), .bool false, .bool true] w fun e w' => ∃ A m c, e = .returned (.agg #[.int .i64 6, .int .i64 0, .string ⟨#[]⟩, .slice A m c]) ∧ RO ((allT false true (srtF F)).map some) w.heap.size w' (.slice A m c) ∧ Below w.heap.size w w' := by
  have A1 := Lib.hid (alloc_old (w := w) (o := .cells #[.int .i64 0, .int .i64 0, .string ⟨#[]⟩, .slice none 0 0] 29))
  have hr := Lib.hid (heap_alloc_new w (.cells #[.int .i64 0, .int .i64 0, .string ⟨#[]⟩, .slice none 0 0] 29))
  have hz : w.heap.size + 1 ≤ (w.alloc (.cells #[.int .i64 0, .int .i64 0, .string ⟨#[]⟩, .slice none 0 0] 29)).heap.size := by simp
  have HO := Lib.hid (fun X hX hc => hof_at bS bM j D now blk off cap xs n hn h2 k hk vl F hF hfew w hS hj hA X hX (w.heap.size + 1) hc)
  have SZ := Lib.hid hsz
  clear hS hj hA hF hk hsz
  go_enter Tryz.func86, Tryz.ntmps86
  go_wp2_with (first | (go_at_call 132; (with_reducible refine (HO.out _ A1.out hz).mono ?_); rintro e w1 ⟨h, e3, e4, e5, e6, rfl, hH1, h1⟩; have H1 := Lib.hid hH1; have B1 := Lib.hid (A1.out.trans (h1.mono (Below.size A1.out))); have r1 := Lib.hid (blk_below hr.out h1); clear h1 hH1; refine Hid.out ?_))
  refine Lib.hid ?_
  obtain ⟨p, g, f, Dt, l, L, s, hL⟩ := id H1.out
  obtain ⟨⟨_, _, _, _, _, _, _, _, _, c9, _⟩, _⟩ := cells11 s.blk
  have NT := names_T _ p g f Dt w1 s.tab
  rw [← s.hf.names] at NT
  have NT := Lib.hid NT
  clear s hL
  go_wp2_with (first | (go_at_call 140; (with_reducible refine (NT.out).mono ?_); rintro e w2 ⟨v, rfl, hT, h1⟩; have T2 := Lib.hid hT; have B2 := Lib.hid h1; clear h1 hT; refine Hid.out ?_))
  refine Lib.hid ?_
  obtain ⟨A, C, rfl, hA, hC⟩ := row_form T2.out
  have hnl : (srtN (namesD F)).length = F.length := by rw [srtN_len, len_names]
  have HNL := Lib.hid hnl
  rw [hnl] at hA hC
  simp only [hnl]
  clear NT
  have HGT := Lib.hid (fun X n (hn : n ∈ namesD F) (hX : Below w1.heap.size w1 X) => hget_any (w.heap.size + 1) h _ _ _ e3 e4 e5 e6 _ _ F F.length (by omega) n (SZ.out n hn) X (H1.out.below hX))
  obtain ⟨N, hN⟩ : ∃ N, F.length = N := ⟨_, rfl⟩
  simp only [hN] at hA hC hfew HNL ⊢
  have HN := Lib.hid hN
  clear hnl hN
  go_wp2
  go_loopw [8, 21] (fun lv iv wr => ∃ i : Nat, i ≤ N ∧ iv = .int .i64 i ∧ Hid (TO wr w2.heap.size lv (allT false true ((srtF F).take i)) ∧ Below w2.heap.size w2 wr)) (fun _ iv _ => N - (intOf iv).toNat)
  case atStart => exact ⟨0, Nat.zero_le _, rfl, Lib.hid ⟨World.ownsRow_nil _ _ _ _, Below.refl _ _⟩⟩
  case round =>
    obtain ⟨i, hi, rfl, HQ⟩ := hrel
    by_cases hlt : i < N
    · have q0 : (i : Int) < (N : Int) := by omega
      obtain ⟨nm, hnm⟩ : ∃ nm, (srtN (namesD F))[i]? = some nm := ⟨_, List.getElem?_eq_getElem (by rw [HNL.out]; exact hlt)⟩
      obtain ⟨gN, rfl⟩ : ∃ gN, A = some ⟨gN, 0, none⟩ := hA.resolve_left (by omega)
      have T2r := Lib.hid (row_below T2.out HQ.out.2)
      rw [HNL.out] at T2r
      have d0 := row_cell T2r i (.string nm) (by rw [List.getElem?_map, hnm]; rfl)
      have hmem : nm ∈ namesD F := (srtN_mem _ _).1 (List.mem_of_getElem? hnm)
      have hsa := srtF_at F i nm hnm
      have G0 := fun X hX => HGT.out X nm hmem hX
      obtain ⟨t, ht⟩ : ∃ t, (findD nm F).getD ⟨#[]⟩ = t := ⟨_, rfl⟩
      simp only [ht] at G0 hsa
      have G0 := Lib.hid G0
      have HTS := Lib.hid (allT_snoc false true (srtF F) i (nm, t) hsa)
      obtain ⟨q, hq⟩ : ∃ q, (allT false true ((srtF F).take i)).length = q := ⟨_, rfl⟩
      have hq2 : q ≤ 2 * N := by
        rw [← hq, allT_len, List.length_take]
        simp
        omega
      have HL1 := Lib.hid hq
      clear hnm hmem hsa ht T2r hq
      go_wp2_with (first | (go_at_call 135; (with_reducible refine (G0.out _ (belT B2.out HQ.out.2)).mono ?_); rintro e x3 ⟨rfl, h1⟩; have DG := Lib.hid (HQ.out.2.trans (h1.mono (Below.size HQ.out.2))); have HL2 := HL1; have b2 := Lib.hid (heap_alloc_new x3 (.cells #[.string t] 9)); have R2 := Lib.hid (show TO _ w2.heap.size _ _ from row_below (row_below HQ.out.1 h1) (alloc_old (w := x3) (o := .cells #[.string t] 9))); have D2p := Lib.hid (DG.out.trans ((alloc_old (w := x3) (o := .cells #[.string t] 9)).mono (Below.size DG.out))); have z2 := Lib.hid (Below.size D2p.out); clear h1) | (at_builtin; refine append_TO _ rfl _ _ rfl w2.heap.size _ _ _ HL2.out rfl R2.out [t] 1 rfl _ rfl b2.out (by decide) (by omega) z2.out ?_; intro g2 C2 x2 h6 h7 h8; have T2 := Lib.hid h6; have D2 := Lib.hid (D2p.out.grown h7 z2.out (fun b hb => (row_own R2.out b hb).1)); clear h6 h7 h8))
      exact ⟨⟨i + 1, by omega, by go_num, Lib.hid ⟨by rw [HTS.out]; exact T2.out, D2.out⟩⟩, by simp [intOf]; omega⟩
    · obtain rfl : i = N := by omega
      have q0 : ¬ (i : Int) < (i : Int) := by omega
      have hT := HQ.out.1
      rw [List.take_of_length_le (by rw [len_srtF, HN.out]; exact Nat.le_refl _)] at hT
      have hlen := allT_len false true (srtF F)
      rw [len_srtF, HN.out] at hlen
      have BW := Lib.hid (B1.out.trans ((B2.out.trans (HQ.out.2.mono (Below.size B2.out))).mono (Below.size B1.out)))
      have re := Lib.hid (blk_below r1.out (B2.out.trans (HQ.out.2.mono (Below.size B2.out))))
      have BK := Lib.hid (BULKS _ _ (by rw [hlen]; simp; omega) wr hT.ssl)
      obtain ⟨A9, C9, rfl, _, _⟩ := row_form HQ.out.1
      have hlt3 := lt_blk hr.out
      clear hT hlen HQ
      go_wp2_with (first | (go_at_call 64; (with_reducible refine (BK.out).mono ?_); rintro e w4 ⟨A4, m4, c4, rfl, hR4, h1⟩; have B4 := Lib.hid (BW.out.trans (h1.mono (Below.size BW.out))); have R4 := Lib.hid hR4; obtain ⟨⟨c0, c1, c2, c3⟩, ⟨f0, f1, f2, f3⟩⟩ := cells4 (blk_below re.out h1); clear h1 hR4))
      have BF : Below w.heap.size w ((((w4.setCell ⟨w.heap.size, 0, none⟩ (.int .i64 6)).setCell ⟨w.heap.size, 1, none⟩ (.int .i64 0)).setCell ⟨w.heap.size, 2, none⟩ (.string ⟨#[]⟩)).setCell ⟨w.heap.size, 3, none⟩ (.slice A4 m4 c4)) := ((((B4.out.setCell (Nat.le_refl _) _).setCell (Nat.le_refl _) _).setCell (Nat.le_refl _) _).setCell (Nat.le_refl _) _)
      have h3 := Below.size BW.out
      have h4 := lt_blk re.out
      refine bodyPost_ret (v := .agg #[.int .i64 6, .int .i64 0, .string ⟨#[]⟩, .slice A4 m4 c4]) (by simp [results, Tryz.results86, go_sem, c0, c1, c2, c3]) rfl ⟨A4, m4, c4, rfl, row_mono (row_kept R4.out (fun g hg => far4 _ _ _ _ (fun e => ?_))) h3, BF⟩
      have h1 := (row_own R4.out g hg).1
      omega
set_option maxRecDepth 100000 in
set_option maxHeartbeats 8000000 in
theorem hall_TT (bS bM j : Nat) (D : List (ByteArray × List (ByteArray × ByteArray))) (now : Int) (blk off cap : Nat) (xs : List ByteArray) (n : Nat) (hn : xs.length = n) (h2 : 2 ≤ n) (k : ByteArray) (hk : xs[1]? = some k) (vl : Value) (F : List (ByteArray × ByteArray)) (hF : (findD k D).getD [] = F) (hfew : F.length ≤ 15) (hsz : ∀ n ∈ namesD F, n.size ≤ 1000000) (w : World) (hS : SPG KF okF w bS bM D) (hj : JB w j bS now (.slice (some ⟨blk, off, none⟩) n cap) vl) (hA : AR w j now blk off cap xs) : Calls Tryz.prog 86 #[.pointer (some ⟨j, 0, none⟩), .bool true, .bool true] w fun e w' => ∃ A m c, e = .returned (.agg #[.int .i64 6, .int .i64 0, .string ⟨#[]⟩, .slice A m c]) ∧ RO ((allT true true (srtF F)).map some) w.heap.size w' (.slice A m c) ∧ Below w.heap.size w w' := by
  have A1 := Lib.hid (alloc_old (w := w) (o := .cells #[.int .i64 0, .int .i64 0, .string ⟨#[]⟩, .slice none 0 0] 29))
  have hr := Lib.hid (heap_alloc_new w (.cells #[.int .i64 0, .int .i64 0, .string ⟨#[]⟩, .slice none 0 0] 29))
  have hz : w.heap.size + 1 ≤ (w.alloc (.cells #[.int .i64 0, .int .i64 0, .string ⟨#[]⟩, .slice none 0 0] 29)).heap.size := by simp
  have HO := Lib.hid (fun X hX hc => hof_at bS bM j D now blk off cap xs n hn h2 k hk vl F hF hfew w hS hj hA X hX (w.heap.size + 1) hc)
  have SZ := Lib.hid hsz
  clear hS hj hA hF hk hsz
  go_enter Tryz.func86, Tryz.ntmps86
  go_wp2_with (first | (go_at_call 132; (with_reducible refine (HO.out _ A1.out hz).mono ?_); rintro e w1 ⟨h, e3, e4, e5, e6, rfl, hH1, h1⟩; have H1 := Lib.hid hH1; have B1 := Lib.hid (A1.out.trans (h1.mono (Below.size A1.out))); have r1 := Lib.hid (blk_below hr.out h1); clear h1 hH1; refine Hid.out ?_))
  refine Lib.hid ?_
  obtain ⟨p, g, f, Dt, l, L, s, hL⟩ := id H1.out
  obtain ⟨⟨_, _, _, _, _, _, _, _, _, c9, _⟩, _⟩ := cells11 s.blk
  have NT := names_T _ p g f Dt w1 s.tab
  rw [← s.hf.names] at NT
  have NT := Lib.hid NT
  clear s hL
  go_wp2_with (first | (go_at_call 140; (with_reducible refine (NT.out).mono ?_); rintro e w2 ⟨v, rfl, hT, h1⟩; have T2 := Lib.hid hT; have B2 := Lib.hid h1; clear h1 hT; refine Hid.out ?_))
  refine Lib.hid ?_
  obtain ⟨A, C, rfl, hA, hC⟩ := row_form T2.out
  have hnl : (srtN (namesD F)).length = F.length := by rw [srtN_len, len_names]
  have HNL := Lib.hid hnl
  rw [hnl] at hA hC
  simp only [hnl]
  clear NT
  have HGT := Lib.hid (fun X n (hn : n ∈ namesD F) (hX : Below w1.heap.size w1 X) => hget_any (w.heap.size + 1) h _ _ _ e3 e4 e5 e6 _ _ F F.length (by omega) n (SZ.out n hn) X (H1.out.below hX))
  obtain ⟨N, hN⟩ : ∃ N, F.length = N := ⟨_, rfl⟩
  simp only [hN] at hA hC hfew HNL ⊢
  have HN := Lib.hid hN
  clear hnl hN
  go_wp2
  go_loopw [8, 21] (fun lv iv wr => ∃ i : Nat, i ≤ N ∧ iv = .int .i64 i ∧ Hid (TO wr w2.heap.size lv (allT true true ((srtF F).take i)) ∧ Below w2.heap.size w2 wr)) (fun _ iv _ => N - (intOf iv).toNat)
  case atStart => exact ⟨0, Nat.zero_le _, rfl, Lib.hid ⟨World.ownsRow_nil _ _ _ _, Below.refl _ _⟩⟩
  case round =>
    obtain ⟨i, hi, rfl, HQ⟩ := hrel
    by_cases hlt : i < N
    · have q0 : (i : Int) < (N : Int) := by omega
      obtain ⟨nm, hnm⟩ : ∃ nm, (srtN (namesD F))[i]? = some nm := ⟨_, List.getElem?_eq_getElem (by rw [HNL.out]; exact hlt)⟩
      obtain ⟨gN, rfl⟩ : ∃ gN, A = some ⟨gN, 0, none⟩ := hA.resolve_left (by omega)
      have T2r := Lib.hid (row_below T2.out HQ.out.2)
      rw [HNL.out] at T2r
      have d0 := row_cell T2r i (.string nm) (by rw [List.getElem?_map, hnm]; rfl)
      have hmem : nm ∈ namesD F := (srtN_mem _ _).1 (List.mem_of_getElem? hnm)
      have hsa := srtF_at F i nm hnm
      have G0 := fun X hX => HGT.out X nm hmem hX
      obtain ⟨t, ht⟩ : ∃ t, (findD nm F).getD ⟨#[]⟩ = t := ⟨_, rfl⟩
      simp only [ht] at G0 hsa
      have G0 := Lib.hid G0
      have HTS := Lib.hid (allT_snoc true true (srtF F) i (nm, t) hsa)
      obtain ⟨q, hq⟩ : ∃ q, (allT true true ((srtF F).take i)).length = q := ⟨_, rfl⟩
      have hq2 : q ≤ 2 * N := by
        rw [← hq, allT_len, List.length_take]
        simp
        omega
      have HL1 := Lib.hid hq
      clear hnm hmem hsa ht T2r hq
      have b1 := Lib.hid (heap_alloc_new wr (.cells #[.string nm] 9))
      have A1' := Lib.hid (alloc_old (w := wr) (o := .cells #[.string nm] 9))
      have R1 := Lib.hid (show TO _ w2.heap.size _ _ from row_below HQ.out.1 A1'.out)
      have D1p := Lib.hid (HQ.out.2.trans (A1'.out.mono (Below.size HQ.out.2)))
      have z1 := Lib.hid (Below.size D1p.out)
      go_wp2_with (first | (at_builtin; refine append_TO _ rfl _ _ rfl w2.heap.size _ _ _ HL1.out rfl R1.out [nm] 1 rfl _ rfl b1.out (by decide) (by omega) z1.out ?_; intro g1 C1 x1 h6 h7 h8; have T1 := Lib.hid h6; have D1 := Lib.hid (D1p.out.grown h7 z1.out (fun b hb => (row_own R1.out b hb).1)); clear h6 h7 h8) | (go_at_call 135; (with_reducible refine (G0.out _ (belT B2.out D1.out)).mono ?_); rintro e x3 ⟨rfl, h1⟩; have DG := Lib.hid (D1.out.trans (h1.mono (Below.size D1.out))); have HL2 := Lib.hid (show (allT true true ((srtF F).take i) ++ [nm]).length = q + 1 by rw [List.length_append, HL1.out]; rfl); have b2 := Lib.hid (heap_alloc_new x3 (.cells #[.string t] 9)); have R2 := Lib.hid (show TO _ w2.heap.size _ _ from row_below (row_below T1.out h1) (alloc_old (w := x3) (o := .cells #[.string t] 9))); have D2p := Lib.hid (DG.out.trans ((alloc_old (w := x3) (o := .cells #[.string t] 9)).mono (Below.size DG.out))); have z2 := Lib.hid (Below.size D2p.out); clear h1) | (at_builtin; refine append_TO _ rfl _ _ rfl w2.heap.size _ _ _ HL2.out rfl R2.out [t] 1 rfl _ rfl b2.out (by decide) (by omega) z2.out ?_; intro g2 C2 x2 h6 h7 h8; have T2 := Lib.hid h6; have D2 := Lib.hid (D2p.out.grown h7 z2.out (fun b hb => (row_own R2.out b hb).1)); clear h6 h7 h8))
      exact ⟨⟨i + 1, by omega, by go_num, Lib.hid ⟨by rw [HTS.out]; have h9 := T2.out; rw [List.append_assoc] at h9; exact h9, D2.out⟩⟩, by simp [intOf]; omega⟩
    · obtain rfl : i = N := by omega
      have q0 : ¬ (i : Int) < (i : Int) := by omega
      have hT := HQ.out.1
      rw [List.take_of_length_le (by rw [len_srtF, HN.out]; exact Nat.le_refl _)] at hT
      have hlen := allT_len true true (srtF F)
      rw [len_srtF, HN.out] at hlen
      have BW := Lib.hid (B1.out.trans ((B2.out.trans (HQ.out.2.mono (Below.size B2.out))).mono (Below.size B1.out)))
      have re := Lib.hid (blk_below r1.out (B2.out.trans (HQ.out.2.mono (Below.size B2.out))))
      have BK := Lib.hid (BULKS _ _ (by rw [hlen]; simp; omega) wr hT.ssl)
      obtain ⟨A9, C9, rfl, _, _⟩ := row_form HQ.out.1
      have hlt3 := lt_blk hr.out
      clear hT hlen HQ
      go_wp2_with (first | (go_at_call 64; (with_reducible refine (BK.out).mono ?_); rintro e w4 ⟨A4, m4, c4, rfl, hR4, h1⟩; have B4 := Lib.hid (BW.out.trans (h1.mono (Below.size BW.out))); have R4 := Lib.hid hR4; obtain ⟨⟨c0, c1, c2, c3⟩, ⟨f0, f1, f2, f3⟩⟩ := cells4 (blk_below re.out h1); clear h1 hR4))
      have BF : Below w.heap.size w ((((w4.setCell ⟨w.heap.size, 0, none⟩ (.int .i64 6)).setCell ⟨w.heap.size, 1, none⟩ (.int .i64 0)).setCell ⟨w.heap.size, 2, none⟩ (.string ⟨#[]⟩)).setCell ⟨w.heap.size, 3, none⟩ (.slice A4 m4 c4)) := ((((B4.out.setCell (Nat.le_refl _) _).setCell (Nat.le_refl _) _).setCell (Nat.le_refl _) _).setCell (Nat.le_refl _) _)
      have h3 := Below.size BW.out
      have h4 := lt_blk re.out
      refine bodyPost_ret (v := .agg #[.int .i64 6, .int .i64 0, .string ⟨#[]⟩, .slice A4 m4 c4]) (by simp [results, Tryz.results86, go_sem, c0, c1, c2, c3]) rfl ⟨A4, m4, c4, rfl, row_mono (row_kept R4.out (fun g hg => far4 _ _ _ _ (fun e => ?_))) h3, BF⟩
      have h1 := (row_own R4.out g hg).1
      omega
set_option maxRecDepth 100000 in
set_option maxHeartbeats 8000000 in
theorem cHKEYS (bS bM : Nat) (D : List (ByteArray × List (ByteArray × ByteArray))) (now : Int) (NM k : ByteArray) (F : List (ByteArray × ByteArray)) (hF : (findD k D).getD [] = F) (hfew : F.length ≤ 15) (hsz : ∀ n ∈ namesD F, n.size ≤ 1000000) (w : World) : CmdD KF okF 85 bS bM D now [NM, k] 6 0 ⟨#[]⟩ (RO ((allT true false (srtF F)).map some)) [] w := by
  intro j vA hS hj hA
  show Calls Tryz.prog 85 #[.pointer (some ⟨j, 0, none⟩)] w _
  obtain ⟨blk, off, cap, rfl, hAR⟩ := AR.of hj hA (by simp)
  have HJ := Lib.hid hj
  have A1 := Lib.hid (alloc_old (w := w) (o := .cells #[.int .i64 0, .int .i64 0, .string ⟨#[]⟩, .slice none 0 0] 29))
  have hr := Lib.hid (heap_alloc_new w (.cells #[.int .i64 0, .int .i64 0, .string ⟨#[]⟩, .slice none 0 0] 29))
  have HA := Lib.hid (hall_TF bS bM j D now blk off cap [NM, k] 2 rfl (by omega) k rfl (.slice none 0 0) F hF hfew hsz _ (SPG.below KF okF hS A1.out) (HJ.out.below A1.out) (hAR.below A1.out))
  have hz : w.heap.size ≤ (w.alloc (.cells #[.int .i64 0, .int .i64 0, .string ⟨#[]⟩, .slice none 0 0] 29)).heap.size := by simp
  clear hS hj hA hAR hF hsz hfew
  go_enter Tryz.func85, Tryz.ntmps85
  go_wp2_with (first | (go_at_call 86; (with_reducible refine (HA.out).mono ?_); rintro e w4 ⟨A4, m4, c4, rfl, hR4, h1⟩; have B4 := Lib.hid (A1.out.trans (h1.mono (Below.size A1.out))); have R4 := Lib.hid hR4; obtain ⟨⟨c0, c1, c2, c3⟩, ⟨f0, f1, f2, f3⟩⟩ := cells4 (blk_below hr.out h1); clear h1 hR4))
  have BF : Below w.heap.size w ((((w4.setCell ⟨w.heap.size, 0, none⟩ (.int .i64 6)).setCell ⟨w.heap.size, 1, none⟩ (.int .i64 0)).setCell ⟨w.heap.size, 2, none⟩ (.string ⟨#[]⟩)).setCell ⟨w.heap.size, 3, none⟩ (.slice A4 m4 c4)) := ((((B4.out.setCell (Nat.le_refl _) _).setCell (Nat.le_refl _) _).setCell (Nat.le_refl _) _).setCell (Nat.le_refl _) _)
  have hlt := lt_blk hr.out
  refine bodyPost_ret (v := .agg #[.int .i64 6, .int .i64 0, .string ⟨#[]⟩, .slice A4 m4 c4]) (by simp [results, Tryz.results85, go_sem, c0, c1, c2, c3]) rfl ⟨A4, m4, c4, rfl, row_mono (row_kept R4.out (fun g hg => far4 _ _ _ _ (fun e => ?_))) hz, ⟨_, JD.nil KF _ (HJ.out.below BF)⟩, .of BF⟩
  have h1 := (row_own R4.out g hg).1
  omega
set_option maxRecDepth 100000 in
set_option maxHeartbeats 8000000 in
theorem cHVALS (bS bM : Nat) (D : List (ByteArray × List (ByteArray × ByteArray))) (now : Int) (NM k : ByteArray) (F : List (ByteArray × ByteArray)) (hF : (findD k D).getD [] = F) (hfew : F.length ≤ 15) (hsz : ∀ n ∈ namesD F, n.size ≤ 1000000) (w : World) : CmdD KF okF 87 bS bM D now [NM, k] 6 0 ⟨#[]⟩ (RO ((allT false true (srtF F)).map some)) [] w := by
  intro j vA hS hj hA
  show Calls Tryz.prog 87 #[.pointer (some ⟨j, 0, none⟩)] w _
  obtain ⟨blk, off, cap, rfl, hAR⟩ := AR.of hj hA (by simp)
  have HJ := Lib.hid hj
  have A1 := Lib.hid (alloc_old (w := w) (o := .cells #[.int .i64 0, .int .i64 0, .string ⟨#[]⟩, .slice none 0 0] 29))
  have hr := Lib.hid (heap_alloc_new w (.cells #[.int .i64 0, .int .i64 0, .string ⟨#[]⟩, .slice none 0 0] 29))
  have HA := Lib.hid (hall_FT bS bM j D now blk off cap [NM, k] 2 rfl (by omega) k rfl (.slice none 0 0) F hF hfew hsz _ (SPG.below KF okF hS A1.out) (HJ.out.below A1.out) (hAR.below A1.out))
  have hz : w.heap.size ≤ (w.alloc (.cells #[.int .i64 0, .int .i64 0, .string ⟨#[]⟩, .slice none 0 0] 29)).heap.size := by simp
  clear hS hj hA hAR hF hsz hfew
  go_enter Tryz.func87, Tryz.ntmps87
  go_wp2_with (first | (go_at_call 86; (with_reducible refine (HA.out).mono ?_); rintro e w4 ⟨A4, m4, c4, rfl, hR4, h1⟩; have B4 := Lib.hid (A1.out.trans (h1.mono (Below.size A1.out))); have R4 := Lib.hid hR4; obtain ⟨⟨c0, c1, c2, c3⟩, ⟨f0, f1, f2, f3⟩⟩ := cells4 (blk_below hr.out h1); clear h1 hR4))
  have BF : Below w.heap.size w ((((w4.setCell ⟨w.heap.size, 0, none⟩ (.int .i64 6)).setCell ⟨w.heap.size, 1, none⟩ (.int .i64 0)).setCell ⟨w.heap.size, 2, none⟩ (.string ⟨#[]⟩)).setCell ⟨w.heap.size, 3, none⟩ (.slice A4 m4 c4)) := ((((B4.out.setCell (Nat.le_refl _) _).setCell (Nat.le_refl _) _).setCell (Nat.le_refl _) _).setCell (Nat.le_refl _) _)
  have hlt := lt_blk hr.out
  refine bodyPost_ret (v := .agg #[.int .i64 6, .int .i64 0, .string ⟨#[]⟩, .slice A4 m4 c4]) (by simp [results, Tryz.results87, go_sem, c0, c1, c2, c3]) rfl ⟨A4, m4, c4, rfl, row_mono (row_kept R4.out (fun g hg => far4 _ _ _ _ (fun e => ?_))) hz, ⟨_, JD.nil KF _ (HJ.out.below BF)⟩, .of BF⟩
  have h1 := (row_own R4.out g hg).1
  omega
set_option maxRecDepth 100000 in
set_option maxHeartbeats 8000000 in
theorem cHGETALL (bS bM : Nat) (D : List (ByteArray × List (ByteArray × ByteArray))) (now : Int) (NM k : ByteArray) (F : List (ByteArray × ByteArray)) (hF : (findD k D).getD [] = F) (hfew : F.length ≤ 15) (hsz : ∀ n ∈ namesD F, n.size ≤ 1000000) (w : World) : CmdD KF okF 88 bS bM D now [NM, k] 6 0 ⟨#[]⟩ (RO ((allT true true (srtF F)).map some)) [] w := by
  intro j vA hS hj hA
  show Calls Tryz.prog 88 #[.pointer (some ⟨j, 0, none⟩)] w _
  obtain ⟨blk, off, cap, rfl, hAR⟩ := AR.of hj hA (by simp)
  have HJ := Lib.hid hj
  have A1 := Lib.hid (alloc_old (w := w) (o := .cells #[.int .i64 0, .int .i64 0, .string ⟨#[]⟩, .slice none 0 0] 29))
  have hr := Lib.hid (heap_alloc_new w (.cells #[.int .i64 0, .int .i64 0, .string ⟨#[]⟩, .slice none 0 0] 29))
  have HA := Lib.hid (hall_TT bS bM j D now blk off cap [NM, k] 2 rfl (by omega) k rfl (.slice none 0 0) F hF hfew hsz _ (SPG.below KF okF hS A1.out) (HJ.out.below A1.out) (hAR.below A1.out))
  have hz : w.heap.size ≤ (w.alloc (.cells #[.int .i64 0, .int .i64 0, .string ⟨#[]⟩, .slice none 0 0] 29)).heap.size := by simp
  clear hS hj hA hAR hF hsz hfew
  go_enter Tryz.func88, Tryz.ntmps88
  go_wp2_with (first | (go_at_call 86; (with_reducible refine (HA.out).mono ?_); rintro e w4 ⟨A4, m4, c4, rfl, hR4, h1⟩; have B4 := Lib.hid (A1.out.trans (h1.mono (Below.size A1.out))); have R4 := Lib.hid hR4; obtain ⟨⟨c0, c1, c2, c3⟩, ⟨f0, f1, f2, f3⟩⟩ := cells4 (blk_below hr.out h1); clear h1 hR4))
  have BF : Below w.heap.size w ((((w4.setCell ⟨w.heap.size, 0, none⟩ (.int .i64 6)).setCell ⟨w.heap.size, 1, none⟩ (.int .i64 0)).setCell ⟨w.heap.size, 2, none⟩ (.string ⟨#[]⟩)).setCell ⟨w.heap.size, 3, none⟩ (.slice A4 m4 c4)) := ((((B4.out.setCell (Nat.le_refl _) _).setCell (Nat.le_refl _) _).setCell (Nat.le_refl _) _).setCell (Nat.le_refl _) _)
  have hlt := lt_blk hr.out
  refine bodyPost_ret (v := .agg #[.int .i64 6, .int .i64 0, .string ⟨#[]⟩, .slice A4 m4 c4]) (by simp [results, Tryz.results88, go_sem, c0, c1, c2, c3]) rfl ⟨A4, m4, c4, rfl, row_mono (row_kept R4.out (fun g hg => far4 _ _ _ _ (fun e => ?_))) hz, ⟨_, JD.nil KF _ (HJ.out.below BF)⟩, .of BF⟩
  have h1 := (row_own R4.out g hg).1
  omega
end Go.Proofs.YticlacjpgjkhcaaGreatDoor
