/- Texts joined: PC5, PC6 -/
import Derived.Test.YticlacjpgjkhcaaGreatDoorQn24
import Derived.Deep.CutRange
set_option linter.unusedVariables false
set_option linter.unusedSimpArgs false

/- points: PNEAR. -/
namespace Go.Proofs.YticlacjpgjkhcaaGreatDoor
open Go.ChangeShapes Go.WideShapes Go.ChangeAt Go.RowKit Go.Fl

set_option maxRecDepth 100000 in
set_option maxHeartbeats 8000000 in
theorem cPNEAR (bS bM : Nat) (D : List (ByteArray × List (ByteArray × Int × Int))) (now : Int) (NM k : ByteArray) (s t : ByteArray) (hs : s.size ≤ 100000) (ht : t.size ≤ 100000) (a b : Int) (ha : okI a = true) (hb : okI b = true) (hp1 : parseI s.data.toList = some a) (hp2 : parseI t.data.toList = some b) (F : List (ByteArray × Int × Int)) (hne : F ≠ []) (hF : (findD k D).getD [] = F) (ho2 : ∀ p ∈ F, okP2 p) (h31 : F.length ≤ 31) (i : Nat) (hi : (nrP a b F F.length).1 = i) (q : ByteArray × Int × Int) (hq : F[i]? = some q) (w : World) (W0 : World) (hT : Tab W0) (hW : Below W0.heap.size W0 w) : CmdD KP okP 43 bS bM D now [NM, k, s, t] 6 0 ⟨#[]⟩ (RO [some q.1, some (numT q.2.1), some (numT q.2.2)]) [] w := by
  intro j vA hS hj hA
  show Calls Tryz.prog 43 #[.pointer (some ⟨j, 0, none⟩)] w _
  have hjw := lt_blk hj
  obtain ⟨blk, off, cap, rfl, hAR⟩ := AR.of hj hA (by simp)
  have A1 := Lib.hid (alloc_old (w := w) (o := .cells #[.int .i64 0, .int .i64 0, .string ⟨#[]⟩, .slice none 0 0] 29))
  have hr := Lib.hid (heap_alloc_new w (.cells #[.int .i64 0, .int .i64 0, .string ⟨#[]⟩, .slice none 0 0] 29))
  obtain ⟨n, hn⟩ : ∃ n, F.length = n := ⟨_, rfl⟩
  have hl2 : ([NM, k, s, t]).length = 4 := rfl
  rw [hl2] at hj hA ⊢
  have hz : (w.alloc (.cells #[.int .i64 0, .int .i64 0, .string ⟨#[]⟩, .slice none 0 0] 29)).heap.size = w.heap.size + 1 := by simp
  have HO := pof_any bS bM j D now blk off cap ([NM, k, s, t]) 4 hl2 (by omega) k rfl (.slice none 0 0) F hF (w.alloc (.cells #[.int .i64 0, .int .i64 0, .string ⟨#[]⟩, .slice none 0 0] 29)) (SPG.below KP okP hS A1.out) (hj.below A1.out) (hAR.below A1.out)
  simp only [hz, hn] at HO
  have HO := Lib.hid HO
  have HJ := Lib.hid hj
  have HS := Lib.hid hS
  have HA := Lib.hid hA
  have HAR := Lib.hid hAR
  clear hS hj hA hAR hF hz
  have CJ := Lib.hid (show ∀ Y, Below w.heap.size w Y → Y.cell? ⟨j, 2, none⟩ = some (.slice (some ⟨blk, off, none⟩) 4 cap) from fun Y hY => by
    have h := (HAR.out.job Y hY).1
    rw [hl2] at h
    exact h)
  have CA := Lib.hid (fun Y hY i s hs => HAR.out.arg Y hY i s hs)
  have hcap : 4 ≤ cap := by have := HAR.out.len; rw [hl2] at this; exact this
  have hcap2 := HAR.out.cap
  have HO2 := Lib.hid ho2
  have HN := Lib.hid hn
  have HNE := Lib.hid hne
  rw [hn] at h31 hi
  clear ho2 hn hne
  have PP := Lib.hid (fun X (hX : Below w.heap.size w X) => pparse_any 2 j now blk off cap _ 4 hl2 2 rfl s t hs ht a b ha hb hp1 hp2 rfl rfl X (HAR.out.below hX))
  have NE := fun A C X h => pnear_any A n C (w.heap.size + 1) F HN.out (by omega) HO2.out a b ha hb X h
  rw [hi] at NE
  have hin := (List.getElem?_eq_some_iff.1 hq).1
  rw [HN.out] at hin
  have NE := Lib.hid NE
  have PT := Lib.hid (fun X (hX : Below w.heap.size w X) => ptold_any hT q.2.1 q.2.2 (HO2.out q (List.mem_of_getElem? hq)).1 (HO2.out q (List.mem_of_getElem? hq)).2 X (hW.trans (hX.mono (Below.size hW))))
  have HQ := Lib.hid hq
  have i0 : (i : Int) < (n : Int) := by omega
  have i9 : decide (0 ≤ (i : Int)) = true := decide_eq_true (by omega)
  clear hq hp1 hp2 hs ht hi
  go_enter Tryz.func43, Tryz.ntmps43
  go_wp2_with (first | (go_at_call 99; (with_reducible refine (HO.out).mono ?_); rintro e w1 ⟨A, C, rfl, hR, h1⟩; have R1 := Lib.hid hR; have B1 := Lib.hid (A1.out.trans (h1.mono (Nat.le_succ _))); have r1 := Lib.hid ((h1.block w.heap.size (Nat.lt_succ_self _)).trans hr.out); clear h1 hR; refine Hid.out ?_))
  refine Lib.hid ?_
  have AE := Lib.hid (alloc_old (w := w1) (o := .cells #[.string k, .int .i64 5, .string ⟨#[]⟩, .slice none 0 0, .slice none 0 0, .slice none 0 0, .slice A n C, .int .i64 0] 66))
  have re := Lib.hid (heap_alloc_new w1 (.cells #[.string k, .int .i64 5, .string ⟨#[]⟩, .slice none 0 0, .slice none 0 0, .slice none 0 0, .slice A n C, .int .i64 0] 66))
  have R2 := Lib.hid (R1.out.below AE.out)
  have r2 := Lib.hid (blk_below r1.out AE.out)
  have B2 := Lib.hid (B1.out.trans (AE.out.mono (Below.size B1.out)))
  have z1 := lt_blk r1.out
  have z2 : w1.heap.size < (w1.alloc (.cells #[.string k, .int .i64 5, .string ⟨#[]⟩, .slice none 0 0, .slice none 0 0, .slice none 0 0, .slice A n C, .int .i64 0] 66)).heap.size := by simp
  obtain ⟨g, C', eA, _⟩ := R2.out.form HNE.out
  rw [HN.out] at eA
  cases eA
  have P2 := Lib.hid (PP.out _ B2.out)
  go_wp2_with (first | (go_at_call 100; (with_reducible refine (P2.out).mono ?_); rintro e w3 ⟨rfl, h3⟩; have B3 := Lib.hid (B2.out.trans (h3.mono (Below.size B2.out))); have r3 := Lib.hid (blk_below r2.out h3); have R3 := Lib.hid (R2.out.below h3); have N3 := Lib.hid (NE.out _ _ _ R3.out); clear h3) | (go_at_call 109; (with_reducible refine (N3.out).mono ?_); rintro e w6 ⟨rfl, h6⟩; have B6 := Lib.hid (B3.out.trans (h6.mono (Below.size B3.out))); have r6 := Lib.hid (blk_below r3.out h6); have R6 := Lib.hid (R3.out.below h6); rw [i9]; clear h6))
  have B6' := Lib.hid (Below.refl w6.heap.size w6)
  have k02 : 0 < 2 := by decide
  have k12 : 1 + 2 ≤ 100000 := by decide
  have hz6 : w.heap.size + 1 ≤ w6.heap.size := by have := lt_blk r6.out; omega
  have hgw : w.heap.size + 1 ≤ g := R6.out.own
  have Ba := Lib.hid ((alloc_old (w := w6) (o := .cells #[.string q.1] 9)).drew)
  have Bw := Lib.hid (fun X (hX : Below w6.heap.size w6 X) => B6.out.trans (hX.mono (Below.size B6.out)))
  have na := Lib.hid (show ((w6.alloc (.cells #[.string q.1] 9)).drew).heap[w6.heap.size]? = some (.cells #[.string q.1] 9) from heap_alloc_new w6 _)
  have SY := Lib.hid (show ∀ X, Below w6.heap.size w6 X → (X.cell? ⟨g, i * 2, none⟩ = some (.string q.1) ∧ X.cell? ⟨g, i * 2 + 1, none⟩ = some (.complex .f64 (fi q.2.1) (fi q.2.2))) from fun X hX => (R6.out.below hX).at HN.out i q HQ.out)
  have S0 := SY.out w6.drew B6'.out.drew
  have Sa := Lib.hid (SY.out (w6.alloc (.cells #[.string q.1] 9)).drew Ba.out)
  obtain ⟨d0, d1⟩ := SY.out w6 B6'.out
  go_wp2_with fail
  go_region_held3 (fun X => X.cell? ⟨g, i * 2, none⟩ = some (.string q.1) ∧ X.cell? ⟨g, i * 2 + 1, none⟩ = some (.complex .f64 (fi q.2.1) (fi q.2.2))) (first | (with_reducible exact S0) | (with_reducible exact Sa.out) | (with_reducible exact S4.out) | (with_reducible exact S4z.out) | (with_reducible exact S9.out) | (with_reducible exact S5.out) | (with_reducible exact S5f.out _ _ _ _))
    (first | (go_at_call 105; (first | ((with_reducible refine (PT.out _ (Bw.out _ Ba.out)).mono ?_); rintro e w4 ⟨gT, rfl, hG, hgl, hB⟩; have D4 := Lib.hid (Ba.out.trans (hB.mono (Below.size Ba.out))); have n4 := Lib.hid (blk_below na.out hB); have G4 := Lib.hid hG; have S4 := Lib.hid (SY.out w4 D4.out); have T4 := Lib.hid (TO.lit w4 [q.1] w6.heap.size w6.heap.size 1 rfl (by omega) (Nat.le_refl _) n4.out); clear hG hB) | ((with_reducible refine (PT.out _ (Bw.out _ B6'.out.drew)).mono ?_); rintro e w4 ⟨gT, rfl, hG, hgl, hB⟩; have D4 := Lib.hid (B6'.out.drew.trans hB); have S4 := Lib.hid (SY.out w4 D4.out); have D4z := Lib.hid (D4.out.trans ((alloc_old (w := w4) (o := .cells #[.string q.1] 9)).mono (Below.size D4.out))); have S4z := Lib.hid (SY.out (w4.alloc (.cells #[.string q.1] 9)) D4z.out); have G4 := Lib.hid (blk_below hG (alloc_old (w := w4) (o := .cells #[.string q.1] 9))); have T4 := Lib.hid (TO.lit (w4.alloc (.cells #[.string q.1] 9)) [q.1] w4.heap.size w6.heap.size 1 rfl (by omega) (Below.size D4.out) (heap_alloc_new w4 _)); have D4 := D4z; clear hG hB))) | (refine step_append_TO _ rfl _ _ rfl w6.heap.size _ [q.1] 1 rfl rfl T4.out [numT q.2.1, numT q.2.2] 2 rfl gT rfl G4.out k02 k12 (Below.size D4.out) ?_; intro g9 c9 w9 h1 h2 h3; have D9 := Lib.hid (D4.out.grown h2 (Below.size D4.out) (fun k hk => (row_own T4.out k hk).1)); have S9 := Lib.hid (SY.out w9 D9.out); have r9 := Lib.hid (blk_below r6.out D9.out); have BK := Lib.hid (BULKS _ _ (by simp) w9 h1.ssl); clear h1 h2 h3) | (go_at_call 64; (with_reducible refine (BK.out).mono ?_); rintro e w5 ⟨A5, m5, c5, rfl, hR5, h1⟩; have D5 := Lib.hid (D9.out.trans (h1.mono (Below.size D9.out))); have B5 := Lib.hid (Bw.out _ D5.out); have R5 := Lib.hid hR5; have S5 := Lib.hid (SY.out w5 D5.out); have r5 := Lib.hid (blk_below r9.out h1); obtain ⟨⟨c0, c1, c2, c3⟩, ⟨f0, f1, f2, f3⟩⟩ := cells4 r5.out; have S5f := Lib.hid (fun v0 v1 v2 v3 => ((R6.out.below D5.out).kept (w' := ((((w5.setCell ⟨w.heap.size, 0, none⟩ v0).setCell ⟨w.heap.size, 1, none⟩ v1).setCell ⟨w.heap.size, 2, none⟩ v2).setCell ⟨w.heap.size, 3, none⟩ v3)) (fun g' hg' => far4 _ _ _ _ (by cases hg'; exact Nat.ne_of_gt hgw))).at HN.out i q HQ.out); clear h1 hR5))
  all_goals (go_wp2_with fail)
  all_goals (
    have BF : Below w.heap.size w ((((w5.setCell ⟨w.heap.size, 0, none⟩ (.int .i64 6)).setCell ⟨w.heap.size, 1, none⟩ (.int .i64 0)).setCell ⟨w.heap.size, 2, none⟩ (.string ⟨#[]⟩)).setCell ⟨w.heap.size, 3, none⟩ (.slice A5 m5 c5)) := ((((B5.out.setCell (Nat.le_refl _) _).setCell (Nat.le_refl _) _).setCell (Nat.le_refl _) _).setCell (Nat.le_refl _) _)
    have hz9 := Below.size D9.out
    refine bodyPost_ret (v := .agg #[.int .i64 6, .int .i64 0, .string ⟨#[]⟩, .slice A5 m5 c5]) (by simp [results, Tryz.results43, go_sem, c0, c1, c2, c3]) rfl ⟨A5, m5, c5, rfl, row_mono (row_kept R5.out (fun g hg => far4 _ _ _ _ (by have h1 := (row_own R5.out g hg).1; omega))) (by omega), ⟨_, JD.nil KP _ (HJ.out.below BF)⟩, .of BF⟩)
end Go.Proofs.YticlacjpgjkhcaaGreatDoor

/- points: PALL. -/
namespace Go.Proofs.YticlacjpgjkhcaaGreatDoor
open Go.ChangeShapes Go.WideShapes Go.ChangeAt Go.RowKit Go.Fl

/-- All that points tell: names and parts. -/
def allP (F : List (ByteArray × Int × Int)) : List ByteArray := F.flatMap fun p => [p.1, numT p.2.1, numT p.2.2]
theorem allP_len (F : List (ByteArray × Int × Int)) : (allP F).length = F.length * 3 := by
  induction F with
  | nil => rfl
  | cons p r ih =>
    have e : allP (p :: r) = [p.1, numT p.2.1, numT p.2.2] ++ allP r := by simp [allP]
    rw [e, List.length_append, ih, List.length_cons]
    simp
    omega
theorem allP_snoc (F : List (ByteArray × Int × Int)) (i : Nat) (p : ByteArray × Int × Int) (h : F[i]? = some p) : allP (F.take (i + 1)) = (allP (F.take i) ++ [p.1]) ++ [numT p.2.1, numT p.2.2] := by
  rw [List.take_add_one, h]
  simp [allP]
/-- What stands while a point is told. -/
structure PA (c : Nat) (w : World) (b : Nat) (p : ByteArray × Int × Int) (v : Value) (zs : List ByteArray) (X : World) : Prop where
  row : TO X c v zs
  pb : X.heap[b]? = some (.cells #[.string p.1, .complex .f64 (fi p.2.1) (fi p.2.2)] 110)
  bel : Below c w X
  sz : c ≤ X.heap.size
theorem PA.below {c : Nat} {w : World} {b : Nat} {p : ByteArray × Int × Int} {v : Value} {zs : List ByteArray} {X Y : World} (h : PA c w b p v zs X) (hb : Below X.heap.size X Y) : PA c w b p v zs Y :=
  ⟨row_below h.row hb, blk_below h.pb hb, h.bel.trans (hb.mono h.sz), Nat.le_trans h.sz (Below.size hb)⟩
theorem PA.S {c : Nat} {w : World} {b : Nat} {p : ByteArray × Int × Int} {v : Value} {zs : List ByteArray} {X : World} (h : PA c w b p v zs X) : X.cell? ⟨b, 0, none⟩ = some (.string p.1) ∧ X.cell? ⟨b, 1, none⟩ = some (.complex .f64 (fi p.2.1) (fi p.2.2)) := cells_of h.pb
theorem PA.keep {c : Nat} {w : World} {b : Nat} {p : ByteArray × Int × Int} {v : Value} {zs : List ByteArray} {X Y : World} (h : PA c w b p v zs X) (hg : X.grownBy Y v.ownBlock) (d : Nat) (cs : Array Value) (ty : TypeId) (hd : X.heap[d]? = some (.cells cs ty)) (hne : v.ownBlock ≠ some d) : Y.heap[d]? = some (.cells cs ty) := (hg.block d (lt_blk hd) (fun e => hne e.symm)).trans hd
theorem PA.grow {c : Nat} {w : World} {b : Nat} {p : ByteArray × Int × Int} {v v' : Value} {zs zs' : List ByteArray} {X Y : World} (h : PA c w b p v zs X) (hr : TO Y c v' zs') (hg : X.grownBy Y v.ownBlock) : PA c w b p v' zs' Y := by
  refine ⟨hr, h.keep hg b _ _ h.pb (fun e => ?_), h.bel.grown hg h.sz (fun k hk => (row_own h.row k hk).1), ?_⟩
  · obtain ⟨cs, hc⟩ := row_typ h.row b e
    rw [h.pb] at hc
    cases hc
  · exact Nat.le_trans h.sz hg.size
theorem own_lt {X : World} {c : Nat} {v : Value} {zs : List ByteArray} (h : TO X c v zs) {g : Nat} (e : v.ownBlock = some g) : g < X.heap.size := by
  obtain ⟨cs, hc⟩ := row_typ h g e
  exact lt_blk hc
set_option maxRecDepth 100000 in
set_option maxHeartbeats 16000000 in
theorem cPALL (bS bM : Nat) (D : List (ByteArray × List (ByteArray × Int × Int))) (now : Int) (NM k : ByteArray) (F : List (ByteArray × Int × Int)) (hne : F ≠ []) (hF : (findD k D).getD [] = F) (ho2 : ∀ p ∈ F, okP2 p) (h31 : F.length ≤ 31) (w : World) (W0 : World) (hT : Tab W0) (hW : Below W0.heap.size W0 w) : CmdD KP okP 41 bS bM D now [NM, k] 6 0 ⟨#[]⟩ (RO ((allP F).map some)) [] w := by
  intro j vA hS hj hA
  show Calls Tryz.prog 41 #[.pointer (some ⟨j, 0, none⟩)] w _
  have hjw := lt_blk hj
  obtain ⟨blk, off, cap, rfl, hAR⟩ := AR.of hj hA (by simp)
  have A1 := Lib.hid (alloc_old (w := w) (o := .cells #[.int .i64 0, .int .i64 0, .string ⟨#[]⟩, .slice none 0 0] 29))
  have hr := Lib.hid (heap_alloc_new w (.cells #[.int .i64 0, .int .i64 0, .string ⟨#[]⟩, .slice none 0 0] 29))
  obtain ⟨n, hn⟩ : ∃ n, F.length = n := ⟨_, rfl⟩
  have hl2 : ([NM, k]).length = 2 := rfl
  rw [hl2] at hj hA ⊢
  have hz : (w.alloc (.cells #[.int .i64 0, .int .i64 0, .string ⟨#[]⟩, .slice none 0 0] 29)).heap.size = w.heap.size + 1 := by simp
  have HO := pof_any bS bM j D now blk off cap ([NM, k]) 2 hl2 (by omega) k rfl (.slice none 0 0) F hF (w.alloc (.cells #[.int .i64 0, .int .i64 0, .string ⟨#[]⟩, .slice none 0 0] 29)) (SPG.below KP okP hS A1.out) (hj.below A1.out) (hAR.below A1.out)
  simp only [hz, hn] at HO
  have HO := Lib.hid HO
  have HJ := Lib.hid hj
  have HS := Lib.hid hS
  have HA := Lib.hid hA
  have HAR := Lib.hid hAR
  clear hS hj hA hAR hF hz
  have CJ := Lib.hid (show ∀ Y, Below w.heap.size w Y → Y.cell? ⟨j, 2, none⟩ = some (.slice (some ⟨blk, off, none⟩) 2 cap) from fun Y hY => by
    have h := (HAR.out.job Y hY).1
    rw [hl2] at h
    exact h)
  have CA := Lib.hid (fun Y hY i s hs => HAR.out.arg Y hY i s hs)
  have hcap : 2 ≤ cap := by have := HAR.out.len; rw [hl2] at this; exact this
  have hcap2 := HAR.out.cap
  have HO2 := Lib.hid ho2
  have HN := Lib.hid hn
  have HNE := Lib.hid hne
  rw [hn] at h31
  clear ho2 hn hne
  have PTT := Lib.hid (fun (p : ByteArray × Int × Int) (hp : p ∈ F) X (hX : Below w.heap.size w X) => ptold_any hT p.2.1 p.2.2 (HO2.out p hp).1 (HO2.out p hp).2 X (hW.trans (hX.mono (Below.size hW))))
  clear hcap hcap2
  go_enter Tryz.func41, Tryz.ntmps41
  go_wp2_with (first | (go_at_call 99; (with_reducible refine (HO.out).mono ?_); rintro e w1 ⟨A, C, rfl, hR, h1⟩; have R1 := Lib.hid hR; have B1 := Lib.hid (A1.out.trans (h1.mono (Nat.le_succ _))); have r1 := Lib.hid ((h1.block w.heap.size (Nat.lt_succ_self _)).trans hr.out); clear h1 hR; refine Hid.out ?_))
  refine Lib.hid ?_
  have AE := Lib.hid (alloc_old (w := w1) (o := .cells #[.string k, .int .i64 5, .string ⟨#[]⟩, .slice none 0 0, .slice none 0 0, .slice none 0 0, .slice A n C, .int .i64 0] 66))
  have re := Lib.hid (heap_alloc_new w1 (.cells #[.string k, .int .i64 5, .string ⟨#[]⟩, .slice none 0 0, .slice none 0 0, .slice none 0 0, .slice A n C, .int .i64 0] 66))
  have R2 := Lib.hid (R1.out.below AE.out)
  have r2 := Lib.hid (blk_below r1.out AE.out)
  have B2 := Lib.hid (B1.out.trans (AE.out.mono (Below.size B1.out)))
  have z1 := lt_blk r1.out
  have z2 : w1.heap.size < (w1.alloc (.cells #[.string k, .int .i64 5, .string ⟨#[]⟩, .slice none 0 0, .slice none 0 0, .slice none 0 0, .slice A n C, .int .i64 0] 66)).heap.size := by simp
  obtain ⟨g, C', eA, _⟩ := R2.out.form HNE.out
  rw [HN.out] at eA
  cases eA
  go_wp2
  generalize (w1.alloc (.cells #[.string k, .int .i64 5, .string ⟨#[]⟩, .slice none 0 0, .slice none 0 0, .slice none 0 0, .slice (some ⟨g, 0, none⟩) n C, .int .i64 0] 66)) = W2 at AE re R2 r2 B2 z2 ⊢
  obtain ⟨c, hc⟩ : ∃ c, W2.heap.size = c := ⟨_, rfl⟩
  have HC := Lib.hid hc
  have HB2 := Lib.hid (show ∀ X, Below c W2 X → Below w.heap.size w X from fun X hX => B2.out.trans (hX.mono (by have := Below.size B2.out; omega)))
  clear hc
  go_loopw [5, 15] (fun ov iv wr => ∃ (i : Nat) (A' : Option Addr) (C' : Nat), i ≤ n ∧ iv = .int .i64 i ∧ ov = .slice A' (i * 3) C' ∧ Hid (TO wr c (.slice A' (i * 3) C') (allP (F.take i)) ∧ Below c W2 wr)) (fun _ iv _ => n - (intOf iv).toNat)
  case atStart => exact ⟨0, none, 0, Nat.zero_le _, rfl, rfl, Lib.hid ⟨World.ownsRow_nil _ _ _ _, Below.refl _ _⟩⟩
  case round =>
    obtain ⟨i, A', C', hi, rfl, rfl, HQ⟩ := hrel
    have hcs : c ≤ wr.heap.size := by have := Below.size HQ.out.2; have := HC.out; omega
    have RR := Lib.hid (R2.out.below (by rw [HC.out]; exact HQ.out.2))
    by_cases hlt : i < n
    · have q0 : (i : Int) < (n : Int) := by omega
      obtain ⟨p, hp⟩ : ∃ p, F[i]? = some p := ⟨_, List.getElem?_eq_getElem (by rw [HN.out]; exact hlt)⟩
      have PT := Lib.hid (PTT.out p (List.mem_of_getElem? hp))
      have BX := Lib.hid (fun X (hX : Below c W2 X) => HB2.out X hX)
      obtain ⟨d0, d1⟩ := RR.out.at HN.out i p hp
      obtain ⟨N, hN⟩ : ∃ N, i * 3 = N := ⟨_, rfl⟩
      have hlen : (allP (F.take i)).length = N := by rw [allP_len, List.length_take, HN.out, ← hN]; omega
      obtain ⟨zs, hzs⟩ : ∃ zs, allP (F.take i) = zs := ⟨_, rfl⟩
      have HSN := Lib.hid (allP_snoc F i p hp)
      rw [hzs] at HSN hlen HQ
      rw [hN] at HQ
      have HNN := Lib.hid hN
      have hN93 : N ≤ 93 := by omega
      have k01 : 0 < 1 := by decide
      have k02 : 0 < 2 := by decide
      have kN1 : N + 1 ≤ 100000 := by omega
      have kN3 : N + 1 + 2 ≤ 100000 := by omega
      have HLN := Lib.hid hlen
      have HLN1 := Lib.hid (show (zs ++ [p.1]).length = N + 1 by rw [List.length_append, hlen]; rfl)
      have AP := Lib.hid (alloc_old (w := wr) (o := .cells #[.string p.1, .complex .f64 (fi p.2.1) (fi p.2.2)] 110))
      have Pw := Lib.hid (show PA c W2 wr.heap.size p (.slice A' N C') zs (wr.alloc (.cells #[.string p.1, .complex .f64 (fi p.2.1) (fi p.2.2)] 110)) from ⟨row_below HQ.out.1 AP.out, heap_alloc_new wr _, HQ.out.2.trans (AP.out.mono hcs), Nat.le_trans hcs (Below.size AP.out)⟩)
      have P0 := Lib.hid (Pw.out.below (Below.refl _ _).drew)
      have AZ := Lib.hid ((alloc_old (w := wr.alloc (.cells #[.string p.1, .complex .f64 (fi p.2.1) (fi p.2.2)] 110)) (o := .cells #[.string p.1] 9)).drew)
      have Pz := Lib.hid (Pw.out.below AZ.out)
      have nz := Lib.hid (show (((wr.alloc (.cells #[.string p.1, .complex .f64 (fi p.2.1) (fi p.2.2)] 110)).alloc (.cells #[.string p.1] 9)).drew).heap[wr.heap.size + 1]? = some (.cells #[.string p.1] 9) from heap2L wr _)
      have HLT := Lib.hid (show i + 1 ≤ n from hlt)
      clear hp hlen hzs hN hN93
      rw [HNN.out]
      go_wp2_with fail
      go_region_held3 (fun X => X.cell? ⟨wr.heap.size, 0, none⟩ = some (.string p.1) ∧ X.cell? ⟨wr.heap.size, 1, none⟩ = some (.complex .f64 (fi p.2.1) (fi p.2.2))) (first | (with_reducible exact P0.out.S) | (with_reducible exact Pz.out.S) | (with_reducible exact P1.out.S) | (with_reducible exact Q4.out.S) | (with_reducible exact Q4z.out.S) | (with_reducible exact Q7.out.S) | (with_reducible exact Q9.out.S)) ((first | (go_at_call 105; (first | ((with_reducible refine (PT.out _ (BX.out _ P1.out.bel)).mono ?_); rintro e w6 ⟨gT, rfl, hG, hgl, hB⟩; have Q7 := Lib.hid (P1.out.below hB); have G7 := Lib.hid hG; clear hG hB hgl) | ((with_reducible refine (PT.out _ (BX.out _ Pz.out.bel)).mono ?_); rintro e w4 ⟨gT, rfl, hG, hgl, hB⟩; have Q4 := Lib.hid (Pz.out.below hB); have n4 := Lib.hid (blk_below nz.out hB); have G4 := Lib.hid hG; have l4 := Lib.hid hgl; clear hG hB hgl) | ((with_reducible refine (PT.out _ (BX.out _ P0.out.bel)).mono ?_); rintro e w4 ⟨gT, rfl, hG, hgl, hB⟩; have Q4 := Lib.hid (P0.out.below hB); have A4 := Lib.hid (alloc_old (w := w4) (o := .cells #[.string p.1] 9)); have Q4z := Lib.hid (Q4.out.below A4.out); have n4z := Lib.hid (heap_alloc_new w4 (.cells #[.string p.1] 9)); have G4z := Lib.hid (blk_below hG A4.out); have l4z := Lib.hid hgl; clear hG hB hgl))) | ((refine step_append_TO _ rfl _ _ rfl c _ _ (N + 1) HLN1.out rfl Q7.out.row [numT p.2.1, numT p.2.2] 2 rfl gT rfl G7.out k02 kN3 Q7.out.sz ?_); intro g9 c9 w9 h1 h2 h3; have Q9 := Lib.hid (Q7.out.grow h1 h2); clear h1 h2 h3) | ((refine step_append_TO _ rfl _ _ rfl c _ _ N HLN.out rfl Pz.out.row [p.1] 1 rfl (wr.heap.size + 1) rfl nz.out k01 kN1 Pz.out.sz ?_); intro g9 c9 w9 h1 h2 h3; have P1 := Lib.hid (Pz.out.grow h1 h2); clear h1 h2 h3) | ((refine step_append_TO _ rfl _ _ rfl c _ _ N HLN.out rfl Q4.out.row [p.1] 1 rfl (wr.heap.size + 1) rfl n4.out k01 kN1 Q4.out.sz ?_); intro g9 c9 w9 h1 h2 h3; have G7 := Lib.hid (Q4.out.keep h2 gT _ _ G4.out (fun e => absurd (Nat.lt_of_lt_of_le (own_lt Pz.out.row e) l4.out) (Nat.lt_irrefl _))); have Q7 := Lib.hid (Q4.out.grow h1 h2); clear h1 h2 h3) | ((refine step_append_TO _ rfl _ _ rfl c _ _ N HLN.out rfl Q4z.out.row [p.1] 1 rfl w4.heap.size rfl n4z.out k01 kN1 Q4z.out.sz ?_); intro g9 c9 w9 h1 h2 h3; have G7 := Lib.hid (Q4z.out.keep h2 gT _ _ G4z.out (fun e => absurd (Nat.lt_of_lt_of_le (own_lt P0.out.row e) l4z.out) (Nat.lt_irrefl _))); have Q7 := Lib.hid (Q4z.out.grow h1 h2); clear h1 h2 h3)))
      all_goals (go_wp2_with fail)
      all_goals exact ⟨⟨i + 1, some ⟨g9, 0, none⟩, c9, HLT.out, by go_num, by rw [← HNN.out]; congr 1; omega, Lib.hid ⟨by rw [HSN.out, show (i + 1) * 3 = N + 1 + 2 from by have := HNN.out; omega]; exact Q9.out.row, Q9.out.bel⟩⟩, by simp [intOf]; omega⟩
    · obtain rfl : i = n := by omega
      have q0 : ¬ (i : Int) < (i : Int) := by omega
      have hQ := HQ.out.1
      rw [List.take_of_length_le (by rw [HN.out]; exact Nat.le_refl _)] at hQ
      have B4 := Lib.hid (HB2.out wr HQ.out.2)
      have r4 := Lib.hid (blk_below r2.out (by rw [HC.out]; exact HQ.out.2))
      have BK := Lib.hid (BULKS _ _ (by rw [allP_len, HN.out]; omega) wr hQ.ssl)
      clear hQ
      go_wp2_with (first | (go_at_call 64; (with_reducible refine (BK.out).mono ?_); rintro e w5 ⟨A5, m5, c5, rfl, hR5, h1⟩; have B5 := Lib.hid (B4.out.trans (h1.mono (Below.size B4.out))); have R5 := Lib.hid hR5; obtain ⟨⟨c0, c1, c2, c3⟩, ⟨f0, f1, f2, f3⟩⟩ := cells4 (blk_below r4.out h1); clear h1 hR5))
      have BF : Below w.heap.size w ((((w5.setCell ⟨w.heap.size, 0, none⟩ (.int .i64 6)).setCell ⟨w.heap.size, 1, none⟩ (.int .i64 0)).setCell ⟨w.heap.size, 2, none⟩ (.string ⟨#[]⟩)).setCell ⟨w.heap.size, 3, none⟩ (.slice A5 m5 c5)) := ((((B5.out.setCell (Nat.le_refl _) _).setCell (Nat.le_refl _) _).setCell (Nat.le_refl _) _).setCell (Nat.le_refl _) _)
      refine bodyPost_ret (v := .agg #[.int .i64 6, .int .i64 0, .string ⟨#[]⟩, .slice A5 m5 c5]) (by simp [results, Tryz.results41, go_sem, c0, c1, c2, c3]) rfl ⟨A5, m5, c5, rfl, row_mono (row_kept R5.out (fun g hg => far4 _ _ _ _ (fun e => ?_))) (Below.size B4.out), ⟨_, JD.nil KP _ (HJ.out.below BF)⟩, .of BF⟩
      have h1 := (row_own R5.out g hg).1
      have h2 := lt_blk r4.out
      omega
end Go.Proofs.YticlacjpgjkhcaaGreatDoor
