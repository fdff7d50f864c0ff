/- Texts joined: Zd, Ze, Zh, ZP -/
import Derived.Test.YticlacjpgjkhcaaGreatDoorQs30
import Derived.Test.YticlacjpgjkhcaaGreatDoorQs31
import Derived.Test.YticlacjpgjkhcaaGreatDoorQs28
set_option linter.unusedVariables false
set_option linter.unusedSimpArgs false

/- scores: those that are taken out. -/
namespace Go.Proofs.YticlacjpgjkhcaaGreatDoor
open Go.ChangeShapes Go.WideShapes Go.ChangeAt Go.RowKit

/-- What is left when some names are taken out. -/
def dels (L F : List (ByteArray × Int)) : List (ByteArray × Int) := L.foldl (fun Z p => delD p.1 Z) F
theorem dels_s {L F : List (ByteArray × Int)} {k : Nat} {p : ByteArray × Int} (h : L[k]? = some p) : dels (L.take (k + 1)) F = delD p.1 (dels (L.take k) F) := by
  unfold dels
  rw [List.take_add_one, h, List.foldl_append]
  rfl
theorem dels_nd : ∀ (L : List (ByteArray × Int)) {F : List (ByteArray × Int)}, (namesD F).Nodup → (namesD (dels L F)).Nodup
  | [], _, h => h
  | _ :: L, _, h => dels_nd L (nd_delD h)
theorem delD_le (k : ByteArray) (D : List (ByteArray × Int)) : (delD k D).length ≤ D.length := by
  have := (names_delD k D).length_le
  simpa [namesD] using this
theorem dels_len : ∀ (L F : List (ByteArray × Int)), (dels L F).length ≤ F.length
  | [], _ => Nat.le_refl _
  | p :: L, F => Nat.le_trans (dels_len L (delD p.1 F)) (delD_le p.1 F)
theorem dels_find {n : ByteArray} : ∀ (L : List (ByteArray × Int)) {F : List (ByteArray × Int)}, (namesD F).Nodup → n ∉ L.map Prod.fst → findD n (dels L F) = findD n F
  | [], _, _, _ => rfl
  | p :: L, F, h, hn => by
    have h1 := dels_find (n := n) L (nd_delD (k := p.1) h) (fun e => hn (List.mem_cons_of_mem _ e))
    refine Eq.trans h1 ?_
    rw [findD_delD n h, if_neg (fun e => hn (by simp [e]))]
theorem dels_at {L F : List (ByteArray × Int)} {k : Nat} {p : ByteArray × Int} (hF : (namesD F).Nodup) (hL : (L.map Prod.fst).Nodup) (hs : ∀ q ∈ L, q ∈ F) (h : L[k]? = some p) : findD p.1 (dels (L.take k) F) = some p.2 := by
  have e9 : L = L.take k ++ p :: L.drop (k + 1) := by
    obtain ⟨hi, he⟩ := List.getElem?_eq_some_iff.1 h
    rw [← he, List.getElem_cons_drop, List.take_append_drop]
  rw [dels_find _ hF (fun hmem => by
    rw [e9, List.map_append, List.nodup_append] at hL
    exact hL.2.2 _ hmem _ (by simp) rfl)]
  exact findD_of_mem hF (hs p (List.mem_of_getElem? h))
theorem RS.far {w w' : World} {c : Nat} {v : Value} {L : List (ByteArray × Int)} (h : RS w c v L) (hF : FarP w w') : RS w' c v L := row_kept h fun g hg => by
  have h2 := h
  unfold RS World.ownsRow at h2
  obtain ⟨_, ⟨rfl, _⟩ | ⟨g', cap, cur, rfl, _, h3, _⟩⟩ := h2
  · cases hg
  · cases hg
    rw [h3]
    exact hF _ _ _ h3 (by decide) (by decide) (by decide)
set_option maxRecDepth 100000 in
set_option maxHeartbeats 8000000 in
theorem zout_span (bS bM j : Nat) (D : List (ByteArray × List (ByteArray × Int))) (now : Int) (vA : Value) (xs : List ByteArray) (n : Nat) (hl2 : xs.length = n) (h2n : 2 ≤ n) (k : ByteArray) (hk : xs[1]? = some k) (L F : List (ByteArray × Int)) (hF : (findD k D).getD [] = F) (hsub : ∀ q ∈ L, q ∈ F) (hnd : (L.map Prod.fst).Nodup) (hLN : L.length ≤ 1000) (hok : dels L F ≠ [] → okS k (dels L F)) (w : World) (hDB : DB w) (h3w : 3 < w.heap.size) (hS : SPG KS okS w bS bM D) (hj : JB w j bS now vA (.slice none 0 0)) (hA : SSl w vA xs) (hW : ∀ (c h sp : Nat) (e3 e4 e5 e6 : Value) (X : World), Below w.heap.size w X → c ≤ X.heap.size → ZH c X h sp k e3 e4 e5 e6 F → Calls Tryz.prog 75 #[.pointer (some ⟨j, 0, none⟩), .pointer (some ⟨h, 0, none⟩)] X fun e w' => ∃ A m C, e = .returned (.slice A m C) ∧ L.length = m ∧ RS w' X.heap.size (.slice A m C) L ∧ Below X.heap.size X w') : Calls Tryz.prog 74 #[.pointer (some ⟨j, 0, none⟩), .func (.func 75) #[] #[]] w fun e w' => e = .returned (.agg #[.int .i64 3, .int .i64 (L.length : Nat), .string ⟨#[]⟩, .slice none 0 0]) ∧ (∃ vl', JD KS w' j bS now vA w.heap.size vl' (dEff k (xoS (dels L F)) D)) ∧ Kp w.heap.size (fun i => i ≠ j) w w' := by
  have hjw := lt_blk hj
  obtain ⟨blk, off, cap, rfl, hAR⟩ := AR.of hj hA (by intro e; subst e; simp at hl2; omega)
  have HJ := Lib.hid hj
  have A1 := Lib.hid (alloc_old (w := w) (o := .cells #[.int .i64 0, .int .i64 0, .string ⟨#[]⟩, .slice none 0 0] 29))
  have hr := Lib.hid (heap_alloc_new w (.cells #[.int .i64 0, .int .i64 0, .string ⟨#[]⟩, .slice none 0 0] 29))
  rw [hl2] at HJ ⊢
  have hz : w.heap.size + 1 ≤ (w.alloc (.cells #[.int .i64 0, .int .i64 0, .string ⟨#[]⟩, .slice none 0 0] 29)).heap.size := by simp
  have HO := Lib.hid (fun X hX hc => zof_at bS bM j D now blk off cap xs n hl2 h2n k hk (.slice none 0 0) F hF w hDB h3w hS HJ.out hAR X hX (w.heap.size + 1) hc)
  have HFF := Lib.hid (okF_of hS hF)
  have HJA := Lib.hid (fun X (hX : Below w.heap.size w X) => And.intro (HJ.out.below hX) (hA.below hX))
  have HSX := Lib.hid hS
  have HDX := Lib.hid hDB
  have CJ := Lib.hid (fun Y hY => (hAR.job Y hY).1)
  rw [hl2] at CJ
  have CA := Lib.hid (fun Y hY i s hs => hAR.arg Y hY i s hs)
  have hcap := hAR.len
  rw [hl2] at hcap
  have hcap2 := hAR.cap
  have hmc : ∀ (args : Array Value) (w : World), (callFunc 75 args).run Tryz.prog w = .ok (.enter 75 args) w := fun _ _ => by kernel_rfl
  have WH := Lib.hid (fun c h sp e3 e4 e5 e6 X (h1 : Below w.heap.size w X) (h2 : c ≤ X.heap.size) (h3 : ZH c X h sp k e3 e4 e5 e6 F) => hW c h sp e3 e4 e5 e6 X h1 h2 h3)
  have DL := Lib.hid (fun (i : Nat) (p : ByteArray × Int) (hp : L[i]? = some p) (c sp : Nat) (X : World) (hc : c ≤ X.heap.size) (hX : SK X c sp (dels (L.take i) F)) => Del_any c sp (dels (L.take i) F) p.1 p.2 (dels_at HFF.out.2.2 hnd hsub hp) X hc (Nat.le_trans (dels_len _ _) (by have := HFF.out.1; omega)) hX)
  have TA := List.take_of_length_le (Nat.le_refl L.length)
  obtain ⟨M, hM⟩ : ∃ M, L.length = M := ⟨_, rfl⟩
  obtain ⟨G, hG⟩ : ∃ G, dels L F = G := ⟨_, rfl⟩
  have HLG := Lib.hid (show G.length ≤ 1000 by rw [← hG]; exact Nat.le_trans (dels_len _ _) (by have := HFF.out.1; omega))
  have D0 := Lib.hid (show dels (L.take 0) F = F from rfl)
  have DM := Lib.hid (show dels (L.take M) F = G by rw [← hM, TA, hG])
  rw [hM, hG]
  rw [hG] at hok
  have HM := Lib.hid hM
  rw [hM] at hLN
  have OK := Lib.hid hok
  have HS := Lib.hid hS
  have IN := Lib.hid (fun X => Int75 (M : Nat) X)
  clear hS hj hA hAR hF hDB hW hM hG hok hsub hnd TA
  go_enter Tryz.func74, Tryz.ntmps74
  go_wp2_with (first | (go_at_call 67; (with_reducible refine (HO.out _ A1.out hz).mono ?_); rintro e w1 ⟨h, sp, e3, e4, e5, e6, rfl, hH1, h1⟩; have H1 := Lib.hid hH1; have B1 := Lib.hid (A1.out.trans (h1.mono (Below.size A1.out))); have r1 := Lib.hid (blk_below hr.out h1); clear h1 hH1; refine Hid.out ?_))
  refine Lib.hid ?_
  have W1 := Lib.hid (WH.out (w.heap.size + 1) h sp e3 e4 e5 e6 w1 B1.out (lt_blk r1.out) H1.out)
  go_wp2_with (first | (go_at_call 75; (with_reducible refine (W1.out).mono ?_); rintro e w2 ⟨A, m, C, rfl, hm2, hR2, h1⟩; have B2 := Lib.hid (B1.out.trans (h1.mono (Below.size B1.out))); have r2 := Lib.hid (blk_below r1.out h1); have H2 := Lib.hid (H1.out.below h1); have R2 := Lib.hid (show RS w2 (w.heap.size + 1) (.slice A m C) L from row_mono hR2 (lt_blk r1.out)); have M2 := Lib.hid hm2; clear h1 hR2 hm2; refine Hid.out ?_))
  refine Lib.hid ?_
  obtain rfl : m = M := M2.out.symm.trans HM.out
  have i9 : (m : Int) ≤ 1000 := by omega
  have hc2 := lt_blk r2.out
  go_wp2
  go_loopw [17] (fun iv wr => ∃ i : Nat, i ≤ m ∧ iv = .int .i64 i ∧ Hid (ZH (w.heap.size + 1) wr h sp k e3 e4 e5 e6 (dels (L.take i) F) ∧ RS wr (w.heap.size + 1) (.slice A m C) L ∧ Below (w.heap.size + 1) w2 wr)) (fun iv _ => m - (intOf iv).toNat)
  case atStart => exact ⟨0, Nat.zero_le _, rfl, Lib.hid ⟨by rw [D0.out]; exact H2.out, R2.out, Below.refl _ _⟩⟩
  case round =>
    obtain ⟨i, hi, rfl, HQ⟩ := hrel
    have hcw := Nat.le_trans hc2 (Below.size HQ.out.2.2)
    by_cases hlt : i < m
    · have i0 : (i : Int) < (m : Int) := by omega
      obtain ⟨p, hp⟩ : ∃ p, L[i]? = some p := ⟨_, List.getElem?_eq_getElem (by rw [M2.out]; exact hlt)⟩
      obtain ⟨g, C9, hA9, _⟩ := R2.out.form (by intro e; have := M2.out; rw [e] at this; simp at this; omega)
      have hA' : A = some ⟨g, 0, none⟩ := by injection hA9
      subst hA'
      obtain ⟨d0, d1⟩ := HQ.out.2.1.at M2.out i p hp
      have DS := Lib.hid (dels_s (F := F) hp)
      go_wp2_with fail
      generalize hW3 : wr.alloc (.cells #[.string p.1, .int .i64 p.2] 52) = W3
      have b3 : Below wr.heap.size wr W3 := by rw [← hW3]; exact alloc_old
      have q3 : W3.heap[wr.heap.size]? = some (.cells #[.string p.1, .int .i64 p.2] 52) := by rw [← hW3]; exact heap_alloc_new wr _
      have H3 := Lib.hid (HQ.out.1.below b3)
      have R3 := Lib.hid (HQ.out.2.1.below b3)
      have B3 := Lib.hid (HQ.out.2.2.trans (b3.mono hcw))
      have Q3 := Lib.hid q3
      have hc3 := Lib.hid (show w.heap.size + 1 ≤ W3.heap.size from Nat.le_trans hcw (Below.size b3))
      have D3 := Lib.hid (DL.out i p hp (w.heap.size + 1) sp W3.drew hc3.out (H3.out.below (Below.refl _ _).drew).sk)
      have SY := Lib.hid (show ∀ X : World, X.heap[h]? = W3.heap[h]? → X.heap[wr.heap.size]? = W3.heap[wr.heap.size]? → (X.cell? ⟨h, 8, none⟩ = some (.pointer (some ⟨sp, 0, none⟩)) ∧ X.cell? ⟨wr.heap.size, 0, none⟩ = some (.string p.1)) from fun Y hh hq => ⟨(cells9 (hh.trans H3.out.blk)).1.2.2.2.2.2.2.2.2, (cells2 (hq.trans Q3.out)).1⟩)
      have S0 := SY.out W3.drew rfl rfl
      clear b3 q3 hW3 d0 d1 hp
      go_region_held3 (fun X => X.cell? ⟨h, 8, none⟩ = some (.pointer (some ⟨sp, 0, none⟩)) ∧ X.cell? ⟨wr.heap.size, 0, none⟩ = some (.string p.1)) (first | (with_reducible exact S0) | (with_reducible exact S1.out))
        (first | (go_at_call 121; (with_reducible refine (D3.out).mono ?_); rintro e w5 ⟨rfl, h5, h6, h7⟩; have F5 := (H3.out.below (Below.refl _ _).drew).set h6 h5; have E5 := h6 wr.heap.size _ _ (show W3.drew.heap[wr.heap.size]? = _ from Q3.out) (by decide) (by decide) (by decide); have S1 := Lib.hid (SY.out w5 (F5.blk.trans H3.out.blk.symm) (E5.trans Q3.out.symm)); have H5 := Lib.hid F5; have R5 := Lib.hid ((R3.out.below (Below.refl _ _).drew).far h6); have B5 := Lib.hid (B3.out.drew.trans h7); clear h5 h6 h7 F5 E5))
      go_wp2
      exact ⟨⟨i + 1, hlt, by go_num, Lib.hid ⟨by rw [DS.out]; exact H5.out, R5.out, B5.out⟩⟩, by simp [intOf]; omega⟩
    · obtain rfl : i = m := by omega
      have i0 : ¬ (i : Int) < (i : Int) := by omega
      have h5 := HQ.out.1
      rw [DM.out] at h5
      have BW := Lib.hid (B2.out.trans (HQ.out.2.2.mono (Nat.le_succ _)))
      have r5 := Lib.hid ((HQ.out.2.2.block w.heap.size (Nat.lt_succ_self _)).trans r2.out)
      have TU := Lib.hid (zturn_any bS bM j D k now (.slice (some ⟨blk, off, none⟩) n cap) w.heap.size (w.heap.size + 1) h sp e3 e4 e5 e6 G HLG.out OK.out (Nat.le_succ _) wr hcw (fun X hX => SPG.below KS okS HS.out (BW.out.trans (hX.mono (Nat.le_succ _)))) (fun X hX => HJ.out.below (BW.out.trans (hX.mono (Nat.le_succ _)))) h5)
      clear h5 HQ
      go_wp2_with (first | (go_at_call 116; (with_reducible refine (TU.out).mono ?_); rintro e w6 ⟨rfl, ⟨vl5, hJ5⟩, hK5, _⟩; have J5 := Lib.hid hJ5; have K5 := Lib.hid ((Kp.of BW.out).trans (hK5.mono (Nat.le_succ _) (fun _ h => h))); have r6 := Lib.hid ((hK5.block w.heap.size (Nat.lt_succ_self _) (by omega)).trans r5.out); clear hJ5 hK5) | (go_at_call 69; (with_reducible refine (IN.out _).mono ?_); rintro e w7 ⟨rfl, h1⟩; have B7 := Lib.hid h1; have r7 := Lib.hid (blk_below r6.out h1); clear h1; obtain ⟨⟨c0, c1, c2, c3⟩, ⟨f0, f1, f2, f3⟩⟩ := cells4 r7.out))
      obtain ⟨_, _, _, _, _, g1, g2⟩ := endT KS (k := 0) (n := 0) (s := ⟨#[]⟩) hjw (JD.below KS J5.out B7.out) r7.out (K5.out.below_after B7.out K5.out.size) (.int .i64 3) (.int .i64 (i : Nat)) (.string ⟨#[]⟩) (.slice none 0 0)
      exact bodyPost_ret (v := .agg #[.int .i64 3, .int .i64 (i : Nat), .string ⟨#[]⟩, .slice none 0 0]) (by simp [results, Tryz.results74, go_sem, c0, c1, c2, c3]) rfl ⟨rfl, g1, g2⟩
set_option maxRecDepth 100000 in
set_option maxHeartbeats 8000000 in
theorem zout_betw (bS bM j : Nat) (D : List (ByteArray × List (ByteArray × Int))) (now : Int) (vA : Value) (xs : List ByteArray) (n : Nat) (hl2 : xs.length = n) (h2n : 2 ≤ n) (k : ByteArray) (hk : xs[1]? = some k) (L F : List (ByteArray × Int)) (hF : (findD k D).getD [] = F) (hsub : ∀ q ∈ L, q ∈ F) (hnd : (L.map Prod.fst).Nodup) (hLN : L.length ≤ 1000) (hok : dels L F ≠ [] → okS k (dels L F)) (w : World) (hDB : DB w) (h3w : 3 < w.heap.size) (hS : SPG KS okS w bS bM D) (hj : JB w j bS now vA (.slice none 0 0)) (hA : SSl w vA xs) (hW : ∀ (c h sp : Nat) (e3 e4 e5 e6 : Value) (X : World), Below w.heap.size w X → c ≤ X.heap.size → ZH c X h sp k e3 e4 e5 e6 F → Calls Tryz.prog 66 #[.pointer (some ⟨j, 0, none⟩), .pointer (some ⟨h, 0, none⟩)] X fun e w' => ∃ A m C, e = .returned (.slice A m C) ∧ L.length = m ∧ RS w' X.heap.size (.slice A m C) L ∧ Below X.heap.size X w') : Calls Tryz.prog 74 #[.pointer (some ⟨j, 0, none⟩), .func (.func 66) #[] #[]] w fun e w' => e = .returned (.agg #[.int .i64 3, .int .i64 (L.length : Nat), .string ⟨#[]⟩, .slice none 0 0]) ∧ (∃ vl', JD KS w' j bS now vA w.heap.size vl' (dEff k (xoS (dels L F)) D)) ∧ Kp w.heap.size (fun i => i ≠ j) w w' := by
  have hjw := lt_blk hj
  obtain ⟨blk, off, cap, rfl, hAR⟩ := AR.of hj hA (by intro e; subst e; simp at hl2; omega)
  have HJ := Lib.hid hj
  have A1 := Lib.hid (alloc_old (w := w) (o := .cells #[.int .i64 0, .int .i64 0, .string ⟨#[]⟩, .slice none 0 0] 29))
  have hr := Lib.hid (heap_alloc_new w (.cells #[.int .i64 0, .int .i64 0, .string ⟨#[]⟩, .slice none 0 0] 29))
  rw [hl2] at HJ ⊢
  have hz : w.heap.size + 1 ≤ (w.alloc (.cells #[.int .i64 0, .int .i64 0, .string ⟨#[]⟩, .slice none 0 0] 29)).heap.size := by simp
  have HO := Lib.hid (fun X hX hc => zof_at bS bM j D now blk off cap xs n hl2 h2n k hk (.slice none 0 0) F hF w hDB h3w hS HJ.out hAR X hX (w.heap.size + 1) hc)
  have HFF := Lib.hid (okF_of hS hF)
  have HJA := Lib.hid (fun X (hX : Below w.heap.size w X) => And.intro (HJ.out.below hX) (hA.below hX))
  have HSX := Lib.hid hS
  have HDX := Lib.hid hDB
  have CJ := Lib.hid (fun Y hY => (hAR.job Y hY).1)
  rw [hl2] at CJ
  have CA := Lib.hid (fun Y hY i s hs => hAR.arg Y hY i s hs)
  have hcap := hAR.len
  rw [hl2] at hcap
  have hcap2 := hAR.cap
  have hmc : ∀ (args : Array Value) (w : World), (callFunc 66 args).run Tryz.prog w = .ok (.enter 66 args) w := fun _ _ => by kernel_rfl
  have WH := Lib.hid (fun c h sp e3 e4 e5 e6 X (h1 : Below w.heap.size w X) (h2 : c ≤ X.heap.size) (h3 : ZH c X h sp k e3 e4 e5 e6 F) => hW c h sp e3 e4 e5 e6 X h1 h2 h3)
  have DL := Lib.hid (fun (i : Nat) (p : ByteArray × Int) (hp : L[i]? = some p) (c sp : Nat) (X : World) (hc : c ≤ X.heap.size) (hX : SK X c sp (dels (L.take i) F)) => Del_any c sp (dels (L.take i) F) p.1 p.2 (dels_at HFF.out.2.2 hnd hsub hp) X hc (Nat.le_trans (dels_len _ _) (by have := HFF.out.1; omega)) hX)
  have TA := List.take_of_length_le (Nat.le_refl L.length)
  obtain ⟨M, hM⟩ : ∃ M, L.length = M := ⟨_, rfl⟩
  obtain ⟨G, hG⟩ : ∃ G, dels L F = G := ⟨_, rfl⟩
  have HLG := Lib.hid (show G.length ≤ 1000 by rw [← hG]; exact Nat.le_trans (dels_len _ _) (by have := HFF.out.1; omega))
  have D0 := Lib.hid (show dels (L.take 0) F = F from rfl)
  have DM := Lib.hid (show dels (L.take M) F = G by rw [← hM, TA, hG])
  rw [hM, hG]
  rw [hG] at hok
  have HM := Lib.hid hM
  rw [hM] at hLN
  have OK := Lib.hid hok
  have HS := Lib.hid hS
  have IN := Lib.hid (fun X => Int75 (M : Nat) X)
  clear hS hj hA hAR hF hDB hW hM hG hok hsub hnd TA
  go_enter Tryz.func74, Tryz.ntmps74
  go_wp2_with (first | (go_at_call 67; (with_reducible refine (HO.out _ A1.out hz).mono ?_); rintro e w1 ⟨h, sp, e3, e4, e5, e6, rfl, hH1, h1⟩; have H1 := Lib.hid hH1; have B1 := Lib.hid (A1.out.trans (h1.mono (Below.size A1.out))); have r1 := Lib.hid (blk_below hr.out h1); clear h1 hH1; refine Hid.out ?_))
  refine Lib.hid ?_
  have W1 := Lib.hid (WH.out (w.heap.size + 1) h sp e3 e4 e5 e6 w1 B1.out (lt_blk r1.out) H1.out)
  go_wp2_with (first | (go_at_call 66; (with_reducible refine (W1.out).mono ?_); rintro e w2 ⟨A, m, C, rfl, hm2, hR2, h1⟩; have B2 := Lib.hid (B1.out.trans (h1.mono (Below.size B1.out))); have r2 := Lib.hid (blk_below r1.out h1); have H2 := Lib.hid (H1.out.below h1); have R2 := Lib.hid (show RS w2 (w.heap.size + 1) (.slice A m C) L from row_mono hR2 (lt_blk r1.out)); have M2 := Lib.hid hm2; clear h1 hR2 hm2; refine Hid.out ?_))
  refine Lib.hid ?_
  obtain rfl : m = M := M2.out.symm.trans HM.out
  have i9 : (m : Int) ≤ 1000 := by omega
  have hc2 := lt_blk r2.out
  go_wp2
  go_loopw [17] (fun iv wr => ∃ i : Nat, i ≤ m ∧ iv = .int .i64 i ∧ Hid (ZH (w.heap.size + 1) wr h sp k e3 e4 e5 e6 (dels (L.take i) F) ∧ RS wr (w.heap.size + 1) (.slice A m C) L ∧ Below (w.heap.size + 1) w2 wr)) (fun iv _ => m - (intOf iv).toNat)
  case atStart => exact ⟨0, Nat.zero_le _, rfl, Lib.hid ⟨by rw [D0.out]; exact H2.out, R2.out, Below.refl _ _⟩⟩
  case round =>
    obtain ⟨i, hi, rfl, HQ⟩ := hrel
    have hcw := Nat.le_trans hc2 (Below.size HQ.out.2.2)
    by_cases hlt : i < m
    · have i0 : (i : Int) < (m : Int) := by omega
      obtain ⟨p, hp⟩ : ∃ p, L[i]? = some p := ⟨_, List.getElem?_eq_getElem (by rw [M2.out]; exact hlt)⟩
      obtain ⟨g, C9, hA9, _⟩ := R2.out.form (by intro e; have := M2.out; rw [e] at this; simp at this; omega)
      have hA' : A = some ⟨g, 0, none⟩ := by injection hA9
      subst hA'
      obtain ⟨d0, d1⟩ := HQ.out.2.1.at M2.out i p hp
      have DS := Lib.hid (dels_s (F := F) hp)
      go_wp2_with fail
      generalize hW3 : wr.alloc (.cells #[.string p.1, .int .i64 p.2] 52) = W3
      have b3 : Below wr.heap.size wr W3 := by rw [← hW3]; exact alloc_old
      have q3 : W3.heap[wr.heap.size]? = some (.cells #[.string p.1, .int .i64 p.2] 52) := by rw [← hW3]; exact heap_alloc_new wr _
      have H3 := Lib.hid (HQ.out.1.below b3)
      have R3 := Lib.hid (HQ.out.2.1.below b3)
      have B3 := Lib.hid (HQ.out.2.2.trans (b3.mono hcw))
      have Q3 := Lib.hid q3
      have hc3 := Lib.hid (show w.heap.size + 1 ≤ W3.heap.size from Nat.le_trans hcw (Below.size b3))
      have D3 := Lib.hid (DL.out i p hp (w.heap.size + 1) sp W3.drew hc3.out (H3.out.below (Below.refl _ _).drew).sk)
      have SY := Lib.hid (show ∀ X : World, X.heap[h]? = W3.heap[h]? → X.heap[wr.heap.size]? = W3.heap[wr.heap.size]? → (X.cell? ⟨h, 8, none⟩ = some (.pointer (some ⟨sp, 0, none⟩)) ∧ X.cell? ⟨wr.heap.size, 0, none⟩ = some (.string p.1)) from fun Y hh hq => ⟨(cells9 (hh.trans H3.out.blk)).1.2.2.2.2.2.2.2.2, (cells2 (hq.trans Q3.out)).1⟩)
      have S0 := SY.out W3.drew rfl rfl
      clear b3 q3 hW3 d0 d1 hp
      go_region_held3 (fun X => X.cell? ⟨h, 8, none⟩ = some (.pointer (some ⟨sp, 0, none⟩)) ∧ X.cell? ⟨wr.heap.size, 0, none⟩ = some (.string p.1)) (first | (with_reducible exact S0) | (with_reducible exact S1.out))
        (first | (go_at_call 121; (with_reducible refine (D3.out).mono ?_); rintro e w5 ⟨rfl, h5, h6, h7⟩; have F5 := (H3.out.below (Below.refl _ _).drew).set h6 h5; have E5 := h6 wr.heap.size _ _ (show W3.drew.heap[wr.heap.size]? = _ from Q3.out) (by decide) (by decide) (by decide); have S1 := Lib.hid (SY.out w5 (F5.blk.trans H3.out.blk.symm) (E5.trans Q3.out.symm)); have H5 := Lib.hid F5; have R5 := Lib.hid ((R3.out.below (Below.refl _ _).drew).far h6); have B5 := Lib.hid (B3.out.drew.trans h7); clear h5 h6 h7 F5 E5))
      go_wp2
      exact ⟨⟨i + 1, hlt, by go_num, Lib.hid ⟨by rw [DS.out]; exact H5.out, R5.out, B5.out⟩⟩, by simp [intOf]; omega⟩
    · obtain rfl : i = m := by omega
      have i0 : ¬ (i : Int) < (i : Int) := by omega
      have h5 := HQ.out.1
      rw [DM.out] at h5
      have BW := Lib.hid (B2.out.trans (HQ.out.2.2.mono (Nat.le_succ _)))
      have r5 := Lib.hid ((HQ.out.2.2.block w.heap.size (Nat.lt_succ_self _)).trans r2.out)
      have TU := Lib.hid (zturn_any bS bM j D k now (.slice (some ⟨blk, off, none⟩) n cap) w.heap.size (w.heap.size + 1) h sp e3 e4 e5 e6 G HLG.out OK.out (Nat.le_succ _) wr hcw (fun X hX => SPG.below KS okS HS.out (BW.out.trans (hX.mono (Nat.le_succ _)))) (fun X hX => HJ.out.below (BW.out.trans (hX.mono (Nat.le_succ _)))) h5)
      clear h5 HQ
      go_wp2_with (first | (go_at_call 116; (with_reducible refine (TU.out).mono ?_); rintro e w6 ⟨rfl, ⟨vl5, hJ5⟩, hK5, _⟩; have J5 := Lib.hid hJ5; have K5 := Lib.hid ((Kp.of BW.out).trans (hK5.mono (Nat.le_succ _) (fun _ h => h))); have r6 := Lib.hid ((hK5.block w.heap.size (Nat.lt_succ_self _) (by omega)).trans r5.out); clear hJ5 hK5) | (go_at_call 69; (with_reducible refine (IN.out _).mono ?_); rintro e w7 ⟨rfl, h1⟩; have B7 := Lib.hid h1; have r7 := Lib.hid (blk_below r6.out h1); clear h1; obtain ⟨⟨c0, c1, c2, c3⟩, ⟨f0, f1, f2, f3⟩⟩ := cells4 r7.out))
      obtain ⟨_, _, _, _, _, g1, g2⟩ := endT KS (k := 0) (n := 0) (s := ⟨#[]⟩) hjw (JD.below KS J5.out B7.out) r7.out (K5.out.below_after B7.out K5.out.size) (.int .i64 3) (.int .i64 (i : Nat)) (.string ⟨#[]⟩) (.slice none 0 0)
      exact bodyPost_ret (v := .agg #[.int .i64 3, .int .i64 (i : Nat), .string ⟨#[]⟩, .slice none 0 0]) (by simp [results, Tryz.results74, go_sem, c0, c1, c2, c3]) rfl ⟨rfl, g1, g2⟩
end Go.Proofs.YticlacjpgjkhcaaGreatDoor

/- scores: ZREMRANGEBYRANK, ZREMRANGEBYSCORE. -/
namespace Go.Proofs.YticlacjpgjkhcaaGreatDoor
open Go.ChangeShapes Go.WideShapes Go.ChangeAt Go.RowKit

theorem spanZ_sub (x y : Int) (F : List (ByteArray × Int)) : (spanZ x y F).Sublist F := by
  unfold spanZ
  split
  · exact (List.take_sublist _ _).trans (List.drop_sublist _ _)
  · exact List.nil_sublist _
theorem btZ_sub (lo hi : Int) (F : List (ByteArray × Int)) : (btZ lo hi F).Sublist F := List.filter_sublist.trans (List.drop_sublist _ _)
set_option maxRecDepth 100000 in
set_option maxHeartbeats 8000000 in
theorem cZREMRANGEBYRANK (bS bM : Nat) (D : List (ByteArray × List (ByteArray × Int))) (now : Int) (NM k : ByteArray) (b1 b2 : ByteArray) (lo hi : Int) (hb1 : b1.size ≤ 100000) (hp1 : parseI b1.data.toList = some lo) (hb2 : b2.size ≤ 100000) (hp2 : parseI b2.data.toList = some hi) (hx : -1000000000 ≤ lo ∧ lo ≤ 1000000000) (hy : -1000000000 ≤ hi ∧ hi ≤ 1000000000) (F : List (ByteArray × Int)) (hF : (findD k D).getD [] = F) (hok : dels (spanZ lo hi F) F ≠ [] → okS k (dels (spanZ lo hi F) F)) (w : World) (hDB : DB w) (h3w : 3 < w.heap.size) : CmdD KS okS 73 bS bM D now [NM, k, b1, b2] 3 ((spanZ lo hi F).length : Nat) ⟨#[]⟩ R0 (dEff k (xoS (dels (spanZ lo hi F) F)) D) w := by
  intro j vA hS hj hA
  show Calls Tryz.prog 73 #[.pointer (some ⟨j, 0, none⟩)] w _
  have hjw := lt_blk hj
  have A1 := Lib.hid (alloc_old (w := w) (o := .cells #[.int .i64 0, .int .i64 0, .string ⟨#[]⟩, .slice none 0 0] 29))
  have hr := Lib.hid (heap_alloc_new w (.cells #[.int .i64 0, .int .i64 0, .string ⟨#[]⟩, .slice none 0 0] 29))
  obtain ⟨h31, hOrd, hNd⟩ := okF_of hS hF
  have ZO := Lib.hid (fun X (hX : Below w.heap.size w X) => zout_span bS bM j D now vA [NM, k, b1, b2] 4 rfl (by omega) k rfl (spanZ lo hi F) F hF (fun q hq => (spanZ_sub lo hi F).subset hq) (((spanZ_sub lo hi F).map Prod.fst).nodup hNd) (Nat.le_trans (spanZ_sub lo hi F).length_le (by omega)) hok X (hDB.at_ hX) (Nat.lt_of_lt_of_le h3w (Below.size hX)) (SPG.below KS okS hS hX) (hj.below hX) (hA.below hX) (fun c h sp e3 e4 e5 e6 X hX2 hc hz => by
    have hX3 := hX.trans (hX2.mono (Below.size hX))
    refine (zspan_any c j h sp k e3 e4 e5 e6 F lo hi hx hy X h31 hc hz (fun Y hY => JIn 2 j bS now vA (.slice none 0 0) [NM, k, b1, b2] 2 rfl b1 lo hb1 hp1 rfl Y (hj.below (hX3.trans (hY.mono (Below.size hX3)))) (hA.below (hX3.trans (hY.mono (Below.size hX3))))) (fun Y hY => JIn 3 j bS now vA (.slice none 0 0) [NM, k, b1, b2] 3 rfl b2 hi hb2 hp2 rfl Y (hj.below (hX3.trans (hY.mono (Below.size hX3)))) (hA.below (hX3.trans (hY.mono (Below.size hX3)))))).mono ?_
    rintro e w' ⟨A, m, C, h1, h2, h3, h4⟩
    exact ⟨A, m, C, h1, h2, h3, h4⟩))
  have hz : (w.alloc (.cells #[.int .i64 0, .int .i64 0, .string ⟨#[]⟩, .slice none 0 0] 29)).heap.size = w.heap.size + 1 := by simp
  have HZ := Lib.hid hz
  clear hS hj hA hF hDB hok hz hOrd hNd h31
  go_enter Tryz.func73, Tryz.ntmps73
  go_wp2_with (first | (go_at_call 74; (with_reducible refine (ZO.out _ A1.out).mono ?_); rintro e w1 ⟨rfl, ⟨vl, hJ⟩, hK⟩; have J1 := Lib.hid hJ; have K1 := Lib.hid hK; have r1 := Lib.hid ((hK.block w.heap.size (lt_blk hr.out) (by omega)).trans hr.out); clear hJ hK; obtain ⟨⟨c0, c1, c2, c3⟩, ⟨f0, f1, f2, f3⟩⟩ := cells4 r1.out))
  have hzz := HZ.out
  exact bodyPost_ret (v := .agg #[.int .i64 3, .int .i64 ((spanZ lo hi F).length : Nat), .string ⟨#[]⟩, .slice none 0 0]) (by simp [results, Tryz.results73, go_sem, c0, c1, c2, c3]) rfl (endT KS hjw (JD.mono KS J1.out (by omega)) r1.out ((Kp.of A1.out).trans (K1.out.mono (by omega) (fun _ h => h))) _ _ _ _)
set_option maxRecDepth 100000 in
set_option maxHeartbeats 8000000 in
theorem cZREMRANGEBYSCORE (bS bM : Nat) (D : List (ByteArray × List (ByteArray × Int))) (now : Int) (NM k : ByteArray) (b1 b2 : ByteArray) (lo hi : Int) (hb1 : b1.size ≤ 100000) (hp1 : parseI b1.data.toList = some lo) (hb2 : b2.size ≤ 100000) (hp2 : parseI b2.data.toList = some hi) (F : List (ByteArray × Int)) (hF : (findD k D).getD [] = F) (hok : dels (btZ lo hi F) F ≠ [] → okS k (dels (btZ lo hi F) F)) (w : World) (hDB : DB w) (h3w : 3 < w.heap.size) : CmdD KS okS 76 bS bM D now [NM, k, b1, b2] 3 ((btZ lo hi F).length : Nat) ⟨#[]⟩ R0 (dEff k (xoS (dels (btZ lo hi F) F)) D) w := by
  intro j vA hS hj hA
  show Calls Tryz.prog 76 #[.pointer (some ⟨j, 0, none⟩)] w _
  have hjw := lt_blk hj
  have A1 := Lib.hid (alloc_old (w := w) (o := .cells #[.int .i64 0, .int .i64 0, .string ⟨#[]⟩, .slice none 0 0] 29))
  have hr := Lib.hid (heap_alloc_new w (.cells #[.int .i64 0, .int .i64 0, .string ⟨#[]⟩, .slice none 0 0] 29))
  obtain ⟨h31, hOrd, hNd⟩ := okF_of hS hF
  have ZO := Lib.hid (fun X (hX : Below w.heap.size w X) => zout_betw bS bM j D now vA [NM, k, b1, b2] 4 rfl (by omega) k rfl (btZ lo hi F) F hF (fun q hq => (btZ_sub lo hi F).subset hq) (((btZ_sub lo hi F).map Prod.fst).nodup hNd) (Nat.le_trans (btZ_sub lo hi F).length_le (by omega)) hok X (hDB.at_ hX) (Nat.lt_of_lt_of_le h3w (Below.size hX)) (SPG.below KS okS hS hX) (hj.below hX) (hA.below hX) (fun c h sp e3 e4 e5 e6 X hX2 hc hz => by
    have hX3 := hX.trans (hX2.mono (Below.size hX))
    refine (zbetween_any c j h sp k e3 e4 e5 e6 F lo hi X h31 hc hz (fun Y hY => JIn 2 j bS now vA (.slice none 0 0) [NM, k, b1, b2] 2 rfl b1 lo hb1 hp1 rfl Y (hj.below (hX3.trans (hY.mono (Below.size hX3)))) (hA.below (hX3.trans (hY.mono (Below.size hX3))))) (fun Y hY => JIn 3 j bS now vA (.slice none 0 0) [NM, k, b1, b2] 3 rfl b2 hi hb2 hp2 rfl Y (hj.below (hX3.trans (hY.mono (Below.size hX3)))) (hA.below (hX3.trans (hY.mono (Below.size hX3)))))).mono ?_
    rintro e w' ⟨A, m, C, h1, h2, h3, h4⟩
    exact ⟨A, m, C, h1, h2, h3, h4⟩))
  have hz : (w.alloc (.cells #[.int .i64 0, .int .i64 0, .string ⟨#[]⟩, .slice none 0 0] 29)).heap.size = w.heap.size + 1 := by simp
  have HZ := Lib.hid hz
  clear hS hj hA hF hDB hok hz hOrd hNd h31
  go_enter Tryz.func76, Tryz.ntmps76
  go_wp2_with (first | (go_at_call 74; (with_reducible refine (ZO.out _ A1.out).mono ?_); rintro e w1 ⟨rfl, ⟨vl, hJ⟩, hK⟩; have J1 := Lib.hid hJ; have K1 := Lib.hid hK; have r1 := Lib.hid ((hK.block w.heap.size (lt_blk hr.out) (by omega)).trans hr.out); clear hJ hK; obtain ⟨⟨c0, c1, c2, c3⟩, ⟨f0, f1, f2, f3⟩⟩ := cells4 r1.out))
  have hzz := HZ.out
  exact bodyPost_ret (v := .agg #[.int .i64 3, .int .i64 ((btZ lo hi F).length : Nat), .string ⟨#[]⟩, .slice none 0 0]) (by simp [results, Tryz.results76, go_sem, c0, c1, c2, c3]) rfl (endT KS hjw (JD.mono KS J1.out (by omega)) r1.out ((Kp.of A1.out).trans (K1.out.mono (by omega) (fun _ h => h))) _ _ _ _)
end Go.Proofs.YticlacjpgjkhcaaGreatDoor

/- scores: pairs that are put, plain. -/
namespace Go.Proofs.YticlacjpgjkhcaaGreatDoor
open Go.ChangeShapes Go.WideShapes Go.ChangeAt Go.RowKit

/-- Pairs are put, one after another. -/
def addZ (nm : Nat → ByteArray) (v : Nat → Int) (F : List (ByteArray × Int)) : Nat → List (ByteArray × Int)
  | 0 => F
  | i + 1 => putZ (nm i) (v i) (addZ nm v F i)
def addN (nm : Nat → ByteArray) (v : Nat → Int) (F : List (ByteArray × Int)) : Nat → Nat
  | 0 => 0
  | i + 1 => addN nm v F i + (if (findD (nm i) (addZ nm v F i)).isNone then 1 else 0)
theorem part_len (f : ByteArray × Int → Bool) : ∀ Z : List (ByteArray × Int), (Z.filter f).length + (Z.filter fun q => !f q).length = Z.length
  | [] => rfl
  | q :: Z => by
    have ih := part_len f Z
    cases h : f q <;> simp [h] <;> omega
theorem putZ_len (k : ByteArray) (s : Int) (Z : List (ByteArray × Int)) : (putZ k s Z).length ≤ Z.length + 1 := by
  have h := part_len (fun q => ltZ q (k, s)) (delD k Z)
  have h2 := delD_le k Z
  unfold putZ insZ loZ hiZ
  rw [List.length_append, List.length_cons]
  omega
theorem addZ_len (nm : Nat → ByteArray) (v : Nat → Int) (F : List (ByteArray × Int)) : ∀ i, (addZ nm v F i).length ≤ F.length + i
  | 0 => Nat.le_refl _
  | i + 1 => by
    have h := addZ_len nm v F i
    have h2 := putZ_len (nm i) (v i) (addZ nm v F i)
    show (putZ (nm i) (v i) (addZ nm v F i)).length ≤ _
    omega
theorem addN_le (nm : Nat → ByteArray) (v : Nat → Int) (F : List (ByteArray × Int)) : ∀ i, addN nm v F i ≤ i
  | 0 => Nat.le_refl _
  | i + 1 => by
    have h := addN_le nm v F i
    unfold addN
    split <;> omega
theorem wzp (d : Nat) (h : d ≤ 1000) : wrap64 ((d : Int) + 1) = (d : Int) + 1 ∧ IntKind.i64.wrap ((d : Int) + 1) = (d : Int) + 1 ∧ 0 ≤ (d : Int) + 1 ∧ ((d : Int) + 1).toNat = d + 1 := ⟨by unfold wrap64; omega, by rw [IntKind.wrap_i64]; omega, by omega, by omega⟩
theorem addZ_xo (nm : Nat → ByteArray) (v : Nat → Int) (F : List (ByteArray × Int)) (i : Nat) (h : 0 < i) : xoS (addZ nm v F i) = some (addZ nm v F i) := by
  cases i with
  | zero => omega
  | succ i => exact xoS_put _ _ _
end Go.Proofs.YticlacjpgjkhcaaGreatDoor

/- A space of one key of scores, plain; scores that may be. -/
namespace Go.Proofs.YticlacjpgjkhcaaGreatDoor
open Go.ChangeShapes Go.WideShapes Go.ChangeAt Go.RowKit

/-- The space with one set of scores. -/
def dZ (F : List (ByteArray × Int)) : List (ByteArray × List (ByteArray × Int)) := if F = [] then [] else [(⟨#[107]⟩, F)]
theorem dZ_find (F : List (ByteArray × Int)) : (findD ⟨#[107]⟩ (dZ F)).getD [] = F := by
  unfold dZ
  by_cases h : F = []
  · subst h
    rw [if_pos rfl]
    rfl
  · rw [if_neg h]
    simp [findD]
theorem dZ_set (F G : List (ByteArray × Int)) (g : G ≠ []) : setX ⟨#[107]⟩ (some G) (dZ F) = dZ G := by
  unfold dZ
  by_cases h : F = []
  · simp [h, g, setX, putD]
  · simp [h, g, setX, putD]
theorem dZ_xo (F G : List (ByteArray × Int)) : setX ⟨#[107]⟩ (xoS G) (dZ F) = dZ G := by
  unfold xoS
  by_cases g : G = []
  · subst g
    rw [if_pos rfl]
    unfold dZ
    by_cases h : F = []
    · simp [h, setX, delD]
    · simp [h, setX, delD]
  · rw [if_neg g]
    exact dZ_set F G g
theorem dZ_len (F : List (ByteArray × Int)) : (dZ F).length < 4096 := by unfold dZ; split <;> simp
theorem xoS_ok {G : List (ByteArray × Int)} {k : ByteArray} (h : G ≠ [] → okS k G) : ∀ x, xoS G = some x → okS k x := by
  intro x hx
  unfold xoS at hx
  by_cases g : G = []
  · rw [if_pos g] at hx
    cases hx
  · rw [if_neg g] at hx
    cases hx
    exact h g
/-- Scores of a law: few, in order, their names short. -/
structure ZBd (F : List (ByteArray × Int)) : Prop where
  few : F.length ≤ 12
  name : ∀ p ∈ F, p.1.size ≤ 100
  ord : Ord F
  nd : (namesD F).Nodup
  sc : ∀ p ∈ F, I64 p.2
theorem ZBd.nil : ZBd [] := ⟨by simp, fun p h => by simp at h, List.Pairwise.nil, List.nodup_nil, fun p h => by simp at h⟩
theorem ZBd.sub {F G : List (ByteArray × Int)} (h : ZBd F) (s : G.Sublist F) : ZBd G :=
  ⟨Nat.le_trans s.length_le h.few, fun p hp => h.name p (s.subset hp), h.ord.sub s, h.nd.sublist (s.map _), fun p hp => h.sc p (s.subset hp)⟩
theorem ZBd.put {F : List (ByteArray × Int)} (h : ZBd F) (k : ByteArray) (s : Int) (hk : k.size ≤ 100) (hs : I64 s) (hl : (putZ k s F).length ≤ 12) : ZBd (putZ k s F) := by
  have hp := Ord.put (k := k) (s := s) h.ord h.nd
  refine ⟨hl, fun p hp => ?_, hp.1, hp.2, fun p hp => ?_⟩
  · rcases mem_insZ.1 hp with rfl | hp
    · exact hk
    · exact h.name p ((del_subZ k F).subset hp)
  · rcases mem_insZ.1 hp with rfl | hp
    · exact hs
    · exact h.sc p ((del_subZ k F).subset hp)
theorem sumSz_mulZ (B : Nat) : ∀ l : List ByteArray, (∀ s ∈ l, s.size ≤ B) → sumSz l ≤ l.length * B
  | [], _ => by simp [sumSz]
  | s :: r, h => by
    have h1 := sumSz_mulZ B r fun t ht => h t (List.mem_cons_of_mem _ ht)
    have h2 := h s List.mem_cons_self
    have e : sumSz (s :: r) = s.size + sumSz r := by simp [sumSz]
    rw [e, List.length_cons, Nat.add_mul, Nat.one_mul]
    omega
theorem ZBd.ok {F : List (ByteArray × Int)} (h : ZBd F) (hne : F ≠ []) : okS ⟨#[107]⟩ F := by
  have hm : ∀ s ∈ tS F, s.size ≤ 100 := by
    intro s hs
    obtain ⟨p, hp, h2⟩ := List.mem_flatMap.1 hs
    simp at h2
    subst h2
    exact h.name p hp
  have h1 := sumSz_mulZ 100 (tS F) hm
  have h2 := h.few
  rw [tS_len] at h1
  refine ⟨by decide, by decide, hne, by omega, fun s hs => Nat.le_trans (hm s hs) (by decide), by omega, fun i p q hp hq => ?_, h.nd⟩
  obtain ⟨g1, rfl⟩ := List.getElem?_eq_some_iff.1 hp
  obtain ⟨g2, rfl⟩ := List.getElem?_eq_some_iff.1 hq
  exact List.pairwise_iff_getElem.1 h.ord i (i + 1) g1 g2 (by omega)
theorem dels_sub : ∀ (L F : List (ByteArray × Int)), (dels L F).Sublist F
  | [], F => List.Sublist.refl F
  | p :: L, F => (dels_sub L (delD p.1 F)).trans (del_subZ p.1 F)
theorem dels_cons (a : ByteArray × Int) : ∀ (L F : List (ByteArray × Int)), a.1 ∉ L.map Prod.fst → dels L (a :: F) = a :: dels L F
  | [], _, _ => rfl
  | p :: L, F, h => by
    simp only [List.map_cons, List.mem_cons, not_or] at h
    show dels L (delD p.1 (a :: F)) = a :: dels L (delD p.1 F)
    rw [show delD p.1 (a :: F) = a :: delD p.1 F from if_neg h.1]
    exact dels_cons a L _ h.2
/-- What is taken out of a row leaves the others. -/
theorem dels_filter (f : ByteArray × Int → Bool) : ∀ (F : List (ByteArray × Int)), (namesD F).Nodup → dels (F.filter f) F = F.filter fun p => !f p
  | [], _ => rfl
  | a :: F, h => by
    have h9 : a.1 ∉ namesD F ∧ (namesD F).Nodup := List.nodup_cons.1 h
    have ih := dels_filter f F h9.2
    cases hf : f a with
    | true =>
      rw [List.filter_cons_of_pos hf, List.filter_cons_of_neg (by simp [hf])]
      show dels (F.filter f) (delD a.1 (a :: F)) = _
      rw [show delD a.1 (a :: F) = F from if_pos rfl]
      exact ih
    | false =>
      rw [List.filter_cons_of_neg (by simp [hf]), List.filter_cons_of_pos (by simp [hf]), dels_cons a _ F fun hm => ?_, ih]
      obtain ⟨q, hq, e⟩ := List.mem_map.1 hm
      exact h9.1 (List.mem_map.2 ⟨q, (List.mem_filter.1 hq).1, e⟩)
/-- Those of some scores. -/
theorem btZ_filter (lo hi : Int) {F : List (ByteArray × Int)} (h : Ord F) : btZ lo hi F = F.filter fun p => decide (lo ≤ p.2) && decide (p.2 ≤ hi) := by
  have e := Ord.split (⟨#[]⟩, lo) h
  have e2 : F.drop (rankZ (⟨#[]⟩, lo) F) = hiZ (⟨#[]⟩, lo) F := by
    conv => lhs; rw [e]
    have e3 : rankZ (⟨#[]⟩, lo) (loZ (⟨#[]⟩, lo) F ++ hiZ (⟨#[]⟩, lo) F) = (loZ (⟨#[]⟩, lo) F).length := by rw [← e]; rfl
    rw [e3]
    simp
  unfold btZ
  rw [e2]
  unfold hiZ
  rw [List.filter_filter]
  refine List.filter_congr fun p _ => ?_
  have e4 : ltZ p (⟨#[]⟩, lo) = decide (p.2 < lo) := by
    have e5 : ¬ (bl p.1 < bl (⟨#[]⟩ : ByteArray)) := by
      show ¬ (bl p.1 < [])
      exact List.not_lt_nil _
    unfold ltZ
    simp [e5]
  rw [e4]
  unfold btF
  by_cases h1 : p.2 < lo
  · simp [h1]
    omega
  · have h2 : lo ≤ p.2 := by omega
    simp [h1, h2]
/-- What every law's world knows: the tables. -/
def TZ (W0 : World) : Prop := Tab W0 ∧ DB W0 ∧ 3 < W0.heap.size
theorem TZ.at_ {W0 w : World} (h : TZ W0) (hb : Below W0.heap.size W0 w) : TZ w := ⟨Tab.at_ h.1 hb, h.2.1.at_ hb, Nat.lt_of_lt_of_le h.2.2 (Below.size hb)⟩
theorem addZ_ne (nm : Nat → ByteArray) (v : Nat → Int) (F : List (ByteArray × Int)) {P : Nat} (h : 0 < P) : addZ nm v F P ≠ [] := by
  cases P with
  | zero => omega
  | succ i => exact putZ_ne _ _ _
/-- One space's commands leave another one as it was. -/
theorem LD.other {W0 w w' : World} {bS bM bT bN : Nat} {D D' : List (ByteArray × List (ByteArray × Int))} (h : LD KS okS W0 w bT bN D') (hs : LD KS okS W0 w bS bM D) (hK : Kp w.heap.size (fun i => i ≠ bS ∧ i ≠ bM) w w') (h1 : bT ≠ bS ∧ bT ≠ bM) (h2 : bN ≠ bS ∧ bN ≠ bM) (hb : Below W0.heap.size W0 w') : LD KS okS W0 w' bT bN D' := by
  have hl := SPG.lt KS okS h.sp
  obtain ⟨⟨⟨l, h3, h4⟩, h5⟩, _, h6, h7⟩ := h
  refine ⟨⟨⟨l, h3.kept (hK.block bT hl.1 h1) (hK.block bN hl.2.1 h2), AllE.kept2 KS (fun x a b d e hv g hg => ?_) h4⟩, h5⟩, hb, h6, h7⟩
  obtain ⟨k1, _, rfl, rfl, rfl⟩ := hv
  rcases hg with hg | hg | hg | hg
  · cases hg
  · cases hg
  · obtain ⟨cs, hc⟩ := row_typ k1 g hg
    exact hK.block g (lt_blk hc) (hs.ne hc (by decide))
  · cases hg
end Go.Proofs.YticlacjpgjkhcaaGreatDoor
