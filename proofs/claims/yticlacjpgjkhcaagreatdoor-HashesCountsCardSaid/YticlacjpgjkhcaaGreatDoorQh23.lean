/- Texts joined: C2, C3, G15, DoH -/
import Derived.Test.YticlacjpgjkhcaaGreatDoorQh22
import Derived.Test.YticlacjpgjkhcaaGreatDoorQh14
import Derived.Test.YticlacjpgjkhcaaGreatDoorQh12
import Derived.Test.YticlacjpgjkhcaaGreatDoorQh15

/- A hash that was turned is put. -/
namespace Go.Proofs.YticlacjpgjkhcaaGreatDoor
open Go.ChangeShapes Go.WideShapes Go.ChangeAt Go.RowKit

/-- A hash as a value: nothing, if it is empty. -/
def xoF (F : List (ByteArray × ByteArray)) : Option (List (ByteArray × ByteArray)) := if F = [] then none else some (srtF F)
/-- One field is appended to a row of fields. -/
theorem append_RF {ops : Array Oper} {rest : List Oper} {o : Oper} {a : Act} {Q : Exit → Act → World → Prop} (w : World) (hg : o.guard = none) (s x : Operand) (hop : o.op = Op.call { callee := Callee.builtin Builtin.append, args := #[s, x], argTypes := #[39, 39] })
    (c : Nat) (v : Value) (F : List (ByteArray × ByteArray)) (N : Nat) (hN : F.length = N) (hs : a.eval s = v) (h : RF w c v F) (p : ByteArray × ByteArray) (b : Nat) (hx : a.eval x = .slice (some ⟨b, 0, none⟩) 1 1) (hb : w.heap[b]? = some (.cells #[.string p.1, .string p.2] 41)) (hl : N ≤ 100000) (hc : c ≤ w.heap.size)
    (k : ∀ g cap w', RF w' c (.slice (some ⟨g, 0, none⟩) (N + 1) cap) (F ++ [p]) → Below c w w' → wpList Tryz.prog ops Q rest (a.put o.dst (.slice (some ⟨g, 0, none⟩) (N + 1) cap)) w') : wpList Tryz.prog ops Q (o :: rest) a w := by
  subst hN
  obtain ⟨i0, hi, hz0, hz1, hz2⟩ := info_parts iF
  refine wpList_append_lies w hg s x 39 hop c 41 i0 _ 2 32 Tryz.underlying39 hi hz0 hz1 hz2 rfl (by decide) v F.length _ hs h ⟨b, 0, none⟩ 1 1 (cF p) hx rfl (news_blk (show w.heap[b]? = some (.cells (cF p).toArray 41) from hb)) (fun u hu => by simp [cF] at hu; rcases hu with rfl | rfl <;> rfl) (by decide) (by unfold maxLen; omega) (by omega) hc _ rfl ?_
  intro g cap w' h1 h2 _ _
  refine k g cap w' ?_ ((Below.refl _ _).grown h2 hc (fun k hk => (row_own h k hk).1))
  unfold RF
  rw [List.length_append, List.flatMap_append, show [p].length = 1 from rfl, show [p].flatMap cF = cF p by simp]
  exact h1
theorem take_at' {α : Type} (rs : List α) (i : Nat) (r : α) (h : rs[i]? = some r) : rs.take (i + 1) = rs.take i ++ [r] := by
  rw [List.take_add_one, h]
  rfl
theorem srtF_at (F : List (ByteArray × ByteArray)) (i : Nat) (n : ByteArray) (h : (srtN (namesD F))[i]? = some n) : (srtF F)[i]? = some (n, (findD n F).getD ⟨#[]⟩) := by
  unfold srtF
  rw [List.getElem?_map, h]
  rfl
theorem set6 {w : World} {b : Nat} {a0 a1 a2 a3 a4 a5 a6 a7 a8 a9 a10 : Value} {t : TypeId} (h : w.heap[b]? = some (.cells #[a0, a1, a2, a3, a4, a5, a6, a7, a8, a9, a10] t)) (v1 v2 v3 v4 v5 v6 : Value) : ((((((w.setCell ⟨b, 1, none⟩ v1).setCell ⟨b, 2, none⟩ v2).setCell ⟨b, 3, none⟩ v3).setCell ⟨b, 4, none⟩ v4).setCell ⟨b, 5, none⟩ v5).setCell ⟨b, 6, none⟩ v6).heap[b]? = some (.cells #[a0, v1, v2, v3, v4, v5, v6, a7, a8, a9, a10] t) ∧ (∀ i, i ≠ b → ((((((w.setCell ⟨b, 1, none⟩ v1).setCell ⟨b, 2, none⟩ v2).setCell ⟨b, 3, none⟩ v3).setCell ⟨b, 4, none⟩ v4).setCell ⟨b, 5, none⟩ v5).setCell ⟨b, 6, none⟩ v6).heap[i]? = w.heap[i]?) ∧ ∀ c, c ≤ b → Below c w ((((((w.setCell ⟨b, 1, none⟩ v1).setCell ⟨b, 2, none⟩ v2).setCell ⟨b, 3, none⟩ v3).setCell ⟨b, 4, none⟩ v4).setCell ⟨b, 5, none⟩ v5).setCell ⟨b, 6, none⟩ v6) := by
  have h1 : (w.setCell ⟨b, 1, none⟩ v1).heap[b]? = some (.cells #[a0, v1, a2, a3, a4, a5, a6, a7, a8, a9, a10] t) := set_cells h
  have h2 : ((w.setCell ⟨b, 1, none⟩ v1).setCell ⟨b, 2, none⟩ v2).heap[b]? = some (.cells #[a0, v1, v2, a3, a4, a5, a6, a7, a8, a9, a10] t) := set_cells h1
  have h3 : (((w.setCell ⟨b, 1, none⟩ v1).setCell ⟨b, 2, none⟩ v2).setCell ⟨b, 3, none⟩ v3).heap[b]? = some (.cells #[a0, v1, v2, v3, a4, a5, a6, a7, a8, a9, a10] t) := set_cells h2
  have h4 : ((((w.setCell ⟨b, 1, none⟩ v1).setCell ⟨b, 2, none⟩ v2).setCell ⟨b, 3, none⟩ v3).setCell ⟨b, 4, none⟩ v4).heap[b]? = some (.cells #[a0, v1, v2, v3, v4, a5, a6, a7, a8, a9, a10] t) := set_cells h3
  have h5 : (((((w.setCell ⟨b, 1, none⟩ v1).setCell ⟨b, 2, none⟩ v2).setCell ⟨b, 3, none⟩ v3).setCell ⟨b, 4, none⟩ v4).setCell ⟨b, 5, none⟩ v5).heap[b]? = some (.cells #[a0, v1, v2, v3, v4, v5, a6, a7, a8, a9, a10] t) := set_cells h4
  have h6 : ((((((w.setCell ⟨b, 1, none⟩ v1).setCell ⟨b, 2, none⟩ v2).setCell ⟨b, 3, none⟩ v3).setCell ⟨b, 4, none⟩ v4).setCell ⟨b, 5, none⟩ v5).setCell ⟨b, 6, none⟩ v6).heap[b]? = some (.cells #[a0, v1, v2, v3, v4, v5, v6, a7, a8, a9, a10] t) := set_cells h5
  exact ⟨h6, fun i hi => (Below.heap_setCell _ ⟨b, 6, none⟩ _ _ hi).trans ((Below.heap_setCell _ ⟨b, 5, none⟩ _ _ hi).trans ((Below.heap_setCell _ ⟨b, 4, none⟩ _ _ hi).trans ((Below.heap_setCell _ ⟨b, 3, none⟩ _ _ hi).trans ((Below.heap_setCell _ ⟨b, 2, none⟩ _ _ hi).trans ((Below.heap_setCell _ ⟨b, 1, none⟩ _ _ hi)))))), fun c hc => (((((((Below.refl c w).setCell hc _).setCell hc _).setCell hc _).setCell hc _).setCell hc _).setCell hc _)⟩
set_option maxRecDepth 100000 in
set_option maxHeartbeats 8000000 in
theorem hturn_any (bS bM j : Nat) (D : List (ByteArray × List (ByteArray × ByteArray))) (k : ByteArray) (now : Int) (vA : Value) (c ch h : Nat) (e3 e4 e5 e6 : Value) (b : Bool) (F : List (ByteArray × ByteArray)) (N : Nat) (hN : N ≤ 1000) (hok : F ≠ [] → okF k (srtF F)) (hsz : ∀ n ∈ namesD F, n.size ≤ 1000000) (hc : c ≤ ch) (w : World) (hS : ∀ X, Below ch w X → SPG KF okF X bS bM D) (hj : ∀ X, Below ch w X → JB X j bS now vA (.slice none 0 0)) (s : HH ch w h (.string k) (.int .i64 3) (.string ⟨#[]⟩) e3 e4 e5 e6 (.int .i64 0) (.bool b) F N) : Calls Tryz.prog 134 #[.pointer (some ⟨h, 0, none⟩), .pointer (some ⟨j, 0, none⟩)] w fun e w' => e = .returned (.tuple #[]) ∧ (∃ vl', JD KF w' j bS now vA c vl' (dEff k (xoF F) D)) ∧ Kp ch (fun i => i ≠ j) w w' := by
  have HG := Lib.hid (fun X n (hn : n ∈ namesD F) (hX : Below w.heap.size w X) => hget_any ch h _ _ _ _ _ _ _ _ _ F N hN n (hsz n hn) X (s.below hX))
  have hfew := s.few
  obtain ⟨p, g, f, Dt, l, L, s, hL⟩ := s
  have NT := names_T ch p g f Dt w s.tab
  rw [← s.hf.names] at NT
  have NT := Lib.hid NT
  have hhb := s.blk
  have hhc := s.hc
  have hhl := lt_blk hhb
  obtain ⟨⟨c0, c1, c2, c3, c4, c5, c6, c7, c8, c9, c10⟩, _⟩ := cells11 s.blk
  have HB := Lib.hid hhb
  have HSC := Lib.hid s.tab.le
  have SS := Lib.hid hS
  have JJ := Lib.hid hj
  have OK := Lib.hid hok
  have hnl : (srtN (namesD F)).length = F.length := by rw [srtN_len, len_names]
  have HNL := Lib.hid hnl
  clear hS hj hok hsz s hhb hnl c0 c1 c2 c3 c4 c5 c6 c7 c8 c10
  go_enter Tryz.func134, Tryz.ntmps134
  go_wp2_with (first | (go_at_call 140; (with_reducible refine (NT.out).mono ?_); rintro e w1 ⟨v, rfl, hT, h1⟩; have T1 := Lib.hid hT; have B1 := Lib.hid h1; clear h1 hT; refine Hid.out ?_))
  refine Lib.hid ?_
  obtain ⟨A, C, hAC, hA, hC⟩ := row_form T1.out
  rw [HNL.out] at hAC hA hC
  subst hAC
  have T1' := Lib.hid T1.out
  have BC := Lib.hid (Nat.le_trans (HSC.out) (Below.size B1.out))
  clear T1 NT c9
  go_wp2
  obtain ⟨n, hn⟩ : ∃ n, F.length = n := ⟨_, rfl⟩
  rw [hn] at T1' HNL hA hC hfew ⊢
  have HN := Lib.hid hn
  clear hn
  go_loopw [4, 15] (fun lv iv wr => ∃ i : Nat, i ≤ n ∧ iv = .int .i64 i ∧ (i = 0 → lv = .slice none 0 0) ∧ Hid (RF wr w1.heap.size lv ((srtF F).take i) ∧ Below w1.heap.size w1 wr)) (fun _ iv _ => n - (intOf iv).toNat)
  case atStart => exact ⟨0, Nat.zero_le _, rfl, fun _ => rfl, Lib.hid ⟨World.ownsRow_nil _ _ _ _, Below.refl _ _⟩⟩
  case round =>
    obtain ⟨i, hi, rfl, hi0, HQ⟩ := hrel
    have BW := Lib.hid (B1.out.trans (HQ.out.2.mono (Below.size B1.out)))
    by_cases hlt : i < n
    · have q0 : (i : Int) < (n : Int) := by omega
      obtain ⟨gA, rfl⟩ : ∃ gA, A = some ⟨gA, 0, none⟩ := hA.resolve_left (by omega)
      obtain ⟨nm, hnm⟩ : ∃ nm, (srtN (namesD F))[i]? = some nm := ⟨_, List.getElem?_eq_getElem (by rw [HNL.out]; exact hlt)⟩
      have hTr := row_below T1'.out HQ.out.2
      rw [HNL.out] at hTr
      have d0 := row_cell hTr i (.string nm) (by rw [List.getElem?_map, hnm]; rfl)
      have hmem : nm ∈ namesD F := (srtN_mem _ _).1 (List.mem_of_getElem? hnm)
      have hsa := srtF_at F i nm hnm
      have G0 := HG.out wr nm hmem BW.out
      obtain ⟨t, ht⟩ : ∃ t, (findD nm F).getD ⟨#[]⟩ = t := ⟨_, rfl⟩
      rw [ht] at G0 hsa
      have G0 := Lib.hid G0
      have HT := Lib.hid (take_at' (srtF F) i _ hsa)
      have HL := Lib.hid (show ((srtF F).take i).length = i by rw [List.length_take, len_srtF, HN.out]; omega)
      clear hTr hnm hmem hsa ht hi0
      go_wp2_with (first | (go_at_call 135; (with_reducible refine (G0.out).mono ?_); rintro e w2 ⟨rfl, h1⟩; have B2 := Lib.hid h1; have b3 := Lib.hid (heap_alloc_new w2 (.cells #[.string nm, .string t] 41)); have A3 := Lib.hid (h1.trans ((alloc_old (w := w2) (o := .cells #[.string nm, .string t] 41)).mono (Below.size h1))); have R3 := Lib.hid (HQ.out.1.below A3.out); have z3 := Lib.hid (Nat.le_trans (Below.size HQ.out.2) (Below.size A3.out)); clear h1) | (at_builtin; refine append_RF _ rfl _ _ rfl w1.heap.size _ ((srtF F).take i) i HL.out rfl R3.out (nm, t) _ rfl b3.out (by omega) z3.out ?_; intro g6 C6 w6 h6 h7; have R6 := Lib.hid h6; have B6 := Lib.hid h7; clear h6 h7))
      exact ⟨⟨i + 1, by omega, by go_num, fun h => by omega, Lib.hid ⟨by rw [HT.out]; exact R6.out, (HQ.out.2.trans (A3.out.mono (Below.size HQ.out.2))).trans B6.out⟩⟩, by simp [intOf]; omega⟩
    · obtain rfl : i = n := by omega
      have q0 : ¬ (i : Int) < (i : Int) := by omega
      have hR := HQ.out.1
      rw [List.take_of_length_le (by rw [len_srtF, HN.out]; exact Nat.le_refl _)] at hR
      obtain ⟨A9, C9, rfl, hA9, hC9⟩ := row_form hR
      rw [len_srtF, HN.out] at hR hA9 hC9 hi0 ⊢
      have hb0 := blk_below HB.out BW.out
      obtain ⟨⟨c0, c1, c2, c3, c4, c5, c6, c7, c8, c9, c10⟩, zz⟩ := cells11 hb0
      obtain ⟨s1, s2, s3⟩ := set6 hb0 (.int .i64 3) (.string ⟨#[]⟩) (.slice none 0 0) (.slice A9 i C9) (.slice none 0 0) (.slice none 0 0)
      have f1 := zz 1
      have f2 := zz 2
      have f3 := zz 3
      have f4 := zz 4
      have f5 := zz 5
      have f6 := zz 6
      have hlw := Below.size B1.out
      have BX := Lib.hid (((BW.out.mono HSC.out)).trans (s3 _ hhc))
      have RX := Lib.hid (hR.kept (w' := ((((((wr.setCell ⟨h, 1, none⟩ (.int .i64 3)).setCell ⟨h, 2, none⟩ (.string ⟨#[]⟩)).setCell ⟨h, 3, none⟩ (.slice none 0 0)).setCell ⟨h, 4, none⟩ (.slice A9 i C9)).setCell ⟨h, 5, none⟩ (.slice none 0 0)).setCell ⟨h, 6, none⟩ (.slice none 0 0))) fun g hg => s2 g (by have := (row_own hR g hg).1; omega))
      have hcz := Below.size BX.out
      have TT : Calls Tryz.prog 161 #[.pointer (some ⟨j, 0, none⟩), .agg #[.string k, .int .i64 3, .string ⟨#[]⟩, .slice none 0 0, .slice A9 i C9, .slice none 0 0, .slice none 0 0, .int .i64 0]] ((((((wr.setCell ⟨h, 1, none⟩ (.int .i64 3)).setCell ⟨h, 2, none⟩ (.string ⟨#[]⟩)).setCell ⟨h, 3, none⟩ (.slice none 0 0)).setCell ⟨h, 4, none⟩ (.slice A9 i C9)).setCell ⟨h, 5, none⟩ (.slice none 0 0)).setCell ⟨h, 6, none⟩ (.slice none 0 0)) (fun e w' => e = .returned (.tuple #[]) ∧ (∃ vl', JD KF w' j bS now vA c vl' ([] ++ dEff k (xoF F) D)) ∧ Kp ((((((wr.setCell ⟨h, 1, none⟩ (.int .i64 3)).setCell ⟨h, 2, none⟩ (.string ⟨#[]⟩)).setCell ⟨h, 3, none⟩ (.slice none 0 0)).setCell ⟨h, 4, none⟩ (.slice A9 i C9)).setCell ⟨h, 5, none⟩ (.slice none 0 0)).setCell ⟨h, 6, none⟩ (.slice none 0 0)).heap.size (fun q => q ≠ j ∧ (Value.slice none 0 0).ownBlock ≠ some q) ((((((wr.setCell ⟨h, 1, none⟩ (.int .i64 3)).setCell ⟨h, 2, none⟩ (.string ⟨#[]⟩)).setCell ⟨h, 3, none⟩ (.slice none 0 0)).setCell ⟨h, 4, none⟩ (.slice A9 i C9)).setCell ⟨h, 5, none⟩ (.slice none 0 0)).setCell ⟨h, 6, none⟩ (.slice none 0 0)) w') := by
        by_cases hF : F = []
        · have hi1 : i = 0 := by rw [← HN.out, hF]; rfl
          subst hi1
          cases hi0 rfl
          rw [show xoF F = none from if_pos hF]
          exact TurnD_none KF okF KFok KFsame bS bM j D [] k now vA _ c _ (SS.out _ BX.out) (JD.nil KF c (JJ.out _ BX.out)) (Nat.le_trans hc (Nat.le_trans HSC.out hcz)) (by simp)
        · rw [show xoF F = some (srtF F) from if_neg hF]
          refine TurnD_some KF okF KFok KFsame bS bM j D [] k (srtF F) now vA _ c none A9 none none 0 0 i C9 0 0 0 0 (OK.out hF) _ (SS.out _ BX.out) (JD.nil KF c (JJ.out _ BX.out)) (Nat.le_trans hc (Nat.le_trans HSC.out hcz)) (by simp) ⟨RX.out.mono (Nat.zero_le _), fun e => hF ?_, rfl, rfl, rfl⟩ (fun g hg => ?_)
          · have := len_srtF F
            rw [e] at this
            exact List.length_eq_zero_iff.1 this.symm
          · rcases hg with hg | hg | hg | hg
            · cases hg
            · have h1 := (row_own RX.out g hg).1
              have h2 := HSC.out
              show c ≤ g
              omega
            · cases hg
            · cases hg
      have TT := Lib.hid TT
      clear s1 s2 s3 zz hR hb0 hi0 hi HQ
      go_wp2_with (first | (go_at_call 161; (with_reducible refine (TT.out).mono ?_); rintro e w7 ⟨rfl, h7, hK7⟩; have H7 := Lib.hid h7; have K7 := Lib.hid hK7; clear h7 hK7))
      go_end0
      exact ⟨rfl, H7.out, (Kp.of BX.out).trans (K7.out.mono (Nat.le_trans HSC.out hcz) (fun q hq => ⟨hq, by simp [Value.ownBlock]⟩))⟩
end Go.Proofs.YticlacjpgjkhcaaGreatDoor

/- Hashes: fields put, taken, one by one; the table's Del at a hash. -/
namespace Go.Proofs.YticlacjpgjkhcaaGreatDoor
open Go.ChangeShapes Go.WideShapes Go.ChangeAt Go.RowKit

/-- Fields put one by one. -/
def putsD (F : List (ByteArray × ByteArray)) : List (ByteArray × ByteArray) → List (ByteArray × ByteArray)
  | [] => F
  | p :: r => putsD (putD p.1 p.2 F) r
/-- How many of them are new. -/
def newsD (F : List (ByteArray × ByteArray)) : List (ByteArray × ByteArray) → Nat
  | [] => 0
  | p :: r => (if (findD p.1 F).isNone = true then 1 else 0) + newsD (putD p.1 p.2 F) r
/-- Fields taken one by one. -/
def delsD (F : List (ByteArray × ByteArray)) : List ByteArray → List (ByteArray × ByteArray)
  | [] => F
  | n :: r => delsD (delD n F) r
/-- How many of them were there. -/
def goneD (F : List (ByteArray × ByteArray)) : List ByteArray → Nat
  | [] => 0
  | n :: r => (if (findD n F).isSome = true then 1 else 0) + goneD (delD n F) r
theorem newsD_le (F : List (ByteArray × ByteArray)) (P : List (ByteArray × ByteArray)) : newsD F P ≤ P.length := by
  induction P generalizing F with
  | nil => exact Nat.le_refl _
  | cons p r ih => have := ih (putD p.1 p.2 F); unfold newsD; rw [List.length_cons]; split <;> omega
theorem goneD_le (F : List (ByteArray × ByteArray)) (P : List ByteArray) : goneD F P ≤ P.length := by
  induction P generalizing F with
  | nil => exact Nat.le_refl _
  | cons p r ih => have := ih (delD p F); unfold goneD; rw [List.length_cons]; split <;> omega
theorem len_putF {α : Type} (k : ByteArray) (x : α) : ∀ (D : List (ByteArray × α)), (putD k x D).length ≤ D.length + 1
  | [] => by simp [putD]
  | (y, v) :: r => by
    by_cases hy : y = k
    · simp [putD, hy]
    · simp [putD, hy]; exact len_putF k x r
theorem len_putsD (F P : List (ByteArray × ByteArray)) : (putsD F P).length ≤ F.length + P.length := by
  induction P generalizing F with
  | nil => exact Nat.le_refl _
  | cons p r ih => have := ih (putD p.1 p.2 F); have := len_putF p.1 p.2 F; unfold putsD; rw [List.length_cons]; omega
theorem names_putD (k x : ByteArray) (F : List (ByteArray × ByteArray)) (n : ByteArray) (h : n ∈ namesD (putD k x F)) : n ∈ namesD F ∨ n = k := by
  by_cases hk : k ∈ namesD F
  · rw [names_put_in k x F hk] at h
    exact .inl h
  · rw [names_put_new k x F hk] at h
    rcases List.mem_append.1 h with h | h
    · exact .inl h
    · exact .inr (by simpa using h)
theorem names_putsD (F P : List (ByteArray × ByteArray)) (n : ByteArray) (h : n ∈ namesD (putsD F P)) : n ∈ namesD F ∨ n ∈ namesD P := by
  induction P generalizing F with
  | nil => exact .inl h
  | cons p r ih =>
    rcases ih (putD p.1 p.2 F) h with h | h
    · rcases names_putD _ _ _ _ h with h | h
      · exact .inl h
      · exact .inr (by rw [h]; simp [namesD])
    · exact .inr (by unfold namesD at h ⊢; rw [List.map_cons]; exact List.mem_cons_of_mem _ h)
theorem names_delsD (F : List (ByteArray × ByteArray)) (ns : List ByteArray) (n : ByteArray) (h : n ∈ namesD (delsD F ns)) : n ∈ namesD F := by
  induction ns generalizing F with
  | nil => exact h
  | cons p r ih => exact (names_delD p F).subset (ih (delD p F) h)
theorem delD_noF {α : Type} (k : ByteArray) : ∀ (D : List (ByteArray × α)), findD k D = none → delD k D = D
  | [], _ => rfl
  | (y, v) :: r, h => by
    by_cases hy : y = k
    · simp [findD, hy] at h
    · simp [findD, hy] at h
      simp [delD, hy, delD_noF k r h]
/-- A hash whose table's place is told. -/
def HP (c : Nat) (w : World) (h p : Nat) (e0 e1 e2 e3 e4 e5 e6 e7 e8 : Value) (F : List (ByteArray × ByteArray)) (N : Nat) : Prop := ∃ g f D l L, HS c w h e0 e1 e2 e3 e4 e5 e6 e7 e8 p g f D l L F ∧ L.length ≤ N
theorem HH.hp {c : Nat} {w : World} {h : Nat} {e0 e1 e2 e3 e4 e5 e6 e7 e8 : Value} {F : List (ByteArray × ByteArray)} {N : Nat} (s : HH c w h e0 e1 e2 e3 e4 e5 e6 e7 e8 F N) : ∃ p, HP c w h p e0 e1 e2 e3 e4 e5 e6 e7 e8 F N := by
  obtain ⟨p, g, f, D, l, L, s, hL⟩ := s
  exact ⟨p, g, f, D, l, L, s, hL⟩
theorem HP.hh {c : Nat} {w : World} {h p : Nat} {e0 e1 e2 e3 e4 e5 e6 e7 e8 : Value} {F : List (ByteArray × ByteArray)} {N : Nat} (s : HP c w h p e0 e1 e2 e3 e4 e5 e6 e7 e8 F N) : HH c w h e0 e1 e2 e3 e4 e5 e6 e7 e8 F N := by
  obtain ⟨g, f, D, l, L, s, hL⟩ := s
  exact ⟨p, g, f, D, l, L, s, hL⟩
theorem HP.below {c : Nat} {w w' : World} {h p : Nat} {e0 e1 e2 e3 e4 e5 e6 e7 e8 : Value} {F : List (ByteArray × ByteArray)} {N : Nat} (s : HP c w h p e0 e1 e2 e3 e4 e5 e6 e7 e8 F N) (hb : Below w.heap.size w w') : HP c w' h p e0 e1 e2 e3 e4 e5 e6 e7 e8 F N := by
  obtain ⟨g, f, D, l, L, s, hL⟩ := s
  exact ⟨g, f, D, l, L, s.below hb, hL⟩
theorem HP.cell {c : Nat} {w : World} {h p : Nat} {e0 e1 e2 e3 e4 e5 e6 e7 e8 : Value} {F : List (ByteArray × ByteArray)} {N : Nat} (s : HP c w h p e0 e1 e2 e3 e4 e5 e6 e7 e8 F N) : w.cell? ⟨h, 9, none⟩ = some (.pointer (some ⟨p, 0, none⟩)) := by
  obtain ⟨g, f, D, l, L, s, hL⟩ := s
  obtain ⟨⟨_, _, _, _, _, _, _, _, _, c9, _⟩, _⟩ := cells11 s.blk
  exact c9
theorem HP.lt {c : Nat} {w : World} {h p : Nat} {e0 e1 e2 e3 e4 e5 e6 e7 e8 : Value} {F : List (ByteArray × ByteArray)} {N : Nat} (s : HP c w h p e0 e1 e2 e3 e4 e5 e6 e7 e8 F N) : c ≤ w.heap.size := by
  obtain ⟨g, f, D, l, L, s, hL⟩ := s
  exact s.tab.le
/-- The table's Del at a hash. -/
theorem hdel_any (c h p : Nat) (e0 e1 e2 e3 e4 e5 e6 e7 e8 : Value) (F : List (ByteArray × ByteArray)) (N : Nat) (k : ByteArray) (hk : k.size ≤ 1000000) (w : World) (s : HP c w h p e0 e1 e2 e3 e4 e5 e6 e7 e8 F N) : Calls Tryz.prog 137 #[.pointer (some ⟨p, 0, none⟩), .string k] w fun e w' => (∃ q : Int, e = .returned (.tuple #[.int .i64 q, .bool (findD k F).isSome])) ∧ HP c w' h p e0 e1 e2 e3 e4 e5 e6 e7 e8 (delD k F) N ∧ Below c w w' := by
  obtain ⟨g, f, D, l, L, s, hL⟩ := s
  cases hD : findD k D with
  | none =>
    have hF := s.hf.find_none k hD
    refine (del_no c p g f D k hk hD w s.tab).mono ?_
    rintro e w' ⟨rfl, hb⟩
    rw [hF, delD_noF k F hF]
    exact ⟨⟨0, rfl⟩, ⟨g, f, D, l, L, s.below hb, hL⟩, hb.mono s.tab.le⟩
  | some q =>
    obtain ⟨t, _, hF⟩ := s.hf.find_some k q hD
    refine (del_yes c p g f D k hk q hD w s.tab).mono ?_
    rintro e w' ⟨rfl, ⟨g', f', hT⟩, hK⟩
    obtain ⟨h1, h2⟩ := s.tabbed hT hK
    rw [hF]
    exact ⟨⟨_, rfl⟩, ⟨g', f', delD k D, l, L, ⟨s.hc, h1, hT, h2, s.hf.del k⟩, hL⟩, hK.below⟩
end Go.Proofs.YticlacjpgjkhcaaGreatDoor

/- A law's do where the command is refused. -/
namespace Go.Proofs.YticlacjpgjkhcaaGreatDoor
open Go.ChangeShapes Go.WideShapes Go.ChangeAt Go.RowKit

set_option maxRecDepth 100000 in
set_option maxHeartbeats 8000000 in
theorem do_failG (bS : Nat) (vA : Value) (n : Int) (w : World) (hD : ∀ X, Below w.heap.size w X → Calls Tryz.prog 31 #[.pointer (some ⟨bS, 0, none⟩), .int .i64 1, vA] X fun e w' => e = .returned (.tuple #[.agg #[.int .i64 2, .int .i64 n, .string ⟨#[]⟩, .slice none 0 0], .slice none 0 0, .bool true]) ∧ Below X.heap.size X w') : Calls Tryz.prog 23 #[.pointer (some ⟨bS, 0, none⟩), vA] w fun e w' => e = .returned (.agg #[.int .i64 2, .int .i64 n, .string ⟨#[]⟩, .slice none 0 0]) ∧ Below w.heap.size w w' := by
  have A1 := Lib.hid (alloc_old (w := w) (o := .cells #[.int .i64 0, .int .i64 0, .string ⟨#[]⟩, .slice none 0 0] 29))
  have hr := Lib.hid (heap_alloc_new w (.cells #[.int .i64 0, .int .i64 0, .string ⟨#[]⟩, .slice none 0 0] 29))
  have D := Lib.hid (hD _ A1.out)
  clear hD
  go_enter Tryz.func23, Tryz.ntmps23
  go_wp2_with (first | (go_at_call 31; (with_reducible refine (D.out).mono ?_); rintro e w5 ⟨rfl, hb5⟩; have B5 := Lib.hid (A1.out.trans (hb5.mono (Below.size A1.out))); have R5 := Lib.hid (blk_below hr.out hb5); clear hb5; refine Hid.out ?_))
  refine Lib.hid ?_
  have B6 := Lib.hid (show Below w.heap.size w (w5.alloc (.cells #[.int .i64 2, .int .i64 n, .string ⟨#[]⟩, .slice none 0 0] 29)) from B5.out.trans (alloc_old.mono (Below.size B5.out)))
  have o6 := Lib.hid (heap_alloc_new w5 (.cells #[.int .i64 2, .int .i64 n, .string ⟨#[]⟩, .slice none 0 0] 29))
  have R6 := Lib.hid (blk_below R5.out (alloc_old (o := .cells #[.int .i64 2, .int .i64 n, .string ⟨#[]⟩, .slice none 0 0] 29)))
  go_wp2_with fail
  generalize (w5.alloc (.cells #[.int .i64 2, .int .i64 n, .string ⟨#[]⟩, .slice none 0 0] 29)) = w6 at B6 o6 R6 ⊢
  refine wp_loop_once ?_
  obtain ⟨⟨d0, d1, d2, d3⟩, _⟩ := cells4 o6.out
  obtain ⟨⟨c0, c1, c2, c3⟩, ⟨f0, f1, f2, f3⟩⟩ := cells4 R6.out
  go_wp2
  exact bodyPost_ret (v := .agg #[.int .i64 2, .int .i64 n, .string ⟨#[]⟩, .slice none 0 0]) (by simp [results, Tryz.results23, go_sem, c0, c1, c2, c3]) rfl ⟨rfl, ((((B6.out.setCell (Nat.le_refl _) _).setCell (Nat.le_refl _) _).setCell (Nat.le_refl _) _).setCell (Nat.le_refl _) _)⟩
end Go.Proofs.YticlacjpgjkhcaaGreatDoor

/- hashes.Do: the commands' functions by name; a law's do over data. -/
namespace Go.MapT
open Go.MapKept Go.RowKit
theorem at_insertL {P : Program} {t key elem : TypeId} {ops : Array Oper} {rest : List Oper} {o : Oper} {a : Act} {Q : Exit → Act → World → Prop} (w : World) (hg : o.guard = none) (hd : o.dst = none) (m v : Operand) (k : ByteArray) (hop : o.op = Op.insert t m (.const (.string k)) v) (ht : P.underlying t = some (.map key elem)) (hk : P.underlying key = some .string)
    (b : Nat) (l : Ents) (hm : a.eval m = .map (some b)) (h : MB w b l) (u : Value) (hv : a.eval v = u)
    (hK : ∀ w', MB w' b (put k u l) → w.grownBy w' (some b) → wpList P ops Q rest a w') : wpList P ops Q (o :: rest) a w := by
  refine wpList_plain hg fun K' hK' => ?_
  obtain ⟨w', hrun, r1, r2, r3⟩ := run_update ht hk h k u
  unfold Oper.wp
  have hx : a.eval (.const (.string k)) = .string k := rfl
  simp [execOp, hop, hm, hx, hv, hrun, Result.andThen]
  refine hK' _ _ ?_
  rw [hd]
  exact hK w' r1 r2
theorem at_insertF {P : Program} {t key elem : TypeId} {ops : Array Oper} {rest : List Oper} {o : Oper} {a : Act} {Q : Exit → Act → World → Prop} (w : World) (hg : o.guard = none) (hd : o.dst = none) (m : Operand) (k : ByteArray) (f : FuncId) (hop : o.op = Op.insert t m (.const (.string k)) (.func f)) (ht : P.underlying t = some (.map key elem)) (hk : P.underlying key = some .string)
    (b : Nat) (l : Ents) (hm : a.eval m = .map (some b)) (h : MB w b l)
    (hK : ∀ w', MB w' b (put k (.func (.func f) #[] #[]) l) → w.grownBy w' (some b) → wpList P ops Q rest a w') : wpList P ops Q (o :: rest) a w :=
  at_insertL w hg hd m _ k hop ht hk b l hm h (.func (.func f) #[] #[]) rfl hK
end Go.MapT
namespace Go.Proofs.YticlacjpgjkhcaaGreatDoor
open Go.ChangeShapes Go.WideShapes Go.ChangeAt Go.RowKit

/-- What stands while the map of commands is made. -/
structure DoSt (w X : World) (bm : Nat) (l : MapT.Ents) : Prop where
  mb : MapT.MB X bm l
  below : Below w.heap.size w X
  hb : w.heap.size < bm
  reply : X.heap[w.heap.size]? = some (.cells #[.int .i64 0, .int .i64 0, .string ⟨#[]⟩, .slice none 0 0] 29)
theorem DoSt.ins {w X Y : World} {bm : Nat} {l l' : MapT.Ents} (h : DoSt w X bm l) (h1 : MapT.MB Y bm l') (h2 : X.grownBy Y (some bm)) : DoSt w Y bm l' :=
  ⟨h1, h.below.grown h2 (Below.size h.below) (fun k hk => by cases hk; exact Nat.le_of_lt h.hb), h.hb, (grown_block h2 (lt_blk h.reply) (by have := h.hb; omega)).trans h.reply⟩
/-- A command's function at a world, over data: its reply, its effects. -/
def CmdD {α : Type} (K : Kd α) (ok : ByteArray → α → Prop) (F : FuncId) (bS bM : Nat) (D : List (ByteArray × α)) (now : Int) (xs : List ByteArray) (k n : Int) (s : ByteArray) (R : Nat → World → Value → Prop) (des : List (ByteArray × Option α)) (X : World) : Prop :=
  ∀ (j : Nat) (vA : Value), SPG K ok X bS bM D → JB X j bS now vA (.slice none 0 0) → SSl X vA xs →
    Calls Tryz.prog F #[.pointer (some ⟨j, 0, none⟩)] X fun e w' => ∃ A m c, e = .returned (.agg #[.int .i64 k, .int .i64 n, .string s, .slice A m c]) ∧ R X.heap.size w' (.slice A m c) ∧
      (∃ vl, JD K w' j bS now vA X.heap.size vl des) ∧ Kp X.heap.size (fun i => i ≠ j) X w'
/-- The commands' functions. -/
abbrev flH : MapT.Ents := MapT.put ⟨#[72, 73, 78, 67, 82, 66, 89]⟩ (.func (.func 89) #[] #[]) (MapT.put ⟨#[72, 71, 69, 84, 65, 76, 76]⟩ (.func (.func 88) #[] #[]) (MapT.put ⟨#[72, 86, 65, 76, 83]⟩ (.func (.func 87) #[] #[]) (MapT.put ⟨#[72, 75, 69, 89, 83]⟩ (.func (.func 85) #[] #[]) (MapT.put ⟨#[72, 83, 84, 82, 76, 69, 78]⟩ (.func (.func 84) #[] #[]) (MapT.put ⟨#[72, 76, 69, 78]⟩ (.func (.func 83) #[] #[]) (MapT.put ⟨#[72, 69, 88, 73, 83, 84, 83]⟩ (.func (.func 82) #[] #[]) (MapT.put ⟨#[72, 68, 69, 76]⟩ (.func (.func 81) #[] #[]) (MapT.put ⟨#[72, 77, 71, 69, 84]⟩ (.func (.func 80) #[] #[]) (MapT.put ⟨#[72, 71, 69, 84]⟩ (.func (.func 79) #[] #[]) (MapT.put ⟨#[72, 83, 69, 84, 78, 88]⟩ (.func (.func 78) #[] #[]) (MapT.put ⟨#[72, 83, 69, 84]⟩ (.func (.func 77) #[] #[]) ([]))))))))))))
theorem sel_HSET : MapT.find ⟨#[72, 83, 69, 84]⟩ flH = some (.func (.func 77) #[] #[]) := by kernel_rfl
theorem ent_HSET (args : Array Value) (w : World) : (callFunc 77 args).run Tryz.prog w = .ok (.enter 77 args) w := by kernel_rfl
theorem sel_HSETNX : MapT.find ⟨#[72, 83, 69, 84, 78, 88]⟩ flH = some (.func (.func 78) #[] #[]) := by kernel_rfl
theorem ent_HSETNX (args : Array Value) (w : World) : (callFunc 78 args).run Tryz.prog w = .ok (.enter 78 args) w := by kernel_rfl
theorem sel_HGET : MapT.find ⟨#[72, 71, 69, 84]⟩ flH = some (.func (.func 79) #[] #[]) := by kernel_rfl
theorem ent_HGET (args : Array Value) (w : World) : (callFunc 79 args).run Tryz.prog w = .ok (.enter 79 args) w := by kernel_rfl
theorem sel_HMGET : MapT.find ⟨#[72, 77, 71, 69, 84]⟩ flH = some (.func (.func 80) #[] #[]) := by kernel_rfl
theorem ent_HMGET (args : Array Value) (w : World) : (callFunc 80 args).run Tryz.prog w = .ok (.enter 80 args) w := by kernel_rfl
theorem sel_HDEL : MapT.find ⟨#[72, 68, 69, 76]⟩ flH = some (.func (.func 81) #[] #[]) := by kernel_rfl
theorem ent_HDEL (args : Array Value) (w : World) : (callFunc 81 args).run Tryz.prog w = .ok (.enter 81 args) w := by kernel_rfl
theorem sel_HEXISTS : MapT.find ⟨#[72, 69, 88, 73, 83, 84, 83]⟩ flH = some (.func (.func 82) #[] #[]) := by kernel_rfl
theorem ent_HEXISTS (args : Array Value) (w : World) : (callFunc 82 args).run Tryz.prog w = .ok (.enter 82 args) w := by kernel_rfl
theorem sel_HLEN : MapT.find ⟨#[72, 76, 69, 78]⟩ flH = some (.func (.func 83) #[] #[]) := by kernel_rfl
theorem ent_HLEN (args : Array Value) (w : World) : (callFunc 83 args).run Tryz.prog w = .ok (.enter 83 args) w := by kernel_rfl
theorem sel_HSTRLEN : MapT.find ⟨#[72, 83, 84, 82, 76, 69, 78]⟩ flH = some (.func (.func 84) #[] #[]) := by kernel_rfl
theorem ent_HSTRLEN (args : Array Value) (w : World) : (callFunc 84 args).run Tryz.prog w = .ok (.enter 84 args) w := by kernel_rfl
theorem sel_HKEYS : MapT.find ⟨#[72, 75, 69, 89, 83]⟩ flH = some (.func (.func 85) #[] #[]) := by kernel_rfl
theorem ent_HKEYS (args : Array Value) (w : World) : (callFunc 85 args).run Tryz.prog w = .ok (.enter 85 args) w := by kernel_rfl
theorem sel_HVALS : MapT.find ⟨#[72, 86, 65, 76, 83]⟩ flH = some (.func (.func 87) #[] #[]) := by kernel_rfl
theorem ent_HVALS (args : Array Value) (w : World) : (callFunc 87 args).run Tryz.prog w = .ok (.enter 87 args) w := by kernel_rfl
theorem sel_HGETALL : MapT.find ⟨#[72, 71, 69, 84, 65, 76, 76]⟩ flH = some (.func (.func 88) #[] #[]) := by kernel_rfl
theorem ent_HGETALL (args : Array Value) (w : World) : (callFunc 88 args).run Tryz.prog w = .ok (.enter 88 args) w := by kernel_rfl
theorem sel_HINCRBY : MapT.find ⟨#[72, 73, 78, 67, 82, 66, 89]⟩ flH = some (.func (.func 89) #[] #[]) := by kernel_rfl
theorem ent_HINCRBY (args : Array Value) (w : World) : (callFunc 89 args).run Tryz.prog w = .ok (.enter 89 args) w := by kernel_rfl
set_option maxRecDepth 100000 in
set_option maxHeartbeats 8000000 in
theorem Do_okH (RAW NAME : ByteArray) (F : FuncId) (bS bM : Nat) (l : MapT.Ents) (now : Int) (xs : List ByteArray) (vA : Value) (k n : Int) (s : ByteArray) (R E : Nat → World → Value → Prop) (hR : RKeep R) (hE : RKeep E) (w : World) (hS : SP w bS bM l) (hA : SSl w vA xs) (hx : xs[0]? = some RAW) (hfit : ∀ X, SSl X vA xs → Calls Tryz.prog 95 #[vA] X fun e w' => e = .returned (.int .i64 0) ∧ Below X.heap.size X w') (hup : ∀ X, Calls Tryz.prog 96 #[.string RAW] X fun e w' => e = .returned (.string NAME) ∧ Below X.heap.size X w')
    (hsel : MapT.find NAME flH = some (.func (.func F) #[] #[])) (hent : ∀ (args : Array Value) (w : World), (callFunc F args).run Tryz.prog w = .ok (.enter F args) w) (hF : ∀ W, Below w.heap.size w W → CmdOkG W F #[] bS bM l now xs k n s R E) :
    Calls Tryz.prog 31 #[.pointer (some ⟨bS, 0, none⟩), .int .i64 now, vA] w fun e w' => ∃ A m c A' n' c', e = .returned (.tuple #[.agg #[.int .i64 k, .int .i64 n, .string s, .slice A m c], .slice A' n' c', .bool true]) ∧ R w.heap.size w' (.slice A m c) ∧ E w.heap.size w' (.slice A' n' c') ∧ Below w.heap.size w w' := by
  have hmm := @run_makeMap Tryz.prog
  have hmf : ∀ (fn : Fn) (first cap : Array Value) (w : World), (Instr.makeFunc fn first cap).run Tryz.prog w = .ok (.func fn first cap) w := fun _ _ _ _ => rfl
  have Q9 := Lib.hid (show DoSt w ((w.alloc (.cells #[.int .i64 0, .int .i64 0, .string ⟨#[]⟩, .slice none 0 0] 29)).alloc (.map #[] 0)) (w.heap.size + 1) [] from ⟨by
    have := MapT.MB.made (w.alloc (.cells #[.int .i64 0, .int .i64 0, .string ⟨#[]⟩, .slice none 0 0] 29))
    rw [World.size_alloc] at this
    exact this, alloc_old.trans (alloc_old.mono (by simp)), by omega, blk_below (heap_alloc_new w _) alloc_old⟩)
  have RR := Lib.hid (fun X (hX : DoSt w X (w.heap.size + 1) flH) => (show Calls Tryz.prog 36 #[.pointer (some ⟨bS, 0, none⟩), .int .i64 now, vA, .map (some (w.heap.size + 1))] X (fun e w' => ∃ A m c A' n' c', e = .returned (.tuple #[.agg #[.int .i64 k, .int .i64 n, .string s, .slice A m c], .slice A' n' c', .bool true]) ∧ R X.heap.size w' (.slice A m c) ∧ E X.heap.size w' (.slice A' n' c') ∧ Below X.heap.size X w') from
    Run_okG X RAW NAME F #[] bS bM (w.heap.size + 1) l _ now xs vA k n s R E (hF X hX.below) hR hE X (Below.refl _ _) (hS.below hX.below) (hA.below hX.below) hX.mb hsel hx hent hfit hup))
  obtain ⟨aA, acap, hvA, _⟩ := id hA
  clear hfit hup hA hS hx hsel hent hF
  subst hvA
  go_enter Tryz.func31, Tryz.ntmps31
  go_wp2_with (first | (refine MapT.at_insertF _ rfl rfl _ _ _ rfl Tryz.underlying81 Tryz.underlying9 (w.heap.size + 1) _ rfl Q9.out.mb ?_; intro w9 hM9 hg9; have Q9 := Lib.hid (Q9.out.ins hM9 hg9); clear hM9 hg9) | (go_at_call 36; (with_reducible refine (RR.out _ Q9.out).mono ?_); rintro e w5 ⟨A, m, c, A', n', c', rfl, hRR, hE5, hb5⟩; have B5 := Lib.hid hb5; obtain ⟨⟨a0, a1, a2, a3⟩, ⟨f0, f1, f2, f3⟩⟩ := cells4 (blk_below Q9.out.reply hb5); clear hb5))
  have BW := Lib.hid (Q9.out.below.trans (B5.out.mono (Below.size Q9.out.below)))
  have hle : w.heap.size + 1 ≤ w9.heap.size := Nat.le_of_lt (Q9.out.mb).lt
  have hfar : ∀ i, w.heap.size + 1 ≤ i → i < w5.heap.size → (((((w5.setCell ⟨w.heap.size, 0, none⟩ (.int .i64 k)).setCell ⟨w.heap.size, 1, none⟩ (.int .i64 n)).setCell ⟨w.heap.size, 2, none⟩ (.string s)).setCell ⟨w.heap.size, 3, none⟩ (.slice A m c))).heap[i]? = w5.heap[i]? := fun i hi _ => far4 (X := w5) (b := w.heap.size) _ _ _ _ (by omega)
  have hsz : w5.heap.size ≤ (((((w5.setCell ⟨w.heap.size, 0, none⟩ (.int .i64 k)).setCell ⟨w.heap.size, 1, none⟩ (.int .i64 n)).setCell ⟨w.heap.size, 2, none⟩ (.string s)).setCell ⟨w.heap.size, 3, none⟩ (.slice A m c))).heap.size := by simp [World.setCell]
  have hR6 := hR.kept _ _ _ _ (hR.mono _ (w.heap.size + 1) _ _ hRR hle) hsz hfar
  have hE6 := hE.kept _ _ _ _ (hE.mono _ (w.heap.size + 1) _ _ hE5 hle) hsz hfar
  exact bodyPost_ret (v := .tuple #[.agg #[.int .i64 k, .int .i64 n, .string s, .slice A m c], .slice A' n' c', .bool true]) (by simp [results, Tryz.results31, go_sem, a0, a1, a2, a3]) rfl ⟨A, m, c, A', n', c', rfl, hR.mono _ _ _ _ hR6 (by omega), hE.mono _ _ _ _ hE6 (by omega), (((BW.out.setCell (p := ⟨w.heap.size, 0, none⟩) (Nat.le_refl _) _).setCell (p := ⟨w.heap.size, 1, none⟩) (Nat.le_refl _) _).setCell (p := ⟨w.heap.size, 2, none⟩) (Nat.le_refl _) _).setCell (p := ⟨w.heap.size, 3, none⟩) (Nat.le_refl _) _⟩
set_option maxRecDepth 100000 in
set_option maxHeartbeats 8000000 in
theorem Do_failH (RAW NAME : ByteArray) (F : FuncId) (bS bM : Nat) (l : MapT.Ents) (now : Int) (xs : List ByteArray) (vA : Value) (n : Int) (w : World) (hS : SP w bS bM l) (hA : SSl w vA xs) (hx : xs[0]? = some RAW) (hfit : ∀ X, SSl X vA xs → Calls Tryz.prog 95 #[vA] X fun e w' => e = .returned (.int .i64 0) ∧ Below X.heap.size X w') (hup : ∀ X, Calls Tryz.prog 96 #[.string RAW] X fun e w' => e = .returned (.string NAME) ∧ Below X.heap.size X w')
    (hsel : MapT.find NAME flH = some (.func (.func F) #[] #[])) (hent : ∀ (args : Array Value) (w : World), (callFunc F args).run Tryz.prog w = .ok (.enter F args) w) (hF : CmdFail w F bS bM l now xs n) :
    Calls Tryz.prog 31 #[.pointer (some ⟨bS, 0, none⟩), .int .i64 now, vA] w fun e w' => e = .returned (.tuple #[.agg #[.int .i64 2, .int .i64 n, .string ⟨#[]⟩, .slice none 0 0], .slice none 0 0, .bool true]) ∧ Below w.heap.size w w' := by
  have hmm := @run_makeMap Tryz.prog
  have hmf : ∀ (fn : Fn) (first cap : Array Value) (w : World), (Instr.makeFunc fn first cap).run Tryz.prog w = .ok (.func fn first cap) w := fun _ _ _ _ => rfl
  have Q9 := Lib.hid (show DoSt w ((w.alloc (.cells #[.int .i64 0, .int .i64 0, .string ⟨#[]⟩, .slice none 0 0] 29)).alloc (.map #[] 0)) (w.heap.size + 1) [] from ⟨by
    have := MapT.MB.made (w.alloc (.cells #[.int .i64 0, .int .i64 0, .string ⟨#[]⟩, .slice none 0 0] 29))
    rw [World.size_alloc] at this
    exact this, alloc_old.trans (alloc_old.mono (by simp)), by omega, blk_below (heap_alloc_new w _) alloc_old⟩)
  have RR := Lib.hid (fun X (hX : DoSt w X (w.heap.size + 1) flH) => (show Calls Tryz.prog 36 #[.pointer (some ⟨bS, 0, none⟩), .int .i64 now, vA, .map (some (w.heap.size + 1))] X (fun e w' => e = .returned (.tuple #[.agg #[.int .i64 2, .int .i64 n, .string ⟨#[]⟩, .slice none 0 0], .slice none 0 0, .bool true]) ∧ Below X.heap.size X w') from
    Run_fail w RAW NAME F bS bM (w.heap.size + 1) l _ now xs vA n hF X hX.below (hS.below hX.below) (hA.below hX.below) hX.mb hsel hx hent hfit hup))
  obtain ⟨aA, acap, hvA, _⟩ := id hA
  clear hfit hup hA hS hx hsel hent hF
  subst hvA
  go_enter Tryz.func31, Tryz.ntmps31
  go_wp2_with (first | (refine MapT.at_insertF _ rfl rfl _ _ _ rfl Tryz.underlying81 Tryz.underlying9 (w.heap.size + 1) _ rfl Q9.out.mb ?_; intro w9 hM9 hg9; have Q9 := Lib.hid (Q9.out.ins hM9 hg9); clear hM9 hg9) | (go_at_call 36; (with_reducible refine (RR.out _ Q9.out).mono ?_); rintro e w5 ⟨rfl, hb5⟩; have B5 := Lib.hid hb5; obtain ⟨⟨a0, a1, a2, a3⟩, ⟨f0, f1, f2, f3⟩⟩ := cells4 (blk_below Q9.out.reply hb5); clear hb5))
  have BW := Lib.hid (Q9.out.below.trans (B5.out.mono (Below.size Q9.out.below)))
  exact bodyPost_ret (v := .tuple #[.agg #[.int .i64 2, .int .i64 n, .string ⟨#[]⟩, .slice none 0 0], .slice none 0 0, .bool true]) (by simp [results, Tryz.results31, go_sem, a0, a1, a2, a3]) rfl ⟨rfl, (((BW.out.setCell (p := ⟨w.heap.size, 0, none⟩) (Nat.le_refl _) _).setCell (p := ⟨w.heap.size, 1, none⟩) (Nat.le_refl _) _).setCell (p := ⟨w.heap.size, 2, none⟩) (Nat.le_refl _) _).setCell (p := ⟨w.heap.size, 3, none⟩) (Nat.le_refl _) _⟩
/-- A law's do. -/
theorem do_DH {α : Type} (K : Kd α) (ok : ByteArray → α → Prop) (hO : KdOk K ok) (RAW NAME : ByteArray) (F : FuncId) (bS bM : Nat) (D : List (ByteArray × α)) (xs : List ByteArray) (vA : Value) (k n : Int) (s : ByteArray) (R : Nat → World → Value → Prop) (hR : RKeep R) (des : List (ByteArray × Option α)) (hm : MayD ok des D) (w : World) (hS : SPG K ok w bS bM D) (hA : SSl w vA xs) (hx : xs[0]? = some RAW) (hfit : ∀ X, SSl X vA xs → Calls Tryz.prog 95 #[vA] X fun e w' => e = .returned (.int .i64 0) ∧ Below X.heap.size X w') (hup : ∀ X, Calls Tryz.prog 96 #[.string RAW] X fun e w' => e = .returned (.string NAME) ∧ Below X.heap.size X w')
    (hsel : MapT.find NAME flH = some (.func (.func F) #[] #[])) (hent : ∀ (args : Array Value) (w : World), (callFunc F args).run Tryz.prog w = .ok (.enter F args) w) (hF : ∀ X, Below w.heap.size w X → CmdD K ok F bS bM D 1 xs k n s R des X) :
    Calls Tryz.prog 23 #[.pointer (some ⟨bS, 0, none⟩), vA] w fun e w' => ∃ A m c, e = .returned (.agg #[.int .i64 k, .int .i64 n, .string s, .slice A m c]) ∧ R w.heap.size w' (.slice A m c) ∧ SPG K ok w' bS bM (applyD des D) ∧ Kp w.heap.size (fun i => i ≠ bS ∧ i ≠ bM) w w' := by
  refine do_okG K ok hO bS bM D vA k n s R hR des hm w hS (fun X hX => ?_)
  obtain ⟨⟨l, hSP, hAE⟩, hall⟩ := SPG.below K ok hS hX
  refine Do_okH RAW NAME F bS bM l 1 xs vA k n s R (EL K des) hR (EL.keep K des) X hSP (hA.below hX) hx hfit hup hsel hent (fun W hW Y j vB hY _ hJ hss => ?_)
  refine (hF Y ((hX.trans (hW.mono (Below.size hX))).trans (hY.mono (Nat.le_trans (Below.size hX) (Below.size hW)))) j vB (SPG.below K ok hS ((hX.trans (hW.mono (Below.size hX))).trans (hY.mono (Nat.le_trans (Below.size hX) (Below.size hW))))) hJ hss).mono ?_
  rintro e w' ⟨A, m, c, rfl, hRR, ⟨vl, ⟨A', n', c', rfl⟩, hJ', css, hE', hA'⟩, hK⟩
  exact ⟨A, m, c, rfl, hRR, ⟨A', n', c', hJ', css, hE', hA'⟩, hK⟩
end Go.Proofs.YticlacjpgjkhcaaGreatDoor
