/- Texts joined: PC2f, P8, CmdT, St7, St11, St12, St27 -/
import Derived.Test.YticlacjpgjkhcaaGreatDoorQn26
import Derived.Test.YticlacjpgjkhcaaGreatDoorQn7
import Derived.Test.YticlacjpgjkhcaaGreatDoorQn18
import Derived.Test.YticlacjpgjkhcaaGreatDoorQn24
import Derived.Test.YticlacjpgjkhcaaGreatDoorQn22
import Derived.KernelRfl
import GoSem.Core.World
import Derived.Test.YticlacjpgjkhcaaGreatDoorQn1
import Derived.Deep.Cut
import Derived.Test.YticlacjpgjkhcaaGreatDoorQn4
set_option linter.unusedVariables false
set_option linter.unusedSimpArgs false

/- points: PMOVE that is refused. -/
namespace Go.Proofs.YticlacjpgjkhcaaGreatDoor
open Go.ChangeShapes Go.WideShapes Go.ChangeAt Go.RowKit Go.Fl

set_option maxRecDepth 100000 in
set_option maxHeartbeats 8000000 in
theorem eachPMOVEf (bS bM : Nat) (D : List (ByteArray × List (ByteArray × Int × Int))) (now : Int) (NM k : ByteArray) (s t : ByteArray) (hs : s.size ≤ 100000) (ht : t.size ≤ 100000) (a b : Int) (ha : okI a = true) (hb : okI b = true) (hp1 : parseI s.data.toList = some a) (hp2 : parseI t.data.toList = some b) (F : List (ByteArray × Int × Int)) (hne : F ≠ []) (hF : (findD k D).getD [] = F) (ho2 : ∀ p ∈ F, okP2 p) (M : Nat) (pM : ByteArray × Int × Int) (hM : F[M]? = some pM) (hlo : ∀ (i : Nat) (p : ByteArray × Int × Int), i < M → F[i]? = some p → okI ((mvP a b) p.2.1 p.2.2).1 = true ∧ okI ((mvP a b) p.2.1 p.2.2).2 = true) (hbad : (okI ((mvP a b) pM.2.1 pM.2.2).1 && okI ((mvP a b) pM.2.1 pM.2.2).2) = false) (h31 : F.length ≤ 31) (w : World) (j : Nat) (vA : Value) (hS : SPG KP okP w bS bM D) (hj : JB w j bS now vA (.slice none 0 0)) (hA : SSl w vA [NM, k, s, t]) : Calls Tryz.prog 46 #[.pointer (some ⟨j, 0, none⟩), .func (.func 47) #[] #[]] w fun e w' => e = .panicked [{ v := failV 7, recovered := false }] ∧ Below w.heap.size w w' := by
  have hjw := lt_blk hj
  obtain ⟨blk, off, cap, rfl, hAR⟩ := AR.of hj hA (by simp)
  have A1 := Lib.hid (alloc_old (w := w) (o := .cells #[.int .i64 0, .int .i64 0, .string ⟨#[]⟩, .slice none 0 0] 29))
  have hr := Lib.hid (heap_alloc_new w (.cells #[.int .i64 0, .int .i64 0, .string ⟨#[]⟩, .slice none 0 0] 29))
  obtain ⟨n, hn⟩ : ∃ n, F.length = n := ⟨_, rfl⟩
  have hl2 : ([NM, k, s, t]).length = 4 := rfl
  rw [hl2] at hj hA
  have hz : (w.alloc (.cells #[.int .i64 0, .int .i64 0, .string ⟨#[]⟩, .slice none 0 0] 29)).heap.size = w.heap.size + 1 := by simp
  have HO := pof_any bS bM j D now blk off cap ([NM, k, s, t]) 4 hl2 (by omega) k rfl (.slice none 0 0) F hF (w.alloc (.cells #[.int .i64 0, .int .i64 0, .string ⟨#[]⟩, .slice none 0 0] 29)) (SPG.below KP okP hS A1.out) (hj.below A1.out) (hAR.below A1.out)
  simp only [hz, hn] at HO
  have HO := Lib.hid HO
  have HJ := Lib.hid hj
  have HS := Lib.hid hS
  have HA := Lib.hid hA
  have HAR := Lib.hid hAR
  clear hS hj hA hAR hF hz
  have PP := Lib.hid (fun X (hX : Below w.heap.size w X) => pparse_any 2 j now blk off cap _ 4 hl2 2 rfl s t hs ht a b ha hb hp1 hp2 rfl rfl X (HAR.out.below hX))
  have hn0 : 0 < n := by rw [← hn]; exact List.length_pos_iff.2 hne
  have HLO := Lib.hid hlo
  have HM := Lib.hid hM
  have HBAD := Lib.hid hbad
  have hMn : M < n := by rw [← hn]; exact (List.getElem?_eq_some_iff.1 hM).1
  have FL := Lib.hid (fun X => Fail69 7 X)
  rw [hn] at h31
  clear hlo hM hbad
  have HO2 := Lib.hid ho2
  have HNE := Lib.hid hne
  have HN := Lib.hid hn
  clear ho2 hne hn hs ht hp1 hp2
  go_enter Tryz.func46, Tryz.ntmps46
  go_wp2_with (first | (go_at_call 99; (with_reducible refine (HO.out).mono ?_); rintro e w1 ⟨A, C, rfl, hR, h1⟩; have R1 := Lib.hid hR; have B1 := Lib.hid (A1.out.trans (h1.mono (Nat.le_succ _))); have r1 := Lib.hid ((h1.block w.heap.size (Nat.lt_succ_self _)).trans hr.out); clear h1 hR; refine Hid.out ?_))
  refine Lib.hid ?_
  have AE := Lib.hid (alloc_old (w := w1) (o := .cells #[.string k, .int .i64 5, .string ⟨#[]⟩, .slice none 0 0, .slice none 0 0, .slice none 0 0, .slice A n C, .int .i64 0] 66))
  have re := Lib.hid (heap_alloc_new w1 (.cells #[.string k, .int .i64 5, .string ⟨#[]⟩, .slice none 0 0, .slice none 0 0, .slice none 0 0, .slice A n C, .int .i64 0] 66))
  have R2 := Lib.hid (R1.out.below AE.out)
  have r2 := Lib.hid (blk_below r1.out AE.out)
  have B2 := Lib.hid (B1.out.trans (AE.out.mono (Below.size B1.out)))
  have z1 := lt_blk r1.out
  have z2 : w1.heap.size < (w1.alloc (.cells #[.string k, .int .i64 5, .string ⟨#[]⟩, .slice none 0 0, .slice none 0 0, .slice none 0 0, .slice A n C, .int .i64 0] 66)).heap.size := by simp
  have P2 := Lib.hid (PP.out _ B2.out)
  go_wp2_with (first | (go_at_call 100; (with_reducible refine (P2.out).mono ?_); rintro e w3 ⟨rfl, h3⟩; have B3 := Lib.hid (B2.out.trans (h3.mono (Below.size B2.out))); have R3 := Lib.hid (R2.out.below h3); have r3 := Lib.hid (blk_below r2.out h3); have e3 := Lib.hid (blk_below re.out h3); clear h3; refine Hid.out ?_))
  refine Lib.hid ?_
  obtain ⟨g, C', eA, _⟩ := R3.out.form HNE.out
  rw [HN.out] at eA
  cases eA
  have hg := R3.out.own
  have hgr : g ≠ w.heap.size := by omega
  have hgq : g ≠ w1.heap.size := by
    intro e
    obtain ⟨cs, hc⟩ := row_typ R3.out g rfl
    have := e3.out
    rw [← e, hc] at this
    cases this
  have l3 := lt_blk e3.out
  go_wp2
  go_loopw [21] (fun iv wr => ∃ i : Nat, i ≤ M ∧ iv = .int .i64 i ∧ Hid (RP wr (w.heap.size + 1) (.slice (some ⟨g, 0, none⟩) n C) (mixP (mvP a b) F i) ∧ Kp w3.heap.size (fun b => b ≠ g) w3 wr)) (fun iv _ => n - (intOf iv).toNat)
  case atStart => exact ⟨0, Nat.zero_le _, rfl, Lib.hid ⟨by rw [mix_0]; exact R3.out, Kp.refl _ _ _⟩⟩
  case round =>
    obtain ⟨i, hi, rfl, HQ⟩ := hrel
    have BW := Lib.hid (B3.out.trans (HQ.out.2.below (fun b hb => ⟨Nat.lt_of_lt_of_le hb (Below.size B3.out), by omega⟩)))
    have hl9 : (mixP (mvP a b) F i).length = n := by rw [mix_len, HN.out]
    by_cases hlt : i < M
    · have q0 : (i : Int) < (n : Int) := by omega
      obtain ⟨p, hp⟩ : ∃ p, F[i]? = some p := ⟨_, List.getElem?_eq_getElem (by rw [HN.out]; omega)⟩
      obtain ⟨o1, o2⟩ := HO2.out p (List.mem_of_getElem? hp)
      have hpm := mix_at (mvP a b) F i p hp
      obtain ⟨d0, d1⟩ := HQ.out.1.at hl9 i p hpm
      have AP := Lib.hid (alloc_old (w := wr) (o := .cells #[.string p.1, .complex .f64 (fi p.2.1) (fi p.2.2)] 110))
      obtain ⟨e0, e1⟩ := cells_of (heap_alloc_new wr (.cells #[.string p.1, .complex .f64 (fi p.2.1) (fi p.2.2)] 110))
      have RA := Lib.hid (HQ.out.1.below AP.out)
      obtain ⟨d2, d3⟩ := RA.out.at hl9 i p hpm
      obtain ⟨cs, hcs⟩ := row_typ RA.out g rfl
      have fz := frozen_of_row _ g (i * 2 + 1) cs 110 hcs
      have TN := fun X => Add_any p.2.1 p.2.2 a b o1 o2 ha hb X
      unfold ptI at TN
      obtain ⟨o3, o4⟩ : okI ((mvP a b p.2.1 p.2.2).1) = true ∧ okI ((mvP a b p.2.1 p.2.2).2) = true := HLO.out i p hlt hp
      obtain ⟨x9, hx9⟩ : ∃ x9, ((mvP a b p.2.1 p.2.2).1) = x9 := ⟨_, rfl⟩
      obtain ⟨y9, hy9⟩ : ∃ y9, ((mvP a b p.2.1 p.2.2).2) = y9 := ⟨_, rfl⟩
      have RS := Lib.hid (RA.out.setAt hl9 i p hpm x9 y9)
      have MS := mix_set (mvP a b) F i p hp
      rw [hx9, hy9] at MS
      have MS := Lib.hid MS
      have KQ := Lib.hid ((HQ.out.2.alloc (HQ.out.2.size) (.cells #[.string p.1, .complex .f64 (fi p.2.1) (fi p.2.2)] 110)).setCell (p := ⟨g, i * 2 + 1, none⟩) (fun h => h.2 rfl) (.complex .f64 (fi x9) (fi y9)))
      have TN := Lib.hid (show ∀ X, Calls Tryz.prog 47 #[.complex .f64 (fi p.2.1) (fi p.2.2), .complex .f64 (fi a) (fi b)] X fun e w' => e = .returned (.tuple #[.complex .f64 (fi x9) (fi y9), .bool true]) ∧ X = w' from fun X => by have h := TN X; rw [show okI (p.2.1 + a) = true from o3, show okI (p.2.2 + b) = true from o4] at h; rw [← hx9, ← hy9]; exact h)
      clear hp hpm hcs hl9 hx9 hy9 o1 o2 o3 o4
      go_wp2_with (first | (go_at_call 47; (with_reducible refine (TN.out _).mono ?_); rintro e w4 ⟨rfl, rfl⟩))
      exact ⟨⟨i + 1, by omega, by go_num, Lib.hid ⟨by rw [← MS.out]; exact RS.out, KQ.out⟩⟩, by simp [intOf]; omega⟩
    · obtain rfl : i = M := by omega
      have q0 : (i : Int) < (n : Int) := by omega
      obtain ⟨o1, o2⟩ := HO2.out pM (List.mem_of_getElem? HM.out)
      have hpm := mix_at (mvP a b) F i pM HM.out
      obtain ⟨d0, d1⟩ := HQ.out.1.at hl9 i pM hpm
      obtain ⟨e0, e1⟩ := cells_of (heap_alloc_new wr (.cells #[.string pM.1, .complex .f64 (fi pM.2.1) (fi pM.2.2)] 110))
      have BP := Lib.hid (BW.out.trans ((alloc_old (w := wr) (o := .cells #[.string pM.1, .complex .f64 (fi pM.2.1) (fi pM.2.2)] 110)).mono (Below.size BW.out)))
      have TN := fun X => Add_any pM.2.1 pM.2.2 a b o1 o2 ha hb X
      unfold ptI at TN
      have TN := Lib.hid (show ∀ X, Calls Tryz.prog 47 #[.complex .f64 (fi pM.2.1) (fi pM.2.2), .complex .f64 (fi a) (fi b)] X fun e w' => e = .returned (.tuple #[.complex .f64 0 0, .bool false]) ∧ X = w' from fun X => by have h := TN X; rw [show (okI (pM.2.1 + a) && okI (pM.2.2 + b)) = false from HBAD.out] at h; exact h)
      clear hpm hl9 HQ
      go_wp2_with (first | (go_at_call 47; (with_reducible refine (TN.out _).mono ?_); rintro e w4 ⟨rfl, rfl⟩) | (go_at_call 108; (with_reducible refine (FL.out _).mono ?_); rintro e w5 ⟨rfl, h1⟩; have B5 := Lib.hid (BP.out.trans (h1.mono (Below.size BP.out))); clear h1))
      exact ⟨rfl, rfl, B5.out⟩
set_option maxRecDepth 100000 in
set_option maxHeartbeats 8000000 in
theorem fPMOVE (w0 : World) (bS bM : Nat) (D : List (ByteArray × List (ByteArray × Int × Int))) (l0 : MapT.Ents) (now : Int) (NM k : ByteArray) (s t : ByteArray) (hs : s.size ≤ 100000) (ht : t.size ≤ 100000) (a b : Int) (ha : okI a = true) (hb : okI b = true) (hp1 : parseI s.data.toList = some a) (hp2 : parseI t.data.toList = some b) (F : List (ByteArray × Int × Int)) (hne : F ≠ []) (hF : (findD k D).getD [] = F) (ho2 : ∀ p ∈ F, okP2 p) (M : Nat) (pM : ByteArray × Int × Int) (hM : F[M]? = some pM) (hlo : ∀ (i : Nat) (p : ByteArray × Int × Int), i < M → F[i]? = some p → okI ((mvP a b) p.2.1 p.2.2).1 = true ∧ okI ((mvP a b) p.2.1 p.2.2).2 = true) (hbad : (okI ((mvP a b) pM.2.1 pM.2.2).1 && okI ((mvP a b) pM.2.1 pM.2.2).2) = false) (h31 : F.length ≤ 31) (hS0 : SPG KP okP w0 bS bM D) : CmdFail w0 45 bS bM l0 now [NM, k, s, t] 7 := by
  intro w j vA hB0 _ hj hA
  have A1 := Lib.hid (alloc_old (w := w) (o := .cells #[.int .i64 0, .int .i64 0, .string ⟨#[]⟩, .slice none 0 0] 29))
  have EA := Lib.hid (eachPMOVEf bS bM D now NM k s t hs ht a b ha hb hp1 hp2 F hne hF ho2 M pM hM hlo hbad h31 (w.alloc (.cells #[.int .i64 0, .int .i64 0, .string ⟨#[]⟩, .slice none 0 0] 29)) j vA (SPG.below KP okP hS0 (hB0.trans (A1.out.mono (Below.size hB0)))) (hj.below A1.out) (hA.below A1.out))
  clear hS0 hj hA hlo hbad hM ho2 hF hs ht hp1 hp2 hB0
  go_enter Tryz.func45, Tryz.ntmps45
  go_wp2_with (first | (go_at_call 46; (with_reducible refine (EA.out).mono ?_); rintro e w5 ⟨rfl, h1⟩; have B5 := Lib.hid (A1.out.trans (h1.mono (Below.size A1.out))); clear h1))
  exact ⟨rfl, rfl, .of B5.out⟩
end Go.Proofs.YticlacjpgjkhcaaGreatDoor

/- A space of one key of points, plain; points that may be. -/
namespace Go.Proofs.YticlacjpgjkhcaaGreatDoor
open Go.ChangeShapes Go.WideShapes Go.ChangeAt Go.RowKit Go.Fl

/-- The space with one key of points. -/
def dP (F : List (ByteArray × Int × Int)) : List (ByteArray × List (ByteArray × Int × Int)) := if F = [] then [] else [(⟨#[107]⟩, F)]
theorem dP_find (F : List (ByteArray × Int × Int)) : (findD ⟨#[107]⟩ (dP F)).getD [] = F := by
  unfold dP
  by_cases h : F = []
  · subst h
    rw [if_pos rfl]
    rfl
  · rw [if_neg h]
    simp [findD]
theorem dP_set (F G : List (ByteArray × Int × Int)) (g : G ≠ []) : setX ⟨#[107]⟩ (some G) (dP F) = dP G := by
  unfold dP
  by_cases h : F = []
  · simp [h, g, setX, putD]
  · simp [h, g, setX, putD]
theorem dP_len (F : List (ByteArray × Int × Int)) : (dP F).length < 4096 := by unfold dP; split <;> simp
/-- Points of a law: few, their names short and rising, their parts bounded. -/
structure PBd (F : List (ByteArray × Int × Int)) (B : Int) : Prop where
  few : F.length ≤ 9
  name : ∀ p ∈ F, p.1.size ≤ 100
  rise : ∀ (i : Nat) (p q : ByteArray × Int × Int), F[i]? = some p → F[i + 1]? = some q → bl p.1 < bl q.1
  part : ∀ p ∈ F, (-B ≤ p.2.1 ∧ p.2.1 ≤ B) ∧ (-B ≤ p.2.2 ∧ p.2.2 ≤ B)
theorem sumSz_mulP (B : Nat) : ∀ l : List ByteArray, (∀ s ∈ l, s.size ≤ B) → sumSz l ≤ l.length * B
  | [], _ => by simp [sumSz]
  | s :: r, h => by
    have h1 := sumSz_mulP B r fun t ht => h t (List.mem_cons_of_mem _ ht)
    have h2 := h s List.mem_cons_self
    have e : sumSz (s :: r) = s.size + sumSz r := by simp [sumSz]
    rw [e, List.length_cons, Nat.add_mul, Nat.one_mul]
    omega
theorem PBd.ok2 {F : List (ByteArray × Int × Int)} {B : Int} (h : PBd F B) (hB : B ≤ 1048576) : ∀ p ∈ F, okP2 p := by
  intro p hp
  have := h.part p hp
  refine ⟨?_, ?_⟩ <;> simp [okI] <;> omega
theorem PBd.ok {F : List (ByteArray × Int × Int)} {B : Int} (h : PBd F B) (hne : F ≠ []) : okP ⟨#[107]⟩ F := by
  have hm : ∀ s ∈ tP F, s.size ≤ 100 := by
    intro s hs
    obtain ⟨p, hp, h2⟩ := List.mem_flatMap.1 hs
    simp at h2
    subst h2
    exact h.name p hp
  have h1 := sumSz_mulP 100 (tP F) hm
  have h2 := h.few
  rw [tP_len] at h1
  exact ⟨by decide, by decide, hne, by omega, fun s hs => Nat.le_trans (hm s hs) (by decide), by omega, h.rise⟩
/-- Points that are turned by a plain function keep their names. -/
theorem PBd.map {F : List (ByteArray × Int × Int)} {B C : Int} (h : PBd F B) (f : Int → Int → Int × Int) (hf : ∀ x y, (-B ≤ x ∧ x ≤ B) → (-B ≤ y ∧ y ≤ B) → (-C ≤ (f x y).1 ∧ (f x y).1 ≤ C) ∧ (-C ≤ (f x y).2 ∧ (f x y).2 ≤ C)) : PBd (mapP f F) C := by
  refine ⟨by rw [map_len]; exact h.few, fun p hp => ?_, fun i p q hp hq => ?_, fun p hp => ?_⟩
  · obtain ⟨r, hr, rfl⟩ := List.mem_map.1 hp
    exact h.name r hr
  · unfold mapP at hp hq
    rw [List.getElem?_map] at hp hq
    cases h1 : F[i]? with
    | none => rw [h1] at hp; cases hp
    | some r =>
      cases h2 : F[i + 1]? with
      | none => rw [h2] at hq; cases hq
      | some s =>
        rw [h1] at hp
        rw [h2] at hq
        cases hp
        cases hq
        exact h.rise i r s h1 h2
  · obtain ⟨r, hr, rfl⟩ := List.mem_map.1 hp
    exact hf _ _ (h.part r hr).1 (h.part r hr).2
/-- One point more, behind all. -/
theorem PBd.snoc {F : List (ByteArray × Int × Int)} {B : Int} (h : PBd F B) (p : ByteArray × Int × Int) (hl : F.length < 9) (hn : p.1.size ≤ 100) (hr : ∀ q ∈ F, bl q.1 < bl p.1) (hp : (-B ≤ p.2.1 ∧ p.2.1 ≤ B) ∧ (-B ≤ p.2.2 ∧ p.2.2 ≤ B)) : PBd (F ++ [p]) B := by
  refine ⟨by simp; omega, fun q hq => ?_, fun i q r hq hr' => ?_, fun q hq => ?_⟩
  · rcases List.mem_append.1 hq with hq | hq
    · exact h.name q hq
    · simp at hq; subst hq; exact hn
  · by_cases h1 : i + 1 < F.length
    · rw [List.getElem?_append_left (by omega)] at hq
      rw [List.getElem?_append_left h1] at hr'
      exact h.rise i q r hq hr'
    · have h2 := (List.getElem?_eq_some_iff.1 hr').1
      rw [List.length_append] at h2
      simp at h2
      have h3 : i + 1 = F.length := by omega
      rw [List.getElem?_append_left (by omega)] at hq
      rw [h3, List.getElem?_append_right (Nat.le_refl _), Nat.sub_self] at hr'
      simp at hr'
      subst hr'
      exact hr q (List.mem_of_getElem? hq)
  · rcases List.mem_append.1 hq with hq | hq
    · exact h.part q hq
    · simp at hq; subst hq; exact hp
theorem PBd.nil (B : Int) : PBd [] B := ⟨by simp, (fun p hp => by cases hp), (fun i p q hp => by simp at hp), (fun p hp => by cases hp)⟩
/-- The parts' sums. -/
theorem sumI (B : Int) : ∀ l : List Int, (∀ x ∈ l, -B ≤ x ∧ x ≤ B) → -(B * (l.length : Int)) ≤ l.sum ∧ l.sum ≤ B * (l.length : Int)
  | [], _ => by simp
  | a :: r, h => by
    have h1 := sumI B r fun x hx => h x (List.mem_cons_of_mem _ hx)
    have h2 := h a List.mem_cons_self
    rw [List.sum_cons, List.length_cons]
    have e : B * ((r.length + 1 : Nat) : Int) = B * (r.length : Int) + B := by
      rw [show ((r.length + 1 : Nat) : Int) = (r.length : Int) + 1 by omega, Int.mul_add, Int.mul_one]
    rw [e]
    omega
theorem PBd.sums {F : List (ByteArray × Int × Int)} {B : Int} (h : PBd F B) (hB : 0 ≤ B) (hB2 : B ≤ 100000) (i : Nat) : okI (sX (F.take i)) = true ∧ okI (sY (F.take i)) = true := by
  have hl : (F.take i).length ≤ 9 := by rw [List.length_take]; have := h.few; omega
  have h1 := sumI B ((F.take i).map (fun p => p.2.1)) (fun x hx => by
    obtain ⟨p, hp, rfl⟩ := List.mem_map.1 hx
    exact (h.part p (List.mem_of_mem_take hp)).1)
  have h2 := sumI B ((F.take i).map (fun p => p.2.2)) (fun x hx => by
    obtain ⟨p, hp, rfl⟩ := List.mem_map.1 hx
    exact (h.part p (List.mem_of_mem_take hp)).2)
  rw [List.length_map] at h1 h2
  have h3 : B * ((F.take i).length : Int) ≤ 900000 := by
    have a1 : B * ((F.take i).length : Int) ≤ B * 9 := Int.mul_le_mul_of_nonneg_left (by omega) hB
    omega
  unfold okI sX sY
  exact ⟨decide_eq_true (by omega), decide_eq_true (by omega)⟩
end Go.Proofs.YticlacjpgjkhcaaGreatDoor

/- The commands' table as plain data (no program). -/
namespace Go.CmdT

/-- A command's row: its name, least and most arguments, does it write, first key, last key, step. -/
abbrev Row := List UInt8 × Int × Int × Bool × Int × Int × Int
def rowsT : List Row := [
  ([68, 69, 76], 2, 0, true, 1, (-1), 1),
  ([69, 88, 73, 83, 84, 83], 2, 0, false, 1, (-1), 1),
  ([84, 89, 80, 69], 2, 2, false, 1, 1, 1),
  ([82, 69, 78, 65, 77, 69], 3, 3, true, 1, 2, 1),
  ([82, 69, 78, 65, 77, 69, 78, 88], 3, 3, true, 1, 2, 1),
  ([69, 88, 80, 73, 82, 69], 3, 3, true, 1, 1, 1),
  ([80, 69, 88, 80, 73, 82, 69], 3, 3, true, 1, 1, 1),
  ([80, 69, 88, 80, 73, 82, 69, 65, 84], 3, 3, true, 1, 1, 1),
  ([84, 84, 76], 2, 2, false, 1, 1, 1),
  ([80, 84, 84, 76], 2, 2, false, 1, 1, 1),
  ([80, 69, 82, 83, 73, 83, 84], 2, 2, true, 1, 1, 1),
  ([75, 69, 89, 83], 1, 1, false, 0, 0, 0),
  ([68, 66, 83, 73, 90, 69], 1, 1, false, 0, 0, 0),
  ([70, 76, 85, 83, 72, 65, 76, 76], 1, 1, true, 0, 0, 0),
  ([71, 69, 84], 2, 2, false, 1, 1, 1),
  ([83, 69, 84], 3, 6, true, 1, 1, 1),
  ([83, 69, 84, 78, 88], 3, 3, true, 1, 1, 1),
  ([71, 69, 84, 83, 69, 84], 3, 3, true, 1, 1, 1),
  ([71, 69, 84, 68, 69, 76], 2, 2, true, 1, 1, 1),
  ([65, 80, 80, 69, 78, 68], 3, 3, true, 1, 1, 1),
  ([83, 84, 82, 76, 69, 78], 2, 2, false, 1, 1, 1),
  ([73, 78, 67, 82], 2, 2, true, 1, 1, 1),
  ([68, 69, 67, 82], 2, 2, true, 1, 1, 1),
  ([73, 78, 67, 82, 66, 89], 3, 3, true, 1, 1, 1),
  ([68, 69, 67, 82, 66, 89], 3, 3, true, 1, 1, 1),
  ([71, 69, 84, 82, 65, 78, 71, 69], 4, 4, false, 1, 1, 1),
  ([83, 69, 84, 82, 65, 78, 71, 69], 4, 4, true, 1, 1, 1),
  ([77, 71, 69, 84], 2, 0, false, 1, (-1), 1),
  ([77, 83, 69, 84], 3, 0, true, 1, (-2), 2),
  ([76, 80, 85, 83, 72], 3, 0, true, 1, 1, 1),
  ([82, 80, 85, 83, 72], 3, 0, true, 1, 1, 1),
  ([76, 80, 85, 83, 72, 88], 3, 0, true, 1, 1, 1),
  ([82, 80, 85, 83, 72, 88], 3, 0, true, 1, 1, 1),
  ([76, 80, 79, 80], 2, 2, true, 1, 1, 1),
  ([82, 80, 79, 80], 2, 2, true, 1, 1, 1),
  ([76, 76, 69, 78], 2, 2, false, 1, 1, 1),
  ([76, 73, 78, 68, 69, 88], 3, 3, false, 1, 1, 1),
  ([76, 83, 69, 84], 4, 4, true, 1, 1, 1),
  ([76, 82, 65, 78, 71, 69], 4, 4, false, 1, 1, 1),
  ([76, 84, 82, 73, 77], 4, 4, true, 1, 1, 1),
  ([76, 82, 69, 77], 4, 4, true, 1, 1, 1),
  ([76, 73, 78, 83, 69, 82, 84], 5, 5, true, 1, 1, 1),
  ([82, 80, 79, 80, 76, 80, 85, 83, 72], 3, 3, true, 1, 2, 1),
  ([72, 83, 69, 84], 4, 0, true, 1, 1, 1),
  ([72, 83, 69, 84, 78, 88], 4, 4, true, 1, 1, 1),
  ([72, 71, 69, 84], 3, 3, false, 1, 1, 1),
  ([72, 77, 71, 69, 84], 3, 0, false, 1, 1, 1),
  ([72, 68, 69, 76], 3, 0, true, 1, 1, 1),
  ([72, 69, 88, 73, 83, 84, 83], 3, 3, false, 1, 1, 1),
  ([72, 76, 69, 78], 2, 2, false, 1, 1, 1),
  ([72, 83, 84, 82, 76, 69, 78], 3, 3, false, 1, 1, 1),
  ([72, 75, 69, 89, 83], 2, 2, false, 1, 1, 1),
  ([72, 86, 65, 76, 83], 2, 2, false, 1, 1, 1),
  ([72, 71, 69, 84, 65, 76, 76], 2, 2, false, 1, 1, 1),
  ([72, 73, 78, 67, 82, 66, 89], 4, 4, true, 1, 1, 1),
  ([90, 65, 68, 68], 4, 0, true, 1, 1, 1),
  ([90, 73, 78, 67, 82, 66, 89], 4, 4, true, 1, 1, 1),
  ([90, 82, 69, 77], 3, 0, true, 1, 1, 1),
  ([90, 83, 67, 79, 82, 69], 3, 3, false, 1, 1, 1),
  ([90, 67, 65, 82, 68], 2, 2, false, 1, 1, 1),
  ([90, 82, 65, 78, 75], 3, 3, false, 1, 1, 1),
  ([90, 82, 69, 86, 82, 65, 78, 75], 3, 3, false, 1, 1, 1),
  ([90, 82, 65, 78, 71, 69], 4, 4, false, 1, 1, 1),
  ([90, 82, 69, 86, 82, 65, 78, 71, 69], 4, 4, false, 1, 1, 1),
  ([90, 82, 65, 78, 71, 69, 66, 89, 83, 67, 79, 82, 69], 4, 4, false, 1, 1, 1),
  ([90, 67, 79, 85, 78, 84], 4, 4, false, 1, 1, 1),
  ([90, 80, 79, 80, 77, 73, 78], 2, 2, true, 1, 1, 1),
  ([90, 80, 79, 80, 77, 65, 88], 2, 2, true, 1, 1, 1),
  ([90, 82, 69, 77, 82, 65, 78, 71, 69, 66, 89, 82, 65, 78, 75], 4, 4, true, 1, 1, 1),
  ([90, 82, 69, 77, 82, 65, 78, 71, 69, 66, 89, 83, 67, 79, 82, 69], 4, 4, true, 1, 1, 1),
  ([80, 65, 68, 68], 5, 0, true, 1, 1, 1),
  ([80, 82, 69, 77], 3, 0, true, 1, 1, 1),
  ([80, 80, 79, 83], 3, 3, false, 1, 1, 1),
  ([80, 67, 65, 82, 68], 2, 2, false, 1, 1, 1),
  ([80, 77, 79, 86, 69], 4, 4, true, 1, 1, 1),
  ([80, 84, 85, 82, 78], 3, 3, true, 1, 1, 1),
  ([80, 83, 67, 65, 76, 69], 4, 4, true, 1, 1, 1),
  ([80, 78, 69, 65, 82], 4, 4, false, 1, 1, 1),
  ([80, 83, 85, 77], 2, 2, false, 1, 1, 1),
  ([80, 65, 76, 76], 2, 2, false, 1, 1, 1),
  ([80, 73, 78, 71], 1, 1, false, 0, 0, 0),
  ([69, 67, 72, 79], 2, 2, false, 0, 0, 0)]
def rowC (r : Row) : List Value := [.string ⟨r.1.toArray⟩, .int .i64 r.2.1, .int .i64 r.2.2.1, .bool r.2.2.2.1, .int .i64 r.2.2.2.2.1, .int .i64 r.2.2.2.2.2.1, .int .i64 r.2.2.2.2.2.2]
def rowsC : Array Value := (rowsT.flatMap rowC).toArray
theorem rowsT_len : rowsT.length = 82 := by kernel_rfl
theorem flat_at (l : List Row) (k j : Nat) (r : Row) (v : Value) (hk : l[k]? = some r) (hv : (rowC r)[j]? = some v) : (l.flatMap rowC)[k * 7 + j]? = some v := by
  induction l generalizing k with
  | nil => cases hk
  | cons q t ih =>
    rw [List.flatMap_cons]
    have hj : j < 7 := (List.getElem?_eq_some_iff.1 hv).1
    have hl : (rowC q).length = 7 := rfl
    cases k with
    | zero =>
      cases hk
      rw [List.getElem?_append_left (by omega), Nat.zero_mul, Nat.zero_add]
      exact hv
    | succ k =>
      rw [List.getElem?_append_right (by omega), hl, show (k + 1) * 7 + j - 7 = k * 7 + j by omega]
      exact ih k hk
theorem rows_at (k j : Nat) (r : Row) (v : Value) (hk : rowsT[k]? = some r) (hv : (rowC r)[j]? = some v) : rowsC[k * 7 + j]? = some v := by
  unfold rowsC
  rw [List.getElem?_toArray]
  exact flat_at _ k j r v hk hv
def nameAt (k : Nat) : List UInt8 := (rowsT.getD k default).1
theorem names_apart : ((List.range 82).all fun k => (List.range k).all fun j => !(nameAt j == nameAt k)) = true := by kernel_rfl
theorem name_ne {k j : Nat} (hk : k < 82) (hj : j < k) : (nameAt j == nameAt k) = false := by
  have h1 := List.all_eq_true.1 names_apart k (List.mem_range.2 hk)
  have h2 := List.all_eq_true.1 h1 j (List.mem_range.2 hj)
  simpa using h2
end Go.CmdT

/- The commands' table: what command.rows lays in memory. -/
namespace Go.Proofs.YticlacjpgjkhcaaGreatDoor
open Go.ChangeShapes Go.WideShapes Go.ChangeAt Go.RowKit

/-- A region's operations, run one behind the other, where none is guarded, none enters a function, none halts. -/
def runOps (P : Program) : List Oper → Act → World → Option (Act × World)
  | [], a, w => some (a, w)
  | o :: rest, a, w =>
    match o.guard with
    | some _ => none
    | none =>
      match (execOp a.eval o).run P w with
      | .ok (.value v) w' => runOps P rest (a.put o.dst v) w'
      | .ok .skip w' => runOps P rest (a.put o.dst undef) w'
      | _ => none
theorem wpList_run {P : Program} {ops : Array Oper} {Q : Exit → Act → World → Prop} : ∀ (l : List Oper) (a : Act) (w : World) (r : Act × World), runOps P l a w = some r → Q .normal r.1 r.2 → wpList P ops Q l a w := by
  intro l
  induction l with
  | nil =>
    intro a w r h k
    unfold runOps at h
    cases h
    exact k
  | cons o rest ih =>
    intro a w r h k
    unfold runOps at h
    split at h
    · cases h
    · rename_i hg
      split at h
      · rename_i v w' hrun
        refine wpList_plain hg fun K hK => ?_
        unfold Oper.wp
        rw [hrun, Oper.upon_value]
        exact hK _ _ (ih _ _ _ h k)
      · rename_i w' hrun
        refine wpList_plain hg fun K hK => ?_
        unfold Oper.wp
        rw [hrun, Oper.upon_skip]
        exact hK _ _ (ih _ _ _ h k)
      · cases h
theorem wpList_run0 {P : Program} {ops : Array Oper} {Q : Exit → Act → World → Prop} {l : List Oper} {a : Act} {w : World} (v0 : Value) (w' : World) (h : (runOps P l a w).map (fun r => (r.1.tmps.getD 0 undef, r.1.defers, r.2)) = some (v0, [], w'))
    (k : ∀ a', a'.tmps.getD 0 undef = v0 → a'.defers = [] → Q .normal a' w') : wpList P ops Q l a w := by
  cases hr : runOps P l a w with
  | none => rw [hr] at h; cases h
  | some r =>
    rw [hr] at h
    simp only [Option.map_some, Option.some.injEq, Prod.mk.injEq] at h
    obtain ⟨h1, h2, h3⟩ := h
    refine wpList_run l a w r hr ?_
    rw [h3]
    exact k _ h1 h2
set_option maxRecDepth 100000 in
set_option maxHeartbeats 4000000 in
theorem rows96 (w : World) : Calls Tryz.prog 207 #[] w fun e w' => e = .returned (.slice (some ⟨w.heap.size, 0, none⟩) 82 82) ∧ w.alloc (.cells CmdT.rowsC 171) = w' := by
  go_enter Tryz.func207, Tryz.ntmps207
  go_step
  apply wp_seq_k
  intro K1 hK1
  apply wp_region_lit
  refine wpList_run _ _ _ _ rfl ?_
  simp only [Exit.then]
  apply hK1
  apply wp_seq_k
  intro K2 hK2
  apply wp_region_list
  refine wpList_run0 (.slice (some ⟨w.heap.size, 0, none⟩) 82 82) (w.alloc (.cells CmdT.rowsC 171)) (by kernel_rfl) ?_
  intro a' h1 h2
  simp only [Exit.then]
  apply hK2
  clear hK1 hK2
  go_step
  exact bodyPost_ret (v := .slice (some ⟨w.heap.size, 0, none⟩) 82 82) (by simp [results, Tryz.results207, go_sem]; simpa using h1) h2 ⟨rfl, rfl⟩
end Go.Proofs.YticlacjpgjkhcaaGreatDoor

/- command.Find at any row of the table. -/
namespace Go.Proofs.YticlacjpgjkhcaaGreatDoor
open Go.ChangeShapes Go.WideShapes Go.ChangeAt Go.RowKit

/-- A block of seven cells that is known whole. -/
theorem cells7 {X : World} {b : Nat} {a0 a1 a2 a3 a4 a5 a6 : Value} {t : TypeId} (h : X.heap[b]? = some (.cells #[a0, a1, a2, a3, a4, a5, a6] t)) :
    (X.cell? ⟨b, 0, none⟩ = some a0 ∧ X.cell? ⟨b, 1, none⟩ = some a1 ∧ X.cell? ⟨b, 2, none⟩ = some a2 ∧ X.cell? ⟨b, 3, none⟩ = some a3 ∧ X.cell? ⟨b, 4, none⟩ = some a4 ∧ X.cell? ⟨b, 5, none⟩ = some a5 ∧ X.cell? ⟨b, 6, none⟩ = some a6) ∧
    (X.frozen? ⟨b, 0, none⟩ = false ∧ X.frozen? ⟨b, 1, none⟩ = false ∧ X.frozen? ⟨b, 2, none⟩ = false ∧ X.frozen? ⟨b, 3, none⟩ = false ∧ X.frozen? ⟨b, 4, none⟩ = false ∧ X.frozen? ⟨b, 5, none⟩ = false ∧ X.frozen? ⟨b, 6, none⟩ = false) ∧ b < X.heap.size := by
  refine ⟨⟨?_, ?_, ?_, ?_, ?_, ?_, ?_⟩, ⟨?_, ?_, ?_, ?_, ?_, ?_, ?_⟩, (Array.getElem?_eq_some_iff.1 h).1⟩ <;> simp [World.cell?, World.frozen?, h]
def zero7 : Array Value := #[.string ⟨#[]⟩, .int .i64 0, .int .i64 0, .bool false, .int .i64 0, .int .i64 0, .int .i64 0]
theorem row_cells {X : World} {R : Nat} (h : X.heap[R]? = some (.cells CmdT.rowsC 171)) (k : Nat) (r : CmdT.Row) (hk : CmdT.rowsT[k]? = some r) (j : Nat) (v : Value) (hv : (CmdT.rowC r)[j]? = some v) : X.cell? ⟨R, k * 7 + j, none⟩ = some v := by
  have := CmdT.rows_at k j r v hk hv
  simp [World.cell?, h, this]
theorem name_at {k : Nat} {r : CmdT.Row} (h : CmdT.rowsT[k]? = some r) : CmdT.nameAt k = r.1 := by unfold CmdT.nameAt; rw [List.getD, h]; rfl
set_option maxHeartbeats 4000000 in
theorem Find_at (K : Nat) (raw b0 : ByteArray) (b1 b2 : Int) (b3 : Bool) (b4 b5 b6 : Int) (l0 : List UInt8) (hl0 : b0 = ⟨l0.toArray⟩) (hK : CmdT.rowsT[K]? = some (l0, b1, b2, b3, b4, b5, b6))
    (hu : ∀ w, Calls Tryz.prog 96 #[.string raw] w fun e w' => e = .returned (.string b0) ∧ Below w.heap.size w w') (w : World) :
    Calls Tryz.prog 153 #[.string raw] w fun e w' => e = .returned (.tuple #[.agg #[.string b0, .int .i64 b1, .int .i64 b2, .bool b3, .int .i64 b4, .int .i64 b5, .int .i64 b6], .bool true]) ∧ Below w.heap.size w w' := by
  have U := Lib.hid hu
  have R := Lib.hid (fun w => rows96 w)
  have HK := Lib.hid hK
  have HL := Lib.hid hl0
  have hKl : K < 82 := by have := (List.getElem?_eq_some_iff.1 hK).1; rw [CmdT.rowsT_len] at this; exact this
  have HKL := Lib.hid hKl
  clear hu hK hl0 hKl
  go_enter Tryz.func153, Tryz.ntmps153
  go_wp2_with (first | (go_at_call 96; (with_reducible refine (U.out _).mono ?_); rintro e w1 ⟨rfl, hb1⟩; have HB1 := Lib.hid hb1; clear hb1) | (go_at_call 207; (with_reducible refine (R.out _).mono ?_); rintro e w2 ⟨rfl, hw2⟩; refine Hid.out ?_))
  obtain ⟨RR, hR⟩ : ∃ R, w1.heap.size = R := ⟨_, rfl⟩
  rw [hR]
  have hz1 : w1.heap[w.heap.size]? = some (.cells zero7 171) := blk_below (W := w.alloc (.cells zero7 171)) (heap_alloc_new w _) HB1.out
  have hz2 : w2.heap[w.heap.size]? = some (.cells zero7 171) := by rw [← hw2]; exact blk_below hz1 alloc_old
  have hz3 : w2.heap[RR]? = some (.cells CmdT.rowsC 171) := by rw [← hw2, ← hR]; exact heap_alloc_new w1 _
  have hlt1 : w.heap.size < w1.heap.size := (Array.getElem?_eq_some_iff.1 hz1).1
  have hz4 : Below w.heap.size w w2 := by
    rw [← hw2]
    exact ((Below.alloc (Below.refl _ _) (Nat.le_refl _) _).trans (HB1.out.mono (by simp))).alloc (by omega) _
  have HZ := Lib.hid (And.intro hz2 (And.intro hz3 hz4))
  clear hz1 hz2 hz3 hz4 hw2 hR hlt1
  refine Lib.hid ?_
  go_wp2_with fail
  go_loopw [10] (fun i wr => ∃ k : Nat, k ≤ K ∧ i = .int .i64 k ∧ Hid (wr.heap[w.heap.size]? = some (.cells zero7 171) ∧ wr.heap[RR]? = some (.cells CmdT.rowsC 171) ∧ Below w.heap.size w wr)) (fun i _ => 82 - (intOf i).toNat)
  case atStart => exact ⟨0, by omega, rfl, HZ⟩
  case round =>
    obtain ⟨k, hk, rfl, HQ⟩ := hrel
    have hkl := HKL.out
    have ik : (k : Int) < 82 := by omega
    obtain ⟨⟨x, a1, a2, a3, a4, a5, a6⟩, hrow⟩ : ∃ r, CmdT.rowsT[k]? = some r := ⟨_, List.getElem?_eq_getElem (by rw [CmdT.rowsT_len]; omega)⟩
    have hc0 := row_cells HQ.out.2.1 k _ hrow 0 _ rfl
    have hc1 := row_cells HQ.out.2.1 k _ hrow 1 _ rfl
    have hc2 := row_cells HQ.out.2.1 k _ hrow 2 _ rfl
    have hc3 := row_cells HQ.out.2.1 k _ hrow 3 _ rfl
    have hc4 := row_cells HQ.out.2.1 k _ hrow 4 _ rfl
    have hc5 := row_cells HQ.out.2.1 k _ hrow 5 _ rfl
    have hc6 := row_cells HQ.out.2.1 k _ hrow 6 _ rfl
    rw [Nat.add_zero] at hc0
    obtain ⟨a0, ha0⟩ : ∃ a0 : ByteArray, (⟨x.toArray⟩ : ByteArray) = a0 := ⟨_, rfl⟩
    simp only [ha0] at hc0
    by_cases hlt : k < K
    · have hne : ¬ a0.toList = b0.toList := by
        rw [← ha0, HL.out, ByteArray.toList_mk, ByteArray.toList_mk]
        have h1 := CmdT.name_ne HKL.out hlt
        rw [name_at hrow, name_at HK.out] at h1
        exact beq_eq_false_iff_ne.1 h1
      have hne2 : (a0.toList == b0.toList) = false := beq_eq_false_iff_ne.2 hne
      clear hrow ha0
      go_wp2
      have hsz : w.heap.size ≤ wr.heap.size := Below.size HQ.out.2.2
      exact ⟨⟨k + 1, by omega, by go_num, Lib.hid ⟨blk_below HQ.out.1 alloc_old, blk_below HQ.out.2.1 alloc_old, HQ.out.2.2.trans (alloc_old.mono hsz)⟩⟩, by simp [intOf]; omega⟩
    · have hkK : k = K := by omega
      subst hkK
      have hq := hrow.symm.trans HK.out
      cases hq
      have ha1 : b0 = a0 := HL.out.trans ha0
      subst ha1
      obtain ⟨⟨d0, d1, d2, d3, d4, d5, d6⟩, ⟨g0, g1, g2, g3, g4, g5, g6⟩, zz⟩ := cells7 HQ.out.1
      have BB := Lib.hid HQ.out.2.2
      have hsz := Lib.hid (Below.size HQ.out.2.2)
      clear hrow ha0 hlt
      go_wp2
      exact bodyPost_ret (v := .tuple #[.agg #[.string b0, .int .i64 b1, .int .i64 b2, .bool b3, .int .i64 b4, .int .i64 b5, .int .i64 b6], .bool true]) (by simp [results, Tryz.results153, go_sem, d0, d1, d2, d3, d4, d5, d6, zz]) rfl ⟨rfl, ((((((((BB.out.setCell (Nat.le_refl _) _).setCell (Nat.le_refl _) _).setCell (Nat.le_refl _) _).setCell (Nat.le_refl _) _).setCell (Nat.le_refl _) _).setCell (Nat.le_refl _) _).setCell (Nat.le_refl _) _).alloc (by simp; omega) _)⟩
end Go.Proofs.YticlacjpgjkhcaaGreatDoor

/- command.groups and Fits at the strings' commands. -/
namespace Go.Proofs.YticlacjpgjkhcaaGreatDoor
open Go.ChangeShapes Go.WideShapes Go.ChangeAt Go.RowKit

theorem groups_GET (n : Int) (w : World) : Calls Tryz.prog 154 #[.string ⟨#[71, 69, 84]⟩, .int .i64 n] w fun e w' => e = .returned (.bool true) ∧ Below w.heap.size w w' := by
  go_enter Tryz.func154, Tryz.ntmps154
  go_wp2
  go_ret
  exact ⟨rfl, Below.refl _ _⟩
/-- A command whose arguments fit. -/
theorem Fits_ok (K : Nat) (raw b0 : ByteArray) (b1 b2 : Int) (b3 : Bool) (b4 b5 b6 : Int) (l0 : List UInt8) (hl0 : b0 = ⟨l0.toArray⟩) (hK : CmdT.rowsT[K]? = some (l0, b1, b2, b3, b4, b5, b6))
    (hu : ∀ w, Calls Tryz.prog 96 #[.string raw] w fun e w' => e = .returned (.string b0) ∧ Below w.heap.size w w') (v : Value) (xs : List ByteArray) (hx : xs[0]? = some raw) (hlo : b1 ≤ (xs.length : Int)) (hhi : b2 ≤ 0 ∨ (xs.length : Int) ≤ b2)
    (hg : ∀ w, Calls Tryz.prog 154 #[.string b0, .int .i64 (xs.length : Nat)] w fun e w' => e = .returned (.bool true) ∧ Below w.heap.size w w') (w : World) (h : SSl w v xs) :
    Calls Tryz.prog 95 #[v] w fun e w' => e = .returned (.int .i64 0) ∧ Below w.heap.size w w' := by
  have F := Lib.hid (fun w => Find_at K raw b0 b1 b2 b3 b4 b5 b6 l0 hl0 hK hu w)
  have G := Lib.hid hg
  obtain ⟨A, cap, rfl, p1, p2, p3⟩ := h
  have hlt : 0 < xs.length := (List.getElem?_eq_some_iff.1 hx).1
  obtain ⟨blk, off, rfl, hb, hc⟩ := p3 (by intro e; rw [e] at hlt; simp at hlt)
  have d0 := hc 0 raw hx
  rw [Nat.add_zero] at d0
  unfold maxLen at p2
  have i0 : (0 : Int) < (xs.length : Int) := by omega
  have i1 : ((xs.length : Int) == 0) = false := by rw [beq_eq_false_iff_ne]; omega
  have i2 : ¬ (xs.length : Int) < b1 := by omega
  clear hc p3 hx hl0 hK hu hg
  by_cases h2 : 0 < b2
  · have i3 : ¬ b2 < (xs.length : Int) := by
      rcases hhi with h | h
      · exact absurd h2 (Int.not_lt.2 h)
      · exact Int.not_lt.2 h
    clear hhi
    go_enter Tryz.func95, Tryz.ntmps95
    go_wp2_with (first | (go_at_call 153; (with_reducible refine (F.out _).mono ?_); rintro e w1 ⟨rfl, h1⟩; have B1 := Lib.hid h1; clear h1) | (go_at_call 154; (with_reducible refine (G.out _).mono ?_); rintro e w2 ⟨rfl, h3⟩; have B2 := Lib.hid (belA B1.out h3); clear h3))
    go_ret
    exact ⟨by simp, B2.out⟩
  · clear hhi
    go_enter Tryz.func95, Tryz.ntmps95
    go_wp2_with (first | (go_at_call 153; (with_reducible refine (F.out _).mono ?_); rintro e w1 ⟨rfl, h1⟩; have B1 := Lib.hid h1; clear h1) | (go_at_call 154; (with_reducible refine (G.out _).mono ?_); rintro e w2 ⟨rfl, h3⟩; have B2 := Lib.hid (belA B1.out h3); clear h3))
    go_ret
    exact ⟨by simp, B2.out⟩
end Go.Proofs.YticlacjpgjkhcaaGreatDoor

/- command.Upper at any text. -/
namespace Go.Proofs.YticlacjpgjkhcaaGreatDoor
open Go.ChangeShapes Go.WideShapes Go.ChangeAt Go.RowKit

/-- k bytes are turned. -/
def mixF (s : ByteArray) (g : Nat → UInt8) (k : Nat) : Nat → UInt8 := fun j => if j < k then g j else byteAt s j
theorem mixF_store {w : World} {B : Nat} {s : ByteArray} {g : Nat → UInt8} {k : Nat} (h : OB w B s.size (mixF s g k)) (hk : k < s.size) (c : Value) (hc : c = .int .u8 ((g k).toNat : Int)) : OB (w.setCell ⟨B, k, none⟩ c) B s.size (mixF s g (k + 1)) := by
  subst hc
  refine (h.store k hk (g k)).congr fun j _ => ?_
  unfold mixF
  by_cases e : j = k
  · subst e; rw [if_pos rfl, if_pos (by omega)]
  · rw [if_neg e]
    by_cases e2 : j < k
    · rw [if_pos e2, if_pos (by omega)]
    · rw [if_neg e2, if_neg (by omega)]
theorem mixF_same {w : World} {B : Nat} {s : ByteArray} {g : Nat → UInt8} {k : Nat} (h : OB w B s.size (mixF s g k)) (hg : g k = byteAt s k) : OB w B s.size (mixF s g (k + 1)) := by
  refine h.congr fun j _ => ?_
  unfold mixF
  by_cases e : j = k
  · subst e; rw [if_neg (by omega), if_pos (by omega), hg]
  · by_cases e2 : j < k
    · rw [if_pos e2, if_pos (by omega)]
    · rw [if_neg e2, if_neg (by omega)]
theorem mixF_all {w : World} {B : Nat} {s : ByteArray} {g : Nat → UInt8} (h : OB w B s.size (mixF s g s.size)) : OB w B s.size g := h.congr fun j hj => by unfold mixF; rw [if_pos hj]
def upB (c : UInt8) : UInt8 := if 97 ≤ c.toNat ∧ c.toNat ≤ 122 then UInt8.ofNat (c.toNat - 32) else c
def upAt (s : ByteArray) (j : Nat) : UInt8 := upB (byteAt s j)
/-- A text with great letters. -/
def upT (s : ByteArray) : ByteArray := ⟨((List.range s.size).map (upAt s)).toArray⟩
set_option maxHeartbeats 2000000 in
theorem UpperG (s : ByteArray) (hs : s.size ≤ 100) (w : World) : Calls Tryz.prog 96 #[.string s] w fun e w' => e = .returned (.string (upT s)) ∧ Below w.heap.size w w' := by
  have hcv := conv_sb
  have H0 := Lib.hid (OB.new w s)
  have HB := Lib.hid (Lib.bytesWorld_below w 5 s)
  have hc1 := grownCap_ge w s.size 0 5
  have hc2 := grownCap_le_maxLen w s.size 0 5 (by unfold maxLen; omega)
  unfold maxLen at hc2
  go_enter Tryz.func96, Tryz.ntmps96
  go_wp2_with fail
  generalize grownCap w s.size 0 5 = C at hc1 hc2 ⊢
  generalize Lib.bytesWorld w 5 s = W1 at H0 HB ⊢
  go_loopw [10] (fun i wr => ∃ k : Nat, k ≤ s.size ∧ i = .int .i64 k ∧ Hid (OB wr w.heap.size s.size (mixF s (upAt s) k) ∧ Below w.heap.size w wr)) (fun i _ => s.size - (intOf i).toNat)
  case atStart => exact ⟨0, Nat.zero_le _, rfl, Lib.hid ⟨H0.out.congr fun j _ => by unfold mixF; rw [if_neg (by omega)], HB.out⟩⟩
  case round =>
    obtain ⟨k, hk, rfl, HR⟩ := hrel
    by_cases hlt : k < s.size
    · obtain ⟨d0, d1⟩ := HR.out.1.2 k hlt
      have e0 : mixF s (upAt s) k k = byteAt s k := by unfold mixF; rw [if_neg (by omega)]
      rw [e0] at d0
      clear e0
      have i0 : (k : Int) < (s.size : Int) := by omega
      have hb := (byteAt s k).toNat_lt
      by_cases h1 : 97 ≤ (byteAt s k).toNat
      · by_cases h2 : (byteAt s k).toNat ≤ 122
        · have hu : ((upAt s k).toNat : Int) = ((byteAt s k).toNat : Int) - 32 := by
            unfold upAt upB
            rw [if_pos ⟨h1, h2⟩, UInt8.toNat_ofNat']; omega
          have HU := Lib.hid hu
          have i1 : (97 : Int) ≤ ((byteAt s k).toNat : Int) := by omega
          have i2 : ((byteAt s k).toNat : Int) ≤ 122 := by omega
          have q1 : IntKind.u8.wrap (((byteAt s k).toNat : Int) - 32) = ((byteAt s k).toNat : Int) - 32 := IntWalk.u8_in _ (by omega)
          clear hu
          generalize ((byteAt s k).toNat : Int) = c at d0 i1 i2 q1 HU h1 h2
          go_wp2
          exact ⟨⟨k + 1, by omega, by go_num, Lib.hid ⟨mixF_store HR.out.1 hlt _ (by rw [HU.out]), HR.out.2.setCell (Nat.le_refl _) _⟩⟩, by simp [intOf]; omega⟩
        · have hu : upAt s k = byteAt s k := by unfold upAt upB; rw [if_neg (by omega)]
          have HU := Lib.hid hu
          have i1 : (97 : Int) ≤ ((byteAt s k).toNat : Int) := by omega
          have i2 : ¬ ((byteAt s k).toNat : Int) ≤ 122 := by omega
          clear hu
          generalize ((byteAt s k).toNat : Int) = c at d0 i1 i2 h1 h2
          go_wp2
          exact ⟨⟨k + 1, by omega, by go_num, Lib.hid ⟨mixF_same HR.out.1 HU.out, HR.out.2⟩⟩, by simp [intOf]; omega⟩
      · have hu : upAt s k = byteAt s k := by unfold upAt upB; rw [if_neg (by omega)]
        have HU := Lib.hid hu
        have i1 : ¬ (97 : Int) ≤ ((byteAt s k).toNat : Int) := by omega
        clear hu
        generalize ((byteAt s k).toNat : Int) = c at d0 i1 h1
        go_wp2
        exact ⟨⟨k + 1, by omega, by go_num, Lib.hid ⟨mixF_same HR.out.1 HU.out, HR.out.2⟩⟩, by simp [intOf]; omega⟩
    · have hkl : k = s.size := by omega
      subst hkl
      have hcb := (mixF_all HR.out.1).back C
      have i0 : ¬ (s.size : Int) < (s.size : Int) := by omega
      go_wp2
      go_ret
      exact ⟨by simp [upT], HR.out.2⟩
end Go.Proofs.YticlacjpgjkhcaaGreatDoor
