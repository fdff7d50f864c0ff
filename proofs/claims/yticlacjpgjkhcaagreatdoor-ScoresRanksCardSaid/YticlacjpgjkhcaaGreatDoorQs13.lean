/- Texts joined: H1, S1, S2, H2, H3 -/
import Derived.Test.YticlacjpgjkhcaaGreatDoorQs12
set_option linter.unusedVariables false
set_option linter.unusedSimpArgs false

/- Fields by names as data: the sorted list of an association. -/
namespace Go.Proofs.YticlacjpgjkhcaaGreatDoor
open Go.ChangeShapes Go.WideShapes Go.ChangeAt Go.RowKit

/-- A text's bytes. -/
def bl (s : ByteArray) : List UInt8 := s.data.toList
theorem bl_inj {s t : ByteArray} (h : bl s = bl t) : s = t := Go.WideShapes.bytes_inj h
def leN (a b : ByteArray) : Bool := decide (bl a ≤ bl b)
/-- Names, sorted. -/
def srtN (ns : List ByteArray) : List ByteArray := ns.mergeSort leN
theorem leN_trans (a b c : ByteArray) (h1 : leN a b = true) (h2 : leN b c = true) : leN a c = true := by
  simp only [leN, decide_eq_true_eq] at h1 h2 ⊢
  exact List.le_trans h1 h2
theorem leN_total (a b : ByteArray) : (leN a b || leN b a) = true := by
  simp only [leN, Bool.or_eq_true, decide_eq_true_eq]
  exact List.le_total _ _
theorem leN_anti {a b : ByteArray} (h1 : leN a b = true) (h2 : leN b a = true) : a = b := by
  simp only [leN, decide_eq_true_eq] at h1 h2
  exact bl_inj (List.le_antisymm h1 h2)
theorem srtN_perm (ns : List ByteArray) : (srtN ns).Perm ns := List.mergeSort_perm ns leN
theorem srtN_len (ns : List ByteArray) : (srtN ns).length = ns.length := (srtN_perm ns).length_eq
theorem srtN_mem (ns : List ByteArray) (a : ByteArray) : a ∈ srtN ns ↔ a ∈ ns := (srtN_perm ns).mem_iff
theorem srtN_pair (ns : List ByteArray) : (srtN ns).Pairwise (fun a b => leN a b = true) := List.pairwise_mergeSort leN_trans leN_total ns
theorem srtN_map (ns : List ByteArray) : (srtN ns).map bl = (ns.map bl).mergeSort (fun x y => decide (x ≤ y)) := List.map_mergeSort (fun _ _ _ _ => rfl)
theorem srtN_of (ns : List ByteArray) (h : ns.Pairwise (fun a b => leN a b = true)) : srtN ns = ns := List.mergeSort_of_pairwise h
theorem srtN_eq {ns ms : List ByteArray} (h : ns.Perm ms) : srtN ns = srtN ms := by
  refine List.Perm.eq_of_pairwise (fun a b _ _ h1 h2 => leN_anti h1 h2) (srtN_pair ns) (srtN_pair ms) ?_
  exact (srtN_perm ns).trans (h.trans (srtN_perm ms).symm)
section
variable {α : Type}
def namesD (D : List (ByteArray × α)) : List ByteArray := D.map Prod.fst
theorem findD_putD (k : ByteArray) (x : α) (q : ByteArray) : ∀ (D : List (ByteArray × α)), findD q (putD k x D) = if k = q then some x else findD q D
  | [] => by simp [putD, findD]
  | (y, v) :: r => by
    by_cases hy : y = k
    · subst hy
      simp only [putD, if_true, findD]
      by_cases hq : y = q <;> simp [hq]
    · simp only [putD, hy, if_false, findD, findD_putD k x q r]
      by_cases hq : y = q
      · subst hq
        have : ¬ k = y := fun e => hy e.symm
        simp [this]
      · simp [hq]
theorem names_put_in (k : ByteArray) (x : α) : ∀ (D : List (ByteArray × α)), k ∈ namesD D → namesD (putD k x D) = namesD D
  | [], h => by cases h
  | (y, v) :: r, h => by
    by_cases hy : y = k
    · subst hy
      simp [putD, namesD]
    · have hk : ¬ k = y := fun e => hy e.symm
      have hm : k ∈ namesD r := (List.mem_cons.1 h).resolve_left hk
      simp only [putD, hy, if_false]
      exact congrArg (y :: ·) (names_put_in k x r hm)
theorem names_put_new (k : ByteArray) (x : α) : ∀ (D : List (ByteArray × α)), k ∉ namesD D → namesD (putD k x D) = namesD D ++ [k]
  | [], _ => rfl
  | (y, v) :: r, h => by
    have hy : ¬ y = k := by
      rintro rfl
      exact h List.mem_cons_self
    simp only [putD, hy, if_false]
    exact congrArg (y :: ·) (names_put_new k x r fun e => h (List.mem_cons_of_mem _ e))
theorem names_delD (k : ByteArray) : ∀ (D : List (ByteArray × α)), (namesD (delD k D)).Sublist (namesD D)
  | [] => List.Sublist.refl _
  | (y, v) :: r => by
    show (namesD (if y = k then r else (y, v) :: delD k r)).Sublist (y :: namesD r)
    by_cases hy : y = k
    · rw [if_pos hy]
      exact List.sublist_cons_self _ _
    · rw [if_neg hy]
      exact (names_delD k r).cons_cons y
theorem mem_names {k : ByteArray} : ∀ {D : List (ByteArray × α)}, k ∈ namesD D ↔ (findD k D).isSome = true
  | [] => by simp [namesD, findD]
  | (y, v) :: r => by
    have ih := mem_names (k := k) (D := r)
    show k ∈ y :: namesD r ↔ (if y = k then some v else findD k r).isSome = true
    by_cases hy : y = k
    · subst hy
      simp
    · have hk : ¬ k = y := fun e => hy e.symm
      simp [hy, hk, ih]
theorem nd_putD {k : ByteArray} {x : α} {D : List (ByteArray × α)} (h : (namesD D).Nodup) : (namesD (putD k x D)).Nodup := by
  by_cases hm : k ∈ namesD D
  · rw [names_put_in k x D hm]
    exact h
  · rw [names_put_new k x D hm, List.nodup_append]
    exact ⟨h, by simp, fun a ha b hb => by
      simp at hb
      subst hb
      rintro rfl
      exact hm ha⟩
theorem nd_delD {k : ByteArray} {D : List (ByteArray × α)} (h : (namesD D).Nodup) : (namesD (delD k D)).Nodup := h.sublist (names_delD k D)
theorem findD_delD {k : ByteArray} (q : ByteArray) : ∀ {D : List (ByteArray × α)}, (namesD D).Nodup → findD q (delD k D) = if k = q then none else findD q D
  | [], _ => by simp [delD, findD]
  | (y, v) :: r, h => by
    have h' : y ∉ namesD r ∧ (namesD r).Nodup := List.nodup_cons.1 h
    have ih := findD_delD (k := k) q h'.2
    by_cases hy : y = k
    · subst hy
      simp only [delD, if_true, findD]
      by_cases hq : y = q
      · subst hq
        simp only [if_true]
        cases hf : findD y r with
        | none => rfl
        | some z => exact absurd (mem_names.2 (by rw [hf]; rfl)) h'.1
      · simp [hq]
    · simp only [delD, hy, if_false, findD, ih]
      by_cases hq : y = q
      · subst hq
        have : ¬ k = y := fun e => hy e.symm
        simp [this]
      · simp [hq]
theorem perm_names {D D' : List (ByteArray × α)} (h : (namesD D).Nodup) (h' : (namesD D').Nodup) (he : ∀ n, findD n D = findD n D') : (namesD D).Perm (namesD D') :=
  (List.perm_ext_iff_of_nodup h h').2 fun a => by rw [mem_names, mem_names, he]
theorem findD_none_of {k : ByteArray} {D : List (ByteArray × α)} (h : k ∉ namesD D) : findD k D = none := by
  cases hf : findD k D with
  | none => rfl
  | some z => exact absurd (mem_names.2 (by rw [hf]; rfl)) h
theorem findD_of_mem {k : ByteArray} {x : α} : ∀ {D : List (ByteArray × α)}, (namesD D).Nodup → (k, x) ∈ D → findD k D = some x
  | [], _, h => by cases h
  | (y, v) :: r, hn, h => by
    have h' : y ∉ namesD r ∧ (namesD r).Nodup := List.nodup_cons.1 hn
    rcases List.mem_cons.1 h with e | e
    · cases e
      simp [findD]
    · have : ¬ y = k := by
        rintro rfl
        exact h'.1 (List.mem_map.2 ⟨(y, x), e, rfl⟩)
      simp [findD, this, findD_of_mem h'.2 e]
theorem len_names (D : List (ByteArray × α)) : (namesD D).length = D.length := by simp [namesD]
end
/-- Fields, sorted by names. -/
def srtF (D : List (ByteArray × ByteArray)) : List (ByteArray × ByteArray) := (srtN (namesD D)).map fun n => (n, (findD n D).getD ⟨#[]⟩)
theorem names_map (f : ByteArray → ByteArray) (ns : List ByteArray) : namesD (ns.map fun n => (n, f n)) = ns := by
  unfold namesD
  rw [List.map_map]
  exact List.map_id ns
theorem names_srtF (D : List (ByteArray × ByteArray)) : namesD (srtF D) = srtN (namesD D) := names_map _ _
theorem len_srtF (D : List (ByteArray × ByteArray)) : (srtF D).length = D.length := by simp [srtF, srtN_len, len_names]
theorem nd_srtF {D : List (ByteArray × ByteArray)} (h : (namesD D).Nodup) : (namesD (srtF D)).Nodup := by
  rw [names_srtF]
  exact (srtN_perm _).nodup_iff.2 h
theorem findD_map (f : ByteArray → ByteArray) (k : ByteArray) : ∀ ns : List ByteArray, k ∈ ns → findD k (ns.map fun n => (n, f n)) = some (f k)
  | [], h => by cases h
  | n :: r, h => by
    by_cases hn : n = k
    · subst hn
      simp [findD]
    · have hk : ¬ k = n := fun e => hn e.symm
      simp only [List.map_cons, findD, hn, if_false]
      exact findD_map f k r ((List.mem_cons.1 h).resolve_left hk)
theorem findD_srtF (D : List (ByteArray × ByteArray)) (k : ByteArray) : findD k (srtF D) = findD k D := by
  by_cases h : k ∈ namesD D
  · unfold srtF
    rw [findD_map _ k _ ((srtN_mem _ _).2 h)]
    have := mem_names.1 h
    cases hf : findD k D with
    | none => rw [hf] at this; cases this
    | some z => rfl
  · rw [findD_none_of h, findD_none_of (by rw [names_srtF, srtN_mem]; exact h)]
theorem srtF_ext {D D' : List (ByteArray × ByteArray)} (h : (namesD D).Nodup) (h' : (namesD D').Nodup) (he : ∀ n, findD n D = findD n D') : srtF D = srtF D' := by
  unfold srtF
  rw [srtN_eq (perm_names h h' he)]
  exact List.map_congr_left fun a _ => by rw [he]
/-- Fields that rise by names. -/
def Rises (D : List (ByteArray × ByteArray)) : Prop := (namesD D).Pairwise fun a b => leN a b = true
theorem rises_srtF (D : List (ByteArray × ByteArray)) : Rises (srtF D) := by
  unfold Rises
  rw [names_srtF]
  exact srtN_pair _
theorem srtF_of {D : List (ByteArray × ByteArray)} (h : (namesD D).Nodup) (hr : Rises D) : srtF D = D := by
  unfold srtF
  rw [srtN_of _ hr]
  unfold namesD
  rw [List.map_map]
  conv => rhs; rw [← List.map_id D]
  refine List.map_congr_left fun p hp => ?_
  show (p.1, (findD p.1 D).getD ⟨#[]⟩) = p
  rw [findD_of_mem h (x := p.2) hp]
  rfl
theorem srtF_put {D : List (ByteArray × ByteArray)} (h : (namesD D).Nodup) (k v : ByteArray) : srtF (putD k v (srtF D)) = srtF (putD k v D) :=
  srtF_ext (nd_putD (nd_srtF h)) (nd_putD h) fun n => by rw [findD_putD, findD_putD, findD_srtF]
end Go.Proofs.YticlacjpgjkhcaaGreatDoor

/- A skip list as data: what stands on one level. -/
namespace Go.Proofs.YticlacjpgjkhcaaGreatDoor
open Go.ChangeShapes Go.WideShapes Go.ChangeAt Go.RowKit

/-- A node: its score, how high it is, where it stands. -/
structure Nd where
  name : ByteArray
  score : Int
  h : Nat
  a : Nat
  nx : Nat
  wd : Nat
/-- The first node behind that is on a level. -/
def fstN (k : Nat) : List Nd → Option Nd
  | [] => none
  | y :: T => if k < y.h then some y else fstN k T
/-- How far away it is, or the end. -/
def dstN (k : Nat) : List Nd → Nat
  | [] => 0
  | y :: T => if k < y.h then 1 else dstN k T + 1
theorem fstN_skip (k : Nat) : ∀ (T B : List Nd), (∀ z ∈ T, ¬ k < z.h) → fstN k (T ++ B) = fstN k B ∧ dstN k (T ++ B) = T.length + dstN k B
  | [], _, _ => ⟨rfl, by simp⟩
  | z :: T, B, h => by
    have hz := h z (by simp)
    obtain ⟨h1, h2⟩ := fstN_skip k T B fun u hu => h u (by simp [hu])
    simp only [List.cons_append, fstN, dstN, hz, if_false, h1, h2, List.length_cons]
    exact ⟨trivial, by omega⟩
theorem fstN_hit (k : Nat) : ∀ (T B C : List Nd), (∃ z ∈ T, k < z.h) → fstN k (T ++ B) = fstN k (T ++ C) ∧ dstN k (T ++ B) = dstN k (T ++ C)
  | [], _, _, h => by obtain ⟨z, hz, _⟩ := h; cases hz
  | y :: T, B, C, h => by
    by_cases hy : k < y.h
    · simp [fstN, dstN, hy]
    · obtain ⟨z, hz, hk⟩ := h
      have hz' : z ∈ T := (List.mem_cons.1 hz).resolve_left (by rintro rfl; exact hy hk)
      obtain ⟨h1, h2⟩ := fstN_hit k T B C ⟨z, hz', hk⟩
      simp [fstN, dstN, hy, h1, h2]
theorem fstN_some {k : Nat} : ∀ {T : List Nd} {z : Nd}, fstN k T = some z → ∃ P Q, T = P ++ z :: Q ∧ (∀ u ∈ P, ¬ k < u.h) ∧ k < z.h ∧ dstN k T = P.length + 1
  | [], _, h => by cases h
  | y :: T, z, h => by
    by_cases hy : k < y.h
    · simp [fstN, hy] at h
      subst h
      exact ⟨[], T, rfl, fun _ hu => (by cases hu), hy, by simp [dstN, hy]⟩
    · simp [fstN, hy] at h
      obtain ⟨P, Q, rfl, h1, h2, h3⟩ := fstN_some h
      refine ⟨y :: P, Q, rfl, fun u hu => ?_, h2, by simp [dstN, hy, h3]⟩
      rcases List.mem_cons.1 hu with rfl | hu
      · exact hy
      · exact h1 u hu
theorem fstN_none {k : Nat} : ∀ {T : List Nd}, fstN k T = none → (∀ u ∈ T, ¬ k < u.h) ∧ dstN k T = T.length
  | [], _ => ⟨fun _ hu => (by cases hu), rfl⟩
  | y :: T, h => by
    by_cases hy : k < y.h
    · simp [fstN, hy] at h
    · simp [fstN, hy] at h
      obtain ⟨h1, h2⟩ := fstN_none h
      refine ⟨fun u hu => ?_, by simp [dstN, hy, h2]⟩
      rcases List.mem_cons.1 hu with rfl | hu
      · exact hy
      · exact h1 u hu
/-- What a level's nodes hold: what follows, and how far away it is. -/
def Lv (k : Nat) (nf : Nd → Option Nd) (wf : Nd → Int) : List Nd → Prop
  | [] => True
  | y :: T => (k < y.h → nf y = fstN k T ∧ wf y = dstN k T) ∧ Lv k nf wf T
theorem Lv.at {k : Nat} {nf : Nd → Option Nd} {wf : Nd → Int} {y : Nd} {T : List Nd} : ∀ {P : List Nd}, Lv k nf wf (P ++ y :: T) → k < y.h → nf y = fstN k T ∧ wf y = dstN k T
  | [], h, hk => h.1 hk
  | _ :: _, h, hk => Lv.at h.2 hk
theorem Lv.congr {k : Nat} {nf nf' : Nd → Option Nd} {wf wf' : Nd → Int} : ∀ {L : List Nd}, Lv k nf wf L → (∀ y ∈ L, nf' y = nf y ∧ wf' y = wf y) → Lv k nf' wf' L
  | [], _, _ => trivial
  | y :: T, h, hc => by
    refine ⟨fun hk => ?_, Lv.congr h.2 fun u hu => hc u (by simp [hu])⟩
    rw [(hc y (by simp)).1, (hc y (by simp)).2]
    exact h.1 hk
/-- A node is put in behind L0, whose last node on the level is y. -/
theorem Lv.ins {k : Nat} {nf nf' : Nd → Option Nd} {wf wf' : Nd → Int} {x y : Nd} {T B : List Nd} (hT : ∀ z ∈ T, ¬ k < z.h) (hy : k < y.h)
    (hB : ∀ z ∈ B, nf' z = nf z ∧ wf' z = wf z)
    (hx : k < x.h → nf' y = some x ∧ wf' y = T.length + 1 ∧ nf' x = nf y ∧ wf' x = wf y - T.length) (hx' : ¬ k < x.h → nf' y = nf y ∧ wf' y = wf y + 1) :
    ∀ {P : List Nd}, (∀ z ∈ P, nf' z = nf z ∧ wf' z = wf z) → Lv k nf wf (P ++ y :: (T ++ B)) → Lv k nf' wf' (P ++ y :: (T ++ x :: B))
  | [], _, h => by
    obtain ⟨h1, h2⟩ := h
    obtain ⟨h3, h4⟩ := h1 hy
    obtain ⟨e1, e2⟩ := fstN_skip k T B hT
    obtain ⟨g1, g2⟩ := fstN_skip k T (x :: B) hT
    rw [e1] at h3
    rw [e2] at h4
    have hB' : Lv k nf' wf' B := by
      have : ∀ {T : List Nd}, Lv k nf wf (T ++ B) → Lv k nf wf B := by
        intro T
        induction T with
        | nil => exact id
        | cons z T ih => exact fun h => ih h.2
      exact (this h2).congr hB
    have hxB : Lv k nf' wf' (x :: B) := by
      refine ⟨fun hk => ?_, hB'⟩
      obtain ⟨_, _, a3, a4⟩ := hx hk
      rw [a3, a4, h3, h4]
      exact ⟨rfl, by omega⟩
    have hTB : ∀ {T : List Nd}, (∀ z ∈ T, ¬ k < z.h) → Lv k nf' wf' (T ++ x :: B) := by
      intro T
      induction T with
      | nil => exact fun _ => hxB
      | cons z T ih => exact fun h => ⟨fun hk => absurd hk (h z (by simp)), ih fun u hu => h u (by simp [hu])⟩
    refine ⟨fun _ => ?_, hTB hT⟩
    rw [g1, g2]
    by_cases hk : k < x.h
    · obtain ⟨a1, a2, _⟩ := hx hk
      rw [a1, a2]
      simp [fstN, dstN, hk]
    · obtain ⟨a1, a2⟩ := hx' hk
      rw [a1, a2, h3, h4]
      simp only [fstN, dstN, hk, if_false]
      exact ⟨trivial, by omega⟩
  | z :: P, hP, h => by
    refine ⟨fun hk => ?_, Lv.ins hT hy hB hx hx' (fun u hu => hP u (by simp [hu])) h.2⟩
    obtain ⟨h3, h4⟩ := h.1 hk
    rw [(hP z (by simp)).1, (hP z (by simp)).2, h3, h4]
    have e := fstN_hit k (P ++ [y]) (T ++ B) (T ++ x :: B) ⟨y, by simp, hy⟩
    simp only [List.append_assoc, List.singleton_append] at e
    exact ⟨e.1, congrArg (fun n : Nat => (n : Int)) e.2⟩
/-- A node is taken out behind L0, whose last node on the level is y. -/
theorem Lv.rem {k : Nat} {nf nf' : Nd → Option Nd} {wf wf' : Nd → Int} {x y : Nd} {T B : List Nd} (hT : ∀ z ∈ T, ¬ k < z.h) (hy : k < y.h)
    (hB : ∀ z ∈ B, nf' z = nf z ∧ wf' z = wf z)
    (hx : k < x.h → nf' y = nf x ∧ wf' y = wf y + wf x - 1) (hx' : ¬ k < x.h → nf' y = nf y ∧ wf' y = wf y - 1) :
    ∀ {P : List Nd}, (∀ z ∈ P, nf' z = nf z ∧ wf' z = wf z) → Lv k nf wf (P ++ y :: (T ++ x :: B)) → Lv k nf' wf' (P ++ y :: (T ++ B))
  | [], _, h => by
    obtain ⟨h1, h2⟩ := h
    obtain ⟨h3, h4⟩ := h1 hy
    obtain ⟨g1, g2⟩ := fstN_skip k T B hT
    obtain ⟨e1, e2⟩ := fstN_skip k T (x :: B) hT
    rw [e1] at h3
    rw [e2] at h4
    have hxB : Lv k nf wf (x :: B) := by
      have : ∀ {T : List Nd}, Lv k nf wf (T ++ x :: B) → Lv k nf wf (x :: B) := by
        intro T
        induction T with
        | nil => exact id
        | cons z T ih => exact fun h => ih h.2
      exact this h2
    have hTB : ∀ {T : List Nd}, (∀ z ∈ T, ¬ k < z.h) → Lv k nf' wf' (T ++ B) := by
      intro T
      induction T with
      | nil => exact fun _ => hxB.2.congr hB
      | cons z T ih => exact fun h => ⟨fun hk => absurd hk (h z (by simp)), ih fun u hu => h u (by simp [hu])⟩
    refine ⟨fun _ => ?_, hTB hT⟩
    rw [g1, g2]
    by_cases hk : k < x.h
    · obtain ⟨a1, a2⟩ := hx hk
      obtain ⟨b1, b2⟩ := hxB.1 hk
      rw [a1, a2, b1, b2, h4]
      simp only [dstN, hk, if_true]
      exact ⟨trivial, by omega⟩
    · obtain ⟨a1, a2⟩ := hx' hk
      rw [a1, a2, h3, h4]
      simp only [fstN, dstN, hk, if_false]
      exact ⟨trivial, by omega⟩
  | z :: P, hP, h => by
    refine ⟨fun hk => ?_, Lv.rem hT hy hB hx hx' (fun u hu => hP u (by simp [hu])) h.2⟩
    obtain ⟨h3, h4⟩ := h.1 hk
    rw [(hP z (by simp)).1, (hP z (by simp)).2, h3, h4]
    have e := fstN_hit k (P ++ [y]) (T ++ x :: B) (T ++ B) ⟨y, by simp, hy⟩
    simp only [List.append_assoc, List.singleton_append] at e
    exact ⟨e.1, congrArg (fun n : Nat => (n : Int)) e.2⟩
/-- The last node of a level. -/
theorem last_on (k : Nat) : ∀ (L : List Nd), (∃ z ∈ L, k < z.h) → ∃ P y T, L = P ++ y :: T ∧ k < y.h ∧ ∀ z ∈ T, ¬ k < z.h
  | [], h => by obtain ⟨z, hz, _⟩ := h; cases hz
  | y :: T, h => by
    by_cases hT : ∃ z ∈ T, k < z.h
    · obtain ⟨P, u, Q, rfl, h1, h2⟩ := last_on k T hT
      exact ⟨y :: P, u, Q, rfl, h1, h2⟩
    · obtain ⟨z, hz, hk⟩ := h
      rcases List.mem_cons.1 hz with rfl | hz
      · exact ⟨[], z, T, rfl, hk, fun u hu hk => hT ⟨u, hu, hk⟩⟩
      · exact absurd ⟨z, hz, hk⟩ hT
end Go.Proofs.YticlacjpgjkhcaaGreatDoor

/- Scores as data: names by scores, in order. -/
namespace Go.Proofs.YticlacjpgjkhcaaGreatDoor
open Go.ChangeShapes Go.WideShapes Go.ChangeAt Go.RowKit

/-- One score is ahead of another: by score, then by name. -/
def ltZ (a b : ByteArray × Int) : Bool := decide (a.2 < b.2) || (decide (a.2 = b.2) && decide (bl a.1 < bl b.1))
theorem ltZ_iff {a b : ByteArray × Int} : ltZ a b = true ↔ a.2 < b.2 ∨ (a.2 = b.2 ∧ bl a.1 < bl b.1) := by simp [ltZ]
theorem ltZ_trans {a b c : ByteArray × Int} (h1 : ltZ a b = true) (h2 : ltZ b c = true) : ltZ a c = true := by
  rw [ltZ_iff] at h1 h2 ⊢
  rcases h1 with h1 | ⟨h1, g1⟩ <;> rcases h2 with h2 | ⟨h2, g2⟩
  · exact .inl (by omega)
  · exact .inl (by omega)
  · exact .inl (by omega)
  · exact .inr ⟨by omega, List.lt_trans g1 g2⟩
theorem ltZ_irrefl (a : ByteArray × Int) : ltZ a a = false := by
  cases h : ltZ a a with
  | false => rfl
  | true =>
    rcases ltZ_iff.1 h with h | ⟨_, h⟩
    · omega
    · exact absurd h (List.lt_irrefl _)
theorem ltZ_asymm {a b : ByteArray × Int} (h : ltZ a b = true) : ltZ b a = false := by
  cases h2 : ltZ b a with
  | false => rfl
  | true => have := ltZ_trans h h2; rw [ltZ_irrefl] at this; cases this
theorem ltZ_total {a b : ByteArray × Int} (h : a ≠ b) (h1 : ltZ a b = false) : ltZ b a = true := by
  rw [ltZ_iff]
  have h1' : ¬ (a.2 < b.2 ∨ (a.2 = b.2 ∧ bl a.1 < bl b.1)) := fun e => by rw [ltZ_iff.2 e] at h1; cases h1
  rcases Int.lt_trichotomy b.2 a.2 with g | g | g
  · exact .inl g
  · refine .inr ⟨g, ?_⟩
    have g1 : ¬ bl a.1 < bl b.1 := fun e => h1' (.inr ⟨g.symm, e⟩)
    have g2 : bl b.1 ≤ bl a.1 := List.not_lt.1 g1
    by_cases g3 : bl b.1 < bl a.1
    · exact g3
    · have g4 : bl a.1 ≤ bl b.1 := List.not_lt.1 g3
      exact absurd (Prod.ext (bl_inj (List.le_antisymm g4 g2)) g.symm) h
  · exact absurd (.inl g) h1'
/-- Scores in order. -/
def Ord (Z : List (ByteArray × Int)) : Prop := Z.Pairwise fun a b => ltZ a b = true
def loZ (p : ByteArray × Int) (Z : List (ByteArray × Int)) : List (ByteArray × Int) := Z.filter fun q => ltZ q p
def hiZ (p : ByteArray × Int) (Z : List (ByteArray × Int)) : List (ByteArray × Int) := Z.filter fun q => !ltZ q p
theorem Ord.split (p : ByteArray × Int) : ∀ {Z : List (ByteArray × Int)}, Ord Z → Z = loZ p Z ++ hiZ p Z
  | [], _ => rfl
  | a :: Z, h => by
    obtain ⟨h1, h2⟩ := List.pairwise_cons.1 h
    have ih := Ord.split p h2
    unfold loZ hiZ at ih ⊢
    cases ha : ltZ a p with
    | true =>
      rw [List.filter_cons_of_pos (by simpa using ha), List.filter_cons_of_neg (by simp [ha]), List.cons_append, ← ih]
    | false =>
      have hz : Z.filter (fun q => ltZ q p) = [] := by
        rw [List.filter_eq_nil_iff]
        intro b hb hbp
        have := ltZ_trans (h1 b hb) hbp
        rw [ha] at this
        cases this
      rw [List.filter_cons_of_neg (by simp [ha]), List.filter_cons_of_pos (by simp [ha]), hz]
      rw [hz, List.nil_append] at ih
      exact congrArg (a :: ·) ih
theorem Ord.of_append {A B : List (ByteArray × Int)} (h : Ord (A ++ B)) : Ord A ∧ Ord B ∧ ∀ a ∈ A, ∀ b ∈ B, ltZ a b = true := List.pairwise_append.1 h
/-- A score is put in. -/
def insZ (p : ByteArray × Int) (Z : List (ByteArray × Int)) : List (ByteArray × Int) := loZ p Z ++ p :: hiZ p Z
theorem mem_insZ {p q : ByteArray × Int} {Z : List (ByteArray × Int)} : q ∈ insZ p Z ↔ q = p ∨ q ∈ Z := by
  unfold insZ loZ hiZ
  simp only [List.mem_append, List.mem_cons, List.mem_filter]
  cases h : ltZ q p <;> simp [or_comm]
theorem Ord.ins {p : ByteArray × Int} {Z : List (ByteArray × Int)} (h : Ord Z) (hp : p ∉ Z) : Ord (insZ p Z) := by
  have hs := h.split p
  have h' := h
  rw [hs] at h'
  obtain ⟨h1, h2, h3⟩ := h'.of_append
  refine List.pairwise_append.2 ⟨h1, List.pairwise_cons.2 ⟨fun b hb => ?_, h2⟩, fun a ha b hb => ?_⟩
  · have hb' := List.mem_filter.1 hb
    refine ltZ_total (fun e => hp (e ▸ hb'.1)) (by simpa using hb'.2)
  · rcases List.mem_cons.1 hb with rfl | hb
    · exact (List.mem_filter.1 ha).2
    · exact h3 a ha b hb
theorem Ord.nodup {Z : List (ByteArray × Int)} (h : Ord Z) : Z.Nodup := by
  refine List.Pairwise.imp ?_ h
  intro a b hab e
  subst e
  rw [ltZ_irrefl] at hab
  cases hab
theorem Ord.eq_of_perm {Z Z' : List (ByteArray × Int)} (h : Ord Z) (h' : Ord Z') (hp : Z.Perm Z') : Z = Z' :=
  hp.eq_of_pairwise (fun a b _ _ h1 h2 => by rw [ltZ_asymm h1] at h2; cases h2) h h'
theorem Ord.sub {Z Z' : List (ByteArray × Int)} (h : Ord Z) (hs : Z'.Sublist Z) : Ord Z' := h.sublist hs
/-- A name's score is set. -/
def putZ (k : ByteArray) (s : Int) (Z : List (ByteArray × Int)) : List (ByteArray × Int) := insZ (k, s) (delD k Z)
theorem not_mem_delD {k : ByteArray} {Z : List (ByteArray × Int)} (h : (namesD Z).Nodup) : k ∉ namesD (delD k Z) := by
  intro hm
  have := mem_names.1 hm
  rw [findD_delD k h, if_pos rfl] at this
  cases this
theorem names_insZ (p : ByteArray × Int) {Z : List (ByteArray × Int)} (h : Ord Z) : (namesD (insZ p Z)).Perm (p.1 :: namesD Z) := by
  unfold insZ namesD
  rw [List.map_append, List.map_cons]
  refine List.perm_middle.trans (List.Perm.cons _ ?_)
  rw [← List.map_append, ← h.split p]
theorem del_subZ {α : Type} (k : ByteArray) : ∀ D : List (ByteArray × α), (delD k D).Sublist D
  | [] => List.Sublist.refl _
  | (y, v) :: r => by
    show (if y = k then r else (y, v) :: delD k r).Sublist _
    by_cases hy : y = k
    · rw [if_pos hy]
      exact List.sublist_cons_self _ _
    · rw [if_neg hy]
      exact (del_subZ k r).cons_cons _
theorem find_insZ {k : ByteArray} {s : Int} (q : ByteArray) {Z : List (ByteArray × Int)} (h : Ord Z) (hn : (namesD Z).Nodup) (hk : k ∉ namesD Z) : findD q (insZ (k, s) Z) = if k = q then some s else findD q Z := by
  have hnd : (namesD (insZ (k, s) Z)).Nodup := (names_insZ (k, s) h).nodup_iff.2 (List.nodup_cons.2 ⟨hk, hn⟩)
  by_cases hq : k = q
  · subst hq
    rw [if_pos rfl]
    exact findD_of_mem hnd (mem_insZ.2 (.inl rfl))
  · rw [if_neg hq]
    cases hf : findD q Z with
    | some v => exact findD_of_mem hnd (mem_insZ.2 (.inr (findD_mem hf)))
    | none =>
      refine findD_none_of fun hm => ?_
      obtain ⟨p, hp, e⟩ := List.mem_map.1 hm
      rcases mem_insZ.1 hp with rfl | hp
      · exact hq e
      · have : q ∈ namesD Z := List.mem_map.2 ⟨p, hp, e⟩
        rw [mem_names, hf] at this
        cases this
theorem find_putZ {k : ByteArray} {s : Int} (q : ByteArray) {Z : List (ByteArray × Int)} (h : Ord Z) (hn : (namesD Z).Nodup) : findD q (putZ k s Z) = if k = q then some s else findD q Z := by
  unfold putZ
  rw [find_insZ q (h.sub (del_subZ k Z)) (nd_delD hn) (not_mem_delD hn), findD_delD q hn]
  by_cases hq : k = q <;> simp [hq]
theorem Ord.put {k : ByteArray} {s : Int} {Z : List (ByteArray × Int)} (h : Ord Z) (hn : (namesD Z).Nodup) : Ord (putZ k s Z) ∧ (namesD (putZ k s Z)).Nodup := by
  have hd : Ord (delD k Z) := h.sub (del_subZ k Z)
  have hk := not_mem_delD (k := k) hn
  refine ⟨hd.ins fun hm => hk (List.mem_map.2 ⟨(k, s), hm, rfl⟩), ?_⟩
  exact (names_insZ (k, s) hd).nodup_iff.2 (List.nodup_cons.2 ⟨hk, nd_delD hn⟩)
end Go.Proofs.YticlacjpgjkhcaaGreatDoor

/- A table's rows as data. -/
namespace Go.Proofs.YticlacjpgjkhcaaGreatDoor
open Go.ChangeShapes Go.WideShapes Go.ChangeAt Go.RowKit

section
variable {α : Type} (f : ByteArray → Nat)
/-- The names of one slot, as they were put. -/
def rowT (D : List (ByteArray × α)) (j : Nat) : List (ByteArray × α) := D.filter fun p => f p.1 == j
theorem rowT_find (k : ByteArray) : ∀ D : List (ByteArray × α), findD k (rowT f D (f k)) = findD k D
  | [] => rfl
  | (y, v) :: r => by
    unfold rowT
    by_cases hy : y = k
    · subst hy
      simp [findD]
    · by_cases hf : f y = f k
      · rw [List.filter_cons_of_pos (by simpa using hf)]
        simp only [findD, hy, if_false]
        exact rowT_find k r
      · rw [List.filter_cons_of_neg (by simpa using hf)]
        simp only [findD, hy, if_false]
        exact rowT_find k r
theorem rowT_put (k : ByteArray) (x : α) (j : Nat) : ∀ D : List (ByteArray × α), rowT f (putD k x D) j = if f k = j then putD k x (rowT f D j) else rowT f D j
  | [] => by
    show rowT f [(k, x)] j = _
    unfold rowT
    by_cases h : f k = j <;> simp [h, putD]
  | (y, v) :: r => by
    have ih := rowT_put k x j r
    unfold rowT at ih ⊢
    by_cases hy : y = k
    · subst hy
      simp only [putD, if_true]
      by_cases h : f y = j <;> simp [h, putD]
    · simp only [putD, hy, if_false]
      by_cases h : f y = j
      · rw [List.filter_cons_of_pos (by simpa using h), List.filter_cons_of_pos (by simpa using h), ih]
        by_cases hk : f k = j <;> simp [hk, putD, hy]
      · rw [List.filter_cons_of_neg (by simpa using h), List.filter_cons_of_neg (by simpa using h), ih]
theorem rowT_del (k : ByteArray) (j : Nat) : ∀ D : List (ByteArray × α), rowT f (delD k D) j = if f k = j then delD k (rowT f D j) else rowT f D j
  | [] => by
    show [] = _
    by_cases h : f k = j <;> simp [h, rowT, delD]
  | (y, v) :: r => by
    have ih := rowT_del k j r
    unfold rowT at ih ⊢
    by_cases hy : y = k
    · subst hy
      simp only [delD, if_true]
      by_cases h : f y = j <;> simp [h, delD]
    · simp only [delD, hy, if_false]
      by_cases h : f y = j
      · rw [List.filter_cons_of_pos (by simpa using h), List.filter_cons_of_pos (by simpa using h), ih]
        by_cases hk : f k = j <;> simp [hk, delD, hy]
      · rw [List.filter_cons_of_neg (by simpa using h), List.filter_cons_of_neg (by simpa using h), ih]
theorem rowT_len (D : List (ByteArray × α)) (j : Nat) : (rowT f D j).length ≤ D.length := List.length_filter_le _ _
/-- All rows, one behind another. -/
def catT (D : List (ByteArray × α)) (n : Nat) : List (ByteArray × α) := (List.range n).flatMap (rowT f D)
theorem catT_succ (D : List (ByteArray × α)) (n : Nat) : catT f D (n + 1) = catT f D n ++ rowT f D n := by simp [catT, List.range_succ]
theorem catT_perm (D : List (ByteArray × α)) : ∀ n, (catT f D n).Perm (D.filter fun p => decide (f p.1 < n))
  | 0 => by simp [catT]
  | n + 1 => by
    rw [catT_succ]
    refine ((catT_perm D n).append_right _).trans ?_
    unfold rowT
    have e1 : (D.filter fun p => decide (f p.1 < n)) = (D.filter fun p => decide (f p.1 < n + 1)).filter fun p => decide (f p.1 < n) := by
      rw [List.filter_filter]
      refine List.filter_congr fun p _ => ?_
      by_cases h : f p.1 < n
      · simp [h, Nat.lt_succ_of_lt h]
      · simp [h]
    have e2 : (D.filter fun p => f p.1 == n) = (D.filter fun p => decide (f p.1 < n + 1)).filter fun p => !decide (f p.1 < n) := by
      rw [List.filter_filter]
      refine List.filter_congr fun p _ => ?_
      by_cases h : f p.1 = n
      · simp [h]
      · by_cases h2 : f p.1 < n
        · simp [h, h2]
        · have : ¬ f p.1 < n + 1 := by omega
          simp [h, h2, this]
    rw [e1, e2]
    exact List.filter_append_perm _ _
theorem catT_all (D : List (ByteArray × α)) (n : Nat) (h : ∀ s, f s < n) : (catT f D n).Perm D := by
  refine (catT_perm f D n).trans ?_
  rw [List.filter_eq_self.2 fun p _ => decide_eq_true (h p.1)]
end
/-- A name's place in a row. -/
def idxD {α : Type} (k : ByteArray) : List (ByteArray × α) → Option Nat
  | [] => none
  | (y, _) :: r => if y = k then some 0 else (idxD k r).map (· + 1)
section
variable {α : Type}
theorem idxD_none {k : ByteArray} : ∀ {D : List (ByteArray × α)}, idxD k D = none → findD k D = none ∧ ∀ (i : Nat) (y : ByteArray) (v : α), D[i]? = some (y, v) → y ≠ k
  | [], _ => ⟨rfl, fun i y v h => by simp at h⟩
  | (y, v) :: r, h => by
    by_cases hy : y = k
    · simp [idxD, hy] at h
    · simp [idxD, hy] at h
      have ih := idxD_none (D := r) h
      refine ⟨by simpa [findD, hy] using ih.1, fun i z u hz => ?_⟩
      cases i with
      | zero => simp at hz; exact hz.1 ▸ hy
      | succ i => exact ih.2 i z u (by simpa using hz)
theorem idxD_some {k : ByteArray} : ∀ {D : List (ByteArray × α)} {i : Nat}, idxD k D = some i → ∃ v, D[i]? = some (k, v) ∧ findD k D = some v ∧ (∀ x, putD k x D = D.set i (k, x)) ∧ delD k D = D.eraseIdx i ∧ ∀ (q : Nat) (y : ByteArray) (u : α), q < i → D[q]? = some (y, u) → y ≠ k
  | [], i, h => by cases h
  | (y, v) :: r, i, h => by
    by_cases hy : y = k
    · simp [idxD, hy] at h
      subst h hy
      exact ⟨v, rfl, by simp [findD], fun x => by simp [putD], by simp [delD], fun q _ _ hq => absurd hq (Nat.not_lt_zero _)⟩
    · simp [idxD, hy] at h
      obtain ⟨i', h1, rfl⟩ := h
      obtain ⟨u, h2, h3, h4, h5, h6⟩ := idxD_some h1
      refine ⟨u, by simpa using h2, by simpa [findD, hy] using h3, fun x => by simp [putD, hy, h4 x], by simp [delD, hy, h5], fun q z w hq hz => ?_⟩
      cases q with
      | zero => simp at hz; exact hz.1 ▸ hy
      | succ q => exact h6 q z w (by omega) (by simpa using hz)
theorem put_new {k : ByteArray} {x : α} : ∀ {D : List (ByteArray × α)}, findD k D = none → putD k x D = D ++ [(k, x)]
  | [], _ => rfl
  | (y, v) :: r, h => by
    by_cases hy : y = k
    · simp [findD, hy] at h
    · simp [findD, hy] at h
      simp [putD, hy, put_new h]
theorem del_new {k : ByteArray} : ∀ {D : List (ByteArray × α)}, findD k D = none → delD k D = D
  | [], _ => rfl
  | (y, v) :: r, h => by
    by_cases hy : y = k
    · simp [findD, hy] at h
    · simp [findD, hy] at h
      simp [delD, hy, del_new h]
theorem put_len {k : ByteArray} {x : α} (D : List (ByteArray × α)) : (putD k x D).length = if (findD k D).isSome then D.length else D.length + 1 := by
  induction D with
  | nil => rfl
  | cons p r ih =>
    obtain ⟨y, v⟩ := p
    by_cases hy : y = k
    · simp [putD, findD, hy]
    · simp [putD, findD, hy, ih]
      split <;> rfl
theorem del_len {k : ByteArray} (D : List (ByteArray × α)) : (delD k D).length = if (findD k D).isSome then D.length - 1 else D.length := by
  induction D with
  | nil => rfl
  | cons p r ih =>
    obtain ⟨y, v⟩ := p
    by_cases hy : y = k
    · simp [delD, findD, hy]
    · simp [delD, findD, hy, ih]
      cases hf : findD k r with
      | none => simp
      | some z =>
        have : r ≠ [] := by rintro rfl; cases hf
        have := List.length_pos_iff.2 this
        simp
        omega
end
end Go.Proofs.YticlacjpgjkhcaaGreatDoor

/- A hash as data: names with places, texts by places. -/
namespace Go.Proofs.YticlacjpgjkhcaaGreatDoor
open Go.ChangeShapes Go.WideShapes Go.ChangeAt Go.RowKit

/-- What names with places and texts by places are: fields. -/
def fldT (L : List ByteArray) (p : ByteArray × Nat) : ByteArray × ByteArray := (p.1, (L[p.2]?).getD ⟨#[]⟩)
structure HF (D : List (ByteArray × Nat)) (L : List ByteArray) (F : List (ByteArray × ByteArray)) : Prop where
  eq : F = D.map (fldT L)
  lt : ∀ p ∈ D, p.2 < L.length
  nd : (D.map Prod.snd).Nodup
theorem HF.nil : HF [] [] [] := ⟨rfl, fun _ h => (by cases h), (by simp)⟩
theorem HF.names {D : List (ByteArray × Nat)} {L : List ByteArray} {F : List (ByteArray × ByteArray)} (h : HF D L F) : namesD F = namesD D := by
  rw [h.eq]
  unfold namesD
  rw [List.map_map]
  rfl
theorem HF.len {D : List (ByteArray × Nat)} {L : List ByteArray} {F : List (ByteArray × ByteArray)} (h : HF D L F) : F.length = D.length := by
  rw [h.eq, List.length_map]
theorem findD_fld (L : List ByteArray) (k : ByteArray) : ∀ D : List (ByteArray × Nat), findD k (D.map (fldT L)) = (findD k D).map fun q => (L[q]?).getD ⟨#[]⟩
  | [] => rfl
  | (y, q) :: r => by
    show (if y = k then some ((L[q]?).getD ⟨#[]⟩) else findD k (r.map (fldT L))) = (if y = k then some q else findD k r).map _
    by_cases hy : y = k
    · rw [if_pos hy, if_pos hy]
      rfl
    · rw [if_neg hy, if_neg hy]
      exact findD_fld L k r
theorem HF.find {D : List (ByteArray × Nat)} {L : List ByteArray} {F : List (ByteArray × ByteArray)} (h : HF D L F) (k : ByteArray) : findD k F = (findD k D).map fun q => (L[q]?).getD ⟨#[]⟩ := by
  rw [h.eq]
  exact findD_fld L k D
theorem HF.find_none {D : List (ByteArray × Nat)} {L : List ByteArray} {F : List (ByteArray × ByteArray)} (h : HF D L F) (k : ByteArray) (hk : findD k D = none) : findD k F = none := by rw [h.find, hk]; rfl
theorem HF.find_some {D : List (ByteArray × Nat)} {L : List ByteArray} {F : List (ByteArray × ByteArray)} (h : HF D L F) (k : ByteArray) (q : Nat) (hk : findD k D = some q) : ∃ t, L[q]? = some t ∧ findD k F = some t := by
  have hlt := h.lt _ (findD_mem hk)
  refine ⟨L[q], List.getElem?_eq_getElem hlt, ?_⟩
  rw [h.find, hk, Option.map_some, List.getElem?_eq_getElem hlt]
  rfl
theorem HF.new {D : List (ByteArray × Nat)} {L : List ByteArray} {F : List (ByteArray × ByteArray)} (h : HF D L F) (k t : ByteArray) (hk : findD k D = none) : HF (D ++ [(k, L.length)]) (L ++ [t]) (putD k t F) := by
  refine ⟨?_, fun p hp => ?_, ?_⟩
  · rw [put_new (h.find_none k hk), List.map_append, h.eq]
    congr 1
    · refine List.map_congr_left fun p hp => ?_
      unfold fldT
      rw [List.getElem?_append_left (h.lt p hp)]
    · simp [fldT]
  · rw [List.length_append]
    rcases List.mem_append.1 hp with hp | hp
    · have := h.lt p hp
      omega
    · simp at hp
      subst hp
      simp
  · rw [List.map_append, List.nodup_append]
    refine ⟨h.nd, by simp, fun a ha b hb => ?_⟩
    simp at hb
    subst hb
    rintro rfl
    obtain ⟨p, hp, e⟩ := List.mem_map.1 ha
    have := h.lt p hp
    omega
theorem HF.set {D : List (ByteArray × Nat)} {L : List ByteArray} {F : List (ByteArray × ByteArray)} (h : HF D L F) (k t : ByteArray) (q : Nat) (hk : findD k D = some q) : HF D (L.set q t) (putD k t F) := by
  refine ⟨?_, fun p hp => by rw [List.length_set]; exact h.lt p hp, h.nd⟩
  have hq := h.lt _ (findD_mem hk)
  have key : ∀ D' : List (ByteArray × Nat), (∀ p ∈ D', p.2 < L.length) → (D'.map Prod.snd).Nodup → findD k D' = some q → putD k t (D'.map (fldT L)) = D'.map (fldT (L.set q t)) := by
    intro D'
    induction D' with
    | nil => intro _ _ hf; cases hf
    | cons p r ih =>
      obtain ⟨y, i⟩ := p
      intro hlt hnd hf
      have hnd' : i ∉ r.map Prod.snd ∧ (r.map Prod.snd).Nodup := List.nodup_cons.1 hnd
      by_cases hy : y = k
      · simp [findD, hy] at hf
        subst hf hy
        show (if y = y then (y, t) :: r.map (fldT L) else _) = fldT (L.set i t) (y, i) :: r.map (fldT (L.set i t))
        rw [if_pos rfl]
        congr 1
        · simp [fldT, hlt (y, i) (by simp)]
        · refine List.map_congr_left fun p hp => ?_
          have : p.2 ≠ i := fun e => hnd'.1 (List.mem_map.2 ⟨p, hp, e⟩)
          unfold fldT
          rw [List.getElem?_set_ne (Ne.symm this)]
      · simp [findD, hy] at hf
        show (if y = k then _ else fldT L (y, i) :: putD k t (r.map (fldT L))) = fldT (L.set q t) (y, i) :: r.map (fldT (L.set q t))
        rw [if_neg hy, ih (fun p hp => hlt p (List.mem_cons_of_mem _ hp)) hnd'.2 hf]
        congr 1
        have : q ≠ i := by
          rintro rfl
          exact hnd'.1 (List.mem_map.2 ⟨(k, q), findD_mem hf, rfl⟩)
        unfold fldT
        rw [List.getElem?_set_ne this]
  rw [h.eq]
  exact key D h.lt h.nd hk
theorem del_fld (L : List ByteArray) (k : ByteArray) : ∀ D : List (ByteArray × Nat), delD k (D.map (fldT L)) = (delD k D).map (fldT L)
  | [] => rfl
  | (y, q) :: r => by
    show (if y = k then r.map (fldT L) else fldT L (y, q) :: delD k (r.map (fldT L))) = (if y = k then r else (y, q) :: delD k r).map (fldT L)
    by_cases hy : y = k
    · rw [if_pos hy, if_pos hy]
    · rw [if_neg hy, if_neg hy, del_fld L k r]
      rfl
theorem del_sub {α : Type} (k : ByteArray) : ∀ D : List (ByteArray × α), (delD k D).Sublist D
  | [] => List.Sublist.refl _
  | (y, v) :: r => by
    show (if y = k then r else (y, v) :: delD k r).Sublist _
    by_cases hy : y = k
    · rw [if_pos hy]
      exact List.sublist_cons_self _ _
    · rw [if_neg hy]
      exact (del_sub k r).cons_cons _
theorem HF.del {D : List (ByteArray × Nat)} {L : List ByteArray} {F : List (ByteArray × ByteArray)} (h : HF D L F) (k : ByteArray) : HF (delD k D) L (delD k F) :=
  ⟨by rw [h.eq]; exact del_fld L k D, fun p hp => h.lt p ((del_sub k D).subset hp), h.nd.sublist ((del_sub k D).map _)⟩
end Go.Proofs.YticlacjpgjkhcaaGreatDoor
