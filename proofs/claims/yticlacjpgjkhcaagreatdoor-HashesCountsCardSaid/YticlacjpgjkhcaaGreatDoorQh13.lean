/- Texts joined: H1, H2, H3, G14, Tb1, G16 -/
import Derived.Test.YticlacjpgjkhcaaGreatDoorQh12
import Derived.Test.YticlacjpgjkhcaaGreatDoorQh11
import Derived.Test.YticlacjpgjkhcaaGreatDoorQh5
import Derived.Deep.AppendLies
import Derived.Test.YticlacjpgjkhcaaGreatDoorQh7

/- Fields by names as data: the sorted list of an association. -/
namespace Go.Proofs.YticlacjpgjkhcaaGreatDoor
open Go.ChangeShapes Go.WideShapes Go.ChangeAt Go.RowKit

/-- A text's bytes. -/
def bl (s : ByteArray) : List UInt8 := s.data.toList
theorem bl_inj {s t : ByteArray} (h : bl s = bl t) : s = t := Go.WideShapes.bytes_inj h
def leN (a b : ByteArray) : Bool := decide (bl a ≤ bl b)
/-- Names, sorted. -/
def srtN (ns : List ByteArray) : List ByteArray := ns.mergeSort leN
theorem leN_trans (a b c : ByteArray) (h1 : leN a b = true) (h2 : leN b c = true) : leN a c = true := by
  simp only [leN, decide_eq_true_eq] at h1 h2 ⊢
  exact List.le_trans h1 h2
theorem leN_total (a b : ByteArray) : (leN a b || leN b a) = true := by
  simp only [leN, Bool.or_eq_true, decide_eq_true_eq]
  exact List.le_total _ _
theorem leN_anti {a b : ByteArray} (h1 : leN a b = true) (h2 : leN b a = true) : a = b := by
  simp only [leN, decide_eq_true_eq] at h1 h2
  exact bl_inj (List.le_antisymm h1 h2)
theorem srtN_perm (ns : List ByteArray) : (srtN ns).Perm ns := List.mergeSort_perm ns leN
theorem srtN_len (ns : List ByteArray) : (srtN ns).length = ns.length := (srtN_perm ns).length_eq
theorem srtN_mem (ns : List ByteArray) (a : ByteArray) : a ∈ srtN ns ↔ a ∈ ns := (srtN_perm ns).mem_iff
theorem srtN_pair (ns : List ByteArray) : (srtN ns).Pairwise (fun a b => leN a b = true) := List.pairwise_mergeSort leN_trans leN_total ns
theorem srtN_map (ns : List ByteArray) : (srtN ns).map bl = (ns.map bl).mergeSort (fun x y => decide (x ≤ y)) := List.map_mergeSort (fun _ _ _ _ => rfl)
theorem srtN_of (ns : List ByteArray) (h : ns.Pairwise (fun a b => leN a b = true)) : srtN ns = ns := List.mergeSort_of_pairwise h
theorem srtN_eq {ns ms : List ByteArray} (h : ns.Perm ms) : srtN ns = srtN ms := by
  refine List.Perm.eq_of_pairwise (fun a b _ _ h1 h2 => leN_anti h1 h2) (srtN_pair ns) (srtN_pair ms) ?_
  exact (srtN_perm ns).trans (h.trans (srtN_perm ms).symm)
section
variable {α : Type}
def namesD (D : List (ByteArray × α)) : List ByteArray := D.map Prod.fst
theorem findD_putD (k : ByteArray) (x : α) (q : ByteArray) : ∀ (D : List (ByteArray × α)), findD q (putD k x D) = if k = q then some x else findD q D
  | [] => by simp [putD, findD]
  | (y, v) :: r => by
    by_cases hy : y = k
    · subst hy
      simp only [putD, if_true, findD]
      by_cases hq : y = q <;> simp [hq]
    · simp only [putD, hy, if_false, findD, findD_putD k x q r]
      by_cases hq : y = q
      · subst hq
        have : ¬ k = y := fun e => hy e.symm
        simp [this]
      · simp [hq]
theorem names_put_in (k : ByteArray) (x : α) : ∀ (D : List (ByteArray × α)), k ∈ namesD D → namesD (putD k x D) = namesD D
  | [], h => by cases h
  | (y, v) :: r, h => by
    by_cases hy : y = k
    · subst hy
      simp [putD, namesD]
    · have hk : ¬ k = y := fun e => hy e.symm
      have hm : k ∈ namesD r := (List.mem_cons.1 h).resolve_left hk
      simp only [putD, hy, if_false]
      exact congrArg (y :: ·) (names_put_in k x r hm)
theorem names_put_new (k : ByteArray) (x : α) : ∀ (D : List (ByteArray × α)), k ∉ namesD D → namesD (putD k x D) = namesD D ++ [k]
  | [], _ => rfl
  | (y, v) :: r, h => by
    have hy : ¬ y = k := by
      rintro rfl
      exact h List.mem_cons_self
    simp only [putD, hy, if_false]
    exact congrArg (y :: ·) (names_put_new k x r fun e => h (List.mem_cons_of_mem _ e))
theorem names_delD (k : ByteArray) : ∀ (D : List (ByteArray × α)), (namesD (delD k D)).Sublist (namesD D)
  | [] => List.Sublist.refl _
  | (y, v) :: r => by
    show (namesD (if y = k then r else (y, v) :: delD k r)).Sublist (y :: namesD r)
    by_cases hy : y = k
    · rw [if_pos hy]
      exact List.sublist_cons_self _ _
    · rw [if_neg hy]
      exact (names_delD k r).cons_cons y
theorem mem_names {k : ByteArray} : ∀ {D : List (ByteArray × α)}, k ∈ namesD D ↔ (findD k D).isSome = true
  | [] => by simp [namesD, findD]
  | (y, v) :: r => by
    have ih := mem_names (k := k) (D := r)
    show k ∈ y :: namesD r ↔ (if y = k then some v else findD k r).isSome = true
    by_cases hy : y = k
    · subst hy
      simp
    · have hk : ¬ k = y := fun e => hy e.symm
      simp [hy, hk, ih]
theorem nd_putD {k : ByteArray} {x : α} {D : List (ByteArray × α)} (h : (namesD D).Nodup) : (namesD (putD k x D)).Nodup := by
  by_cases hm : k ∈ namesD D
  · rw [names_put_in k x D hm]
    exact h
  · rw [names_put_new k x D hm, List.nodup_append]
    exact ⟨h, by simp, fun a ha b hb => by
      simp at hb
      subst hb
      rintro rfl
      exact hm ha⟩
theorem nd_delD {k : ByteArray} {D : List (ByteArray × α)} (h : (namesD D).Nodup) : (namesD (delD k D)).Nodup := h.sublist (names_delD k D)
theorem findD_delD {k : ByteArray} (q : ByteArray) : ∀ {D : List (ByteArray × α)}, (namesD D).Nodup → findD q (delD k D) = if k = q then none else findD q D
  | [], _ => by simp [delD, findD]
  | (y, v) :: r, h => by
    have h' : y ∉ namesD r ∧ (namesD r).Nodup := List.nodup_cons.1 h
    have ih := findD_delD (k := k) q h'.2
    by_cases hy : y = k
    · subst hy
      simp only [delD, if_true, findD]
      by_cases hq : y = q
      · subst hq
        simp only [if_true]
        cases hf : findD y r with
        | none => rfl
        | some z => exact absurd (mem_names.2 (by rw [hf]; rfl)) h'.1
      · simp [hq]
    · simp only [delD, hy, if_false, findD, ih]
      by_cases hq : y = q
      · subst hq
        have : ¬ k = y := fun e => hy e.symm
        simp [this]
      · simp [hq]
theorem perm_names {D D' : List (ByteArray × α)} (h : (namesD D).Nodup) (h' : (namesD D').Nodup) (he : ∀ n, findD n D = findD n D') : (namesD D).Perm (namesD D') :=
  (List.perm_ext_iff_of_nodup h h').2 fun a => by rw [mem_names, mem_names, he]
theorem findD_none_of {k : ByteArray} {D : List (ByteArray × α)} (h : k ∉ namesD D) : findD k D = none := by
  cases hf : findD k D with
  | none => rfl
  | some z => exact absurd (mem_names.2 (by rw [hf]; rfl)) h
theorem findD_of_mem {k : ByteArray} {x : α} : ∀ {D : List (ByteArray × α)}, (namesD D).Nodup → (k, x) ∈ D → findD k D = some x
  | [], _, h => by cases h
  | (y, v) :: r, hn, h => by
    have h' : y ∉ namesD r ∧ (namesD r).Nodup := List.nodup_cons.1 hn
    rcases List.mem_cons.1 h with e | e
    · cases e
      simp [findD]
    · have : ¬ y = k := by
        rintro rfl
        exact h'.1 (List.mem_map.2 ⟨(y, x), e, rfl⟩)
      simp [findD, this, findD_of_mem h'.2 e]
theorem len_names (D : List (ByteArray × α)) : (namesD D).length = D.length := by simp [namesD]
end
/-- Fields, sorted by names. -/
def srtF (D : List (ByteArray × ByteArray)) : List (ByteArray × ByteArray) := (srtN (namesD D)).map fun n => (n, (findD n D).getD ⟨#[]⟩)
theorem names_map (f : ByteArray → ByteArray) (ns : List ByteArray) : namesD (ns.map fun n => (n, f n)) = ns := by
  unfold namesD
  rw [List.map_map]
  exact List.map_id ns
theorem names_srtF (D : List (ByteArray × ByteArray)) : namesD (srtF D) = srtN (namesD D) := names_map _ _
theorem len_srtF (D : List (ByteArray × ByteArray)) : (srtF D).length = D.length := by simp [srtF, srtN_len, len_names]
theorem nd_srtF {D : List (ByteArray × ByteArray)} (h : (namesD D).Nodup) : (namesD (srtF D)).Nodup := by
  rw [names_srtF]
  exact (srtN_perm _).nodup_iff.2 h
theorem findD_map (f : ByteArray → ByteArray) (k : ByteArray) : ∀ ns : List ByteArray, k ∈ ns → findD k (ns.map fun n => (n, f n)) = some (f k)
  | [], h => by cases h
  | n :: r, h => by
    by_cases hn : n = k
    · subst hn
      simp [findD]
    · have hk : ¬ k = n := fun e => hn e.symm
      simp only [List.map_cons, findD, hn, if_false]
      exact findD_map f k r ((List.mem_cons.1 h).resolve_left hk)
theorem findD_srtF (D : List (ByteArray × ByteArray)) (k : ByteArray) : findD k (srtF D) = findD k D := by
  by_cases h : k ∈ namesD D
  · unfold srtF
    rw [findD_map _ k _ ((srtN_mem _ _).2 h)]
    have := mem_names.1 h
    cases hf : findD k D with
    | none => rw [hf] at this; cases this
    | some z => rfl
  · rw [findD_none_of h, findD_none_of (by rw [names_srtF, srtN_mem]; exact h)]
theorem srtF_ext {D D' : List (ByteArray × ByteArray)} (h : (namesD D).Nodup) (h' : (namesD D').Nodup) (he : ∀ n, findD n D = findD n D') : srtF D = srtF D' := by
  unfold srtF
  rw [srtN_eq (perm_names h h' he)]
  exact List.map_congr_left fun a _ => by rw [he]
/-- Fields that rise by names. -/
def Rises (D : List (ByteArray × ByteArray)) : Prop := (namesD D).Pairwise fun a b => leN a b = true
theorem rises_srtF (D : List (ByteArray × ByteArray)) : Rises (srtF D) := by
  unfold Rises
  rw [names_srtF]
  exact srtN_pair _
theorem srtF_of {D : List (ByteArray × ByteArray)} (h : (namesD D).Nodup) (hr : Rises D) : srtF D = D := by
  unfold srtF
  rw [srtN_of _ hr]
  unfold namesD
  rw [List.map_map]
  conv => rhs; rw [← List.map_id D]
  refine List.map_congr_left fun p hp => ?_
  show (p.1, (findD p.1 D).getD ⟨#[]⟩) = p
  rw [findD_of_mem h (x := p.2) hp]
  rfl
theorem srtF_put {D : List (ByteArray × ByteArray)} (h : (namesD D).Nodup) (k v : ByteArray) : srtF (putD k v (srtF D)) = srtF (putD k v D) :=
  srtF_ext (nd_putD (nd_srtF h)) (nd_putD h) fun n => by rw [findD_putD, findD_putD, findD_srtF]
end Go.Proofs.YticlacjpgjkhcaaGreatDoor

/- A table's rows as data. -/
namespace Go.Proofs.YticlacjpgjkhcaaGreatDoor
open Go.ChangeShapes Go.WideShapes Go.ChangeAt Go.RowKit

section
variable {α : Type} (f : ByteArray → Nat)
/-- The names of one slot, as they were put. -/
def rowT (D : List (ByteArray × α)) (j : Nat) : List (ByteArray × α) := D.filter fun p => f p.1 == j
theorem rowT_find (k : ByteArray) : ∀ D : List (ByteArray × α), findD k (rowT f D (f k)) = findD k D
  | [] => rfl
  | (y, v) :: r => by
    unfold rowT
    by_cases hy : y = k
    · subst hy
      simp [findD]
    · by_cases hf : f y = f k
      · rw [List.filter_cons_of_pos (by simpa using hf)]
        simp only [findD, hy, if_false]
        exact rowT_find k r
      · rw [List.filter_cons_of_neg (by simpa using hf)]
        simp only [findD, hy, if_false]
        exact rowT_find k r
theorem rowT_put (k : ByteArray) (x : α) (j : Nat) : ∀ D : List (ByteArray × α), rowT f (putD k x D) j = if f k = j then putD k x (rowT f D j) else rowT f D j
  | [] => by
    show rowT f [(k, x)] j = _
    unfold rowT
    by_cases h : f k = j <;> simp [h, putD]
  | (y, v) :: r => by
    have ih := rowT_put k x j r
    unfold rowT at ih ⊢
    by_cases hy : y = k
    · subst hy
      simp only [putD, if_true]
      by_cases h : f y = j <;> simp [h, putD]
    · simp only [putD, hy, if_false]
      by_cases h : f y = j
      · rw [List.filter_cons_of_pos (by simpa using h), List.filter_cons_of_pos (by simpa using h), ih]
        by_cases hk : f k = j <;> simp [hk, putD, hy]
      · rw [List.filter_cons_of_neg (by simpa using h), List.filter_cons_of_neg (by simpa using h), ih]
theorem rowT_del (k : ByteArray) (j : Nat) : ∀ D : List (ByteArray × α), rowT f (delD k D) j = if f k = j then delD k (rowT f D j) else rowT f D j
  | [] => by
    show [] = _
    by_cases h : f k = j <;> simp [h, rowT, delD]
  | (y, v) :: r => by
    have ih := rowT_del k j r
    unfold rowT at ih ⊢
    by_cases hy : y = k
    · subst hy
      simp only [delD, if_true]
      by_cases h : f y = j <;> simp [h, delD]
    · simp only [delD, hy, if_false]
      by_cases h : f y = j
      · rw [List.filter_cons_of_pos (by simpa using h), List.filter_cons_of_pos (by simpa using h), ih]
        by_cases hk : f k = j <;> simp [hk, delD, hy]
      · rw [List.filter_cons_of_neg (by simpa using h), List.filter_cons_of_neg (by simpa using h), ih]
theorem rowT_len (D : List (ByteArray × α)) (j : Nat) : (rowT f D j).length ≤ D.length := List.length_filter_le _ _
/-- All rows, one behind another. -/
def catT (D : List (ByteArray × α)) (n : Nat) : List (ByteArray × α) := (List.range n).flatMap (rowT f D)
theorem catT_succ (D : List (ByteArray × α)) (n : Nat) : catT f D (n + 1) = catT f D n ++ rowT f D n := by simp [catT, List.range_succ]
theorem catT_perm (D : List (ByteArray × α)) : ∀ n, (catT f D n).Perm (D.filter fun p => decide (f p.1 < n))
  | 0 => by simp [catT]
  | n + 1 => by
    rw [catT_succ]
    refine ((catT_perm D n).append_right _).trans ?_
    unfold rowT
    have e1 : (D.filter fun p => decide (f p.1 < n)) = (D.filter fun p => decide (f p.1 < n + 1)).filter fun p => decide (f p.1 < n) := by
      rw [List.filter_filter]
      refine List.filter_congr fun p _ => ?_
      by_cases h : f p.1 < n
      · simp [h, Nat.lt_succ_of_lt h]
      · simp [h]
    have e2 : (D.filter fun p => f p.1 == n) = (D.filter fun p => decide (f p.1 < n + 1)).filter fun p => !decide (f p.1 < n) := by
      rw [List.filter_filter]
      refine List.filter_congr fun p _ => ?_
      by_cases h : f p.1 = n
      · simp [h]
      · by_cases h2 : f p.1 < n
        · simp [h, h2]
        · have : ¬ f p.1 < n + 1 := by omega
          simp [h, h2, this]
    rw [e1, e2]
    exact List.filter_append_perm _ _
theorem catT_all (D : List (ByteArray × α)) (n : Nat) (h : ∀ s, f s < n) : (catT f D n).Perm D := by
  refine (catT_perm f D n).trans ?_
  rw [List.filter_eq_self.2 fun p _ => decide_eq_true (h p.1)]
end
/-- A name's place in a row. -/
def idxD {α : Type} (k : ByteArray) : List (ByteArray × α) → Option Nat
  | [] => none
  | (y, _) :: r => if y = k then some 0 else (idxD k r).map (· + 1)
section
variable {α : Type}
theorem idxD_none {k : ByteArray} : ∀ {D : List (ByteArray × α)}, idxD k D = none → findD k D = none ∧ ∀ (i : Nat) (y : ByteArray) (v : α), D[i]? = some (y, v) → y ≠ k
  | [], _ => ⟨rfl, fun i y v h => by simp at h⟩
  | (y, v) :: r, h => by
    by_cases hy : y = k
    · simp [idxD, hy] at h
    · simp [idxD, hy] at h
      have ih := idxD_none (D := r) h
      refine ⟨by simpa [findD, hy] using ih.1, fun i z u hz => ?_⟩
      cases i with
      | zero => simp at hz; exact hz.1 ▸ hy
      | succ i => exact ih.2 i z u (by simpa using hz)
theorem idxD_some {k : ByteArray} : ∀ {D : List (ByteArray × α)} {i : Nat}, idxD k D = some i → ∃ v, D[i]? = some (k, v) ∧ findD k D = some v ∧ (∀ x, putD k x D = D.set i (k, x)) ∧ delD k D = D.eraseIdx i ∧ ∀ (q : Nat) (y : ByteArray) (u : α), q < i → D[q]? = some (y, u) → y ≠ k
  | [], i, h => by cases h
  | (y, v) :: r, i, h => by
    by_cases hy : y = k
    · simp [idxD, hy] at h
      subst h hy
      exact ⟨v, rfl, by simp [findD], fun x => by simp [putD], by simp [delD], fun q _ _ hq => absurd hq (Nat.not_lt_zero _)⟩
    · simp [idxD, hy] at h
      obtain ⟨i', h1, rfl⟩ := h
      obtain ⟨u, h2, h3, h4, h5, h6⟩ := idxD_some h1
      refine ⟨u, by simpa using h2, by simpa [findD, hy] using h3, fun x => by simp [putD, hy, h4 x], by simp [delD, hy, h5], fun q z w hq hz => ?_⟩
      cases q with
      | zero => simp at hz; exact hz.1 ▸ hy
      | succ q => exact h6 q z w (by omega) (by simpa using hz)
theorem put_new {k : ByteArray} {x : α} : ∀ {D : List (ByteArray × α)}, findD k D = none → putD k x D = D ++ [(k, x)]
  | [], _ => rfl
  | (y, v) :: r, h => by
    by_cases hy : y = k
    · simp [findD, hy] at h
    · simp [findD, hy] at h
      simp [putD, hy, put_new h]
theorem del_new {k : ByteArray} : ∀ {D : List (ByteArray × α)}, findD k D = none → delD k D = D
  | [], _ => rfl
  | (y, v) :: r, h => by
    by_cases hy : y = k
    · simp [findD, hy] at h
    · simp [findD, hy] at h
      simp [delD, hy, del_new h]
theorem put_len {k : ByteArray} {x : α} (D : List (ByteArray × α)) : (putD k x D).length = if (findD k D).isSome then D.length else D.length + 1 := by
  induction D with
  | nil => rfl
  | cons p r ih =>
    obtain ⟨y, v⟩ := p
    by_cases hy : y = k
    · simp [putD, findD, hy]
    · simp [putD, findD, hy, ih]
      split <;> rfl
theorem del_len {k : ByteArray} (D : List (ByteArray × α)) : (delD k D).length = if (findD k D).isSome then D.length - 1 else D.length := by
  induction D with
  | nil => rfl
  | cons p r ih =>
    obtain ⟨y, v⟩ := p
    by_cases hy : y = k
    · simp [delD, findD, hy]
    · simp [delD, findD, hy, ih]
      cases hf : findD k r with
      | none => simp
      | some z =>
        have : r ≠ [] := by rintro rfl; cases hf
        have := List.length_pos_iff.2 this
        simp
        omega
end
end Go.Proofs.YticlacjpgjkhcaaGreatDoor

/- A hash as data: names with places, texts by places. -/
namespace Go.Proofs.YticlacjpgjkhcaaGreatDoor
open Go.ChangeShapes Go.WideShapes Go.ChangeAt Go.RowKit

/-- What names with places and texts by places are: fields. -/
def fldT (L : List ByteArray) (p : ByteArray × Nat) : ByteArray × ByteArray := (p.1, (L[p.2]?).getD ⟨#[]⟩)
structure HF (D : List (ByteArray × Nat)) (L : List ByteArray) (F : List (ByteArray × ByteArray)) : Prop where
  eq : F = D.map (fldT L)
  lt : ∀ p ∈ D, p.2 < L.length
  nd : (D.map Prod.snd).Nodup
theorem HF.nil : HF [] [] [] := ⟨rfl, fun _ h => (by cases h), (by simp)⟩
theorem HF.names {D : List (ByteArray × Nat)} {L : List ByteArray} {F : List (ByteArray × ByteArray)} (h : HF D L F) : namesD F = namesD D := by
  rw [h.eq]
  unfold namesD
  rw [List.map_map]
  rfl
theorem HF.len {D : List (ByteArray × Nat)} {L : List ByteArray} {F : List (ByteArray × ByteArray)} (h : HF D L F) : F.length = D.length := by
  rw [h.eq, List.length_map]
theorem findD_fld (L : List ByteArray) (k : ByteArray) : ∀ D : List (ByteArray × Nat), findD k (D.map (fldT L)) = (findD k D).map fun q => (L[q]?).getD ⟨#[]⟩
  | [] => rfl
  | (y, q) :: r => by
    show (if y = k then some ((L[q]?).getD ⟨#[]⟩) else findD k (r.map (fldT L))) = (if y = k then some q else findD k r).map _
    by_cases hy : y = k
    · rw [if_pos hy, if_pos hy]
      rfl
    · rw [if_neg hy, if_neg hy]
      exact findD_fld L k r
theorem HF.find {D : List (ByteArray × Nat)} {L : List ByteArray} {F : List (ByteArray × ByteArray)} (h : HF D L F) (k : ByteArray) : findD k F = (findD k D).map fun q => (L[q]?).getD ⟨#[]⟩ := by
  rw [h.eq]
  exact findD_fld L k D
theorem HF.find_none {D : List (ByteArray × Nat)} {L : List ByteArray} {F : List (ByteArray × ByteArray)} (h : HF D L F) (k : ByteArray) (hk : findD k D = none) : findD k F = none := by rw [h.find, hk]; rfl
theorem HF.find_some {D : List (ByteArray × Nat)} {L : List ByteArray} {F : List (ByteArray × ByteArray)} (h : HF D L F) (k : ByteArray) (q : Nat) (hk : findD k D = some q) : ∃ t, L[q]? = some t ∧ findD k F = some t := by
  have hlt := h.lt _ (findD_mem hk)
  refine ⟨L[q], List.getElem?_eq_getElem hlt, ?_⟩
  rw [h.find, hk, Option.map_some, List.getElem?_eq_getElem hlt]
  rfl
theorem HF.new {D : List (ByteArray × Nat)} {L : List ByteArray} {F : List (ByteArray × ByteArray)} (h : HF D L F) (k t : ByteArray) (hk : findD k D = none) : HF (D ++ [(k, L.length)]) (L ++ [t]) (putD k t F) := by
  refine ⟨?_, fun p hp => ?_, ?_⟩
  · rw [put_new (h.find_none k hk), List.map_append, h.eq]
    congr 1
    · refine List.map_congr_left fun p hp => ?_
      unfold fldT
      rw [List.getElem?_append_left (h.lt p hp)]
    · simp [fldT]
  · rw [List.length_append]
    rcases List.mem_append.1 hp with hp | hp
    · have := h.lt p hp
      omega
    · simp at hp
      subst hp
      simp
  · rw [List.map_append, List.nodup_append]
    refine ⟨h.nd, by simp, fun a ha b hb => ?_⟩
    simp at hb
    subst hb
    rintro rfl
    obtain ⟨p, hp, e⟩ := List.mem_map.1 ha
    have := h.lt p hp
    omega
theorem HF.set {D : List (ByteArray × Nat)} {L : List ByteArray} {F : List (ByteArray × ByteArray)} (h : HF D L F) (k t : ByteArray) (q : Nat) (hk : findD k D = some q) : HF D (L.set q t) (putD k t F) := by
  refine ⟨?_, fun p hp => by rw [List.length_set]; exact h.lt p hp, h.nd⟩
  have hq := h.lt _ (findD_mem hk)
  have key : ∀ D' : List (ByteArray × Nat), (∀ p ∈ D', p.2 < L.length) → (D'.map Prod.snd).Nodup → findD k D' = some q → putD k t (D'.map (fldT L)) = D'.map (fldT (L.set q t)) := by
    intro D'
    induction D' with
    | nil => intro _ _ hf; cases hf
    | cons p r ih =>
      obtain ⟨y, i⟩ := p
      intro hlt hnd hf
      have hnd' : i ∉ r.map Prod.snd ∧ (r.map Prod.snd).Nodup := List.nodup_cons.1 hnd
      by_cases hy : y = k
      · simp [findD, hy] at hf
        subst hf hy
        show (if y = y then (y, t) :: r.map (fldT L) else _) = fldT (L.set i t) (y, i) :: r.map (fldT (L.set i t))
        rw [if_pos rfl]
        congr 1
        · simp [fldT, hlt (y, i) (by simp)]
        · refine List.map_congr_left fun p hp => ?_
          have : p.2 ≠ i := fun e => hnd'.1 (List.mem_map.2 ⟨p, hp, e⟩)
          unfold fldT
          rw [List.getElem?_set_ne (Ne.symm this)]
      · simp [findD, hy] at hf
        show (if y = k then _ else fldT L (y, i) :: putD k t (r.map (fldT L))) = fldT (L.set q t) (y, i) :: r.map (fldT (L.set q t))
        rw [if_neg hy, ih (fun p hp => hlt p (List.mem_cons_of_mem _ hp)) hnd'.2 hf]
        congr 1
        have : q ≠ i := by
          rintro rfl
          exact hnd'.1 (List.mem_map.2 ⟨(k, q), findD_mem hf, rfl⟩)
        unfold fldT
        rw [List.getElem?_set_ne this]
  rw [h.eq]
  exact key D h.lt h.nd hk
theorem del_fld (L : List ByteArray) (k : ByteArray) : ∀ D : List (ByteArray × Nat), delD k (D.map (fldT L)) = (delD k D).map (fldT L)
  | [] => rfl
  | (y, q) :: r => by
    show (if y = k then r.map (fldT L) else fldT L (y, q) :: delD k (r.map (fldT L))) = (if y = k then r else (y, q) :: delD k r).map (fldT L)
    by_cases hy : y = k
    · rw [if_pos hy, if_pos hy]
    · rw [if_neg hy, if_neg hy, del_fld L k r]
      rfl
theorem del_sub {α : Type} (k : ByteArray) : ∀ D : List (ByteArray × α), (delD k D).Sublist D
  | [] => List.Sublist.refl _
  | (y, v) :: r => by
    show (if y = k then r else (y, v) :: delD k r).Sublist _
    by_cases hy : y = k
    · rw [if_pos hy]
      exact List.sublist_cons_self _ _
    · rw [if_neg hy]
      exact (del_sub k r).cons_cons _
theorem HF.del {D : List (ByteArray × Nat)} {L : List ByteArray} {F : List (ByteArray × ByteArray)} (h : HF D L F) (k : ByteArray) : HF (delD k D) L (delD k F) :=
  ⟨by rw [h.eq]; exact del_fld L k D, fun p hp => h.lt p ((del_sub k D).subset hp), h.nd.sublist ((del_sub k D).map _)⟩
end Go.Proofs.YticlacjpgjkhcaaGreatDoor

/- Rows of replies of the call's own. -/
namespace Go.Proofs.YticlacjpgjkhcaaGreatDoor
open Go.ChangeShapes Go.WideShapes Go.ChangeAt Go.RowKit

theorem row_kept {w w' : World} {c : Nat} {e : TypeId} {m : Nat} {v : Value} {n : Nat} {xs : List Value} (h : w.ownsRow c e m v n xs) (hb : ∀ g, v.ownBlock = some g → w'.heap[g]? = w.heap[g]?) : w'.ownsRow c e m v n xs := by
  unfold World.ownsRow at h ⊢
  obtain ⟨h1, h2⟩ := h
  refine ⟨h1, ?_⟩
  rcases h2 with h2 | ⟨g, cap, cur, hv, hg, hh, r⟩
  · exact .inl h2
  · exact .inr ⟨g, cap, cur, hv, hg, by rw [hb g (by rw [hv]; rfl)]; exact hh, r⟩
theorem row_mono {w : World} {c d : Nat} {e : TypeId} {m : Nat} {v : Value} {n : Nat} {xs : List Value} (h : w.ownsRow c e m v n xs) (hd : d ≤ c) : w.ownsRow d e m v n xs := by
  unfold World.ownsRow at h ⊢
  obtain ⟨h1, h2⟩ := h
  refine ⟨h1, ?_⟩
  rcases h2 with h2 | ⟨g, cap, cur, hv, hg, r⟩
  · exact .inl h2
  · exact .inr ⟨g, cap, cur, hv, by omega, r⟩
theorem row_own {w : World} {c : Nat} {e : TypeId} {m : Nat} {v : Value} {n : Nat} {xs : List Value} (h : w.ownsRow c e m v n xs) : ∀ g, v.ownBlock = some g → c ≤ g ∧ g < w.heap.size := by
  intro g hg
  unfold World.ownsRow at h
  obtain ⟨_, ⟨rfl, _⟩ | ⟨g', cap, cur, rfl, h1, h2, _⟩⟩ := h
  · cases hg
  · cases hg
    exact ⟨h1, (Array.getElem?_eq_some_iff.1 h2).1⟩
theorem row_below {w w' : World} {c : Nat} {e : TypeId} {m : Nat} {v : Value} {n : Nat} {xs : List Value} (h : w.ownsRow c e m v n xs) (hb : Below w.heap.size w w') : w'.ownsRow c e m v n xs :=
  row_kept h (fun g hg => hb.block g (row_own h g hg).2)
/-- A row's cells. -/
theorem row_cell {w : World} {c : Nat} {e : TypeId} {m g n cap : Nat} {xs : List Value} (h : w.ownsRow c e m (.slice (some ⟨g, 0, none⟩) n cap) n xs) (i : Nat) (v : Value) (hi : xs[i]? = some v) : w.cell? ⟨g, i, none⟩ = some v := by
  unfold World.ownsRow at h
  obtain ⟨hl, ⟨h0, _⟩ | ⟨g', cap', cur, h0, h1, h2, h3, h4, h5, h6⟩⟩ := h
  · cases h0
  · cases h0
    rw [cell_of_row _ g _ _ e (0, 0) h2]
    have hlt := (List.getElem?_eq_some_iff.1 hi).1
    rw [← h6, List.getElem?_take_of_lt (by omega)] at hi
    rw [← Array.getElem?_toList]
    exact hi
/-- A reply of MGET: a text, or nothing. -/
def repC : Option ByteArray → List Value
  | some t => [.int .i64 4, .int .i64 0, .string t, .slice none 0 0]
  | none => [.int .i64 5, .int .i64 0, .string ⟨#[]⟩, .slice none 0 0]
def RO (rs : List (Option ByteArray)) (c : Nat) (w : World) (v : Value) : Prop := w.ownsRow c 29 4 v rs.length (rs.flatMap repC)
theorem RO.keep (rs : List (Option ByteArray)) : RKeep (RO rs) :=
  ⟨fun _ _ _ _ h _ hb => row_kept h (fun g hg => hb g (row_own h g hg).1 (row_own h g hg).2), fun _ _ _ _ h hd => row_mono h hd⟩
theorem repC_len (r : Option ByteArray) : (repC r).length = 4 := by cases r <;> rfl
theorem repC_at (rs : List (Option ByteArray)) : ∀ (i j : Nat) (r : Option ByteArray) (v : Value), rs[i]? = some r → (repC r)[j]? = some v → (rs.flatMap repC)[i * 4 + j]? = some v := by
  induction rs with
  | nil => intro i j r v h; cases h
  | cons q t ih =>
    intro i j r v h hv
    have hj : j < 4 := by have := (List.getElem?_eq_some_iff.1 hv).1; rw [repC_len] at this; exact this
    rw [List.flatMap_cons]
    cases i with
    | zero =>
      cases h
      rw [List.getElem?_append_left (by rw [repC_len]; omega), Nat.zero_mul, Nat.zero_add]
      exact hv
    | succ i =>
      rw [List.getElem?_append_right (by rw [repC_len]; omega), repC_len, show (i + 1) * 4 + j - 4 = i * 4 + j by omega]
      exact ih i j r v h hv
theorem i37 : (Tryz.prog.info? 29).map (fun i => (i.zero, i.size, i.bytes)) = some (some (.agg #[.int .i64 0, .int .i64 0, .string ⟨#[]⟩, .slice none 0 0]), 4, 56) := by kernel_rfl
theorem news_blk {w : World} {b : Nat} {cs : List Value} {t : TypeId} (hb : w.heap[b]? = some (.cells cs.toArray t)) : ∀ (j : Nat) (u : Value), cs[j]? = some u → w.cell? ((⟨b, 0, none⟩ : Addr).add j) = some u := by
  intro j u hj
  rw [Addr.add_lit, cell_of_row _ b _ _ t (0, 0) hb, Nat.zero_add]
  simpa using hj
theorem repC_one (r : Option ByteArray) : ∀ u ∈ repC r, u.oneCell' = true := by
  cases r <;> (intro u hu; simp [repC] at hu; rcases hu with rfl | rfl | rfl | rfl <;> rfl)
theorem map_one (xs : List ByteArray) : ∀ u ∈ xs.map Value.string, u.oneCell' = true := by
  intro u hu
  obtain ⟨s, _, rfl⟩ := List.mem_map.1 hu
  rfl
/-- One reply is appended to a row of replies. -/
theorem append_RO {ops : Array Oper} {rest : List Oper} {o : Oper} {a : Act} {Q : Exit → Act → World → Prop} (w : World) (hg : o.guard = none) (s x : Operand) (hop : o.op = Op.call { callee := Callee.builtin Builtin.append, args := #[s, x], argTypes := #[27, 27] })
    (c : Nat) (v : Value) (rs : List (Option ByteArray)) (N : Nat) (hN : rs.length = N) (hs : a.eval s = v) (h : RO rs c w v) (r : Option ByteArray) (b : Nat) (hx : a.eval x = .slice (some ⟨b, 0, none⟩) 1 1) (hb : w.heap[b]? = some (.cells (repC r).toArray 29)) (hl : N ≤ 100000) (hc : c ≤ w.heap.size)
    (k : ∀ g cap w', RO (rs ++ [r]) c w' (.slice (some ⟨g, 0, none⟩) (N + 1) cap) → Below c w w' → wpList Tryz.prog ops Q rest (a.put o.dst (.slice (some ⟨g, 0, none⟩) (N + 1) cap)) w') : wpList Tryz.prog ops Q (o :: rest) a w := by
  subst hN
  obtain ⟨i0, hi, hz0, hz1, hz2⟩ := info_parts i37
  refine wpList_append_lies w hg s x 27 hop c 29 i0 _ 4 56 Tryz.underlying27 hi hz0 hz1 hz2 rfl (by decide) v rs.length _ hs h ⟨b, 0, none⟩ 1 1 (repC r) hx (by rw [repC_len]) (news_blk hb) (repC_one r) (by decide) (by unfold maxLen; omega) (by omega) hc _ rfl ?_
  intro g cap w' h1 h2 _ _
  refine k g cap w' ?_ ((Below.refl _ _).grown h2 hc (fun k hk => (row_own h k hk).1))
  unfold RO
  rw [List.length_append, List.flatMap_append, show [r].length = 1 from rfl, show [r].flatMap repC = repC r by simp]
  exact h1
end Go.Proofs.YticlacjpgjkhcaaGreatDoor

/- A table: a name's slot; a table in memory. -/
namespace Go.Proofs.YticlacjpgjkhcaaGreatDoor
open Go.ChangeShapes Go.WideShapes Go.ChangeAt Go.RowKit

/-- A name's number. -/
def fnvI (l : List UInt8) : Int := l.foldl (fun h b => bits .xor .u32 h ((b.toNat : Int) % 4294967296) * 16777619 % 4294967296) 2166136261
theorem fnv_snoc (l : List UInt8) (b : UInt8) : fnvI (l ++ [b]) = bits .xor .u32 (fnvI l) ((b.toNat : Int) % 4294967296) * 16777619 % 4294967296 := by simp [fnvI]
theorem fnv_range (l : List UInt8) : 0 ≤ fnvI l ∧ fnvI l < 4294967296 := by
  rcases List.eq_nil_or_concat l with rfl | ⟨L, b, rfl⟩
  · exact ⟨by decide, by decide⟩
  · rw [List.concat_eq_append, fnv_snoc]
    omega
/-- A name's slot. -/
def slotT (s : ByteArray) : Nat := ((fnvI (bl s)).tmod 8).toNat
theorem slot_lt (s : ByteArray) : slotT s < 8 := by
  have h := fnv_range (bl s)
  have h1 := Int.tmod_nonneg 8 h.1
  have h2 := Int.tmod_lt_of_pos (fnvI (bl s)) (b := 8) (by decide)
  unfold slotT
  omega
theorem slot_eq (s : ByteArray) : (fnvI (bl s)).tmod 8 = (slotT s : Int) := by
  have h1 := Int.tmod_nonneg 8 (fnv_range (bl s)).1
  unfold slotT
  omega
theorem place_num (s : ByteArray) : wrap64 ((fnvI (bl s)).tmod 8) = (slotT s : Int) := by
  rw [slot_eq]
  have := slot_lt s
  unfold wrap64
  omega
set_option maxRecDepth 100000 in
set_option maxHeartbeats 4000000 in
theorem hash_any (s : ByteArray) (hs : s.size ≤ 1000000) (w : World) : Calls Tryz.prog 242 #[.string s] w fun e w' => e = .returned (.int .u32 (fnvI (bl s))) ∧ w' = w := by
  go_enter Tryz.func242, Tryz.ntmps242
  go_wp2
  go_loopw [3, 7] (fun hv iv wr => ∃ i : Nat, i ≤ s.size ∧ hv = .int .u32 (fnvI ((bl s).take i)) ∧ iv = .int .i64 i ∧ wr = w) (fun _ iv _ => s.size - (intOf iv).toNat)
  case atStart => exact ⟨0, Nat.zero_le _, rfl, rfl, rfl⟩
  case round =>
    obtain ⟨i, hi, rfl, rfl, rfl⟩ := hrel
    by_cases hlt : i < s.size
    · have q1 : (i : Int) < (s.size : Int) := by omega
      have hb : (bl s)[i]? = some s[i] := by
        unfold bl
        rw [List.getElem?_eq_getElem (by simpa using hlt)]
        rfl
      have e := fnv_snoc ((bl s).take i) s[i]
      have e2 : (bl s).take (i + 1) = (bl s).take i ++ [s[i]] := by rw [List.take_add_one, hb]; rfl
      rw [← e2] at e
      have HE := Lib.hid e
      clear hb e e2
      generalize fnvI ((bl s).take i) = hv at HE ⊢
      go_wp2
      exact ⟨⟨i + 1, hlt, by rw [HE.out], by go_num, trivial⟩, by simp [intOf]; omega⟩
    · have q1 : ¬ (i : Int) < (s.size : Int) := by omega
      have e : (bl s).take i = bl s := List.take_of_length_le (by simp [bl]; omega)
      rw [e]
      go_wp2
      go_ret
      exact ⟨rfl, rfl⟩
set_option maxRecDepth 100000 in
set_option maxHeartbeats 4000000 in
theorem place_any (g : Nat) (s : ByteArray) (hs : s.size ≤ 1000000) (w : World) : Calls Tryz.prog 216 #[.slice (some ⟨g, 0, none⟩) 8 8, .string s] w fun e w' => e = .returned (.int .i64 (slotT s : Int)) ∧ w' = w := by
  have H := Lib.hid (hash_any s hs w)
  have HP := Lib.hid (place_num s)
  go_enter Tryz.func216, Tryz.ntmps216
  go_wp2_with (first | (go_at_call 242; (with_reducible refine (H.out).mono ?_); rintro e w1 ⟨rfl, rfl⟩))
  rw [HP.out]
  go_ret
  exact ⟨by simp, rfl⟩
end Go.Proofs.YticlacjpgjkhcaaGreatDoor

/- Rows of texts of the call's own: append. -/
namespace Go.Proofs.YticlacjpgjkhcaaGreatDoor
open Go.ChangeShapes Go.WideShapes Go.ChangeAt Go.RowKit

/-- A row of texts of the call's own. -/
def TO (w : World) (c : Nat) (v : Value) (xs : List ByteArray) : Prop := w.ownsRow c 9 1 v xs.length (xs.map Value.string)
theorem TO.ssl {w : World} {c : Nat} {v : Value} {xs : List ByteArray} (h : TO w c v xs) : SSl w v xs := by
  have h' := h
  unfold TO World.ownsRow at h'
  obtain ⟨_, ⟨rfl, h0⟩ | ⟨g, cap, cur, rfl, h1, h2, h3, h4, h5, h6⟩⟩ := h'
  · exact ⟨none, 0, by rw [h0], by omega, Nat.zero_le _, fun hne => absurd (List.length_eq_zero_iff.1 h0) hne⟩
  · refine ⟨_, cap, rfl, h3, h4, fun _ => ⟨g, 0, rfl, (Array.getElem?_eq_some_iff.1 h2).1, fun i s hi => ?_⟩⟩
    rw [Nat.zero_add]
    exact row_cell h i _ (by rw [List.getElem?_map, hi]; rfl)
theorem step_append_TO {ops : Array Oper} {o : Oper} {a : Act} {K : Act → World → Prop} {Q : Exit → Act → World → Prop} {E : Prop} (w : World) (hg : o.guard = none) (s x : Operand) (hop : o.op = Op.call { callee := Callee.builtin Builtin.append, args := #[s, x], argTypes := #[58, 58] })
    (c : Nat) (v : Value) (xs : List ByteArray) (N : Nat) (hN : xs.length = N) (hs : a.eval s = v) (h : TO w c v xs) (ys : List ByteArray) (M : Nat) (hM : ys.length = M) (b : Nat) (hx : a.eval x = .slice (some ⟨b, 0, none⟩) M M) (hb : w.heap[b]? = some (.cells (ys.map Value.string).toArray 9)) (hp : 0 < M) (hl : N + M ≤ 100000) (hc : c ≤ w.heap.size)
    (k : ∀ g cap w', TO w' c (.slice (some ⟨g, 0, none⟩) (N + M) cap) (xs ++ ys) → w.grownBy w' v.ownBlock → (v.ownBlock = some g ∨ g = w.heap.size) → K (a.put o.dst (.slice (some ⟨g, 0, none⟩) (N + M) cap)) w') :
    if Region.wanted o (yielded ops a.tmps) = true then Oper.wp Tryz.prog o a w K Q else E := by
  subst hN
  subst hM
  obtain ⟨i0, hi, hz0, hz1, hz2⟩ := info_parts i9
  refine step_append_lies w hg s x 58 hop c 9 i0 _ 1 16 Tryz.underlying58 hi hz0 hz1 hz2 rfl (by decide) v xs.length _ hs h ⟨b, 0, none⟩ ys.length ys.length (ys.map Value.string) hx (by simp) (news_blk hb) (map_one ys) hp (by unfold maxLen; omega) (by omega) hc _ rfl ?_
  intro g cap w' h1 h2 h3 _
  refine k g cap w' ?_ h2 h3
  unfold TO
  rw [List.length_append, List.map_append]
  exact h1
theorem append_TO {ops : Array Oper} {rest : List Oper} {o : Oper} {a : Act} {Q : Exit → Act → World → Prop} (w : World) (hg : o.guard = none) (s x : Operand) (hop : o.op = Op.call { callee := Callee.builtin Builtin.append, args := #[s, x], argTypes := #[58, 58] })
    (c : Nat) (v : Value) (xs : List ByteArray) (N : Nat) (hN : xs.length = N) (hs : a.eval s = v) (h : TO w c v xs) (ys : List ByteArray) (M : Nat) (hM : ys.length = M) (b : Nat) (hx : a.eval x = .slice (some ⟨b, 0, none⟩) M M) (hb : w.heap[b]? = some (.cells (ys.map Value.string).toArray 9)) (hp : 0 < M) (hl : N + M ≤ 100000) (hc : c ≤ w.heap.size)
    (k : ∀ g cap w', TO w' c (.slice (some ⟨g, 0, none⟩) (N + M) cap) (xs ++ ys) → w.grownBy w' v.ownBlock → (v.ownBlock = some g ∨ g = w.heap.size) → wpList Tryz.prog ops Q rest (a.put o.dst (.slice (some ⟨g, 0, none⟩) (N + M) cap)) w') : wpList Tryz.prog ops Q (o :: rest) a w := by
  subst hN
  subst hM
  obtain ⟨i0, hi, hz0, hz1, hz2⟩ := info_parts i9
  refine wpList_append_lies w hg s x 58 hop c 9 i0 _ 1 16 Tryz.underlying58 hi hz0 hz1 hz2 rfl (by decide) v xs.length _ hs h ⟨b, 0, none⟩ ys.length ys.length (ys.map Value.string) hx (by simp) (news_blk hb) (map_one ys) hp (by unfold maxLen; omega) (by omega) hc _ rfl ?_
  intro g cap w' h1 h2 h3 _
  refine k g cap w' ?_ h2 h3
  unfold TO
  rw [List.length_append, List.map_append]
  exact h1
theorem TO.lit (X : World) (xs : List ByteArray) (b : Nat) (c : Nat) (n : Nat) (hn : xs.length = n) (hm : n ≤ 1000) (hc : c ≤ b) (h : X.heap[b]? = some (.cells (xs.map Value.string).toArray 9)) : TO X c (.slice (some ⟨b, 0, none⟩) n n) xs := by
  subst hn
  unfold TO World.ownsRow
  refine ⟨by simp, .inr ⟨b, xs.length, _, rfl, hc, h, Nat.le_refl _, by unfold maxLen; omega, by simp, ?_⟩⟩
  exact List.take_of_length_le (by simp)
end Go.Proofs.YticlacjpgjkhcaaGreatDoor
