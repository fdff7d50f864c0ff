/- Texts joined: H1, V2P, V3P, V4P, V6P -/
import Derived.Test.YticlacjpgjkhcaaGreatDoorQn13
import Derived.Test.YticlacjpgjkhcaaGreatDoorQn14
import Derived.Test.YticlacjpgjkhcaaGreatDoorQn11
import Derived.Sort.Walk0

/- Fields by names as data: the sorted list of an association. -/
namespace Go.Proofs.YticlacjpgjkhcaaGreatDoor
open Go.ChangeShapes Go.WideShapes Go.ChangeAt Go.RowKit

/-- A text's bytes. -/
def bl (s : ByteArray) : List UInt8 := s.data.toList
theorem bl_inj {s t : ByteArray} (h : bl s = bl t) : s = t := Go.WideShapes.bytes_inj h
def leN (a b : ByteArray) : Bool := decide (bl a ≤ bl b)
/-- Names, sorted. -/
def srtN (ns : List ByteArray) : List ByteArray := ns.mergeSort leN
theorem leN_trans (a b c : ByteArray) (h1 : leN a b = true) (h2 : leN b c = true) : leN a c = true := by
  simp only [leN, decide_eq_true_eq] at h1 h2 ⊢
  exact List.le_trans h1 h2
theorem leN_total (a b : ByteArray) : (leN a b || leN b a) = true := by
  simp only [leN, Bool.or_eq_true, decide_eq_true_eq]
  exact List.le_total _ _
theorem leN_anti {a b : ByteArray} (h1 : leN a b = true) (h2 : leN b a = true) : a = b := by
  simp only [leN, decide_eq_true_eq] at h1 h2
  exact bl_inj (List.le_antisymm h1 h2)
theorem srtN_perm (ns : List ByteArray) : (srtN ns).Perm ns := List.mergeSort_perm ns leN
theorem srtN_len (ns : List ByteArray) : (srtN ns).length = ns.length := (srtN_perm ns).length_eq
theorem srtN_mem (ns : List ByteArray) (a : ByteArray) : a ∈ srtN ns ↔ a ∈ ns := (srtN_perm ns).mem_iff
theorem srtN_pair (ns : List ByteArray) : (srtN ns).Pairwise (fun a b => leN a b = true) := List.pairwise_mergeSort leN_trans leN_total ns
theorem srtN_map (ns : List ByteArray) : (srtN ns).map bl = (ns.map bl).mergeSort (fun x y => decide (x ≤ y)) := List.map_mergeSort (fun _ _ _ _ => rfl)
theorem srtN_of (ns : List ByteArray) (h : ns.Pairwise (fun a b => leN a b = true)) : srtN ns = ns := List.mergeSort_of_pairwise h
theorem srtN_eq {ns ms : List ByteArray} (h : ns.Perm ms) : srtN ns = srtN ms := by
  refine List.Perm.eq_of_pairwise (fun a b _ _ h1 h2 => leN_anti h1 h2) (srtN_pair ns) (srtN_pair ms) ?_
  exact (srtN_perm ns).trans (h.trans (srtN_perm ms).symm)
section
variable {α : Type}
def namesD (D : List (ByteArray × α)) : List ByteArray := D.map Prod.fst
theorem findD_putD (k : ByteArray) (x : α) (q : ByteArray) : ∀ (D : List (ByteArray × α)), findD q (putD k x D) = if k = q then some x else findD q D
  | [] => by simp [putD, findD]
  | (y, v) :: r => by
    by_cases hy : y = k
    · subst hy
      simp only [putD, if_true, findD]
      by_cases hq : y = q <;> simp [hq]
    · simp only [putD, hy, if_false, findD, findD_putD k x q r]
      by_cases hq : y = q
      · subst hq
        have : ¬ k = y := fun e => hy e.symm
        simp [this]
      · simp [hq]
theorem names_put_in (k : ByteArray) (x : α) : ∀ (D : List (ByteArray × α)), k ∈ namesD D → namesD (putD k x D) = namesD D
  | [], h => by cases h
  | (y, v) :: r, h => by
    by_cases hy : y = k
    · subst hy
      simp [putD, namesD]
    · have hk : ¬ k = y := fun e => hy e.symm
      have hm : k ∈ namesD r := (List.mem_cons.1 h).resolve_left hk
      simp only [putD, hy, if_false]
      exact congrArg (y :: ·) (names_put_in k x r hm)
theorem names_put_new (k : ByteArray) (x : α) : ∀ (D : List (ByteArray × α)), k ∉ namesD D → namesD (putD k x D) = namesD D ++ [k]
  | [], _ => rfl
  | (y, v) :: r, h => by
    have hy : ¬ y = k := by
      rintro rfl
      exact h List.mem_cons_self
    simp only [putD, hy, if_false]
    exact congrArg (y :: ·) (names_put_new k x r fun e => h (List.mem_cons_of_mem _ e))
theorem names_delD (k : ByteArray) : ∀ (D : List (ByteArray × α)), (namesD (delD k D)).Sublist (namesD D)
  | [] => List.Sublist.refl _
  | (y, v) :: r => by
    show (namesD (if y = k then r else (y, v) :: delD k r)).Sublist (y :: namesD r)
    by_cases hy : y = k
    · rw [if_pos hy]
      exact List.sublist_cons_self _ _
    · rw [if_neg hy]
      exact (names_delD k r).cons_cons y
theorem mem_names {k : ByteArray} : ∀ {D : List (ByteArray × α)}, k ∈ namesD D ↔ (findD k D).isSome = true
  | [] => by simp [namesD, findD]
  | (y, v) :: r => by
    have ih := mem_names (k := k) (D := r)
    show k ∈ y :: namesD r ↔ (if y = k then some v else findD k r).isSome = true
    by_cases hy : y = k
    · subst hy
      simp
    · have hk : ¬ k = y := fun e => hy e.symm
      simp [hy, hk, ih]
theorem nd_putD {k : ByteArray} {x : α} {D : List (ByteArray × α)} (h : (namesD D).Nodup) : (namesD (putD k x D)).Nodup := by
  by_cases hm : k ∈ namesD D
  · rw [names_put_in k x D hm]
    exact h
  · rw [names_put_new k x D hm, List.nodup_append]
    exact ⟨h, by simp, fun a ha b hb => by
      simp at hb
      subst hb
      rintro rfl
      exact hm ha⟩
theorem nd_delD {k : ByteArray} {D : List (ByteArray × α)} (h : (namesD D).Nodup) : (namesD (delD k D)).Nodup := h.sublist (names_delD k D)
theorem findD_delD {k : ByteArray} (q : ByteArray) : ∀ {D : List (ByteArray × α)}, (namesD D).Nodup → findD q (delD k D) = if k = q then none else findD q D
  | [], _ => by simp [delD, findD]
  | (y, v) :: r, h => by
    have h' : y ∉ namesD r ∧ (namesD r).Nodup := List.nodup_cons.1 h
    have ih := findD_delD (k := k) q h'.2
    by_cases hy : y = k
    · subst hy
      simp only [delD, if_true, findD]
      by_cases hq : y = q
      · subst hq
        simp only [if_true]
        cases hf : findD y r with
        | none => rfl
        | some z => exact absurd (mem_names.2 (by rw [hf]; rfl)) h'.1
      · simp [hq]
    · simp only [delD, hy, if_false, findD, ih]
      by_cases hq : y = q
      · subst hq
        have : ¬ k = y := fun e => hy e.symm
        simp [this]
      · simp [hq]
theorem perm_names {D D' : List (ByteArray × α)} (h : (namesD D).Nodup) (h' : (namesD D').Nodup) (he : ∀ n, findD n D = findD n D') : (namesD D).Perm (namesD D') :=
  (List.perm_ext_iff_of_nodup h h').2 fun a => by rw [mem_names, mem_names, he]
theorem findD_none_of {k : ByteArray} {D : List (ByteArray × α)} (h : k ∉ namesD D) : findD k D = none := by
  cases hf : findD k D with
  | none => rfl
  | some z => exact absurd (mem_names.2 (by rw [hf]; rfl)) h
theorem findD_of_mem {k : ByteArray} {x : α} : ∀ {D : List (ByteArray × α)}, (namesD D).Nodup → (k, x) ∈ D → findD k D = some x
  | [], _, h => by cases h
  | (y, v) :: r, hn, h => by
    have h' : y ∉ namesD r ∧ (namesD r).Nodup := List.nodup_cons.1 hn
    rcases List.mem_cons.1 h with e | e
    · cases e
      simp [findD]
    · have : ¬ y = k := by
        rintro rfl
        exact h'.1 (List.mem_map.2 ⟨(y, x), e, rfl⟩)
      simp [findD, this, findD_of_mem h'.2 e]
theorem len_names (D : List (ByteArray × α)) : (namesD D).length = D.length := by simp [namesD]
end
/-- Fields, sorted by names. -/
def srtF (D : List (ByteArray × ByteArray)) : List (ByteArray × ByteArray) := (srtN (namesD D)).map fun n => (n, (findD n D).getD ⟨#[]⟩)
theorem names_map (f : ByteArray → ByteArray) (ns : List ByteArray) : namesD (ns.map fun n => (n, f n)) = ns := by
  unfold namesD
  rw [List.map_map]
  exact List.map_id ns
theorem names_srtF (D : List (ByteArray × ByteArray)) : namesD (srtF D) = srtN (namesD D) := names_map _ _
theorem len_srtF (D : List (ByteArray × ByteArray)) : (srtF D).length = D.length := by simp [srtF, srtN_len, len_names]
theorem nd_srtF {D : List (ByteArray × ByteArray)} (h : (namesD D).Nodup) : (namesD (srtF D)).Nodup := by
  rw [names_srtF]
  exact (srtN_perm _).nodup_iff.2 h
theorem findD_map (f : ByteArray → ByteArray) (k : ByteArray) : ∀ ns : List ByteArray, k ∈ ns → findD k (ns.map fun n => (n, f n)) = some (f k)
  | [], h => by cases h
  | n :: r, h => by
    by_cases hn : n = k
    · subst hn
      simp [findD]
    · have hk : ¬ k = n := fun e => hn e.symm
      simp only [List.map_cons, findD, hn, if_false]
      exact findD_map f k r ((List.mem_cons.1 h).resolve_left hk)
theorem findD_srtF (D : List (ByteArray × ByteArray)) (k : ByteArray) : findD k (srtF D) = findD k D := by
  by_cases h : k ∈ namesD D
  · unfold srtF
    rw [findD_map _ k _ ((srtN_mem _ _).2 h)]
    have := mem_names.1 h
    cases hf : findD k D with
    | none => rw [hf] at this; cases this
    | some z => rfl
  · rw [findD_none_of h, findD_none_of (by rw [names_srtF, srtN_mem]; exact h)]
theorem srtF_ext {D D' : List (ByteArray × ByteArray)} (h : (namesD D).Nodup) (h' : (namesD D').Nodup) (he : ∀ n, findD n D = findD n D') : srtF D = srtF D' := by
  unfold srtF
  rw [srtN_eq (perm_names h h' he)]
  exact List.map_congr_left fun a _ => by rw [he]
/-- Fields that rise by names. -/
def Rises (D : List (ByteArray × ByteArray)) : Prop := (namesD D).Pairwise fun a b => leN a b = true
theorem rises_srtF (D : List (ByteArray × ByteArray)) : Rises (srtF D) := by
  unfold Rises
  rw [names_srtF]
  exact srtN_pair _
theorem srtF_of {D : List (ByteArray × ByteArray)} (h : (namesD D).Nodup) (hr : Rises D) : srtF D = D := by
  unfold srtF
  rw [srtN_of _ hr]
  unfold namesD
  rw [List.map_map]
  conv => rhs; rw [← List.map_id D]
  refine List.map_congr_left fun p hp => ?_
  show (p.1, (findD p.1 D).getD ⟨#[]⟩) = p
  rw [findD_of_mem h (x := p.2) hp]
  rfl
theorem srtF_put {D : List (ByteArray × ByteArray)} (h : (namesD D).Nodup) (k v : ByteArray) : srtF (putD k v (srtF D)) = srtF (putD k v D) :=
  srtF_ext (nd_putD (nd_srtF h)) (nd_putD h) fun n => by rw [findD_putD, findD_putD, findD_srtF]
end Go.Proofs.YticlacjpgjkhcaaGreatDoor

/- Values of kind P: how many, how long; when one element is ahead of another. -/
namespace Go.Proofs.YticlacjpgjkhcaaGreatDoor
open Go.ChangeShapes Go.WideShapes Go.ChangeAt Go.RowKit Go.Fl

set_option maxRecDepth 100000 in
set_option maxHeartbeats 4000000 in
theorem countP (A : Option Addr) (n C : Nat) (w : World) : Calls Tryz.prog 167 #[.agg #[.int .i64 5, .string ⟨#[]⟩, .slice none 0 0, .slice none 0 0, .slice none 0 0, .slice A n C]] w fun e w' => e = .returned (.agg #[.int .i64 0, .int .i64 0, .int .i64 0, .int .i64 (n : Int)]) ∧ Below w.heap.size w w' := by
  go_enter Tryz.func167, Tryz.ntmps167
  go_wp2
  exact bodyPost_ret (v := .agg #[.int .i64 0, .int .i64 0, .int .i64 0, .int .i64 (n : Int)]) (by simp [results, Tryz.results167, go_sem]) rfl ⟨rfl, ((Below.refl _ _).alloc (Nat.le_refl _) _).alloc (by simp) _⟩
set_option maxRecDepth 100000 in
set_option maxHeartbeats 4000000 in
theorem LenP (A : Option Addr) (n C : Nat) (w : World) : Calls Tryz.prog 165 #[.agg #[.int .i64 5, .string ⟨#[]⟩, .slice none 0 0, .slice none 0 0, .slice none 0 0, .slice A n C]] w fun e w' => e = .returned (.int .i64 (n : Int)) ∧ Below w.heap.size w w' := by
  go_enter Tryz.func165, Tryz.ntmps165
  go_wp2
  go_ret
  exact ⟨by simp, alloc_old⟩
theorem less_bl (a b : ByteArray) : Op.bytesLess a.toList b.toList = decide (bl a < bl b) := by
  rw [Go.Proofs.bytesLess_eq, ByteArray.toList_eq, ByteArray.toList_eq]
  rfl
set_option maxRecDepth 100000 in
set_option maxHeartbeats 4000000 in
/-- Elements that rise. -/
theorem riseP (A : Option Addr) (C : Nat) (l : List (ByteArray × Int × Int)) (n : Nat) (hn : l.length = n) (h1 : 1 ≤ n) (hm : n ≤ 1000000) (c : Nat) (w : World) (h : RP w c (.slice A n C) l)
    (hl : ∀ (i : Nat) (p q : ByteArray × Int × Int), l[i]? = some p → l[i + 1]? = some q → ∀ X, Calls Tryz.prog 171 #[.agg #[.string p.1, .complex .f64 (fi p.2.1) (fi p.2.2)], .agg #[.string q.1, .complex .f64 (fi q.2.1) (fi q.2.2)]] X fun e w' => e = .returned (.bool true) ∧ Below X.heap.size X w') : Calls Tryz.prog 170 #[.slice A n C, .func (.func 171) #[] #[]] w fun e w' => e = .returned (.bool true) ∧ Below w.heap.size w w' := by
  obtain ⟨g, C', hA, hC⟩ := h.form (by intro e; rw [e] at hn; simp at hn; omega)
  have hA' : A = some ⟨g, 0, none⟩ := by injection hA
  subst hA'
  clear hA hC
  have HR := Lib.hid h
  have HN := Lib.hid hn
  have HL := Lib.hid hl
  clear h hl hn
  go_enter Tryz.func170, Tryz.ntmps170
  go_wp2
  go_loopw [5] (fun iv wr => ∃ i : Nat, 1 ≤ i ∧ i ≤ n ∧ iv = .int .i64 i ∧ Hid (Below w.heap.size w wr)) (fun iv _ => n - (iOfL iv).toNat)
  case atStart => exact ⟨1, Nat.le_refl _, h1, rfl, Lib.hid (Below.refl _ _)⟩
  case round =>
    obtain ⟨i, hi1, hi, rfl, HB⟩ := hrel
    by_cases hlt : i < n
    · obtain ⟨m, rfl⟩ : ∃ m, i = m + 1 := ⟨i - 1, by omega⟩
      obtain ⟨p, hp⟩ : ∃ p, l[m]? = some p := ⟨_, List.getElem?_eq_getElem (by rw [HN.out]; omega)⟩
      obtain ⟨q, hq⟩ : ∃ q, l[m + 1]? = some q := ⟨_, List.getElem?_eq_getElem (by rw [HN.out]; omega)⟩
      have SX := Lib.hid (show ∀ X, Below w.heap.size w X → (X.cell? ⟨g, m * 2, none⟩ = some (.string p.1) ∧ X.cell? ⟨g, m * 2 + 1, none⟩ = some (.complex .f64 (fi p.2.1) (fi p.2.2)) ∧ X.cell? ⟨g, (m + 1) * 2, none⟩ = some (.string q.1) ∧ X.cell? ⟨g, (m + 1) * 2 + 1, none⟩ = some (.complex .f64 (fi q.2.1) (fi q.2.2))) from fun X hb => by
        obtain ⟨d0, d1⟩ := (HR.out.below hb).at HN.out m p hp
        obtain ⟨e0, e1⟩ := (HR.out.below hb).at HN.out (m + 1) q hq
        exact ⟨d0, d1, e0, e1⟩)
      have LS := Lib.hid (HL.out m p q hp hq wr.drew)
      have S0 := SX.out wr.drew HB.out.drew
      have q3 : (m : Int) + 1 < (n : Int) := by omega
      have q4 : (m : Int) < (n : Int) := by omega
      have w1 : IntKind.i64.wrap (m : Int) = (m : Int) := IntWalk.i64_in _ (by omega)
      have w2 : IntKind.i64.wrap ((m : Int) + 1) = (m : Int) + 1 := IntWalk.i64_in _ (by omega)
      have w3 : (0 : Int) ≤ (m : Int) + 1 := by omega
      have w4 : ((m : Int) + 1).toNat = m + 1 := by omega
      clear hp hq
      go_wp2
      go_region_held3 (fun X => X.cell? ⟨g, m * 2, none⟩ = some (.string p.1) ∧ X.cell? ⟨g, m * 2 + 1, none⟩ = some (.complex .f64 (fi p.2.1) (fi p.2.2)) ∧ X.cell? ⟨g, (m + 1) * 2, none⟩ = some (.string q.1) ∧ X.cell? ⟨g, (m + 1) * 2 + 1, none⟩ = some (.complex .f64 (fi q.2.1) (fi q.2.2))) (first | (with_reducible exact S0) | (with_reducible exact S2.out))
        (first | (go_at_call 171; (with_reducible refine (LS.out).mono ?_); rintro e w5 ⟨rfl, h1⟩; have HB1 := Lib.hid (belT HB.out.drew h1); have S2 := Lib.hid (SX.out _ HB1.out); clear h1))
      clear w1 w2 w3 w4 S0 S2
      go_wp2
      exact ⟨⟨m + 1 + 1, by omega, by omega, by go_num, HB1⟩, by simp [iOfL]; omega⟩
    · obtain rfl : n = i := by omega
      have q1 : ¬ (n : Int) < (n : Int) := by omega
      go_wp2
      go_ret
      exact ⟨by simp, HB.out⟩
end Go.Proofs.YticlacjpgjkhcaaGreatDoor

/- Values of kind P: their texts. -/
namespace Go.Proofs.YticlacjpgjkhcaaGreatDoor
open Go.ChangeShapes Go.WideShapes Go.ChangeAt Go.RowKit Go.Fl

/-- The texts of elements. -/
def tP (l : List (ByteArray × Int × Int)) : List ByteArray := l.flatMap fun p => [p.1]
theorem tP_len (l : List (ByteArray × Int × Int)) : (tP l).length = l.length * 1 := by
  induction l with
  | nil => rfl
  | cons p r ih =>
    unfold tP at ih ⊢
    rw [List.flatMap_cons, List.length_append, ih, List.length_cons]
    simp
    omega
theorem tP_snoc (l : List (ByteArray × Int × Int)) (i : Nat) (p : ByteArray × Int × Int) (h : l[i]? = some p) : tP (l.take (i + 1)) = tP (l.take i) ++ [p.1] := by
  unfold tP
  rw [List.take_add_one, h]
  simp
set_option maxRecDepth 100000 in
set_option maxHeartbeats 4000000 in
theorem textsP (kd : Int) (g C : Nat) (l : List (ByteArray × Int × Int)) (n : Nat) (hn : l.length = n) (hm : n ≤ 1000) (c : Nat) (w : World) (h : RP w c (.slice (some ⟨g, 0, none⟩) n C) l) : Calls Tryz.prog 166 #[.agg #[.int .i64 kd, .string ⟨#[]⟩, .slice none 0 0, .slice none 0 0, .slice none 0 0, .slice (some ⟨g, 0, none⟩) n C]] w fun e w' => ∃ v, e = .returned v ∧ TO w' w.heap.size v (tP l) ∧ Below w.heap.size w w' := by
  have CL := Lib.hid (fun X => Clone57 X)
  have hb := Lib.hid (heap_alloc_new w (.cells #[.int .i64 kd, .string ⟨#[]⟩, .slice none 0 0, .slice none 0 0, .slice none 0 0, .slice (some ⟨g, 0, none⟩) n C] 64))
  have B0 := Lib.hid (alloc_old (w := w) (o := .cells #[.int .i64 kd, .string ⟨#[]⟩, .slice none 0 0, .slice none 0 0, .slice none 0 0, .slice (some ⟨g, 0, none⟩) n C] 64))
  have HR := Lib.hid h
  have HN := Lib.hid hn
  clear h hn
  obtain ⟨⟨c0, c1, c2, c3, c4, c5⟩, _⟩ := cells6 hb.out
  go_enter Tryz.func166, Tryz.ntmps166
  go_wp2_with (first | (go_at_call 145; (with_reducible refine (CL.out _).mono ?_); rintro e w2 ⟨rfl, hw2⟩; subst hw2))
  have T0 := Lib.hid (show TO (w.alloc (.cells #[.int .i64 kd, .string ⟨#[]⟩, .slice none 0 0, .slice none 0 0, .slice none 0 0, .slice (some ⟨g, 0, none⟩) n C] 64)) (w.alloc (.cells #[.int .i64 kd, .string ⟨#[]⟩, .slice none 0 0, .slice none 0 0, .slice none 0 0, .slice (some ⟨g, 0, none⟩) n C] 64)).heap.size (.slice none 0 0) (tP (l.take 0)) from World.ownsRow_nil _ _ _ _)
  generalize (w.alloc (.cells #[.int .i64 kd, .string ⟨#[]⟩, .slice none 0 0, .slice none 0 0, .slice none 0 0, .slice (some ⟨g, 0, none⟩) n C] 64)) = W at hb B0 T0 c0 c1 c2 c3 c4 c5 ⊢
  go_loopw [3, 16] (fun t i wr => Value.slice none 0 0 = t ∧ i = .int .i64 0 ∧ W = wr) (fun _ _ _ => 0)
  case atStart => exact ⟨rfl, rfl, rfl⟩
  case round =>
  obtain ⟨rfl, rfl, rfl⟩ := hrel
  obtain ⟨⟨c0, c1, c2, c3, c4, c5⟩, _⟩ := cells6 hb.out
  go_wp2
  go_loopw [3, 31] (fun t i wr => Value.slice none 0 0 = t ∧ i = .int .i64 0 ∧ W = wr) (fun _ _ _ => 0)
  case atStart => exact ⟨rfl, rfl, rfl⟩
  case round =>
  obtain ⟨rfl, rfl, rfl⟩ := hrel
  obtain ⟨⟨c0, c1, c2, c3, c4, c5⟩, _⟩ := cells6 hb.out
  go_wp2
  go_loopw [3, 44] (fun ov iv wr => ∃ i : Nat, i ≤ n ∧ iv = .int .i64 i ∧ Hid (TO wr W.heap.size ov (tP (l.take i)) ∧ Below W.heap.size W wr)) (fun _ iv _ => n - (iOfL iv).toNat)
  case atStart => exact ⟨0, Nat.zero_le _, rfl, Lib.hid ⟨T0.out, Below.refl _ _⟩⟩
  case round =>
  obtain ⟨i, hi, rfl, HI⟩ := hrel
  by_cases hlt : i < n
  · obtain ⟨p, hp⟩ : ∃ p, l[i]? = some p := ⟨_, List.getElem?_eq_getElem (by rw [HN.out]; exact hlt)⟩
    have q1 : (i : Int) < (n : Int) := by omega
    obtain ⟨d0, d1⟩ := (HR.out.below (belT B0.out HI.out.2)).at HN.out i p hp
    have hln : (tP (l.take i)).length = i * 1 := by rw [tP_len, List.length_take, HN.out]; congr 1; omega
    have HLN := Lib.hid hln
    have HTK := Lib.hid (tP_snoc l i p hp)
    have A2 := Lib.hid ((alloc_old (w := wr) (o := .cells #[.string p.1, .complex .f64 (fi p.2.1) (fi p.2.2)] 110)).trans ((alloc_old (w := wr.alloc (.cells #[.string p.1, .complex .f64 (fi p.2.1) (fi p.2.2)] 110)) (o := .cells #[.string p.1] 9)).mono (by simp)))
    have b5 := Lib.hid (show ((wr.alloc (.cells #[.string p.1, .complex .f64 (fi p.2.1) (fi p.2.2)] 110)).alloc (.cells #[.string p.1] 9)).heap[wr.heap.size + 1]? = some (.cells #[.string p.1] 9) from heap2L wr _)
    have R5 := Lib.hid (show TO _ W.heap.size _ _ from row_below HI.out.1 A2.out)
    have z5 := Lib.hid (Nat.le_trans (Below.size HI.out.2) (Below.size A2.out))
    clear hp hln
    go_wp2_with (first | (at_builtin; refine append_TO _ rfl _ _ rfl W.heap.size _ _ (i * 1) HLN.out rfl R5.out [p.1] 1 rfl _ rfl b5.out (by decide) (by omega) z5.out ?_; intro g6 C6 w6 h6 h7 h8; have T6 := Lib.hid h6; have G6 := Lib.hid h7; clear h6 h7 h8))
    refine ⟨⟨i + 1, hlt, by go_num, Lib.hid ⟨?_, ?_⟩⟩, by simp [iOfL]; omega⟩
    · rw [HTK.out]
      have h9 := T6.out
      rw [Nat.mul_one] at h9
      exact h9
    · exact (HI.out.2.trans (A2.out.mono (Below.size HI.out.2))).grown G6.out z5.out (fun b hb => (row_own R5.out b hb).1)
  · obtain rfl : n = i := by omega
    have q1 : ¬ (n : Int) < (n : Int) := by omega
    obtain ⟨w5, rfl⟩ : ∃ w5, w5 = wr := ⟨_, rfl⟩
    obtain ⟨A9, C9, rfl, _, _⟩ := row_form HI.out.1
    obtain ⟨⟨c0, c1, c2, c3, c4, c5⟩, _⟩ := cells6 (blk_below hb.out HI.out.2)
    go_wp2
    go_ret
    have hT := HI.out.1
    rw [List.take_of_length_le (by rw [HN.out]; exact Nat.le_refl _)] at hT ⊢
    exact ⟨_, rfl, row_mono hT (Below.size B0.out), belT B0.out HI.out.2⟩
end Go.Proofs.YticlacjpgjkhcaaGreatDoor

/- Values of kind P: their size; which may be. -/
namespace Go.Proofs.YticlacjpgjkhcaaGreatDoor
open Go.ChangeShapes Go.WideShapes Go.ChangeAt Go.RowKit Go.Fl

set_option maxRecDepth 100000 in
set_option maxHeartbeats 4000000 in
theorem SizeP (g C : Nat) (l : List (ByteArray × Int × Int)) (n : Nat) (hn : l.length = n) (h1 : 1 ≤ n) (hm : n ≤ 1000) (c : Nat) (w : World) (h : RP w c (.slice (some ⟨g, 0, none⟩) n C) l) (hs : sumSz (tP l) ≤ 1000000000) : Calls Tryz.prog 113 #[.agg #[.int .i64 5, .string ⟨#[]⟩, .slice none 0 0, .slice none 0 0, .slice none 0 0, .slice (some ⟨g, 0, none⟩) n C]] w fun e w' => e = .returned (.int .i64 (16 + 16 * (n : Int) + (sumSz (tP l) : Int))) ∧ Below w.heap.size w w' := by
  obtain ⟨W, hW⟩ : ∃ W, (w.alloc (.cells #[.int .i64 5, .string ⟨#[]⟩, .slice none 0 0, .slice none 0 0, .slice none 0 0, .slice (some ⟨g, 0, none⟩) n C] 64)).alloc (.cells #[.int .i64 0, .string ⟨#[]⟩, .slice none 0 0, .slice none 0 0, .slice none 0 0, .slice (some ⟨g, 0, none⟩) n C] 64) = W := ⟨_, rfl⟩
  have hb0 : W.heap[w.heap.size]? = some (.cells #[.int .i64 5, .string ⟨#[]⟩, .slice none 0 0, .slice none 0 0, .slice none 0 0, .slice (some ⟨g, 0, none⟩) n C] 64) := by rw [← hW]; exact blk_below (heap_alloc_new w _) alloc_old
  have hb1 : W.heap[w.heap.size + 1]? = some (.cells #[.int .i64 0, .string ⟨#[]⟩, .slice none 0 0, .slice none 0 0, .slice none 0 0, .slice (some ⟨g, 0, none⟩) n C] 64) := by rw [← hW]; exact heap2L w _
  have hB : Below w.heap.size w W := by rw [← hW]; exact alloc_old.trans (alloc_old.mono (by simp))
  have LN := Lib.hid (LenP (some ⟨g, 0, none⟩) n C W)
  have TX := Lib.hid (fun X (hX : Below w.heap.size w X) => textsP 0 g C l n hn hm c X (h.below hX))
  have B0 := Lib.hid hB
  have H0 := Lib.hid hb0
  have H1 := Lib.hid hb1
  have q1 := sz_q1 n (by omega)
  have q2 := sz_q2 n (by omega)
  have HTN := Lib.hid (show (tP l).length = n * 1 by rw [tP_len, hn])
  obtain ⟨⟨c0, c1, c2, c3, c4, c5⟩, _⟩ := cells6 hb0
  obtain ⟨⟨d0, d1, d2, d3, d4, d5⟩, _⟩ := cells6 hb1
  clear h hb0 hb1 hB hn
  obtain ⟨xs, hxs⟩ : ∃ xs, tP l = xs := ⟨_, rfl⟩
  rw [hxs] at TX HTN hs ⊢
  clear hxs
  go_enter Tryz.func113, Tryz.ntmps113
  go_wp2_with (first | (go_at_call 165; (with_reducible refine (LN.out).mono ?_); rintro e w2 ⟨rfl, hb2⟩; have B2 := Lib.hid (B0.out.trans (hb2.mono (Below.size B0.out))); have R1 := Lib.hid (blk_below H1.out hb2); clear hb2; obtain ⟨⟨e0, e1, e2, e3, e4, e5⟩, _⟩ := cells6 R1.out; have T2 := Lib.hid (TX.out w2 B2.out)) | (go_at_call 166; (with_reducible refine (T2.out).mono ?_); rintro e w3 ⟨v3, rfl, hT3, hb3⟩; have T3 := Lib.hid hT3; have B3 := Lib.hid (B2.out.trans (hb3.mono (Below.size B2.out))); clear hT3 hb3; refine Hid.out ?_))
  refine Lib.hid ?_
  have hne : xs ≠ [] := by intro e; have := HTN.out; rw [e] at this; simp at this; omega
  obtain ⟨A3, cap3, rfl, s2, s3, s4⟩ := T3.out.ssl
  obtain ⟨blk, off, rfl, hblt, hcell⟩ := s4 hne
  clear s2 s3 s4
  have HCL := Lib.hid hcell
  have hxm : xs.length ≤ 1000000 := by rw [HTN.out]; omega
  clear hcell c0 c1 c2 c3 c4 c5 d0 d1 d2 d3 d4 d5 e0 e1 e2 e3 e4 e5 hne
  go_wp2
  go_loopw [4, 44] (fun m i wr => ∃ k : Nat, k ≤ xs.length ∧ i = .int .i64 k ∧ m = .int .i64 (16 + 16 * (n : Int) + (sumSz (xs.take k) : Int)) ∧ w3 = wr) (fun _ i _ => xs.length - (iOfL i).toNat)
  case atStart => exact ⟨0, Nat.zero_le _, rfl, by simp [sumSz], rfl⟩
  case round =>
    obtain ⟨k, hk, rfl, rfl, rfl⟩ := hrel
    by_cases hlt : k < xs.length
    · have i0 : (k : Int) < (xs.length : Int) := by omega
      obtain ⟨s, hs0⟩ := some_at hlt
      have x0 := HCL.out k s hs0
      have e9 := sumSz_take hs0
      have e8 := sumSz_le xs (k + 1)
      have q3 := sz_q3 n (sumSz (xs.take k)) s.size (by omega) (by omega)
      rw [← e9] at q3
      have HE := Lib.hid e9
      clear hs0 e8 e9
      go_wp2
      exact ⟨⟨k + 1, hlt, by go_num, rfl, trivial⟩, by simp [iOfL]; omega⟩
    · have i0 : ¬ (k : Int) < (xs.length : Int) := by omega
      have hkk : xs.take k = xs := List.take_of_length_le (by omega)
      rw [hkk]
      clear hkk hlt
      go_wp2
      go_ret
      exact ⟨by simp, B3.out⟩
end Go.Proofs.YticlacjpgjkhcaaGreatDoor

/- Values of kind P: copies. -/
namespace Go.Proofs.YticlacjpgjkhcaaGreatDoor
open Go.ChangeShapes Go.WideShapes Go.ChangeAt Go.RowKit Go.Fl

set_option maxRecDepth 100000 in
set_option maxHeartbeats 4000000 in
theorem VCloneP (g0 cap : Nat) (l : List (ByteArray × Int × Int)) (n : Nat) (hn : l.length = n) (h1 : 1 ≤ n) (hm : n ≤ 1000) (c : Nat) (w : World) (h : RP w c (.slice (some ⟨g0, 0, none⟩) n cap) l) : Calls Tryz.prog 93 #[.agg #[.int .i64 5, .string ⟨#[]⟩, .slice none 0 0, .slice none 0 0, .slice none 0 0, .slice (some ⟨g0, 0, none⟩) n cap]] w fun e w' => ∃ g C, e = .returned (.agg #[.int .i64 5, .string ⟨#[]⟩, .slice none 0 0, .slice none 0 0, .slice none 0 0, .slice (some ⟨g, 0, none⟩) n C]) ∧ RP w' (w.heap.size + 2) (.slice (some ⟨g, 0, none⟩) n C) l ∧ Below w.heap.size w w' := by
  go_enter Tryz.func93, Tryz.ntmps93
  go_wp2
  obtain ⟨W, hW⟩ : ∃ W, (w.alloc (.cells #[.int .i64 5, .string ⟨#[]⟩, .slice none 0 0, .slice none 0 0, .slice none 0 0, .slice (some ⟨g0, 0, none⟩) n cap] 64)).alloc (.cells #[.int .i64 0, .string ⟨#[]⟩, .slice none 0 0, .slice none 0 0, .slice none 0 0, .slice none 0 0] 64) = W := ⟨_, rfl⟩
  have hz : W.heap.size = w.heap.size + 2 := by rw [← hW]; simp
  have hb0 : W.heap[w.heap.size]? = some (.cells #[.int .i64 5, .string ⟨#[]⟩, .slice none 0 0, .slice none 0 0, .slice none 0 0, .slice (some ⟨g0, 0, none⟩) n cap] 64) := by rw [← hW]; exact blk_below (heap_alloc_new w _) alloc_old
  have hb1 : W.heap[w.heap.size + 1]? = some (.cells #[.int .i64 0, .string ⟨#[]⟩, .slice none 0 0, .slice none 0 0, .slice none 0 0, .slice none 0 0] 64) := by rw [← hW]; have := heap_alloc_new (w.alloc (.cells #[.int .i64 5, .string ⟨#[]⟩, .slice none 0 0, .slice none 0 0, .slice none 0 0, .slice (some ⟨g0, 0, none⟩) n cap] 64)) (.cells #[.int .i64 0, .string ⟨#[]⟩, .slice none 0 0, .slice none 0 0, .slice none 0 0, .slice none 0 0] 64); rw [World.size_alloc] at this; exact this
  have hB : Below w.heap.size w W := by rw [← hW]; exact alloc_old.trans (alloc_old.mono (by simp))
  have CK := Lib.hid (CloneP c g0 cap l n hn h1 (by omega) W.drew (h.below hB.drew))
  have K := Lib.hid (show ∀ X, Below (w.heap.size + 1) W X → ((X.cell? ⟨w.heap.size, 0, none⟩ = some (.int .i64 5) ∧ X.cell? ⟨w.heap.size, 1, none⟩ = some (.string ⟨#[]⟩) ∧ X.cell? ⟨w.heap.size, 2, none⟩ = some (.slice none 0 0) ∧ X.cell? ⟨w.heap.size, 3, none⟩ = some (.slice none 0 0) ∧ X.cell? ⟨w.heap.size, 4, none⟩ = some (.slice none 0 0) ∧ X.cell? ⟨w.heap.size, 5, none⟩ = some (.slice (some ⟨g0, 0, none⟩) n cap)) ∧ Below (w.heap.size + 1) W X) from fun X hb => by
    obtain ⟨⟨c0, c1, c2, c3, c4, c5⟩, _⟩ := cells6 ((hb.block _ (Nat.lt_succ_self _)).trans hb0)
    exact ⟨⟨c0, c1, c2, c3, c4, c5⟩, hb⟩)
  have ST := Lib.hid (show ∀ X v0 v1 v2 v3 v4 v5, ((X.cell? ⟨w.heap.size, 0, none⟩ = some (.int .i64 5) ∧ X.cell? ⟨w.heap.size, 1, none⟩ = some (.string ⟨#[]⟩) ∧ X.cell? ⟨w.heap.size, 2, none⟩ = some (.slice none 0 0) ∧ X.cell? ⟨w.heap.size, 3, none⟩ = some (.slice none 0 0) ∧ X.cell? ⟨w.heap.size, 4, none⟩ = some (.slice none 0 0) ∧ X.cell? ⟨w.heap.size, 5, none⟩ = some (.slice (some ⟨g0, 0, none⟩) n cap)) ∧ Below (w.heap.size + 1) W X) → (fun X => (X.cell? ⟨w.heap.size, 0, none⟩ = some (.int .i64 5) ∧ X.cell? ⟨w.heap.size, 1, none⟩ = some (.string ⟨#[]⟩) ∧ X.cell? ⟨w.heap.size, 2, none⟩ = some (.slice none 0 0) ∧ X.cell? ⟨w.heap.size, 3, none⟩ = some (.slice none 0 0) ∧ X.cell? ⟨w.heap.size, 4, none⟩ = some (.slice none 0 0) ∧ X.cell? ⟨w.heap.size, 5, none⟩ = some (.slice (some ⟨g0, 0, none⟩) n cap)) ∧ Below (w.heap.size + 1) W X) (((((((X).setCell ⟨w.heap.size + 1, 0, none⟩ v0).setCell ⟨w.heap.size + 1, 1, none⟩ v1).setCell ⟨w.heap.size + 1, 2, none⟩ v2).setCell ⟨w.heap.size + 1, 3, none⟩ v3).setCell ⟨w.heap.size + 1, 4, none⟩ v4).setCell ⟨w.heap.size + 1, 5, none⟩ v5) from fun X v0 v1 v2 v3 v4 v5 hX => K.out _ ((((((hX.2.setCell (p := ⟨w.heap.size + 1, 0, none⟩) (Nat.le_refl _) v0).setCell (p := ⟨w.heap.size + 1, 1, none⟩) (Nat.le_refl _) v1).setCell (p := ⟨w.heap.size + 1, 2, none⟩) (Nat.le_refl _) v2).setCell (p := ⟨w.heap.size + 1, 3, none⟩) (Nat.le_refl _) v3).setCell (p := ⟨w.heap.size + 1, 4, none⟩) (Nat.le_refl _) v4).setCell (p := ⟨w.heap.size + 1, 5, none⟩) (Nat.le_refl _) v5))
  have S0 : (W.drew.cell? ⟨w.heap.size, 0, none⟩ = some (.int .i64 5) ∧ W.drew.cell? ⟨w.heap.size, 1, none⟩ = some (.string ⟨#[]⟩) ∧ W.drew.cell? ⟨w.heap.size, 2, none⟩ = some (.slice none 0 0) ∧ W.drew.cell? ⟨w.heap.size, 3, none⟩ = some (.slice none 0 0) ∧ W.drew.cell? ⟨w.heap.size, 4, none⟩ = some (.slice none 0 0) ∧ W.drew.cell? ⟨w.heap.size, 5, none⟩ = some (.slice (some ⟨g0, 0, none⟩) n cap)) ∧ Below (w.heap.size + 1) W W.drew := K.out _ (Below.refl _ W).drew
  have B0 := Lib.hid hB.drew
  have H1 := Lib.hid (show W.drew.heap[w.heap.size + 1]? = some (.cells #[.int .i64 0, .string ⟨#[]⟩, .slice none 0 0, .slice none 0 0, .slice none 0 0, .slice none 0 0] 64) from hb1)
  have hzd : w.heap.size + 1 ≤ W.drew.heap.size := by show _ ≤ W.heap.size; omega
  have hz2 : w.heap.size + 2 ≤ W.drew.heap.size := by show _ ≤ W.heap.size; omega
  obtain ⟨⟨c0, c1, c2, c3, c4, c5⟩, ⟨f0, f1, f2, f3, f4, f5⟩⟩ := cells6 H1.out
  rw [hW]
  clear hW hz hb0 hb1 hB h
  go_region_held3 (fun X => (X.cell? ⟨w.heap.size, 0, none⟩ = some (.int .i64 5) ∧ X.cell? ⟨w.heap.size, 1, none⟩ = some (.string ⟨#[]⟩) ∧ X.cell? ⟨w.heap.size, 2, none⟩ = some (.slice none 0 0) ∧ X.cell? ⟨w.heap.size, 3, none⟩ = some (.slice none 0 0) ∧ X.cell? ⟨w.heap.size, 4, none⟩ = some (.slice none 0 0) ∧ X.cell? ⟨w.heap.size, 5, none⟩ = some (.slice (some ⟨g0, 0, none⟩) n cap)) ∧ Below (w.heap.size + 1) W X) (first | (with_reducible exact S0) | (with_reducible exact S3.out) | (refine ST.out _ _ _ _ _ _ _ ?_; assumption))
    (first | (go_at_call 148; (with_reducible refine (CK.out).mono ?_); rintro e w3 ⟨g, C, rfl, hT, hb⟩; have HT := Lib.hid hT; have S3 := Lib.hid (K.out w3 ((Below.refl _ W).drew.trans (hb.mono hzd))); have R3 := Lib.hid (blk_below H1.out hb); have B3 := Lib.hid (B0.out.trans (hb.mono (Below.size B0.out))); clear hT hb; obtain ⟨⟨c0, c1, c2, c3, c4, c5⟩, ⟨f0, f1, f2, f3, f4, f5⟩⟩ := cells6 R3.out) | (go_at_call 145; (with_reducible refine (Clone57 _).mono ?_); rintro e w' ⟨rfl, rfl⟩) | (go_at_call 146; (with_reducible refine (Clone58 _).mono ?_); rintro e w' ⟨rfl, rfl⟩) | (go_at_call 147; (with_reducible refine (Clone59 _).mono ?_); rintro e w' ⟨rfl, rfl⟩) | (go_at_call 148; (with_reducible refine (Clone60 _).mono ?_); rintro e w' ⟨rfl, rfl⟩))
  go_wp2
  have hgo : ∀ g', (Value.slice (some ⟨g, 0, none⟩) n C).ownBlock = some g' → g' ≠ w.heap.size + 1 := fun g' hg' => by
    have := (row_own HT.out g' hg').1
    omega
  exact bodyPost_ret (v := .agg #[.int .i64 5, .string ⟨#[]⟩, .slice none 0 0, .slice none 0 0, .slice none 0 0, .slice (some ⟨g, 0, none⟩) n C]) (by simp [results, Tryz.results93, go_sem, c0, c1, c2, c3, c4, c5]) rfl ⟨g, C, rfl, (HT.out.kept (fun g' hg' => far60 _ _ _ _ _ _ (hgo g' hg'))).mono hz2, (((((B3.out.setCell (Nat.le_succ _) _).setCell (Nat.le_succ _) _).setCell (Nat.le_succ _) _).setCell (Nat.le_succ _) _).setCell (Nat.le_succ _) _).setCell (Nat.le_succ _) _⟩
end Go.Proofs.YticlacjpgjkhcaaGreatDoor
