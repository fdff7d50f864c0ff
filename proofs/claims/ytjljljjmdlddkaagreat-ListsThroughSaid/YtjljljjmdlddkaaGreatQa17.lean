/- Texts joined: Ch1, Ch2 -/
import Derived.Test.YtjljljjmdlddkaaGreatQa7
import Derived.Test.YtjljljjmdlddkaaGreatQa15
import Derived.RegionTactic

/- A chunk's texts in a block; slices.Clone, Insert, Delete of texts. -/
namespace Go.Proofs.YtjljljjmdlddkaaGreat
open Go.ChangeShapes Go.WideShapes Go.ChangeAt Go.RowKit

/-- Texts at the head of a block of texts. -/
def TX (w : World) (g C : Nat) (xs : List ByteArray) : Prop := ∃ cs : Array Value, w.heap[g]? = some (.cells cs 9 (0, 0)) ∧ cs.size = C ∧ xs.length ≤ C ∧ C ≤ maxLen ∧ ∀ (i : Nat) (s : ByteArray), xs[i]? = some s → cs[i]? = some (Value.string s)
theorem TX.tr {w : World} {g C : Nat} {xs : List ByteArray} (h : TX w g C xs) : TR w (.slice (some ⟨g, 0, none⟩) xs.length C) xs := by
  obtain ⟨cs, h1, h2, h3, h4, h5⟩ := h
  exact ⟨g, C, cs, rfl, h1, h3, h4, h5⟩
theorem TX.lt {w : World} {g C : Nat} {xs : List ByteArray} (h : TX w g C xs) : g < w.heap.size := by
  obtain ⟨cs, h1, _⟩ := h
  exact (Array.getElem?_eq_some_iff.1 h1).1
theorem TX.kept {w w' : World} {g C : Nat} {xs : List ByteArray} (h : TX w g C xs) (hb : w'.heap[g]? = w.heap[g]?) : TX w' g C xs := by
  obtain ⟨cs, h1, r⟩ := h
  exact ⟨cs, hb.trans h1, r⟩
theorem TX.below {w w' : World} {g C : Nat} {xs : List ByteArray} (h : TX w g C xs) (hb : Below w.heap.size w w') : TX w' g C xs := h.kept (hb.block g h.lt)
theorem TX.ne {w : World} {g C : Nat} {xs : List ByteArray} (h : TX w g C xs) {b : Nat} {cs : Array Value} {t : TypeId} (hb : w.heap[b]? = some (.cells cs t)) (ht : t ≠ 9) : b ≠ g := by
  rintro rfl
  obtain ⟨cs', h1, _⟩ := h
  rw [h1] at hb
  cases hb
  exact ht rfl
theorem TX.cell {w : World} {g C : Nat} {xs : List ByteArray} (h : TX w g C xs) (i : Nat) (s : ByteArray) (hi : xs[i]? = some s) : w.cell? ⟨g, i, none⟩ = some (.string s) := by
  obtain ⟨cs, h1, _, _, _, h5⟩ := h
  rw [cell_of_row _ g _ _ 9 (0, 0) h1]
  exact h5 i s hi
theorem TX.has {w : World} {g C : Nat} {xs : List ByteArray} (h : TX w g C xs) (i : Nat) (hi : i < C) : (w.cell? ⟨g, i, none⟩).isSome = true := by
  obtain ⟨cs, h1, h2, _⟩ := h
  rw [cell_of_row _ g _ _ 9 (0, 0) h1]
  simp [h2, hi]
theorem TX.frozen {w : World} {g C : Nat} {xs : List ByteArray} (h : TX w g C xs) (i : Nat) : w.frozen? ⟨g, i, none⟩ = false := by
  obtain ⟨cs, h1, _⟩ := h
  exact frozen_of_row w g i cs 9 h1
theorem cells_set (b : Nat) (t : TypeId) : ∀ (vs : List Value) (o : Nat) (w : World) (cs : Array Value), w.heap[b]? = some (.cells cs t (0, 0)) → ∃ cs', (w.setCells b o vs).heap[b]? = some (.cells cs' t (0, 0)) ∧ cs'.size = cs.size
  | [], _, _, cs, h => ⟨cs, h, rfl⟩
  | v :: r, o, w, cs, h => by
    have h2 : (w.setCell ⟨b, o, none⟩ v).heap[b]? = some (.cells (cs.setIfInBounds o v) t (0, 0)) := by
      simp [World.setCell, Array.getElem?_modify, h]
    obtain ⟨cs', h3, h4⟩ := cells_set b t r (o + 1) _ _ h2
    exact ⟨cs', h3, by rw [h4]; simp⟩
theorem heap_setCells (b : Nat) : ∀ (vs : List Value) (o : Nat) (w : World) (i : Nat), i ≠ b → (w.setCells b o vs).heap[i]? = w.heap[i]?
  | [], _, _, _, _ => rfl
  | v :: r, o, _, i, h => (heap_setCells b r (o + 1) _ i h).trans (Below.heap_setCell _ ⟨b, o, none⟩ v i h)
theorem os_setCells (b : Nat) : ∀ (vs : List Value) (o : Nat) (w : World), (w.setCells b o vs).os = w.os ∧ (w.setCells b o vs).tape = w.tape ∧ (w.setCells b o vs).output = w.output
  | [], _, _ => ⟨rfl, rfl, rfl⟩
  | v :: r, o, w => os_setCells b r (o + 1) (w.setCell ⟨b, o, none⟩ v)
theorem kp_setCells (c b o : Nat) (vs : List Value) (w : World) : Kp c (fun i => i ≠ b) w (w.setCells b o vs) :=
  ⟨(os_setCells b vs o w).1, (os_setCells b vs o w).2.1, (os_setCells b vs o w).2.2, by rw [size_setCells]; exact Nat.le_refl _, fun k _ hk => heap_setCells b vs o w k hk⟩
theorem kp_cells_new {c : Nat} {S : Nat → Prop} {w0 w : World} (h : Kp c S w0 w) (b o : Nat) (vs : List Value) (hb : c ≤ b) : Kp c S w0 (w.setCells b o vs) :=
  h.trans ⟨(os_setCells b vs o w).1, (os_setCells b vs o w).2.1, (os_setCells b vs o w).2.2, by rw [size_setCells]; exact Nat.le_refl _, fun k hk _ => heap_setCells b vs o w k (by omega)⟩
/-- A text put in at a place. -/
def insT (i : Nat) (s : ByteArray) (xs : List ByteArray) : List ByteArray := xs.take i ++ s :: xs.drop i
theorem insT_len (i : Nat) (s : ByteArray) (xs : List ByteArray) (h : i ≤ xs.length) : (insT i s xs).length = xs.length + 1 := by
  simp [insT]; omega
theorem insT_get (i : Nat) (s : ByteArray) (xs : List ByteArray) (h : i ≤ xs.length) (j : Nat) : (insT i s xs)[j]? = if j < i then xs[j]? else if j = i then some s else xs[j - 1]? := by
  unfold insT
  by_cases h1 : j < i
  · rw [if_pos h1, List.getElem?_append_left (by simp; omega)]
    simp [h1]
  · rw [if_neg h1, List.getElem?_append_right (by simp; omega)]
    by_cases h2 : j = i
    · subst h2
      simp [Nat.min_eq_left h]
    · rw [if_neg h2]
      obtain ⟨d, rfl⟩ : ∃ d, j = i + 1 + d := ⟨j - i - 1, by omega⟩
      simp [Nat.min_eq_left h, show i + 1 + d - i = d + 1 by omega, show i + 1 + d - 1 = i + d by omega]
/-- Where a block's cells are known one by one. -/
theorem TX.of {w : World} {g C : Nat} {xs : List ByteArray} {cs : Array Value} (h1 : w.heap[g]? = some (.cells cs 9 (0, 0))) (h2 : cs.size = C) (h3 : xs.length ≤ C) (h4 : C ≤ maxLen) (h5 : ∀ (i : Nat) (s : ByteArray), xs[i]? = some s → w.cell? ⟨g, i, none⟩ = some (Value.string s)) : TX w g C xs :=
  ⟨cs, h1, h2, h3, h4, fun i s hi => by rw [← cell_of_row _ g _ _ 9 (0, 0) h1]; exact h5 i s hi⟩
theorem CloneX (v : Value) (xs : List ByteArray) (hne : xs ≠ []) (hn : xs.length ≤ 1000000) (w : World) (h : SSl w v xs) : Calls Tryz.prog 64 #[v] w fun e w' => ∃ g C, e = .returned (.slice (some ⟨g, 0, none⟩) xs.length C) ∧ TX w' g C xs ∧ w.heap.size ≤ g ∧ Below w.heap.size w w' := by
  obtain ⟨A, cap, rfl, h2, h3, h4⟩ := h
  obtain ⟨blk, off, rfl, h5, h6⟩ := h4 hne
  refine (Tryz.slices_Clone_string blk off xs.length cap xs w (Nat.le_refl _) (by omega) (fun j hj => ?_)).mono ?_
  · have := h6 j (xs[j]) (List.getElem?_eq_getElem hj)
    rw [this]
    simp [List.getD_eq_getElem?_getD, hj]
  · rintro e w' ⟨v', rfl, ⟨_, ⟨rfl, _⟩ | ⟨g, C, cur, rfl, hg, hh, hc1, hc2, hc3, hc4⟩⟩, hnn, hb⟩
    · exact absurd rfl hnn
    · refine ⟨g, C, rfl, ⟨cur, hh, by omega, hc1, hc2, fun i s hi => ?_⟩, hg, hb⟩
      have hil := (List.getElem?_eq_some_iff.1 hi).1
      have := congrArg (fun l => l[i]?) hc4
      simp [hil] at this
      rw [List.getElem?_eq_getElem hil] at hi
      cases hi
      exact this
theorem TX.shape {w : World} {g C : Nat} {xs : List ByteArray} (h : TX w g C xs) : w.shape? g = some (9, C) := by
  obtain ⟨cs, h1, h2, _⟩ := h
  simp [World.shape?, h1, h2]
theorem get_map (xs : List ByteArray) (j : Nat) (v : Value) (h : (xs.map Value.string)[j]? = some v) : ∃ s, xs[j]? = some s ∧ v = .string s := by
  rw [List.getElem?_map] at h
  obtain ⟨s, hs, rfl⟩ := Option.map_eq_some_iff.1 h
  exact ⟨s, hs, rfl⟩
/-- Cells of a world in which values were laid into a block. -/
theorem in_cells {w : World} {b o : Nat} {vs : List Value} (h : ∀ j, j < vs.length → (w.cell? ⟨b, o + j, none⟩).isSome = true) (j : Nat) (v : Value) (hj : vs[j]? = some v) : (w.setCells b o vs).cell? ⟨b, o + j, none⟩ = some v := by
  obtain ⟨hl, rfl⟩ := List.getElem?_eq_some_iff.1 hj
  have := World.cell?_setCells_in b vs o w h j hl
  rw [this]
theorem out_cells {w : World} {b o : Nat} {vs : List Value} (j : Nat) (h : j < o ∨ o + vs.length ≤ j) : (w.setCells b o vs).cell? ⟨b, j, none⟩ = w.cell? ⟨b, j, none⟩ :=
  World.cell?_setCells_out b vs o w ⟨b, j, none⟩ (fun _ _ => h)
/-- slices.Insert of one text. -/
theorem InsX (g C : Nat) (xs : List ByteArray) (hn : xs.length ≤ 1000000) (i : Nat) (hi : i ≤ xs.length) (b : Nat) (s : ByteArray) (w : World) (h : TX w g C xs) (hb : w.heap[b]? = some (.cells #[.string s] 9)) (hbg : b ≠ g) : Calls Tryz.prog 80 #[.slice (some ⟨g, 0, none⟩) xs.length C, .int .i64 i, .slice (some ⟨b, 0, none⟩) 1 1] w fun e w' => ∃ g' C', e = .returned (.slice (some ⟨g', 0, none⟩) (xs.length + 1) C') ∧ TX w' g' C' (insT i s xs) ∧ (g' = g ∨ w.heap.size ≤ g') ∧ Kp w.heap.size (fun k => k ≠ g) w w' := by
  obtain ⟨cs, h1, h2, h3, h4, h5⟩ := id h
  have hmax : C ≤ 9223372036854775807 := by unfold maxLen at h4; omega
  have hbv : ∀ (j : Nat) (v : Value), [Value.string s][j]? = some v → w.cell? ⟨b, 0 + j, none⟩ = some v := fun j v hj => by
    rw [cell_of_row _ b _ _ 9 (0, 0) hb]
    match j, hj with
    | 0, hj => simpa using hj
  have h1v : ∀ v ∈ [Value.string s], v.oneCell' = true := fun v hv => by simp at hv; subst hv; rfl
  have h1c : ∀ v ∈ xs.map Value.string, v.oneCell' = true := fun v hv => by obtain ⟨t, _, rfl⟩ := List.mem_map.1 hv; rfl
  have hcs : ∀ (j : Nat) (v : Value), (xs.map Value.string)[j]? = some v → w.cell? ⟨g, 0 + j, none⟩ = some v := fun j v hj => by
    obtain ⟨t, ht, rfl⟩ := get_map xs j v hj
    rw [Nat.zero_add]
    exact h.cell j t ht
  have hz := insT_len i s xs hi
  have hmod := grownCap_ge w (xs.length + 1) C 9
  by_cases hroom : xs.length + 1 ≤ C
  · by_cases hlt : i < xs.length
    · refine (Any2.slices_Insert_string_shift Tryz.laysNm222 g 0 xs.length C i b 0 1 1 (xs.map Value.string) [.string s] w hlt (by omega) hroom hmax hbg (by simp) rfl hcs (fun j hj => by rw [Nat.zero_add]; exact h.has j (by omega)) (fun j _ => by rw [Nat.zero_add]; exact h.frozen j) hbv h1c h1v 9 9 1 C (by simp [World.shape?, hb]) h.shape (by omega) (frozen_of_row w b 0 _ _ hb) (frozen_of_row w b 1 _ _ hb)).mono ?_
      rintro e w' ⟨rfl, rfl⟩
      have d1 : w.drew.heap[g]? = some (.cells cs 9 (0, 0)) := h1
      obtain ⟨c1, e1, z1⟩ := cells_set g 9 ((xs.map Value.string).drop i) (0 + (i + 1)) w.drew cs d1
      obtain ⟨c2, e2, z2⟩ := cells_set g 9 [.string s] (0 + i) _ c1 e1
      have hd : TX w.drew g C xs := h.kept rfl
      have k1 : ∀ j, j < ((xs.map Value.string).drop i).length → (w.drew.cell? ⟨g, 0 + (i + 1) + j, none⟩).isSome = true := fun j hj => hd.has _ (by simp at hj; omega)
      refine ⟨g, C, rfl, TX.of e2 (by omega) (by omega) h4 (fun j t hj => ?_), .inl rfl, ((Kp.refl _ _ w).drew.trans (kp_setCells _ g _ _ _)).trans (kp_setCells _ g _ _ _)⟩
      rw [insT_get i s xs hi] at hj
      by_cases hj1 : j < i
      · rw [if_pos hj1] at hj
        rw [out_cells j (by omega), out_cells j (by omega)]
        exact hd.cell j t hj
      · rw [if_neg hj1] at hj
        by_cases hj2 : j = i
        · subst hj2
          rw [if_pos rfl] at hj
          cases hj
          have := in_cells (w := w.drew.setCells g (0 + (j + 1)) ((xs.map Value.string).drop j)) (b := g) (o := 0 + j) (vs := [.string s]) (fun q hq => by
            rw [cell_of_row _ g _ _ 9 (0, 0) e1]
            simp at hq
            subst hq
            simp [z1, h2]; omega) 0 (.string s) rfl
          simpa using this
        · rw [if_neg hj2] at hj
          rw [out_cells j (by simp; omega)]
          have := in_cells (w := w.drew) (b := g) (o := 0 + (i + 1)) (vs := (xs.map Value.string).drop i) k1 (j - (i + 1)) (.string t) (by
            rw [List.getElem?_drop, List.getElem?_map, show i + (j - (i + 1)) = j - 1 by omega, hj]
            rfl)
          rw [show 0 + (i + 1) + (j - (i + 1)) = j by omega] at this
          exact this
    · obtain rfl : i = xs.length := by omega
      refine (Any2.slices_Insert_string_end_room Tryz.laysNm222 g 0 xs.length C b 0 1 1 [.string s] w (by omega) hroom hmax rfl (fun j hj => by rw [Nat.zero_add]; exact h.has _ (by omega)) (fun j _ => by rw [Nat.zero_add]; exact h.frozen _) hbv h1v).mono ?_
      rintro e w' ⟨rfl, rfl⟩
      obtain ⟨c2, e2, z2⟩ := cells_set g 9 [.string s] (0 + xs.length) w cs h1
      refine ⟨g, C, rfl, TX.of e2 (by omega) (by omega) h4 (fun j t hj => ?_), .inl rfl, kp_setCells _ g _ _ _⟩
      rw [insT_get xs.length s xs hi] at hj
      by_cases hj1 : j < xs.length
      · rw [if_pos hj1] at hj
        rw [out_cells j (by omega)]
        exact h.cell j t hj
      · rw [if_neg hj1] at hj
        by_cases hj2 : j = xs.length
        · subst hj2
          rw [if_pos rfl] at hj
          cases hj
          have := in_cells (w := w) (b := g) (o := 0 + xs.length) (vs := [.string s]) (fun q hq => by simp at hq; subst hq; exact h.has _ (by omega)) 0 (.string s) rfl
          simpa using this
        · rw [if_neg hj2, List.getElem?_eq_none (by omega)] at hj
          cases hj
  · have hfull : C < xs.length + 1 := by omega
    have hcm := grownCap_le_maxLen w (xs.length + 1) C 9 (by unfold maxLen; omega)
    by_cases hlt : i < xs.length
    · refine (Any2.slices_Insert_string_grow Tryz.laysNm222 g 0 xs.length C i b 0 1 1 (xs.map Value.string) [.string s] w hlt (by omega) h3 hfull (by omega) (by simp) rfl hcs hbv h1c h1v).mono ?_
      rintro e w' ⟨rfl, rfl⟩
      obtain ⟨A0, hA0⟩ : ∃ A0, A0 = (((xs.map Value.string).take i).toArray ++ Builtin.zeroCells (Value.string ⟨#[]⟩).cells (xs.length + 1 - i) ++ Builtin.zeroCells (Value.string ⟨#[]⟩).cells (grownCap w (xs.length + 1) C 9 - (xs.length + 1))) := ⟨_, rfl⟩
      have zA : A0.size = grownCap w (xs.length + 1) C 9 := by
        subst hA0
        simp [size_zeroCells, show (Value.string ⟨#[]⟩).cells.size = 1 from rfl]
        omega
      have gA : ∀ (j : Nat), j < i → A0[j]? = (xs[j]?).map Value.string := fun j hj => by
        subst hA0
        rw [Array.getElem?_append_left (by simp; omega), Array.getElem?_append_left (by simp; omega)]
        simp [hj]
      have hA1 : (w.alloc (.cells A0 9)).drew.heap[w.heap.size]? = some (.cells A0 9 (0, 0)) := heap_alloc_new w _
      rw [show (Tryz.laysNm222_ren.t 9) = 9 from rfl, ← hA0]
      obtain ⟨W0, hW0⟩ : ∃ W0, (w.alloc (.cells A0 9)).drew = W0 := ⟨_, rfl⟩
      have kW : Kp w.heap.size (fun k => k ≠ g) w W0 := by rw [← hW0]; exact ((Kp.refl _ _ w).alloc (Nat.le_refl _) _).drew
      rw [hW0] at hA1 ⊢
      have has : ∀ (X : World) (c : Array Value) (j : Nat), X.heap[w.heap.size]? = some (.cells c 9 (0, 0)) → c.size = A0.size → j < A0.size → (X.cell? ⟨w.heap.size, j, none⟩).isSome = true := fun X c j hX hc hj => by
        rw [cell_of_row _ _ _ _ 9 (0, 0) hX]
        simp [hc, hj]
      obtain ⟨c1, e1, z1⟩ := cells_set w.heap.size 9 [.string s] i W0 A0 hA1
      have e1d : (W0.setCells w.heap.size i [.string s]).drew.heap[w.heap.size]? = some (.cells c1 9 (0, 0)) := e1
      obtain ⟨c2, e2, z2⟩ := cells_set w.heap.size 9 ((xs.map Value.string).drop i) (i + 1) _ c1 e1d
      refine ⟨_, _, rfl, TX.of e2 (by omega) (by omega) hcm (fun j t hj => ?_), .inr (Nat.le_refl _), kp_cells_new (kp_cells_new kW _ _ _ (Nat.le_refl _)).drew _ _ _ (Nat.le_refl _)⟩
      rw [insT_get i s xs hi] at hj
      by_cases hj1 : j < i
      · rw [if_pos hj1] at hj
        rw [out_cells j (by omega)]
        have e3 : (W0.setCells w.heap.size i [.string s]).drew.cell? ⟨w.heap.size, j, none⟩ = (W0.setCells w.heap.size i [.string s]).cell? ⟨w.heap.size, j, none⟩ := rfl
        rw [e3, out_cells j (by omega), cell_of_row _ _ _ _ 9 (0, 0) hA1, gA j hj1, hj]
        rfl
      · rw [if_neg hj1] at hj
        by_cases hj2 : j = i
        · subst hj2
          rw [if_pos rfl] at hj
          cases hj
          rw [out_cells j (by omega)]
          have := in_cells (w := W0) (b := w.heap.size) (o := j) (vs := [.string s]) (fun q hq => by simp at hq; subst hq; exact has W0 A0 _ hA1 rfl (by omega)) 0 (.string s) rfl
          exact this
        · rw [if_neg hj2] at hj
          have hjl := (List.getElem?_eq_some_iff.1 hj).1
          have := in_cells (w := (W0.setCells w.heap.size i [.string s]).drew) (b := w.heap.size) (o := i + 1) (vs := (xs.map Value.string).drop i) (fun q hq => has _ c1 _ e1d z1 (by simp at hq; omega)) (j - (i + 1)) (.string t) (by
            rw [List.getElem?_drop, List.getElem?_map, show i + (j - (i + 1)) = j - 1 by omega, hj]
            rfl)
          rw [show i + 1 + (j - (i + 1)) = j by omega] at this
          exact this
    · obtain rfl : i = xs.length := by omega
      refine (Any2.slices_Insert_string_end_grow Tryz.laysNm222 (some ⟨g, 0, none⟩) xs.length C b 0 1 1 (xs.map Value.string) [.string s] w (by omega) h3 hfull (by omega) (by simp) rfl (fun e => by cases e) (fun a ha j v hj => by cases ha; rw [Addr.add_lit]; exact hcs j v hj) hbv h1v).mono ?_
      rintro e w' ⟨rfl, rfl⟩
      refine ⟨_, _, rfl, TX.of (heap_alloc_new w.drew _) ?_ ?_ hcm (fun j t hj => ?_), .inr (Nat.le_refl _), ((Kp.refl _ _ w).drew).alloc (Nat.le_refl _) _⟩
      · simp [size_zeroCells, show (Value.string ⟨#[]⟩).cells.size = 1 from rfl, show (Tryz.laysNm222_ren.t 9) = 9 from rfl]
        omega
      · rw [hz]; exact hmod
      · rw [insT_get xs.length s xs hi] at hj
        have hsz : w.drew.heap.size = w.heap.size := rfl
        rw [show (Tryz.laysNm222_ren.t 9) = 9 from rfl, ← hsz, cell_of_row _ _ _ _ 9 (0, 0) (heap_alloc_new w.drew _)]
        by_cases hj1 : j < xs.length
        · rw [if_pos hj1] at hj
          rw [Array.getElem?_append_left (by simp; omega)]
          rw [List.getElem?_eq_getElem hj1] at hj
          cases hj
          simp [List.getElem?_append_left, hj1]
        · rw [if_neg hj1] at hj
          by_cases hj2 : j = xs.length
          · subst hj2
            rw [if_pos rfl] at hj
            cases hj
            rw [Array.getElem?_append_left (by simp)]
            simp
          · rw [if_neg hj2, List.getElem?_eq_none (by omega)] at hj
            cases hj
/-- slices.Insert of one text into nothing. -/
theorem InsX0 (b : Nat) (s : ByteArray) (w : World) (hb : w.heap[b]? = some (.cells #[.string s] 9)) : Calls Tryz.prog 80 #[.slice none 0 0, .int .i64 0, .slice (some ⟨b, 0, none⟩) 1 1] w fun e w' => ∃ g' C', e = .returned (.slice (some ⟨g', 0, none⟩) 1 C') ∧ TX w' g' C' [s] ∧ w.heap.size ≤ g' ∧ Below w.heap.size w w' := by
  have hbv : ∀ (j : Nat) (v : Value), [Value.string s][j]? = some v → w.cell? ⟨b, 0 + j, none⟩ = some v := fun j v hj => by
    rw [cell_of_row _ b _ _ 9 (0, 0) hb]
    match j, hj with
    | 0, hj => simpa using hj
  have h1v : ∀ v ∈ [Value.string s], v.oneCell' = true := fun v hv => by simp at hv; subst hv; rfl
  have hmod : 1 ≤ grownCap w 1 0 9 := grownCap_ge w (0 + 1) 0 9
  have hcm := grownCap_le_maxLen w (0 + 1) 0 9 (by unfold maxLen; omega)
  refine (Any2.slices_Insert_string_end_grow Tryz.laysNm222 none 0 0 b 0 1 1 [] [.string s] w (by omega) (by omega) (by omega) (by omega) rfl rfl (fun _ => rfl) (fun a ha => by cases ha) hbv h1v).mono ?_
  rintro e w' ⟨rfl, rfl⟩
  refine ⟨_, _, rfl, TX.of (heap_alloc_new w.drew _) ?_ hmod hcm (fun j t hj => ?_), Nat.le_refl _, ((Below.refl w.heap.size w).drew).alloc (Nat.le_refl _) _⟩
  · simp [size_zeroCells, show (Value.string ⟨#[]⟩).cells.size = 1 from rfl, show (Tryz.laysNm222_ren.t 9) = 9 from rfl]
    omega
  · have hsz : w.drew.heap.size = w.heap.size := rfl
    rw [show (Tryz.laysNm222_ren.t 9) = 9 from rfl, ← hsz, cell_of_row _ _ _ _ 9 (0, 0) (heap_alloc_new w.drew _)]
    match j, hj with
    | 0, hj =>
      cases hj
      rw [Array.getElem?_append_left (by simp)]
      rfl
theorem era_get (i : Nat) (xs : List ByteArray) (j : Nat) : (xs.eraseIdx i)[j]? = if j < i then xs[j]? else xs[j + 1]? := List.getElem?_eraseIdx ..
/-- slices.Delete of one text. -/
theorem DelX (g C : Nat) (xs : List ByteArray) (hn : xs.length ≤ 1000000) (i : Nat) (hi : i < xs.length) (w : World) (h : TX w g C xs) : Calls Tryz.prog 108 #[.slice (some ⟨g, 0, none⟩) xs.length C, .int .i64 i, .int .i64 (i + 1)] w fun e w' => e = .returned (.slice (some ⟨g, 0, none⟩) (xs.length - 1) C) ∧ TX w' g C (xs.eraseIdx i) ∧ Kp w.heap.size (fun k => k ≠ g) w w' := by
  obtain ⟨cs, h1, h2, h3, h4, h5⟩ := id h
  have hmax : C ≤ 9223372036854775807 := by unfold maxLen at h4; omega
  have hSx : ∀ (j : Nat) (s : ByteArray), xs[j]? = some s → xs.getD j ByteArray.empty = s := fun j s hj => by rw [List.getD_eq_getElem?_getD, hj]; rfl
  refine (Tryz.slices_Delete_string_cells g 0 xs.length C i (i + 1) (fun j => xs.getD j ByteArray.empty) w h3 hmax (by omega) (by omega) (fun j hj => by rw [Nat.zero_add, h.cell j _ (List.getElem?_eq_getElem hj)]; simp [List.getD_eq_getElem?_getD, hj]) (fun j _ => by rw [Nat.zero_add]; exact h.frozen j)).mono ?_
  rintro e w' ⟨rfl, q, rfl⟩
  have d1 : (w.drewN q).heap[g]? = some (.cells cs 9 (0, 0)) := h1
  have hd : TX (w.drewN q) g C xs := h.kept rfl
  obtain ⟨vs, hvs⟩ : ∃ vs, vs = (List.take i (Lib.strsOf (fun j => xs.getD j ByteArray.empty) xs.length) ++ List.drop (i + 1) (Lib.strsOf (fun j => xs.getD j ByteArray.empty) xs.length) ++ List.replicate (i + 1 - i) []).map encStr := ⟨_, rfl⟩
  rw [← hvs]
  have hvl : vs.length = xs.length := by subst hvs; simp [Lib.strsOf]; omega
  have hvg : ∀ (j : Nat) (t : ByteArray), (xs.eraseIdx i)[j]? = some t → vs[j]? = some (.string t) := fun j t hj => by
    have hjl := (List.getElem?_eq_some_iff.1 hj).1
    rw [List.length_eraseIdx_of_lt hi] at hjl
    rw [era_get] at hj
    subst hvs
    rw [List.getElem?_map]
    by_cases hj1 : j < i
    · rw [if_pos hj1] at hj
      rw [List.getElem?_append_left (by simp [Lib.strsOf]; omega), List.getElem?_append_left (by simp [Lib.strsOf]; omega), List.getElem?_take, if_pos hj1]
      rw [List.getElem?_eq_getElem (by omega)] at hj
      cases hj
      simp [Lib.strsOf, show j < xs.length by omega]
    · rw [if_neg hj1] at hj
      rw [List.getElem?_append_left (by simp [Lib.strsOf]; omega), List.getElem?_append_right (by simp [Lib.strsOf]; omega), List.getElem?_drop]
      have e9 : i + 1 + (j - (List.take i (Lib.strsOf (fun j => xs.getD j ByteArray.empty) xs.length)).length) = j + 1 := by simp [Lib.strsOf]; omega
      rw [e9]
      rw [List.getElem?_eq_getElem (by omega)] at hj
      cases hj
      simp [Lib.strsOf, show j + 1 < xs.length by omega]
  obtain ⟨c2, e2, z2⟩ := cells_set g 9 vs 0 (w.drewN q) cs d1
  refine ⟨by rw [show i + 1 - i = 1 by omega], TX.of e2 (by omega) (by rw [List.length_eraseIdx_of_lt hi]; omega) h4 (fun j t hj => ?_), ?_⟩
  · have := in_cells (w := w.drewN q) (b := g) (o := 0) (vs := vs) (fun p hp => by rw [Nat.zero_add]; exact hd.has p (by omega)) j (.string t) (hvg j t hj)
    rw [Nat.zero_add] at this
    exact this
  · exact (show Kp w.heap.size (fun k => k ≠ g) w (w.drewN q) from ⟨rfl, rfl, rfl, Nat.le_refl _, fun _ _ _ => rfl⟩).trans (kp_setCells _ g _ _ _)
end Go.Proofs.YtjljljjmdlddkaaGreat

/- chunk.Row with at most one chunk: New, Len, find, place, Insert. -/
namespace Go.Proofs.YtjljljjmdlddkaaGreat
open Go.ChangeShapes Go.WideShapes Go.ChangeAt Go.RowKit

/-- A row of texts in one chunk, or in none, in blocks from c on. -/
def RowL (c : Nat) (w : World) (p : Nat) (l : Value) (xs : List ByteArray) : Prop :=
  c ≤ p ∧ w.heap[p]? = some (.cells #[l, .int .i64 (xs.length : Int)] 118) ∧
  ((xs = [] ∧ (l = .slice none 0 0 ∨ ∃ (q C : Nat) (cs : Array Value), c ≤ q ∧ l = .slice (some ⟨q, 0, none⟩) 0 C ∧ w.heap[q]? = some (.cells cs 22) ∧ cs.size = C ∧ 1 ≤ C ∧ C ≤ maxLen)) ∨
   (xs ≠ [] ∧ ∃ (q C : Nat) (cs : Array Value) (g C2 : Nat), c ≤ q ∧ c ≤ g ∧ l = .slice (some ⟨q, 0, none⟩) 1 C ∧ w.heap[q]? = some (.cells cs 22) ∧ cs.size = C ∧ 1 ≤ C ∧ C ≤ maxLen ∧ cs[0]? = some (.slice (some ⟨g, 0, none⟩) xs.length C2) ∧ TX w g C2 xs))
theorem RowL.kept {c : Nat} {w w' : World} {p : Nat} {l : Value} {xs : List ByteArray} (h : RowL c w p l xs) (hb : ∀ i, c ≤ i → i < w.heap.size → w'.heap[i]? = w.heap[i]?) : RowL c w' p l xs := by
  obtain ⟨h1, h2, h3⟩ := h
  refine ⟨h1, (hb p h1 (Array.getElem?_eq_some_iff.1 h2).1).trans h2, ?_⟩
  rcases h3 with ⟨h4, h5 | ⟨q, C, cs, h5, h6, h7, r⟩⟩ | ⟨h4, q, C, cs, g, C2, h5, h6, h7, h8, h9, h10, h11, h12, h13⟩
  · exact .inl ⟨h4, .inl h5⟩
  · exact .inl ⟨h4, .inr ⟨q, C, cs, h5, h6, (hb q h5 (Array.getElem?_eq_some_iff.1 h7).1).trans h7, r⟩⟩
  · exact .inr ⟨h4, q, C, cs, g, C2, h5, h6, h7, (hb q h5 (Array.getElem?_eq_some_iff.1 h8).1).trans h8, h9, h10, h11, h12, h13.kept (hb g h6 h13.lt)⟩
theorem RowL.below {c : Nat} {w w' : World} {p : Nat} {l : Value} {xs : List ByteArray} (h : RowL c w p l xs) (hb : Below w.heap.size w w') : RowL c w' p l xs := h.kept (fun i _ hi => hb.block i hi)
theorem RowL.mono {c d : Nat} {w : World} {p : Nat} {l : Value} {xs : List ByteArray} (h : RowL c w p l xs) (hd : d ≤ c) : RowL d w p l xs := by
  obtain ⟨h1, h2, h3⟩ := h
  refine ⟨by omega, h2, ?_⟩
  rcases h3 with ⟨h4, h5 | ⟨q, C, cs, h5, r⟩⟩ | ⟨h4, q, C, cs, g, C2, h5, h6, r⟩
  · exact .inl ⟨h4, .inl h5⟩
  · exact .inl ⟨h4, .inr ⟨q, C, cs, by omega, r⟩⟩
  · exact .inr ⟨h4, q, C, cs, g, C2, by omega, by omega, r⟩
theorem RowL.lt {c : Nat} {w : World} {p : Nat} {l : Value} {xs : List ByteArray} (h : RowL c w p l xs) : c ≤ p ∧ p < w.heap.size ∧ ∀ q, l.ownBlock = some q → c ≤ q ∧ q < w.heap.size ∧ q ≠ p := by
  obtain ⟨h1, h2, h3⟩ := h
  refine ⟨h1, (Array.getElem?_eq_some_iff.1 h2).1, fun q hq => ?_⟩
  rcases h3 with ⟨h4, rfl | ⟨q, C, cs, h5, rfl, h7, r⟩⟩ | ⟨h4, q, C, cs, g, C2, h5, h6, rfl, h8, r⟩
  · cases hq
  · cases hq
    exact ⟨h5, (Array.getElem?_eq_some_iff.1 h7).1, fun e => by have e2 : q = p := e; subst e2; rw [h2] at h7; simp at h7⟩
  · cases hq
    exact ⟨h5, (Array.getElem?_eq_some_iff.1 h8).1, fun e => by have e2 : q = p := e; subst e2; rw [h2] at h8; simp at h8⟩
theorem rowc {X : World} {p : Nat} {a b : Value} (h : X.heap[p]? = some (.cells #[a, b] 118)) : (X.cell? ⟨p, 0, none⟩ = some a ∧ X.cell? ⟨p, 1, none⟩ = some b) ∧ (X.frozen? ⟨p, 0, none⟩ = false ∧ X.frozen? ⟨p, 1, none⟩ = false) ∧ p < X.heap.size := by
  refine ⟨⟨?_, ?_⟩, ⟨frozen_of_row X p 0 _ _ h, frozen_of_row X p 1 _ _ h⟩, (Array.getElem?_eq_some_iff.1 h).1⟩
  · rw [cell_of_row _ p _ _ 118 (0, 0) h]; rfl
  · rw [cell_of_row _ p _ _ 118 (0, 0) h]; rfl
theorem chc {X : World} {q : Nat} {cs : Array Value} {v : Value} (h : X.heap[q]? = some (.cells cs 22)) (h0 : cs[0]? = some v) : X.cell? ⟨q, 0, none⟩ = some v ∧ X.frozen? ⟨q, 0, none⟩ = false ∧ q < X.heap.size := by
  refine ⟨?_, frozen_of_row X q 0 _ _ h, (Array.getElem?_eq_some_iff.1 h).1⟩
  rw [cell_of_row _ q _ _ 22 (0, 0) h]; exact h0
set_option maxRecDepth 100000 in
set_option maxHeartbeats 4000000 in
theorem RNew (w : World) : Calls Tryz.prog 57 #[] w fun e w' => ∃ p, e = .returned (.pointer (some ⟨p, 0, none⟩)) ∧ RowL w.heap.size w' p (.slice none 0 0) [] ∧ Below w.heap.size w w' := by
  go_enter Tryz.func57, Tryz.ntmps57
  go_wp2
  go_ret
  exact ⟨_, rfl, ⟨Nat.le_refl _, heap_alloc_new w _, .inl ⟨rfl, .inl rfl⟩⟩, alloc_old⟩
set_option maxRecDepth 100000 in
set_option maxHeartbeats 4000000 in
theorem RLen (c p : Nat) (l : Value) (xs : List ByteArray) (w : World) (h : RowL c w p l xs) : Calls Tryz.prog 39 #[.pointer (some ⟨p, 0, none⟩)] w fun e w' => e = .returned (.int .i64 (xs.length : Int)) ∧ Below w.heap.size w w' := by
  obtain ⟨⟨p0, p1⟩, _, _⟩ := rowc h.2.1
  clear h
  go_enter Tryz.func39, Tryz.ntmps39
  go_wp2
  go_ret
  exact ⟨rfl, Below.refl _ _⟩
/-- Where a place is in a row of one chunk. -/
def findR (i m : Nat) : Value := if i < m then .tuple #[.int .i64 0, .int .i64 i] else .tuple #[.int .i64 1, .int .i64 ((i : Int) - m)]
/-- A place, counted from the front. -/
def plI (i n : Int) : Int := if i < 0 then i + n else i
set_option maxRecDepth 100000 in
set_option maxHeartbeats 4000000 in
/-- find in a row of one chunk. -/
theorem RFind (p q C m c2 : Nat) (b : Value) (cs : Array Value) (A : Option Addr) (i : Nat) (hi : i ≤ 1000000) (hm : m ≤ 1000000) (w : World) (hp : w.heap[p]? = some (.cells #[.slice (some ⟨q, 0, none⟩) 1 C, b] 118)) (hq : w.heap[q]? = some (.cells cs 22)) (h0 : cs[0]? = some (.slice A m c2)) : Calls Tryz.prog 75 #[.pointer (some ⟨p, 0, none⟩), .int .i64 i] w fun e w' => e = .returned (findR i m) ∧ Below w.heap.size w w' := by
  obtain ⟨⟨p0, p1⟩, _, _⟩ := rowc hp
  obtain ⟨q0, _, _⟩ := chc hq h0
  have w1 : wrap64 ((i : Int) - (m : Int)) = (i : Int) - (m : Int) := by unfold wrap64; omega
  clear hp hq h0
  by_cases hlt : i < m
  · have hl : (i : Int) < (m : Int) := by omega
    go_enter Tryz.func75, Tryz.ntmps75
    go_wp2
    go_loopw [1, 13] (fun j iv wr => j = .int .i64 i ∧ iv = .int .i64 0 ∧ w = wr) (fun _ _ _ => 0)
    case atStart => exact ⟨rfl, rfl, rfl⟩
    case round =>
      obtain ⟨rfl, rfl, rfl⟩ := hrel
      go_wp2
      exact bodyPost_ret (v := .tuple #[.int .i64 0, .int .i64 i]) (by simp [results, Tryz.results75, go_sem]) rfl ⟨by simp [findR, hlt], Below.refl _ _⟩
  · have hl : ¬ (i : Int) < (m : Int) := by omega
    go_enter Tryz.func75, Tryz.ntmps75
    go_wp2
    go_loopw [1, 6, 7, 13] (fun j _ _ iv wr => ((j = .int .i64 i ∧ iv = .int .i64 0) ∨ (j = .int .i64 ((i : Int) - m) ∧ iv = .int .i64 1)) ∧ w = wr) (fun _ _ _ iv _ => 1 - (intOf iv).toNat)
    case atStart => exact ⟨.inl ⟨rfl, rfl⟩, rfl⟩
    case round =>
      obtain ⟨⟨rfl, rfl⟩ | ⟨rfl, rfl⟩, rfl⟩ := hrel
      · go_wp2
        exact ⟨⟨.inr ⟨rfl, by simp⟩, trivial⟩, by simp [intOf]⟩
      · go_wp2
        exact bodyPost_ret (v := .tuple #[.int .i64 1, .int .i64 ((i : Int) - m)]) (by simp [results, Tryz.results75, go_sem]) rfl ⟨by simp [findR, hlt], Below.refl _ _⟩
set_option maxRecDepth 100000 in
set_option maxHeartbeats 4000000 in
/-- place: from the front, or from the end. -/
theorem RPlace (c p : Nat) (l : Value) (xs : List ByteArray) (hn : xs.length ≤ 1000000) (i : Int) (hi : -1000000 ≤ i ∧ i ≤ 1000000) (w : World) (h : RowL c w p l xs) : Calls Tryz.prog 74 #[.pointer (some ⟨p, 0, none⟩), .int .i64 i] w fun e w' => e = .returned (.tuple #[.int .i64 (plI i xs.length), .bool (decide (0 ≤ plI i xs.length ∧ plI i xs.length < xs.length))]) ∧ Below w.heap.size w w' := by
  have LN := Lib.hid (fun X (hX : Below w.heap.size w X) => RLen c p l xs X (h.below hX))
  clear h
  have w1 : wrap64 (i + (xs.length : Int)) = i + (xs.length : Int) := by unfold wrap64; omega
  obtain ⟨n, hnn⟩ : ∃ n : Int, n = xs.length := ⟨_, rfl⟩
  rw [← hnn] at LN w1 ⊢
  have hn0 : 0 ≤ n := by omega
  clear hnn hn
  have L0 := Lib.hid (LN.out w (Below.refl _ _))
  by_cases h0 : i < 0
  · by_cases h1 : 0 ≤ i + n
    · have h2 : i + n < n := by omega
      go_enter Tryz.func74, Tryz.ntmps74
      go_wp2_with (first | (go_at_call 39; (with_reducible refine (L0.out).mono ?_); rintro e w2 ⟨rfl, h3⟩; have B2 := Lib.hid h3; have L1 := Lib.hid (LN.out w2 h3); clear h3 L0) | (go_at_call 39; (with_reducible refine (L1.out).mono ?_); rintro e w3 ⟨rfl, h3⟩; have B3 := Lib.hid (B2.out.trans (h3.mono (Below.size B2.out))); clear h3))
      exact bodyPost_ret (v := .tuple #[.int .i64 (i + n), .bool true]) (by simp [results, Tryz.results74, go_sem]) rfl ⟨by rw [show plI i n = i + n from if_pos (by omega)]; simp <;> omega, B3.out⟩
    · go_enter Tryz.func74, Tryz.ntmps74
      go_wp2_with (first | (go_at_call 39; (with_reducible refine (L0.out).mono ?_); rintro e w2 ⟨rfl, h3⟩; have B2 := Lib.hid h3; clear h3 L0))
      exact bodyPost_ret (v := .tuple #[.int .i64 (i + n), .bool false]) (by simp [results, Tryz.results74, go_sem]) rfl ⟨by rw [show plI i n = i + n from if_pos (by omega)]; simp <;> omega, B2.out⟩
  · have h4 : 0 ≤ i := by omega
    by_cases h1 : i < n
    · go_enter Tryz.func74, Tryz.ntmps74
      go_wp2_with (first | (go_at_call 39; (with_reducible refine (L0.out).mono ?_); rintro e w2 ⟨rfl, h3⟩; have B2 := Lib.hid h3; clear h3 L0))
      exact bodyPost_ret (v := .tuple #[.int .i64 i, .bool true]) (by simp [results, Tryz.results74, go_sem]) rfl ⟨by rw [show plI i n = i from if_neg (by omega)]; simp <;> omega, B2.out⟩
    · go_enter Tryz.func74, Tryz.ntmps74
      go_wp2_with (first | (go_at_call 39; (with_reducible refine (L0.out).mono ?_); rintro e w2 ⟨rfl, h3⟩; have B2 := Lib.hid h3; clear h3 L0))
      exact bodyPost_ret (v := .tuple #[.int .i64 i, .bool false]) (by simp [results, Tryz.results74, go_sem]; exact h1) rfl ⟨by rw [show plI i n = i from if_neg (by omega)]; simp <;> omega, B2.out⟩
end Go.Proofs.YtjljljjmdlddkaaGreat
