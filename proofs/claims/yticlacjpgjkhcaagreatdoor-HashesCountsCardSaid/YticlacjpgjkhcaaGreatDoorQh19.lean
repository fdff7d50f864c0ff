/- Texts joined: Hh1, Hh2, Hh3, Hh4, H4, H5, V1F, V2F, V3F -/
import Derived.Test.YticlacjpgjkhcaaGreatDoorQh18
import Derived.Test.YticlacjpgjkhcaaGreatDoorQh1
import Derived.Test.YticlacjpgjkhcaaGreatDoorQh13
import Derived.Test.YticlacjpgjkhcaaGreatDoorQh15
import Derived.Test.YticlacjpgjkhcaaGreatDoorQh9
import Derived.Sort.Walk0

/- A hash in memory: asked, set. -/
namespace Go.Proofs.YticlacjpgjkhcaaGreatDoor
open Go.ChangeShapes Go.WideShapes Go.ChangeAt Go.RowKit

/-- A hash: an entry's cells, whether it was there, a table, texts. -/
structure HS (c : Nat) (w : World) (h : Nat) (e0 e1 e2 e3 e4 e5 e6 e7 e8 : Value) (p g : Nat) (f : Nat → Value) (D : List (ByteArray × Nat)) (l : Value) (L : List ByteArray) (F : List (ByteArray × ByteArray)) : Prop where
  hc : c ≤ h
  blk : w.heap[h]? = some (.cells #[e0, e1, e2, e3, e4, e5, e6, e7, e8, .pointer (some ⟨p, 0, none⟩), l] 154)
  tab : TabT c w p g f D
  row : TO w c l L
  hf : HF D L F
def HH (c : Nat) (w : World) (h : Nat) (e0 e1 e2 e3 e4 e5 e6 e7 e8 : Value) (F : List (ByteArray × ByteArray)) (N : Nat) : Prop := ∃ p g f D l L, HS c w h e0 e1 e2 e3 e4 e5 e6 e7 e8 p g f D l L F ∧ L.length ≤ N
theorem cells11 {w : World} {b : Nat} {v0 v1 v2 v3 v4 v5 v6 v7 v8 v9 v10 : Value} {t : TypeId} (h : w.heap[b]? = some (.cells #[v0, v1, v2, v3, v4, v5, v6, v7, v8, v9, v10] t)) : (w.cell? ⟨b, 0, none⟩ = some v0 ∧ w.cell? ⟨b, 1, none⟩ = some v1 ∧ w.cell? ⟨b, 2, none⟩ = some v2 ∧ w.cell? ⟨b, 3, none⟩ = some v3 ∧ w.cell? ⟨b, 4, none⟩ = some v4 ∧ w.cell? ⟨b, 5, none⟩ = some v5 ∧ w.cell? ⟨b, 6, none⟩ = some v6 ∧ w.cell? ⟨b, 7, none⟩ = some v7 ∧ w.cell? ⟨b, 8, none⟩ = some v8 ∧ w.cell? ⟨b, 9, none⟩ = some v9 ∧ w.cell? ⟨b, 10, none⟩ = some v10) ∧ ∀ i, w.frozen? ⟨b, i, none⟩ = false := by
  refine ⟨⟨?_, ?_, ?_, ?_, ?_, ?_, ?_, ?_, ?_, ?_, ?_⟩, fun i => frozen_of_row w b i _ t h⟩ <;> (rw [cell_of_row _ b _ _ t (0, 0) h]; rfl)
theorem HS.kept {c : Nat} {w w' : World} {h : Nat} {e0 e1 e2 e3 e4 e5 e6 e7 e8 : Value} {p g : Nat} {f : Nat → Value} {D : List (ByteArray × Nat)} {l : Value} {L : List ByteArray} {F : List (ByteArray × ByteArray)} (s : HS c w h e0 e1 e2 e3 e4 e5 e6 e7 e8 p g f D l L F) (hk : ∀ i, c ≤ i → i < w.heap.size → w'.heap[i]? = w.heap[i]?) : HS c w' h e0 e1 e2 e3 e4 e5 e6 e7 e8 p g f D l L F := by
  refine ⟨s.hc, (hk h s.hc (lt_blk s.blk)).trans s.blk, ⟨s.tab.hp, s.tab.hg, (hk p s.tab.hp (lt_blk s.tab.tab)).trans s.tab.tab, (hk g s.tab.hg (lt_blk s.tab.slots)).trans s.tab.slots, fun j hj => row_kept (s.tab.row j hj) fun b hb => ?_, s.tab.dist, s.tab.few, s.tab.nd⟩, row_kept s.row fun b hb => ?_, s.hf⟩
  · have := row_own (s.tab.row j hj) b hb
    exact hk b this.1 this.2
  · have := row_own s.row b hb
    exact hk b this.1 this.2
theorem HS.below {c : Nat} {w w' : World} {h : Nat} {e0 e1 e2 e3 e4 e5 e6 e7 e8 : Value} {p g : Nat} {f : Nat → Value} {D : List (ByteArray × Nat)} {l : Value} {L : List ByteArray} {F : List (ByteArray × ByteArray)} (s : HS c w h e0 e1 e2 e3 e4 e5 e6 e7 e8 p g f D l L F) (hb : Below w.heap.size w w') : HS c w' h e0 e1 e2 e3 e4 e5 e6 e7 e8 p g f D l L F := s.kept fun i _ hi => hb.block i hi
theorem not_tab_hash {w : World} {h : Nat} {cs : Array Value} (hb : w.heap[h]? = some (.cells cs 154)) : ¬ TabAt w h := by
  rintro ⟨cs', t, h1, h2⟩
  rw [hb] at h1
  cases h1
  rcases h2 with h2 | h2 | h2 <;> exact absurd h2 (by decide)
theorem not_tab_str {w : World} {h : Nat} {cs : Array Value} (hb : w.heap[h]? = some (.cells cs 9)) : ¬ TabAt w h := by
  rintro ⟨cs', t, h1, h2⟩
  rw [hb] at h1
  cases h1
  rcases h2 with h2 | h2 | h2 <;> exact absurd h2 (by decide)
theorem not_tab_fld {w : World} {h : Nat} {cs : Array Value} (hb : w.heap[h]? = some (.cells cs 41)) : ¬ TabAt w h := by
  rintro ⟨cs', t, h1, h2⟩
  rw [hb] at h1
  cases h1
  rcases h2 with h2 | h2 | h2 <;> exact absurd h2 (by decide)
/-- Blocks of fields are as they were. -/
def KFl (w w' : World) : Prop := ∀ (i : Nat) (cs : Array Value), w.heap[i]? = some (.cells cs 41) → w'.heap[i]? = w.heap[i]?
theorem KFl.refl (w : World) : KFl w w := fun _ _ _ => rfl
theorem KFl.of {w w' : World} (h : Below w.heap.size w w') : KFl w w' := fun i _ hi => h.block i (lt_blk hi)
theorem KFl.trans {w w' w2 : World} (h : KFl w w') (h2 : KFl w' w2) : KFl w w2 := fun i cs hi => (h2 i cs ((h i cs hi).trans hi)).trans (h i cs hi)
/-- The table was put to. -/
theorem HS.tabbed {c : Nat} {w w' : World} {h : Nat} {e0 e1 e2 e3 e4 e5 e6 e7 e8 : Value} {p g g' : Nat} {f f' : Nat → Value} {D D' : List (ByteArray × Nat)} {l : Value} {L : List ByteArray} {F : List (ByteArray × ByteArray)} (s : HS c w h e0 e1 e2 e3 e4 e5 e6 e7 e8 p g f D l L F) (_hT : TabT c w' p g' f' D') (hK : KTab c w w') : w'.heap[h]? = some (.cells #[e0, e1, e2, e3, e4, e5, e6, e7, e8, .pointer (some ⟨p, 0, none⟩), l] 154) ∧ TO w' c l L :=
  ⟨(hK.kept h (lt_blk s.blk) (not_tab_hash s.blk)).trans s.blk, row_kept s.row fun b hb => by
    obtain ⟨cs, hc⟩ := row_typ s.row b hb
    exact hK.kept b (lt_blk hc) (not_tab_str hc)⟩
set_option maxRecDepth 100000 in
set_option maxHeartbeats 4000000 in
theorem hget_any (c h : Nat) (e0 e1 e2 e3 e4 e5 e6 e7 e8 : Value) (F : List (ByteArray × ByteArray)) (N : Nat) (_hN : N ≤ 1000) (k : ByteArray) (hk : k.size ≤ 1000000) (w : World) (s : HH c w h e0 e1 e2 e3 e4 e5 e6 e7 e8 F N) : Calls Tryz.prog 135 #[.pointer (some ⟨h, 0, none⟩), .string k] w fun e w' => e = .returned (.tuple #[.string ((findD k F).getD ⟨#[]⟩), .bool (findD k F).isSome]) ∧ Below w.heap.size w w' := by
  obtain ⟨p, g, f, D, l, L, s, hL⟩ := s
  have GT := Lib.hid (get_T c p g f D k hk w s.tab)
  obtain ⟨⟨_, _, _, _, _, _, _, _, _, c9, c10⟩, _⟩ := cells11 s.blk
  have S := Lib.hid s
  cases hD : findD k D with
  | none =>
    rw [hD] at GT
    simp only [Option.getD_none, Option.isSome_none] at GT
    rw [s.hf.find_none k hD]
    clear s hD
    go_enter Tryz.func135, Tryz.ntmps135
    go_wp2_with (first | (go_at_call 184; (with_reducible refine (GT.out).mono ?_); rintro e w1 ⟨rfl, h1⟩; have B1 := Lib.hid h1; clear h1))
    exact bodyPost_ret (v := .tuple #[.string ⟨#[]⟩, .bool false]) (by simp [results, Tryz.results135, go_sem]) rfl ⟨rfl, B1.out⟩
  | some q =>
    rw [hD] at GT
    simp only [Option.getD_some, Option.isSome_some] at GT
    obtain ⟨t, ht, hft⟩ := s.hf.find_some k q hD
    rw [hft]
    have HT := Lib.hid ht
    have hql := (List.getElem?_eq_some_iff.1 ht).1
    obtain ⟨A, C, hl, hA, hC⟩ := row_form s.row
    subst hl
    obtain ⟨gl, rfl⟩ : ∃ gl, A = some ⟨gl, 0, none⟩ := hA.resolve_left (by omega)
    have q1 : (q : Int) < (L.length : Int) := by omega
    clear s hD hft ht
    go_enter Tryz.func135, Tryz.ntmps135
    go_wp2_with (first | (go_at_call 184; (with_reducible refine (GT.out).mono ?_); rintro e w1 ⟨rfl, h1⟩; have B1 := Lib.hid h1; clear h1; refine Hid.out ?_))
    refine Lib.hid ?_
    have S1 := S.out.below B1.out
    obtain ⟨⟨_, _, _, _, _, _, _, _, _, c9, c10⟩, _⟩ := cells11 S1.blk
    have d0 := row_cell S1.row q (.string t) (by rw [List.getElem?_map, HT.out]; rfl)
    clear S1
    go_wp2
    exact bodyPost_ret (v := .tuple #[.string t, .bool true]) (by simp [results, Tryz.results135, go_sem]) rfl ⟨rfl, B1.out⟩
end Go.Proofs.YticlacjpgjkhcaaGreatDoor

/- A hash in memory: a field is set, is taken. -/
namespace Go.Proofs.YticlacjpgjkhcaaGreatDoor
open Go.ChangeShapes Go.WideShapes Go.ChangeAt Go.RowKit

theorem row_set {w : World} {c g C : Nat} {L : List ByteArray} (h : TO w c (.slice (some ⟨g, 0, none⟩) L.length C) L) (q : Nat) (t : ByteArray) : TO (w.setCell ⟨g, q, none⟩ (.string t)) c (.slice (some ⟨g, 0, none⟩) L.length C) (L.set q t) := by
  unfold TO World.ownsRow at h ⊢
  obtain ⟨h1, ⟨h2, _⟩ | ⟨g', cap, cur, h2, h3, h4, h5, h6, h7, h8⟩⟩ := h
  · cases h2
  · cases h2
    rw [List.length_set]
    refine ⟨by simp, .inr ⟨g, C, cur.setIfInBounds q (.string t), rfl, h3, set_cells h4, h5, h6, by simpa using h7, ?_⟩⟩
    rw [Nat.mul_one] at h8 ⊢
    apply List.ext_getElem?
    intro j
    have e := congrArg (fun x : List Value => x[j]?) h8
    simp only [List.getElem?_map] at e
    by_cases hj : j < L.length
    · rw [List.getElem?_take_of_lt hj, Array.getElem?_toList] at e ⊢
      rw [Array.getElem?_setIfInBounds, List.getElem?_map, List.getElem?_set]
      by_cases hq : q = j
      · subst hq
        rw [if_pos rfl, if_pos rfl, if_pos (by omega), if_pos hj]
        rfl
      · rw [if_neg hq, if_neg hq]
        exact e
    · rw [List.getElem?_take_eq_none (by omega), List.getElem?_eq_none (by simp; omega)]
set_option maxRecDepth 100000 in
set_option maxHeartbeats 4000000 in
theorem hset_old (c h : Nat) (e0 e1 e2 e3 e4 e5 e6 e7 e8 : Value) (F : List (ByteArray × ByteArray)) (N : Nat) (_hN : N ≤ 1000) (k t0 t : ByteArray) (hk : k.size ≤ 1000000) (hF : findD k F = some t0) (w : World) (s : HH c w h e0 e1 e2 e3 e4 e5 e6 e7 e8 F N) : Calls Tryz.prog 133 #[.pointer (some ⟨h, 0, none⟩), .string k, .string t] w fun e w' => e = .returned (.bool false) ∧ HH c w' h e0 e1 e2 e3 e4 e5 e6 e7 e8 (putD k t F) N ∧ Below c w w' ∧ KFl w w' := by
  obtain ⟨p, g, f, D, l, L, s, hL⟩ := s
  have GT := Lib.hid (get_T c p g f D k hk w s.tab)
  obtain ⟨⟨_, _, _, _, _, _, _, _, _, c9, c10⟩, _⟩ := cells11 s.blk
  have S := Lib.hid s
  cases hD : findD k D with
  | none =>
    rw [s.hf.find_none k hD] at hF
    cases hF
  | some q =>
    rw [hD] at GT
    simp only [Option.getD_some, Option.isSome_some] at GT
    obtain ⟨t1, ht, _⟩ := s.hf.find_some k q hD
    have HT := Lib.hid ht
    have HD := Lib.hid hD
    have hql := (List.getElem?_eq_some_iff.1 ht).1
    obtain ⟨A, C, hl, hA, hC⟩ := row_form s.row
    subst hl
    obtain ⟨gl, rfl⟩ : ∃ gl, A = some ⟨gl, 0, none⟩ := hA.resolve_left (by omega)
    have q1 : (q : Int) < (L.length : Int) := by omega
    have LE := Lib.hid s.tab.le
    clear s hD ht hF
    go_enter Tryz.func133, Tryz.ntmps133
    go_wp2_with (first | (go_at_call 184; (with_reducible refine (GT.out).mono ?_); rintro e w1 ⟨rfl, h1⟩; have B1 := Lib.hid h1; clear h1; refine Hid.out ?_))
    refine Lib.hid ?_
    have S1 := Lib.hid (S.out.below B1.out)
    obtain ⟨⟨_, _, _, _, _, _, _, _, _, c9, c10⟩, _⟩ := cells11 S1.out.blk
    have d0 := row_cell S1.out.row q (.string t1) (by rw [List.getElem?_map, HT.out]; rfl)
    obtain ⟨cs, hcs⟩ := row_typ S1.out.row gl rfl
    have zf : w1.frozen? ⟨gl, q, none⟩ = false := frozen_of_row w1 gl q _ _ hcs
    have hgl := (row_own S1.out.row gl rfl).1
    have HCS := Lib.hid hcs
    clear hcs
    go_wp2
    go_ret
    have far : ∀ i, i ≠ gl → (w1.setCell ⟨gl, q, none⟩ (.string t)).heap[i]? = w1.heap[i]? := fun i hi => Below.heap_setCell _ ⟨gl, q, none⟩ _ _ hi
    refine ⟨by simp, ⟨p, g, f, D, _, _, ⟨S1.out.hc, (far h ?_).trans S1.out.blk, S1.out.tab.kept (fun i cs' t' hi ht' => far i ?_), row_set S1.out.row q t, S1.out.hf.set k t q HD.out⟩, by rw [List.length_set]; exact hL⟩, (B1.out.mono LE.out).setCell (p := ⟨gl, q, none⟩) hgl _, fun i cs' hi => (far i ?_).trans (B1.out.block i (lt_blk hi))⟩
    · rintro rfl
      have := HCS.out
      obtain ⟨cs2, h2⟩ : ∃ cs2, w1.heap[h]? = some (.cells cs2 154) := ⟨_, S1.out.blk⟩
      rw [h2] at this
      cases this
    · rintro rfl
      rw [HCS.out] at hi
      cases hi
      rcases ht' with h2 | h2 | h2 <;> exact absurd h2 (by decide)
    · rintro rfl
      have := (B1.out.block _ (lt_blk hi)).trans hi
      rw [HCS.out] at this
      cases this
set_option maxRecDepth 100000 in
set_option maxHeartbeats 4000000 in
theorem hset_new (c h : Nat) (e0 e1 e2 e3 e4 e5 e6 e7 e8 : Value) (F : List (ByteArray × ByteArray)) (hfew : F.length ≤ 15) (N : Nat) (hN : N ≤ 1000) (k t : ByteArray) (hk : k.size ≤ 1000000) (hF : findD k F = none) (w : World) (s : HH c w h e0 e1 e2 e3 e4 e5 e6 e7 e8 F N) : Calls Tryz.prog 133 #[.pointer (some ⟨h, 0, none⟩), .string k, .string t] w fun e w' => e = .returned (.bool true) ∧ HH c w' h e0 e1 e2 e3 e4 e5 e6 e7 e8 (putD k t F) (N + 1) ∧ Below c w w' ∧ KFl w w' := by
  obtain ⟨p, g, f, D, l, L, s, hL⟩ := s
  have GT := Lib.hid (get_T c p g f D k hk w s.tab)
  obtain ⟨⟨_, _, _, _, _, _, _, _, _, c9, c10⟩, _⟩ := cells11 s.blk
  have S := Lib.hid s
  have hD : findD k D = none := by
    cases hD : findD k D with
    | none => rfl
    | some q =>
      obtain ⟨t1, _, h2⟩ := s.hf.find_some k q hD
      rw [hF] at h2
      cases h2
  rw [hD] at GT
  simp only [Option.getD_none, Option.isSome_none] at GT
  have HD := Lib.hid hD
  have PT := Lib.hid (fun X (hX : Below w.heap.size w X) => put_T c p g f D k hk L.length hD (by rw [← s.hf.len]; exact hfew) X (s.tab.below hX))
  obtain ⟨A, C, hl, hA, hC⟩ := row_form s.row
  subst hl
  have LE := Lib.hid s.tab.le
  clear s hD hF hA hC
  go_enter Tryz.func133, Tryz.ntmps133
  go_wp2_with (first | (go_at_call 184; (with_reducible refine (GT.out).mono ?_); rintro e w1 ⟨rfl, h1⟩; have B1 := Lib.hid h1; clear h1; refine Hid.out ?_))
  refine Lib.hid ?_
  have S1 := Lib.hid (S.out.below B1.out)
  obtain ⟨⟨_, _, _, _, _, _, _, _, _, c9, c10⟩, _⟩ := cells11 S1.out.blk
  have SX := Lib.hid (show ∀ X : World, X.heap[h]? = some (.cells #[e0, e1, e2, e3, e4, e5, e6, e7, e8, .pointer (some ⟨p, 0, none⟩), .slice A L.length C] 154) → (X.cell? ⟨h, 9, none⟩ = some (.pointer (some ⟨p, 0, none⟩)) ∧ X.cell? ⟨h, 10, none⟩ = some (.slice A L.length C)) from fun X hb => by
    obtain ⟨⟨_, _, _, _, _, _, _, _, _, c9, c10⟩, _⟩ := cells11 hb
    exact ⟨c9, c10⟩)
  have SD := Lib.hid (S1.out.below (Below.refl w1.heap.size w1).drew)
  have S0 := SX.out w1.drew SD.out.blk
  have PD := Lib.hid (PT.out w1.drew B1.out.drew)
  have q1 : 0 ≤ (L.length : Int) := by omega
  clear c9 c10 GT PT
  go_wp2
  go_region_held3 (fun X => X.cell? ⟨h, 9, none⟩ = some (.pointer (some ⟨p, 0, none⟩)) ∧ X.cell? ⟨h, 10, none⟩ = some (.slice A L.length C)) (first | (with_reducible exact S0) | (with_reducible exact S2.out))
    (first | (go_at_call 185; (with_reducible refine (PD.out).mono ?_); rintro e w2 ⟨rfl, ⟨f', hT⟩, hK⟩; have T2 := Lib.hid hT; have K2 := Lib.hid hK; have S2 := Lib.hid (SX.out _ (SD.out.tabbed hT hK).1); clear hT hK))
  clear S0 PD
  have TB := Lib.hid (SD.out.tabbed T2.out K2.out)
  have A2 := Lib.hid (alloc_old (w := w2) (o := .cells #[.string t] 9))
  have b5 := Lib.hid (heap_alloc_new w2 (.cells #[.string t] 9))
  have R5 := Lib.hid (show TO _ c _ _ from row_below TB.out.2 A2.out)
  have T5 := Lib.hid (T2.out.below A2.out)
  have H5 := Lib.hid (blk_below TB.out.1 A2.out)
  have z5 := Lib.hid T5.out.le
  have hL' : L.length ≤ 1000 := by omega
  obtain ⟨⟨_, _, _, _, _, _, _, _, _, c9, c10⟩, zz⟩ := cells11 TB.out.1
  have zf := zz 10
  clear zz
  go_wp2_with (first | (at_builtin; refine append_TO _ rfl _ _ rfl c _ L L.length rfl rfl R5.out [t] 1 rfl _ rfl b5.out (by decide) (by omega) z5.out ?_; intro g6 C6 w6 h6 h7 h8; have T6 := Lib.hid h6; have G6 := Lib.hid h7; clear h6 h7 h8; refine Hid.out ?_))
  refine Lib.hid ?_
  have hown : ∀ i (cs : Array Value) ty, (w2.alloc (.cells #[.string t] 9)).heap[i]? = some (.cells cs ty) → ty ≠ 9 → some i ≠ (Value.slice A L.length C).ownBlock := fun i cs ty hi ht e => by
    obtain ⟨cs2, h2⟩ := row_typ R5.out i e.symm
    rw [h2] at hi
    cases hi
    exact ht rfl
  have H6 := Lib.hid ((G6.out.block h (lt_blk H5.out) (hown h _ _ H5.out (by decide))).trans H5.out)
  have T6t := Lib.hid (T5.out.kept (w' := w6) (fun i cs ty hi ht => G6.out.block i (lt_blk hi) (hown i cs ty hi (by rintro rfl; rcases ht with h2 | h2 | h2 <;> exact absurd h2 (by decide)))))
  have BB := Lib.hid ((((B1.out.drew.mono LE.out).trans K2.out.below).trans (A2.out.mono T2.out.le)).grown G6.out z5.out (fun b hb => (row_own R5.out b hb).1))
  have KF6 := Lib.hid (show KFl w w6 from fun i cs hi => by
    have h1 := (B1.out.drew.block i (lt_blk hi)).trans hi
    have h2 := (K2.out.kept i (lt_blk h1) (not_tab_fld h1)).trans h1
    have h3 := (A2.out.block i (lt_blk h2)).trans h2
    exact ((G6.out.block i (lt_blk h3) (hown i cs _ h3 (by decide))).trans h3).trans hi.symm)
  obtain ⟨⟨_, _, _, _, _, _, _, _, _, k9, k10⟩, zz⟩ := cells11 H6.out
  have zf6 := zz 10
  clear zz c9 c10 zf hown
  go_wp2
  go_ret
  have far : ∀ i, i ≠ h → (w6.setCell ⟨h, 10, none⟩ (.slice (some ⟨g6, 0, none⟩) (L.length + 1) C6)).heap[i]? = w6.heap[i]? := fun i hi => Below.heap_setCell _ ⟨h, 10, none⟩ _ _ hi
  have hh : ∃ cs, w6.heap[h]? = some (.cells cs 154) := ⟨_, H6.out⟩
  refine ⟨by simp, ⟨p, g, f', D ++ [(k, L.length)], .slice (some ⟨g6, 0, none⟩) (L.length + 1) C6, L ++ [t], ⟨S.out.hc, ?_, T6t.out.kept (fun i cs ty hi ht => far i ?_), row_kept T6.out (fun b hb => far b ?_), S.out.hf.new k t HD.out⟩, by rw [List.length_append]; show L.length + 1 ≤ N + 1; omega⟩, BB.out.setCell (p := ⟨h, 10, none⟩) S.out.hc _, fun i cs hi => (far i ?_).trans (KF6.out i cs hi)⟩
  · rw [set_cells H6.out]
    rfl
  · rintro rfl
    obtain ⟨cs2, h2⟩ := hh
    rw [h2] at hi
    cases hi
    rcases ht with h2 | h2 | h2 <;> exact absurd h2 (by decide)
  · rintro rfl
    obtain ⟨cs2, h2⟩ := hh
    obtain ⟨cs3, h3⟩ := row_typ T6.out b hb
    rw [h2] at h3
    cases h3
  · rintro rfl
    obtain ⟨cs2, h2⟩ := hh
    have h3 := (KF6.out i cs hi).trans hi
    rw [h2] at h3
    cases h3
end Go.Proofs.YticlacjpgjkhcaaGreatDoor

/- A hash in memory: a field's reply. -/
namespace Go.Proofs.YticlacjpgjkhcaaGreatDoor
open Go.ChangeShapes Go.WideShapes Go.ChangeAt Go.RowKit

/-- The reply for a text that may lack. -/
def optR (o : Option ByteArray) : Value := match o with
  | some t => .agg #[.int .i64 4, .int .i64 0, .string t, .slice none 0 0]
  | none => .agg #[.int .i64 5, .int .i64 0, .string ⟨#[]⟩, .slice none 0 0]
set_option maxRecDepth 100000 in
set_option maxHeartbeats 4000000 in
theorem hbulk_any (c h : Nat) (e0 e1 e2 e3 e4 e5 e6 e7 e8 : Value) (F : List (ByteArray × ByteArray)) (N : Nat) (hN : N ≤ 1000) (k : ByteArray) (hk : k.size ≤ 1000000) (w : World) (s : HH c w h e0 e1 e2 e3 e4 e5 e6 e7 e8 F N) : Calls Tryz.prog 136 #[.pointer (some ⟨h, 0, none⟩), .string k] w fun e w' => e = .returned (optR (findD k F)) ∧ Below w.heap.size w w' := by
  have A1 := Lib.hid (alloc_old (w := w) (o := .cells #[.int .i64 0, .int .i64 0, .string ⟨#[]⟩, .slice none 0 0] 29))
  have z0 := Lib.hid (heap_alloc_new w (.cells #[.int .i64 0, .int .i64 0, .string ⟨#[]⟩, .slice none 0 0] 29))
  have G := hget_any c h e0 e1 e2 e3 e4 e5 e6 e7 e8 F N hN k hk (w.alloc (.cells #[.int .i64 0, .int .i64 0, .string ⟨#[]⟩, .slice none 0 0] 29)) (by
    obtain ⟨p, g, f, D, l, L, s, hL⟩ := s
    exact ⟨p, g, f, D, l, L, s.below alloc_old, hL⟩)
  have BK := Lib.hid (fun t X => Bulk67 t X)
  have NL := Lib.hid (fun X => Nil66 X)
  clear s
  cases hf : findD k F with
  | none =>
    rw [hf] at G
    simp only [Option.getD_none, Option.isSome_none, optR] at G ⊢
    have G := Lib.hid G
    clear hf
    go_enter Tryz.func136, Tryz.ntmps136
    go_wp2_with (first | (go_at_call 135; (with_reducible refine (G.out).mono ?_); rintro e w1 ⟨rfl, h1⟩; have B1 := Lib.hid (A1.out.trans (h1.mono (Below.size A1.out))); have r1 := Lib.hid (blk_below z0.out h1); clear h1) | (go_at_call 122; (with_reducible refine (NL.out _).mono ?_); rintro e w2 ⟨rfl, h2⟩; have B2 := Lib.hid (B1.out.trans (h2.mono (Below.size B1.out))); have r2 := Lib.hid (blk_below r1.out h2); clear h2; obtain ⟨⟨c0, c1, c2, c3⟩, f0, f1, f2, f3⟩ := cells4 r2.out; refine Hid.out ?_))
    refine Lib.hid ?_
    go_wp2
    exact bodyPost_ret (v := .agg #[.int .i64 5, .int .i64 0, .string ⟨#[]⟩, .slice none 0 0]) (by simp [results, Tryz.results136, go_sem, c0, c1, c2, c3]) rfl ⟨rfl, (((B2.out.setCell (Nat.le_refl _) _).setCell (Nat.le_refl _) _).setCell (Nat.le_refl _) _).setCell (Nat.le_refl _) _⟩
  | some t =>
    rw [hf] at G
    simp only [Option.getD_some, Option.isSome_some, optR] at G ⊢
    have G := Lib.hid G
    clear hf
    go_enter Tryz.func136, Tryz.ntmps136
    go_wp2_with (first | (go_at_call 135; (with_reducible refine (G.out).mono ?_); rintro e w1 ⟨rfl, h1⟩; have B1 := Lib.hid (A1.out.trans (h1.mono (Below.size A1.out))); have r1 := Lib.hid (blk_below z0.out h1); clear h1) | (go_at_call 119; (with_reducible refine (BK.out _ _).mono ?_); rintro e w2 ⟨rfl, h2⟩; have B2 := Lib.hid (B1.out.trans (h2.mono (Below.size B1.out))); have r2 := Lib.hid (blk_below r1.out h2); clear h2; obtain ⟨⟨c0, c1, c2, c3⟩, f0, f1, f2, f3⟩ := cells4 r2.out; refine Hid.out ?_))
    refine Lib.hid ?_
    go_wp2
    exact bodyPost_ret (v := .agg #[.int .i64 4, .int .i64 0, .string t, .slice none 0 0]) (by simp [results, Tryz.results136, go_sem, c0, c1, c2, c3]) rfl ⟨rfl, (((B2.out.setCell (Nat.le_refl _) _).setCell (Nat.le_refl _) _).setCell (Nat.le_refl _) _).setCell (Nat.le_refl _) _⟩
end Go.Proofs.YticlacjpgjkhcaaGreatDoor

/- A hash in memory: a field set, new or not. -/
namespace Go.Proofs.YticlacjpgjkhcaaGreatDoor
open Go.ChangeShapes Go.WideShapes Go.ChangeAt Go.RowKit

theorem hset_any (c h : Nat) (e0 e1 e2 e3 e4 e5 e6 e7 e8 : Value) (F : List (ByteArray × ByteArray)) (hfew : F.length ≤ 15) (N : Nat) (hN : N ≤ 1000) (k t : ByteArray) (hk : k.size ≤ 1000000) (w : World) (s : HH c w h e0 e1 e2 e3 e4 e5 e6 e7 e8 F N) : Calls Tryz.prog 133 #[.pointer (some ⟨h, 0, none⟩), .string k, .string t] w fun e w' => e = .returned (.bool (findD k F).isNone) ∧ HH c w' h e0 e1 e2 e3 e4 e5 e6 e7 e8 (putD k t F) (N + 1) ∧ Below c w w' ∧ KFl w w' := by
  cases hF : findD k F with
  | none => exact hset_new c h e0 e1 e2 e3 e4 e5 e6 e7 e8 F hfew N hN k t hk hF w s
  | some t0 =>
    refine (hset_old c h e0 e1 e2 e3 e4 e5 e6 e7 e8 F N hN k t0 t hk hF w s).mono ?_
    rintro e w' ⟨rfl, ⟨p, g, f, D, l, L, s', hL⟩, hb⟩
    exact ⟨rfl, ⟨p, g, f, D, l, L, s', Nat.le_succ_of_le hL⟩, hb⟩
end Go.Proofs.YticlacjpgjkhcaaGreatDoor

/- Fields put one by one, plain. -/
namespace Go.Proofs.YticlacjpgjkhcaaGreatDoor
open Go.ChangeShapes Go.WideShapes Go.ChangeAt Go.RowKit

theorem putD_end {α : Type} (k : ByteArray) (u : α) : ∀ (D : List (ByteArray × α)), findD k D = none → putD k u D = D ++ [(k, u)]
  | [], _ => rfl
  | (x, v) :: r, h => by
    unfold findD at h
    unfold putD
    by_cases hx : x = k
    · rw [if_pos hx] at h; cases h
    · rw [if_neg hx] at h ⊢
      rw [putD_end k u r h]; rfl
theorem findD_no_such {α : Type} (k : ByteArray) : ∀ (D : List (ByteArray × α)), (∀ p ∈ D, p.1 ≠ k) → findD k D = none
  | [], _ => rfl
  | (x, v) :: r, h => by
    unfold findD
    rw [if_neg (h (x, v) List.mem_cons_self)]
    exact findD_no_such k r fun p hp => h p (List.mem_cons_of_mem _ hp)
theorem put_take {α : Type} (F : List (ByteArray × α)) (hd : ∀ (i j : Nat) (p q : ByteArray × α), i < j → F[i]? = some p → F[j]? = some q → p.1 ≠ q.1) (i : Nat) (p : ByteArray × α) (hp : F[i]? = some p) : findD p.1 (F.take i) = none ∧ putD p.1 p.2 (F.take i) = F.take (i + 1) := by
  have h1 : findD p.1 (F.take i) = none := findD_no_such _ _ fun q hq => by
    obtain ⟨j, hj⟩ := List.mem_iff_getElem?.1 hq
    have hji : j < i := by
      have := (List.getElem?_eq_some_iff.1 hj).1
      rw [List.length_take] at this
      omega
    rw [List.getElem?_take_of_lt hji] at hj
    exact hd j i q p hji hj hp
  refine ⟨h1, ?_⟩
  rw [putD_end _ _ _ h1, List.take_add_one, hp]
  rfl
end Go.Proofs.YticlacjpgjkhcaaGreatDoor

/- Fields that rise have no name twice, plain. -/
namespace Go.Proofs.YticlacjpgjkhcaaGreatDoor
open Go.ChangeShapes Go.WideShapes Go.ChangeAt Go.RowKit

theorem rise_far {α : Type} (F : List (ByteArray × α)) (hr : ∀ (i : Nat) (p q : ByteArray × α), F[i]? = some p → F[i + 1]? = some q → bl p.1 < bl q.1) : ∀ (d i : Nat) (p q : ByteArray × α), F[i]? = some p → F[i + 1 + d]? = some q → bl p.1 < bl q.1
  | 0, i, p, q, hp, hq => hr i p q hp hq
  | d + 1, i, p, q, hp, hq => by
    have hlt := (List.getElem?_eq_some_iff.1 hq).1
    obtain ⟨m, hm⟩ : ∃ m, F[i + 1 + d]? = some m := ⟨_, List.getElem?_eq_getElem (by omega)⟩
    exact List.lt_trans (rise_far F hr d i p m hp hm) (hr (i + 1 + d) m q hm hq)
theorem rise_apart {α : Type} (F : List (ByteArray × α)) (hr : ∀ (i : Nat) (p q : ByteArray × α), F[i]? = some p → F[i + 1]? = some q → bl p.1 < bl q.1) (i j : Nat) (p q : ByteArray × α) (h : i < j) (hp : F[i]? = some p) (hq : F[j]? = some q) : p.1 ≠ q.1 := by
  intro e
  obtain ⟨d, rfl⟩ : ∃ d, j = i + 1 + d := ⟨j - (i + 1), by omega⟩
  have := rise_far F hr d i p q hp hq
  rw [e] at this
  exact List.lt_irrefl _ this
end Go.Proofs.YticlacjpgjkhcaaGreatDoor

/- Rows of elements of two cells (kind F): cells, copies. -/
namespace Go.Proofs.YticlacjpgjkhcaaGreatDoor
open Go.ChangeShapes Go.WideShapes Go.ChangeAt Go.RowKit

def cF (p : ByteArray × ByteArray) : List Value := [.string p.1, .string p.2]
theorem cF_len (l : List (ByteArray × ByteArray)) : (l.flatMap cF).length = l.length * 2 := by
  induction l with
  | nil => rfl
  | cons p r ih => rw [List.flatMap_cons, List.length_append, ih, List.length_cons]; simp [cF]; omega
theorem cF_at (l : List (ByteArray × ByteArray)) (i j : Nat) (p : ByteArray × ByteArray) (v : Value) (hi : l[i]? = some p) (hv : (cF p)[j]? = some v) : (l.flatMap cF)[i * 2 + j]? = some v := by
  induction l generalizing i with
  | nil => simp at hi
  | cons q r ih =>
    rw [List.flatMap_cons]
    have hj : j < 2 := by have := (List.getElem?_eq_some_iff.1 hv).1; simpa [cF] using this
    cases i with
    | zero =>
      simp at hi
      subst hi
      rw [Nat.zero_mul, Nat.zero_add, List.getElem?_append_left (by simpa [cF] using hj)]
      exact hv
    | succ i =>
      rw [List.getElem?_append_right (by simp [cF]; omega)]
      have e : (i + 1) * 2 + j - (cF q).length = i * 2 + j := by simp [cF]; omega
      rw [e]
      exact ih i (by simpa using hi)
theorem cF_one (l : List (ByteArray × ByteArray)) : ∀ u ∈ l.flatMap cF, u.oneCell' = true := by
  intro u hu
  obtain ⟨p, _, h⟩ := List.mem_flatMap.1 hu
  simp [cF] at h
  rcases h with rfl | rfl <;> rfl
theorem iF : (Tryz.prog.info? 41).map (fun i => (i.zero, i.size, i.bytes)) = some (some (.agg #[.string ⟨#[]⟩, .string ⟨#[]⟩]), 2, 32) := by kernel_rfl
/-- A row of elements. -/
def RF (w : World) (c : Nat) (v : Value) (l : List (ByteArray × ByteArray)) : Prop := w.ownsRow c 41 2 v l.length (l.flatMap cF)
theorem RF.mono {w : World} {c c' : Nat} {v : Value} {l : List (ByteArray × ByteArray)} (h : RF w c v l) (hc : c' ≤ c) : RF w c' v l := row_mono h hc
theorem RF.below {w w' : World} {c : Nat} {v : Value} {l : List (ByteArray × ByteArray)} (h : RF w c v l) (hb : Below w.heap.size w w') : RF w' c v l := row_below h hb
theorem RF.kept {w w' : World} {c : Nat} {v : Value} {l : List (ByteArray × ByteArray)} (h : RF w c v l) (hb : ∀ g, v.ownBlock = some g → w'.heap[g]? = w.heap[g]?) : RF w' c v l := row_kept h hb
theorem RF.at {w : World} {c g C n : Nat} {l : List (ByteArray × ByteArray)} (h : RF w c (.slice (some ⟨g, 0, none⟩) n C) l) (hn : l.length = n) (i : Nat) (p : ByteArray × ByteArray) (hi : l[i]? = some p) : w.cell? ⟨g, i * 2, none⟩ = some (.string p.1) ∧ w.cell? ⟨g, i * 2 + 1, none⟩ = some (.string p.2) := by
  subst hn
  exact ⟨row_cell h (i * 2) _ (cF_at l i 0 p _ hi rfl), row_cell h (i * 2 + 1) _ (cF_at l i 1 p _ hi rfl)⟩
theorem RF.form {w : World} {c : Nat} {v : Value} {l : List (ByteArray × ByteArray)} (h : RF w c v l) (hne : l ≠ []) : ∃ g C, v = .slice (some ⟨g, 0, none⟩) l.length C ∧ l.length ≤ C := by
  obtain ⟨A, C, rfl, hA, hC⟩ := row_form h
  rcases hA with hA | ⟨g, rfl⟩
  · exact absurd (List.length_eq_zero_iff.1 hA) hne
  · exact ⟨g, C, rfl, hC⟩
set_option maxRecDepth 100000 in
set_option maxHeartbeats 4000000 in
/-- slices.Clone of them. -/
theorem CloneF (c g C : Nat) (l : List (ByteArray × ByteArray)) (n : Nat) (hn : l.length = n) (h1 : 1 ≤ n) (hm : n ≤ 1000000) (w : World) (h : RF w c (.slice (some ⟨g, 0, none⟩) n C) l) : Calls Tryz.prog 146 #[.slice (some ⟨g, 0, none⟩) n C] w fun e w' => ∃ g' C', e = .returned (.slice (some ⟨g', 0, none⟩) n C') ∧ RF w' w.heap.size (.slice (some ⟨g', 0, none⟩) n C') l ∧ Below w.heap.size w w' := by
  have hq : ∀ w, (binOp .eql 39 (.slice (some ⟨g, 0, none⟩) n C) (.slice none 0 0)).run Tryz.prog w = .ok (.bool false) w := fun w => by kernel_rfl
  have A1 := Lib.hid (alloc_old (w := w) (o := .cells #[] 41))
  have R0 := Lib.hid (World.ownsRow_made (base := w.heap.size) (size := 2) (e := 41) w #[] 0 (Nat.le_refl _) (by decide) rfl)
  have h' := h.below A1.out
  have HN := Lib.hid hn
  subst hn
  have NW := Lib.hid (show ∀ (j : Nat) (u : Value), (l.flatMap cF)[j]? = some u → (w.alloc (.cells #[] 41)).cell? ((⟨g, 0, none⟩ : Addr).add j) = some u from fun j u hu => by
    rw [Addr.add_lit, Nat.zero_add]
    exact row_cell h' j u hu)
  have ON := Lib.hid (cF_one l)
  have LN := Lib.hid (cF_len l)
  obtain ⟨i0, hi0, hz0, hz1, hz2⟩ := info_parts iF
  have ZZ := Lib.hid (show w.heap.size ≤ (w.alloc (.cells #[] 41)).heap.size by simp)
  obtain ⟨n, hn⟩ : ∃ n, l.length = n := ⟨_, rfl⟩
  rw [hn] at h1 hm hq LN ⊢
  have HL := Lib.hid hn
  clear h h' HN hn
  go_enter Tryz.func146, Tryz.ntmps146
  go_wp2_with (first | (at_builtin; refine wpList_append_lies _ rfl _ _ 39 rfl w.heap.size 41 i0 _ 2 32 Tryz.underlying39 hi0 hz0 hz1 hz2 rfl (by decide) (.slice (some ⟨w.heap.size, 0, none⟩) 0 0) 0 [] rfl R0.out ⟨g, 0, none⟩ n C (l.flatMap cF) rfl LN.out NW.out ON.out (by omega) (by unfold maxLen; omega) (by omega) ZZ.out _ rfl ?_; intro g5 C5 w5 hO5 hG5 h5 h6; have O5 := Lib.hid hO5; have G5 := Lib.hid hG5; clear hO5 hG5 h5 h6))
  go_ret
  refine ⟨g5, C5, rfl, ?_, A1.out.grown G5.out ZZ.out (fun k hk => (row_own R0.out k hk).1)⟩
  unfold RF
  rw [HL.out]
  have := O5.out
  rw [Nat.zero_add, List.nil_append] at this
  exact this
end Go.Proofs.YticlacjpgjkhcaaGreatDoor

/- Values of kind F: how many, how long; when one element is ahead of another. -/
namespace Go.Proofs.YticlacjpgjkhcaaGreatDoor
open Go.ChangeShapes Go.WideShapes Go.ChangeAt Go.RowKit

set_option maxRecDepth 100000 in
set_option maxHeartbeats 4000000 in
theorem countF (A : Option Addr) (n C : Nat) (w : World) : Calls Tryz.prog 167 #[.agg #[.int .i64 3, .string ⟨#[]⟩, .slice none 0 0, .slice A n C, .slice none 0 0, .slice none 0 0]] w fun e w' => e = .returned (.agg #[.int .i64 0, .int .i64 (n : Int), .int .i64 0, .int .i64 0]) ∧ Below w.heap.size w w' := by
  go_enter Tryz.func167, Tryz.ntmps167
  go_wp2
  exact bodyPost_ret (v := .agg #[.int .i64 0, .int .i64 (n : Int), .int .i64 0, .int .i64 0]) (by simp [results, Tryz.results167, go_sem]) rfl ⟨rfl, ((Below.refl _ _).alloc (Nat.le_refl _) _).alloc (by simp) _⟩
set_option maxRecDepth 100000 in
set_option maxHeartbeats 4000000 in
theorem LenF (A : Option Addr) (n C : Nat) (w : World) : Calls Tryz.prog 165 #[.agg #[.int .i64 3, .string ⟨#[]⟩, .slice none 0 0, .slice A n C, .slice none 0 0, .slice none 0 0]] w fun e w' => e = .returned (.int .i64 (n : Int)) ∧ Below w.heap.size w w' := by
  go_enter Tryz.func165, Tryz.ntmps165
  go_wp2
  go_ret
  exact ⟨by simp, alloc_old⟩
theorem less_bl (a b : ByteArray) : Op.bytesLess a.toList b.toList = decide (bl a < bl b) := by
  rw [Go.Proofs.bytesLess_eq, ByteArray.toList_eq, ByteArray.toList_eq]
  rfl
set_option maxRecDepth 100000 in
set_option maxHeartbeats 4000000 in
/-- Elements that rise. -/
theorem riseF (A : Option Addr) (C : Nat) (l : List (ByteArray × ByteArray)) (n : Nat) (hn : l.length = n) (h1 : 1 ≤ n) (hm : n ≤ 1000000) (c : Nat) (w : World) (h : RF w c (.slice A n C) l)
    (hl : ∀ (i : Nat) (p q : ByteArray × ByteArray), l[i]? = some p → l[i + 1]? = some q → ∀ X, Calls Tryz.prog 169 #[.agg #[.string p.1, .string p.2], .agg #[.string q.1, .string q.2]] X fun e w' => e = .returned (.bool true) ∧ Below X.heap.size X w') : Calls Tryz.prog 168 #[.slice A n C, .func (.func 169) #[] #[]] w fun e w' => e = .returned (.bool true) ∧ Below w.heap.size w w' := by
  obtain ⟨g, C', hA, hC⟩ := h.form (by intro e; rw [e] at hn; simp at hn; omega)
  have hA' : A = some ⟨g, 0, none⟩ := by injection hA
  subst hA'
  clear hA hC
  have HR := Lib.hid h
  have HN := Lib.hid hn
  have HL := Lib.hid hl
  clear h hl hn
  go_enter Tryz.func168, Tryz.ntmps168
  go_wp2
  go_loopw [5] (fun iv wr => ∃ i : Nat, 1 ≤ i ∧ i ≤ n ∧ iv = .int .i64 i ∧ Hid (Below w.heap.size w wr)) (fun iv _ => n - (iOfL iv).toNat)
  case atStart => exact ⟨1, Nat.le_refl _, h1, rfl, Lib.hid (Below.refl _ _)⟩
  case round =>
    obtain ⟨i, hi1, hi, rfl, HB⟩ := hrel
    by_cases hlt : i < n
    · obtain ⟨m, rfl⟩ : ∃ m, i = m + 1 := ⟨i - 1, by omega⟩
      obtain ⟨p, hp⟩ : ∃ p, l[m]? = some p := ⟨_, List.getElem?_eq_getElem (by rw [HN.out]; omega)⟩
      obtain ⟨q, hq⟩ : ∃ q, l[m + 1]? = some q := ⟨_, List.getElem?_eq_getElem (by rw [HN.out]; omega)⟩
      have SX := Lib.hid (show ∀ X, Below w.heap.size w X → (X.cell? ⟨g, m * 2, none⟩ = some (.string p.1) ∧ X.cell? ⟨g, m * 2 + 1, none⟩ = some (.string p.2) ∧ X.cell? ⟨g, (m + 1) * 2, none⟩ = some (.string q.1) ∧ X.cell? ⟨g, (m + 1) * 2 + 1, none⟩ = some (.string q.2)) from fun X hb => by
        obtain ⟨d0, d1⟩ := (HR.out.below hb).at HN.out m p hp
        obtain ⟨e0, e1⟩ := (HR.out.below hb).at HN.out (m + 1) q hq
        exact ⟨d0, d1, e0, e1⟩)
      have LS := Lib.hid (HL.out m p q hp hq wr.drew)
      have S0 := SX.out wr.drew HB.out.drew
      have q3 : (m : Int) + 1 < (n : Int) := by omega
      have q4 : (m : Int) < (n : Int) := by omega
      have w1 : IntKind.i64.wrap (m : Int) = (m : Int) := IntWalk.i64_in _ (by omega)
      have w2 : IntKind.i64.wrap ((m : Int) + 1) = (m : Int) + 1 := IntWalk.i64_in _ (by omega)
      have w3 : (0 : Int) ≤ (m : Int) + 1 := by omega
      have w4 : ((m : Int) + 1).toNat = m + 1 := by omega
      clear hp hq
      go_wp2
      go_region_held3 (fun X => X.cell? ⟨g, m * 2, none⟩ = some (.string p.1) ∧ X.cell? ⟨g, m * 2 + 1, none⟩ = some (.string p.2) ∧ X.cell? ⟨g, (m + 1) * 2, none⟩ = some (.string q.1) ∧ X.cell? ⟨g, (m + 1) * 2 + 1, none⟩ = some (.string q.2)) (first | (with_reducible exact S0) | (with_reducible exact S2.out))
        (first | (go_at_call 169; (with_reducible refine (LS.out).mono ?_); rintro e w5 ⟨rfl, h1⟩; have HB1 := Lib.hid (belT HB.out.drew h1); have S2 := Lib.hid (SX.out _ HB1.out); clear h1))
      clear w1 w2 w3 w4 S0 S2
      go_wp2
      exact ⟨⟨m + 1 + 1, by omega, by omega, by go_num, HB1⟩, by simp [iOfL]; omega⟩
    · obtain rfl : n = i := by omega
      have q1 : ¬ (n : Int) < (n : Int) := by omega
      go_wp2
      go_ret
      exact ⟨by simp, HB.out⟩
end Go.Proofs.YticlacjpgjkhcaaGreatDoor

/- Values of kind F: their texts. -/
namespace Go.Proofs.YticlacjpgjkhcaaGreatDoor
open Go.ChangeShapes Go.WideShapes Go.ChangeAt Go.RowKit

/-- The texts of elements. -/
def tF (l : List (ByteArray × ByteArray)) : List ByteArray := l.flatMap fun p => [p.1, p.2]
theorem tF_len (l : List (ByteArray × ByteArray)) : (tF l).length = l.length * 2 := by
  induction l with
  | nil => rfl
  | cons p r ih =>
    unfold tF at ih ⊢
    rw [List.flatMap_cons, List.length_append, ih, List.length_cons]
    simp
    omega
theorem tF_snoc (l : List (ByteArray × ByteArray)) (i : Nat) (p : ByteArray × ByteArray) (h : l[i]? = some p) : tF (l.take (i + 1)) = tF (l.take i) ++ [p.1, p.2] := by
  unfold tF
  rw [List.take_add_one, h]
  simp
set_option maxRecDepth 100000 in
set_option maxHeartbeats 4000000 in
theorem textsF (kd : Int) (g C : Nat) (l : List (ByteArray × ByteArray)) (n : Nat) (hn : l.length = n) (hm : n ≤ 1000) (c : Nat) (w : World) (h : RF w c (.slice (some ⟨g, 0, none⟩) n C) l) : Calls Tryz.prog 166 #[.agg #[.int .i64 kd, .string ⟨#[]⟩, .slice none 0 0, .slice (some ⟨g, 0, none⟩) n C, .slice none 0 0, .slice none 0 0]] w fun e w' => ∃ v, e = .returned v ∧ TO w' w.heap.size v (tF l) ∧ Below w.heap.size w w' := by
  have CL := Lib.hid (fun X => Clone57 X)
  have hb := Lib.hid (heap_alloc_new w (.cells #[.int .i64 kd, .string ⟨#[]⟩, .slice none 0 0, .slice (some ⟨g, 0, none⟩) n C, .slice none 0 0, .slice none 0 0] 64))
  have B0 := Lib.hid (alloc_old (w := w) (o := .cells #[.int .i64 kd, .string ⟨#[]⟩, .slice none 0 0, .slice (some ⟨g, 0, none⟩) n C, .slice none 0 0, .slice none 0 0] 64))
  have HR := Lib.hid h
  have HN := Lib.hid hn
  clear h hn
  obtain ⟨⟨c0, c1, c2, c3, c4, c5⟩, _⟩ := cells6 hb.out
  go_enter Tryz.func166, Tryz.ntmps166
  go_wp2_with (first | (go_at_call 145; (with_reducible refine (CL.out _).mono ?_); rintro e w2 ⟨rfl, hw2⟩; subst hw2))
  have T0 := Lib.hid (show TO (w.alloc (.cells #[.int .i64 kd, .string ⟨#[]⟩, .slice none 0 0, .slice (some ⟨g, 0, none⟩) n C, .slice none 0 0, .slice none 0 0] 64)) (w.alloc (.cells #[.int .i64 kd, .string ⟨#[]⟩, .slice none 0 0, .slice (some ⟨g, 0, none⟩) n C, .slice none 0 0, .slice none 0 0] 64)).heap.size (.slice none 0 0) (tF (l.take 0)) from World.ownsRow_nil _ _ _ _)
  generalize (w.alloc (.cells #[.int .i64 kd, .string ⟨#[]⟩, .slice none 0 0, .slice (some ⟨g, 0, none⟩) n C, .slice none 0 0, .slice none 0 0] 64)) = W at hb B0 T0 c0 c1 c2 c3 c4 c5 ⊢
  go_loopw [3, 16] (fun ov iv wr => ∃ i : Nat, i ≤ n ∧ iv = .int .i64 i ∧ Hid (TO wr W.heap.size ov (tF (l.take i)) ∧ Below W.heap.size W wr)) (fun _ iv _ => n - (iOfL iv).toNat)
  case atStart => exact ⟨0, Nat.zero_le _, rfl, Lib.hid ⟨T0.out, Below.refl _ _⟩⟩
  case round =>
  obtain ⟨i, hi, rfl, HI⟩ := hrel
  by_cases hlt : i < n
  · obtain ⟨p, hp⟩ : ∃ p, l[i]? = some p := ⟨_, List.getElem?_eq_getElem (by rw [HN.out]; exact hlt)⟩
    have q1 : (i : Int) < (n : Int) := by omega
    obtain ⟨d0, d1⟩ := (HR.out.below (belT B0.out HI.out.2)).at HN.out i p hp
    have hln : (tF (l.take i)).length = i * 2 := by rw [tF_len, List.length_take, HN.out]; congr 1; omega
    have HLN := Lib.hid hln
    have HTK := Lib.hid (tF_snoc l i p hp)
    have A2 := Lib.hid ((alloc_old (w := wr) (o := .cells #[.string p.1, .string p.2] 41)).trans ((alloc_old (w := wr.alloc (.cells #[.string p.1, .string p.2] 41)) (o := .cells #[.string p.1, .string p.2] 9)).mono (by simp)))
    have b5 := Lib.hid (show ((wr.alloc (.cells #[.string p.1, .string p.2] 41)).alloc (.cells #[.string p.1, .string p.2] 9)).heap[wr.heap.size + 1]? = some (.cells #[.string p.1, .string p.2] 9) from heap2L wr _)
    have R5 := Lib.hid (show TO _ W.heap.size _ _ from row_below HI.out.1 A2.out)
    have z5 := Lib.hid (Nat.le_trans (Below.size HI.out.2) (Below.size A2.out))
    clear hp hln
    go_wp2_with (first | (at_builtin; refine append_TO _ rfl _ _ rfl W.heap.size _ _ (i * 2) HLN.out rfl R5.out [p.1, p.2] 2 rfl _ rfl b5.out (by decide) (by omega) z5.out ?_; intro g6 C6 w6 h6 h7 h8; have T6 := Lib.hid h6; have G6 := Lib.hid h7; clear h6 h7 h8))
    refine ⟨⟨i + 1, hlt, by go_num, Lib.hid ⟨?_, ?_⟩⟩, by simp [iOfL]; omega⟩
    · rw [HTK.out]
      have h9 := T6.out
      skip
      exact h9
    · exact (HI.out.2.trans (A2.out.mono (Below.size HI.out.2))).grown G6.out z5.out (fun b hb => (row_own R5.out b hb).1)
  · obtain rfl : n = i := by omega
    have q1 : ¬ (n : Int) < (n : Int) := by omega
    obtain ⟨w5, rfl⟩ : ∃ w5, w5 = wr := ⟨_, rfl⟩
    obtain ⟨A9, C9, rfl, _, _⟩ := row_form HI.out.1
    obtain ⟨⟨c0, c1, c2, c3, c4, c5⟩, _⟩ := cells6 (blk_below hb.out HI.out.2)
    go_wp2
    go_loopw [3, 31] (fun t i wr => Value.slice A9 (tF (l.take n)).length C9 = t ∧ i = .int .i64 0 ∧ w5 = wr) (fun _ _ _ => 0)
    case atStart => exact ⟨rfl, rfl, rfl⟩
    case round =>
    obtain ⟨rfl, rfl, rfl⟩ := hrel
    obtain ⟨⟨c0, c1, c2, c3, c4, c5⟩, _⟩ := cells6 (blk_below hb.out HI.out.2)
    go_wp2
    go_loopw [3, 44] (fun t i wr => Value.slice A9 (tF (l.take n)).length C9 = t ∧ i = .int .i64 0 ∧ w5 = wr) (fun _ _ _ => 0)
    case atStart => exact ⟨rfl, rfl, rfl⟩
    case round =>
    obtain ⟨rfl, rfl, rfl⟩ := hrel
    obtain ⟨⟨c0, c1, c2, c3, c4, c5⟩, _⟩ := cells6 (blk_below hb.out HI.out.2)
    go_wp2
    go_ret
    have hT := HI.out.1
    rw [List.take_of_length_le (by rw [HN.out]; exact Nat.le_refl _)] at hT ⊢
    exact ⟨_, rfl, row_mono hT (Below.size B0.out), belT B0.out HI.out.2⟩
end Go.Proofs.YticlacjpgjkhcaaGreatDoor
