/- Texts joined: Tb3, Tb4, S3 -/
import Derived.Test.YticlacjpgjkhcaaGreatDoorQs15
import Derived.Deep.AppendLies
import Derived.Test.YticlacjpgjkhcaaGreatDoorQs13
import Derived.Test.YticlacjpgjkhcaaGreatDoorQs1
set_option linter.unusedVariables false
set_option linter.unusedSimpArgs false

/- A table: made, asked, put to. -/
namespace Go.Proofs.YticlacjpgjkhcaaGreatDoor
open Go.ChangeShapes Go.WideShapes Go.ChangeAt Go.RowKit

theorem set_same {w : World} {b i : Nat} {v : Value} {cs : Array Value} {t : TypeId} (h : w.heap[b]? = some (.cells cs t)) (hv : cs[i]? = some v) (j : Nat) : (w.setCell ⟨b, i, none⟩ v).heap[j]? = w.heap[j]? := by
  by_cases hj : j = b
  · subst hj
    have e : cs.setIfInBounds i v = cs := by
      apply Array.ext_getElem?
      intro q
      rw [Array.getElem?_setIfInBounds]
      split
      · rename_i hq
        subst hq
        split
        · exact hv.symm
        · rename_i hlt
          rw [Array.getElem?_eq_none (by omega)]
      · rfl
    rw [h]
    simp [World.setCell, Array.getElem?_modify, h, e]
  · exact Below.heap_setCell _ ⟨b, i, none⟩ _ _ hj
theorem below_same {w : World} {b i : Nat} {v : Value} {cs : Array Value} {t : TypeId} (h : w.heap[b]? = some (.cells cs t)) (hv : cs[i]? = some v) : Below w.heap.size w (w.setCell ⟨b, i, none⟩ v) :=
  ⟨rfl, rfl, rfl, by simp [World.setCell], fun j _ => set_same h hv j⟩
set_option maxRecDepth 100000 in
set_option maxHeartbeats 4000000 in
theorem move_T (c p g : Nat) (f : Nat → Value) (D : List (ByteArray × Nat)) (w : World) (h : TabT c w p g f D) : Calls Tryz.prog 186 #[.pointer (some ⟨p, 0, none⟩)] w fun e w' => e = .returned (.tuple #[]) ∧ Below w.heap.size w w' := by
  obtain ⟨⟨c0, c1, c2, c3, c4⟩, zz⟩ := cells5 h.tab
  have B := Lib.hid (below_same (i := 4) (v := .int .i64 0) h.tab rfl)
  obtain ⟨⟨d0, d1, d2, d3, d4⟩, _⟩ := cells5 (blk_below h.tab B.out)
  clear h
  go_enter Tryz.func186, Tryz.ntmps186
  go_wp2
  go_loopw [2] (fun _ wr => wr = w.setCell ⟨p, 4, none⟩ (.int .i64 0)) (fun _ _ => 0)
  case atStart => exact rfl
  case round =>
    subst hrel
    go_wp2
    go_end0
    exact ⟨rfl, B.out⟩
set_option maxRecDepth 100000 in
set_option maxHeartbeats 4000000 in
theorem get_T (c p g : Nat) (f : Nat → Value) (D : List (ByteArray × Nat)) (k : ByteArray) (hk : k.size ≤ 1000000) (w : World) (h : TabT c w p g f D) : Calls Tryz.prog 184 #[.pointer (some ⟨p, 0, none⟩), .string k] w fun e w' => e = .returned (.tuple #[.int .i64 (((findD k D).getD 0 : Nat) : Int), .bool (findD k D).isSome]) ∧ Below w.heap.size w w' := by
  have MV := Lib.hid (move_T c p g f D w h)
  have FD := Lib.hid (fun X (hX : Below w.heap.size w X) => find_T c p g f D k hk X (h.below hX))
  have hsl := slot_lt k
  have s0 := h.slot _ hsl
  have SB := Lib.hid h.slots
  have hR := h.row _ hsl
  have hF := rowT_find slotT k D
  have hrl : (rowT slotT D (slotT k)).length ≤ 16 := Nat.le_trans (rowT_len _ _ _) h.few
  have hpl : placeI k D = match idxD k (rowT slotT D (slotT k)) with | some i => (i : Int) | none => -1 := rfl
  obtain ⟨l, hl⟩ : ∃ l, rowT slotT D (slotT k) = l := ⟨_, rfl⟩
  rw [hl] at hR hrl hpl hF
  obtain ⟨A, C, hf, hA, hC⟩ := row_form hR
  rw [hf] at s0 hR
  have HR := Lib.hid hR
  have S0 := Lib.hid (show ∀ X, Below w.heap.size w X → X.cell? ⟨g, slotT k, none⟩ = some (.slice A l.length C) from fun X hX => (hX.cell (p := ⟨g, slotT k, none⟩) (lt_blk SB.out)).trans s0)
  rw [← hF]
  clear h hR hF hl s0
  cases hx : idxD k l with
  | none =>
    rw [hx] at hpl
    simp only [hpl] at FD
    rw [(idxD_none hx).1]
    go_enter Tryz.func184, Tryz.ntmps184
    go_wp2_with (first | (go_at_call 186; (with_reducible refine (MV.out).mono ?_); rintro e w1 ⟨rfl, h1⟩; have B1 := Lib.hid h1; clear h1) | (go_at_call 187; (with_reducible refine (FD.out _ B1.out).mono ?_); rintro e w2 ⟨rfl, h2⟩; have B2 := Lib.hid (B1.out.trans (h2.mono (Below.size B1.out))); clear h2))
    exact bodyPost_ret (v := .tuple #[.int .i64 0, .bool false]) (by simp [results, Tryz.results184, go_sem]) rfl ⟨rfl, B2.out⟩
  | some i =>
    rw [hx] at hpl
    simp only [hpl] at FD
    obtain ⟨v, hv, hfv, _⟩ := idxD_some hx
    rw [hfv]
    have hlt := (List.getElem?_eq_some_iff.1 hv).1
    obtain ⟨gA, rfl⟩ : ∃ gA, A = some ⟨gA, 0, none⟩ := hA.resolve_left (by omega)
    have q1 : (i : Int) < (l.length : Int) := by omega
    have q2 : ¬ (i : Int) < 0 := by omega
    have HV := Lib.hid hv
    clear hv hfv hx
    go_enter Tryz.func184, Tryz.ntmps184
    go_wp2_with (first | (go_at_call 186; (with_reducible refine (MV.out).mono ?_); rintro e w1 ⟨rfl, h1⟩; have B1 := Lib.hid h1; clear h1) | (go_at_call 187; (with_reducible refine (FD.out _ B1.out).mono ?_); rintro e w2 ⟨rfl, h2⟩; have B2 := Lib.hid (B1.out.trans (h2.mono (Below.size B1.out))); clear h2; refine Hid.out ?_))
    refine Lib.hid ?_
    have hR2 := row_below HR.out B2.out
    have d0 := row_cell hR2 (i * 2 + 0) (.string k) (pairC_at l i 0 (k, v) _ HV.out rfl)
    have d1 := row_cell hR2 (i * 2 + 1) (.int .i64 (v : Int)) (pairC_at l i 1 (k, v) _ HV.out rfl)
    rw [Nat.add_zero] at d0
    have s1 := S0.out _ B2.out
    clear hR2
    go_wp2
    exact bodyPost_ret (v := .tuple #[.int .i64 (v : Int), .bool true]) (by simp [results, Tryz.results184, go_sem]) rfl ⟨rfl, B2.out⟩
end Go.Proofs.YticlacjpgjkhcaaGreatDoor

/- A table: a new name is put. -/
namespace Go.Proofs.YticlacjpgjkhcaaGreatDoor
open Go.ChangeShapes Go.WideShapes Go.ChangeAt Go.RowKit

def TabAt (w : World) (i : Nat) : Prop := ∃ cs t, w.heap[i]? = some (.cells cs t) ∧ isTab t
/-- What an operation on a table leaves. -/
structure KTab (c : Nat) (w w' : World) : Prop where
  below : Below c w w'
  kept : ∀ i, i < w.heap.size → ¬ TabAt w i → w'.heap[i]? = w.heap[i]?
def fset (f : Nat → Value) (q : Nat) (v : Value) : Nat → Value := fun j => if j = q then v else f j
theorem arr8 (f : Nat → Value) (q : Nat) (hq : q < 8) (v : Value) : (#[f 0, f 1, f 2, f 3, f 4, f 5, f 6, f 7] : Array Value).setIfInBounds q v = #[fset f q v 0, fset f q v 1, fset f q v 2, fset f q v 3, fset f q v 4, fset f q v 5, fset f q v 6, fset f q v 7] := by
  match q, hq with
  | 0, _ => rfl
  | 1, _ => rfl
  | 2, _ => rfl
  | 3, _ => rfl
  | 4, _ => rfl
  | 5, _ => rfl
  | 6, _ => rfl
  | 7, _ => rfl
theorem set_cells {w : World} {b i : Nat} {v : Value} {cs : Array Value} {t : TypeId} (h : w.heap[b]? = some (.cells cs t)) : (w.setCell ⟨b, i, none⟩ v).heap[b]? = some (.cells (cs.setIfInBounds i v) t) := by
  simp [World.setCell, Array.getElem?_modify, h]
theorem rowT_snoc (D : List (ByteArray × Nat)) (k : ByteArray) (n j : Nat) : rowT slotT (D ++ [(k, n)]) j = if slotT k = j then rowT slotT D j ++ [(k, n)] else rowT slotT D j := by
  unfold rowT
  rw [List.filter_append]
  by_cases h : slotT k = j <;> simp [h]
theorem names_snoc {α : Type} (D : List (ByteArray × α)) (k : ByteArray) (x : α) : namesD (D ++ [(k, x)]) = namesD D ++ [k] := by simp [namesD]
theorem iPair : (Tryz.prog.info? 216).map (fun i => (i.zero, i.size, i.bytes)) = some (some (.agg #[.string ⟨#[]⟩, .int .i64 0]), 2, 24) := by kernel_rfl
/-- A table with one more name: its slot holds a row that was appended to. -/
theorem TabT.put {c : Nat} {w w' w2 : World} {p g : Nat} {f : Nat → Value} {D : List (ByteArray × Nat)} {k : ByteArray} {n : Nat} (h : TabT c w p g f D) (hn : findD k D = none) (hf : D.length ≤ 15) {g5 C5 : Nat}
    (hO : w'.ownsRow c 216 2 (.slice (some ⟨g5, 0, none⟩) ((rowT slotT D (slotT k)).length + 1) C5) ((rowT slotT D (slotT k)).length + 1) ((rowT slotT D (slotT k)).flatMap pairC ++ [.string k, .int .i64 (n : Int)]))
    (hG : w.grownBy w' (f (slotT k)).ownBlock) (h5 : (f (slotT k)).ownBlock = some g5 ∨ w.heap.size ≤ g5)
    (h2 : w2 = (w'.setCell ⟨g, slotT k, none⟩ (.slice (some ⟨g5, 0, none⟩) ((rowT slotT D (slotT k)).length + 1) C5)).setCell ⟨p, 3, none⟩ (.int .i64 ((D.length : Int) + 1))) :
    TabT c w2 p g (fset f (slotT k) (.slice (some ⟨g5, 0, none⟩) ((rowT slotT D (slotT k)).length + 1) C5)) (D ++ [(k, n)]) ∧ KTab c w w2 := by
  have hq := slot_lt k
  have hrow := h.row _ hq
  have hpr := lt_blk h.tab
  have hgr := lt_blk h.slots
  have hpg : p ≠ g := by
    intro e
    obtain ⟨cs, h1⟩ : ∃ cs, w.heap[p]? = some (.cells cs 221) := ⟨_, h.tab⟩
    rw [e, h.slots] at h1
    cases h1
  have hown : ∀ b, (f (slotT k)).ownBlock = some b → b ≠ p ∧ b ≠ g := by
    intro b hb
    obtain ⟨cs, hc⟩ := row_typ hrow b hb
    constructor
    · rintro rfl
      rw [h.tab] at hc
      cases hc
    · rintro rfl
      rw [h.slots] at hc
      cases hc
  have hT' : w'.heap[p]? = _ := (hG.block p hpr (fun e => (hown p e.symm).1 rfl)).trans h.tab
  have hS' : w'.heap[g]? = _ := (hG.block g hgr (fun e => (hown g e.symm).2 rfl)).trans h.slots
  have far : ∀ i, i ≠ p → i ≠ g → w2.heap[i]? = w'.heap[i]? := fun i h1 h3 => by
    rw [h2]
    exact (Below.heap_setCell _ ⟨p, 3, none⟩ _ _ h1).trans (Below.heap_setCell _ ⟨g, slotT k, none⟩ _ _ h3)
  have g5p : g5 ≠ p ∧ g5 ≠ g := by
    rcases h5 with h5 | h5
    · exact hown g5 h5
    · exact ⟨by omega, by omega⟩
  refine ⟨⟨h.hp, h.hg, ?_, ?_, fun j hj => ?_, fun i j b hi hj h1 h3 => ?_, ?_, ?_⟩, ⟨?_, fun i hi hni => ?_⟩⟩
  · rw [h2, set_cells ((Below.heap_setCell _ ⟨g, slotT k, none⟩ _ _ hpg).trans hT'), List.length_append]
    rfl
  · rw [h2, Below.heap_setCell _ ⟨p, 3, none⟩ _ _ (Ne.symm hpg), set_cells hS', arr8 f _ hq]
  · rw [rowT_snoc]
    unfold fset
    by_cases he : slotT k = j
    · subst he
      rw [if_pos rfl, if_pos rfl, List.length_append, List.flatMap_append]
      refine row_kept hO (fun b hb => ?_)
      cases hb
      exact far g5 g5p.1 g5p.2
    · rw [if_neg (Ne.symm he), if_neg he]
      refine row_kept (h.row j hj) (fun b hb => ?_)
      obtain ⟨cs, hc⟩ := row_typ (h.row j hj) b hb
      have b1 : b ≠ p := by rintro rfl; rw [h.tab] at hc; cases hc
      have b2 : b ≠ g := by rintro rfl; rw [h.slots] at hc; cases hc
      exact (far b b1 b2).trans (hG.block b (lt_blk hc) (fun e => he (h.dist _ _ b hq hj e.symm hb)))
  · have key : ∀ i b, i < 8 → i ≠ slotT k → (f i).ownBlock = some b → b ≠ g5 := by
      rintro i b hi hne hb rfl
      rcases h5 with h5 | h5
      · exact hne (h.dist i _ b hi hq hb h5)
      · have := (row_own (h.row i hi) b hb).2
        omega
    unfold fset at h1 h3
    by_cases e1 : i = slotT k
    · by_cases e2 : j = slotT k
      · rw [e1, e2]
      · rw [if_pos e1] at h1
        rw [if_neg e2] at h3
        cases h1
        exact absurd rfl (key j _ hj e2 h3)
    · rw [if_neg e1] at h1
      by_cases e2 : j = slotT k
      · rw [if_pos e2] at h3
        cases h3
        exact absurd rfl (key i _ hi e1 h1)
      · rw [if_neg e2] at h3
        exact h.dist i j b hi hj h1 h3
  · rw [List.length_append]
    show D.length + 1 ≤ 16
    omega
  · rw [names_snoc, List.nodup_append]
    refine ⟨h.nd, by simp, fun a ha b hb => ?_⟩
    simp at hb
    subst hb
    rintro rfl
    have := mem_names.1 ha
    rw [hn] at this
    cases this
  · rw [h2]
    refine ((Below.refl c w).grown hG (Nat.le_of_lt (Nat.lt_of_le_of_lt h.hp hpr)) (fun b hb => ?_)).setCell (p := ⟨g, slotT k, none⟩) h.hg _ |>.setCell (p := ⟨p, 3, none⟩) h.hp _
    exact (row_own hrow b hb).1
  · have b1 : i ≠ p := by rintro rfl; exact hni ⟨_, _, h.tab, .inl rfl⟩
    have b2 : i ≠ g := by rintro rfl; exact hni ⟨_, _, h.slots, .inr (.inl rfl)⟩
    refine (far i b1 b2).trans (hG.block i hi (fun e => ?_))
    obtain ⟨cs, hc⟩ := row_typ hrow i e.symm
    exact hni ⟨_, _, hc, .inr (.inr rfl)⟩
theorem KTab.after {c : Nat} {w W W' : World} (hb : Below w.heap.size w W) (hc : c ≤ w.heap.size) (h : KTab c W W') : KTab c w W' :=
  ⟨(hb.mono hc).trans h.below, fun i hi hn => (h.kept i (Nat.lt_of_lt_of_le hi (Below.size hb)) (fun ⟨cs, t, h1, h2⟩ => hn ⟨cs, t, (hb.block i hi).symm.trans h1, h2⟩)).trans (hb.block i hi)⟩
theorem TabT.le {c : Nat} {w : World} {p g : Nat} {f : Nat → Value} {D : List (ByteArray × Nat)} (h : TabT c w p g f D) : c ≤ w.heap.size := Nat.le_of_lt (Nat.lt_of_le_of_lt h.hp (lt_blk h.tab))
theorem TabT.ne {c : Nat} {w : World} {p g : Nat} {f : Nat → Value} {D : List (ByteArray × Nat)} (h : TabT c w p g f D) : ¬ p = g := by
  intro e
  obtain ⟨cs, h1⟩ : ∃ cs, w.heap[p]? = some (.cells cs 221) := ⟨_, h.tab⟩
  rw [e, h.slots] at h1
  cases h1
theorem TabT.grown {c : Nat} {w w' : World} {p g q : Nat} {f : Nat → Value} {D : List (ByteArray × Nat)} (h : TabT c w p g f D) (hq : q < 8) (hG : w.grownBy w' (f q).ownBlock) : w'.heap[p]? = some (.cells #[.slice (some ⟨g, 0, none⟩) 8 8, .slice none 0 0, .int .i64 0, .int .i64 (D.length : Int), .int .i64 0] 221) ∧ w'.heap[g]? = some (.cells #[f 0, f 1, f 2, f 3, f 4, f 5, f 6, f 7] 217) := by
  have hown : ∀ b, (f q).ownBlock = some b → b ≠ p ∧ b ≠ g := by
    intro b hb
    obtain ⟨cs, hc⟩ := row_typ (h.row q hq) b hb
    constructor
    · rintro rfl
      rw [h.tab] at hc
      cases hc
    · rintro rfl
      rw [h.slots] at hc
      cases hc
  exact ⟨(hG.block p (lt_blk h.tab) (fun e => (hown p e.symm).1 rfl)).trans h.tab, (hG.block g (lt_blk h.slots) (fun e => (hown g e.symm).2 rfl)).trans h.slots⟩
theorem slots_cell {w : World} {g : Nat} {f : Nat → Value} (h : w.heap[g]? = some (.cells #[f 0, f 1, f 2, f 3, f 4, f 5, f 6, f 7] 217)) (j : Nat) (hj : j < 8) : w.cell? ⟨g, j, none⟩ = some (f j) := by
  rw [cell_of_row _ g _ _ 217 (0, 0) h]
  match j, hj with
  | 0, _ => rfl
  | 1, _ => rfl
  | 2, _ => rfl
  | 3, _ => rfl
  | 4, _ => rfl
  | 5, _ => rfl
  | 6, _ => rfl
  | 7, _ => rfl
set_option maxRecDepth 100000 in
set_option maxHeartbeats 4000000 in
theorem put_T (c p g : Nat) (f : Nat → Value) (D : List (ByteArray × Nat)) (k : ByteArray) (hk : k.size ≤ 1000000) (n : Nat) (hn : findD k D = none) (hf : D.length ≤ 15) (w : World) (h : TabT c w p g f D) : Calls Tryz.prog 185 #[.pointer (some ⟨p, 0, none⟩), .string k, .int .i64 (n : Int)] w fun e w' => e = .returned (.tuple #[.int .i64 0, .bool false]) ∧ (∃ f', TabT c w' p g f' (D ++ [(k, n)])) ∧ KTab c w w' := by
  have H := Lib.hid h
  have MV := Lib.hid (move_T c p g f D w h)
  have FD := Lib.hid (fun X (hX : Below w.heap.size w X) => find_T c p g f D k hk X (h.below hX))
  have hsl := slot_lt k
  have hF := rowT_find slotT k D
  rw [hn] at hF
  have hpl : placeI k D = match idxD k (rowT slotT D (slotT k)) with | some i => (i : Int) | none => -1 := rfl
  have hix : idxD k (rowT slotT D (slotT k)) = none := by
    cases hx : idxD k (rowT slotT D (slotT k)) with
    | none => rfl
    | some i =>
      obtain ⟨v, _, h2, _⟩ := idxD_some hx
      rw [hF] at h2
      cases h2
  rw [hix] at hpl
  simp only [hpl] at FD
  have HN := Lib.hid hn
  clear h hF hix hpl hn
  go_enter Tryz.func185, Tryz.ntmps185
  go_wp2_with (first | (go_at_call 186; (with_reducible refine (MV.out).mono ?_); rintro e w1 ⟨rfl, h1⟩; have B1 := Lib.hid h1; clear h1) | (go_at_call 187; (with_reducible refine (FD.out _ B1.out).mono ?_); rintro e w2 ⟨rfl, h2⟩; have B2 := Lib.hid (B1.out.trans (h2.mono (Below.size B1.out))); clear h2; refine Hid.out ?_))
  refine Lib.hid ?_
  have H2 := Lib.hid (H.out.below B2.out)
  have s0 := H2.out.slot _ hsl
  have zs : w2.frozen? ⟨g, slotT k, none⟩ = false := frozen_of_row w2 g _ _ _ H2.out.slots
  have H3 := Lib.hid (H2.out.below (alloc_old (o := .cells #[.string k, .int .i64 (n : Int)] 216)))
  have N3 := Lib.hid (news_blk (cs := [.string k, .int .i64 (n : Int)]) (heap_alloc_new w2 (.cells #[.string k, .int .i64 (n : Int)] 216)))
  have B3 := Lib.hid (B2.out.trans ((alloc_old (w := w2) (o := .cells #[.string k, .int .i64 (n : Int)] 216)).mono (Below.size B2.out)))
  have ON := Lib.hid (show ∀ u9 ∈ ([.string k, .int .i64 (n : Int)] : List Value), u9.oneCell' = true from fun u9 hu => by simp at hu; rcases hu with rfl | rfl <;> rfl)
  have RW := Lib.hid (H3.out.row _ hsl)
  have Z3 := Lib.hid H3.out.le
  have LE := Lib.hid H.out.le
  have hlen := rowT_len slotT D (slotT k)
  obtain ⟨i0, hi0, hz0, hz1, hz2⟩ := info_parts iPair
  go_wp2_with (first | (at_builtin; refine wpList_append_lies _ rfl _ _ 217 rfl c 216 i0 _ 2 24 Tryz.underlying217 hi0 hz0 hz1 hz2 rfl (by decide) (f (slotT k)) (rowT slotT D (slotT k)).length ((rowT slotT D (slotT k)).flatMap pairC) rfl RW.out ⟨w2.heap.size, 0, none⟩ 1 1 [.string k, .int .i64 (n : Int)] rfl rfl N3.out ON.out (by decide) (by unfold maxLen; omega) (by omega) Z3.out _ rfl ?_; intro g5 C5 w5 hO5 hG5 h5 h6; have O5 := Lib.hid hO5; have G5 := Lib.hid hG5; have K5 := Lib.hid h5; clear hO5 hG5 h5 h6; refine Hid.out ?_))
  refine Lib.hid ?_
  obtain ⟨T5, S5⟩ := H3.out.grown hsl G5.out
  obtain ⟨⟨c0, c1, c2, c3, c4⟩, zz⟩ := cells5 T5
  have z3 := zz 3
  have s5 := slots_cell S5 _ hsl
  have zs5 : w5.frozen? ⟨g, slotT k, none⟩ = false := frozen_of_row w5 g _ _ _ S5
  have hpg : ¬ p = g := H3.out.ne
  have hgp : ¬ g = p := fun e => hpg e.symm
  have q3 : ¬ (16 : Int) < (D.length : Int) + 1 := by omega
  clear T5 S5 zz
  go_wp2
  have T6 := H3.out.put HN.out hf (n := n) O5.out G5.out (K5.out.imp id fun e => by rw [e]; exact Nat.le_refl _) rfl
  obtain ⟨hT6, hK6⟩ := T6
  have HT6 := Lib.hid hT6
  have HK6 := Lib.hid (hK6.after B3.out LE.out)
  clear hK6 c0 c1 c2 c3 c4 z3 s5 zs5
  generalize ((w5.setCell ⟨g, slotT k, none⟩ (.slice (some ⟨g5, 0, none⟩) ((rowT slotT D (slotT k)).length + 1) C5)).setCell ⟨p, 3, none⟩ (.int .i64 ((D.length : Int) + 1))) = w6 at HT6 HK6 hT6 ⊢
  have hl : (D ++ [(k, n)]).length = D.length + 1 := by simp
  obtain ⟨⟨c0, c1, c2, c3, c4⟩, _⟩ := cells5 hT6.tab
  rw [hl] at c3
  have c3' : w6.cell? ⟨p, 3, none⟩ = some (.int .i64 ((D.length : Int) + 1)) := c3
  have d0 : w6.drew.cell? ⟨p, 0, none⟩ = some (.slice (some ⟨g, 0, none⟩) 8 8) := c0
  have d1 : w6.drew.cell? ⟨p, 1, none⟩ = some (.slice none 0 0) := c1
  have d3 : w6.drew.cell? ⟨p, 3, none⟩ = some (.int .i64 ((D.length : Int) + 1)) := c3
  have hnil : ∀ w, (binOp .eql 219 (.slice none 0 0) (.slice none 0 0)).run Tryz.prog w = .ok (.bool true) w := fun w => by kernel_rfl
  clear c3 hT6 hl
  go_region
  go_wp2
  exact bodyPost_ret (v := .tuple #[.int .i64 0, .bool false]) (by simp [results, Tryz.results185, go_sem]) rfl ⟨rfl, ⟨_, HT6.out.below (Below.refl _ _).drew⟩, ⟨HK6.out.below.drew, HK6.out.kept⟩⟩
set_option maxRecDepth 100000 in
set_option maxHeartbeats 4000000 in
theorem len_T (c p g : Nat) (f : Nat → Value) (D : List (ByteArray × Nat)) (w : World) (h : TabT c w p g f D) : Calls Tryz.prog 139 #[.pointer (some ⟨p, 0, none⟩)] w fun e w' => e = .returned (.int .i64 (D.length : Int)) ∧ Below w.heap.size w w' := by
  obtain ⟨⟨c0, c1, c2, c3, c4⟩, _⟩ := cells5 h.tab
  clear h
  go_enter Tryz.func139, Tryz.ntmps139
  go_wp2
  go_ret
  exact ⟨by simp, Below.refl _ _⟩
theorem iSlot : (Tryz.prog.info? 217).map (fun i => (i.zero, i.size, i.bytes)) = some (some (.slice none 0 0), 1, 24) := by kernel_rfl
theorem make8 (X : World) : (Instr.makeSlice 219 (.int .i64 8) (.int .i64 8)).run Tryz.prog X = .ok (.slice (some ⟨X.heap.size, 0, none⟩) 8 8) (X.alloc (.cells #[.slice none 0 0, .slice none 0 0, .slice none 0 0, .slice none 0 0, .slice none 0 0, .slice none 0 0, .slice none 0 0, .slice none 0 0] 217)) := by
  obtain ⟨i0, hi, hz0, hz1, hz2⟩ := info_parts iSlot
  have h := run_make (P := Tryz.prog) X 219 217 i0 (.slice none 0 0) Tryz.underlying219 hi hz0 .i64 .i64 8 8 (by omega) (Int.le_refl _) (by rw [hz2]; omega) (by omega)
  rw [hz1, show madeCells (Value.slice none 0 0).cells (Int.toNat 8 * 1) = #[.slice none 0 0, .slice none 0 0, .slice none 0 0, .slice none 0 0, .slice none 0 0, .slice none 0 0, .slice none 0 0, .slice none 0 0] from by kernel_rfl] at h
  exact h
def nilF : Nat → Value := fun _ => .slice none 0 0
set_option maxRecDepth 100000 in
set_option maxHeartbeats 4000000 in
theorem new_T (w : World) : Calls Tryz.prog 183 #[] w fun e w' => ∃ p g, e = .returned (.pointer (some ⟨p, 0, none⟩)) ∧ TabT w.heap.size w' p g nilF [] ∧ Below w.heap.size w w' := by
  have hm := make8
  go_enter Tryz.func183, Tryz.ntmps183
  go_wp2
  go_ret
  refine ⟨w.heap.size + 1, w.heap.size, by simp, ⟨by omega, Nat.le_refl _, ?_, blk_below (heap_alloc_new w _) alloc_old, fun j hj => ?_, fun i j b hi hj h => (by cases h), by simp, by simp [namesD]⟩, alloc_old.trans (alloc_old.mono (by simp))⟩
  · have h := heap_alloc_new (w.alloc (.cells #[.slice none 0 0, .slice none 0 0, .slice none 0 0, .slice none 0 0, .slice none 0 0, .slice none 0 0, .slice none 0 0, .slice none 0 0] 217)) (.cells #[.slice (some ⟨w.heap.size, 0, none⟩) 8 8, .slice none 0 0, .int .i64 0, .int .i64 0, .int .i64 0] 221)
    rw [World.size_alloc] at h
    exact h
  · exact World.ownsRow_nil _ _ _ _
end Go.Proofs.YticlacjpgjkhcaaGreatDoor

/- A skip list in memory: its nodes, what its levels hold, one put in, one taken out. -/
namespace Go.Proofs.YticlacjpgjkhcaaGreatDoor
open Go.ChangeShapes Go.WideShapes Go.ChangeAt Go.RowKit

/-- A node's pointer, or none. -/
def ptrN : Option Nd → Value
  | none => .pointer none
  | some y => .pointer (some ⟨y.a, 0, none⟩)
/-- A node's cells. -/
def cN (y : Nd) : Array Value := #[.string y.name, .int .i64 y.score, .slice (some ⟨y.nx, 0, none⟩) y.h y.h, .slice (some ⟨y.wd, 0, none⟩) y.h y.h]
/-- A node in memory. -/
structure NdIn (w : World) (c : Nat) (y : Nd) : Prop where
  blk : w.heap[y.a]? = some (.cells (cN y) 207)
  nxb : ∃ cs, w.heap[y.nx]? = some (.cells cs 195) ∧ cs.size = y.h
  wdb : ∃ cs, w.heap[y.wd]? = some (.cells cs 3) ∧ cs.size = y.h
  la : c ≤ y.a
  ln : c ≤ y.nx
  lw : c ≤ y.wd
  h1 : 1 ≤ y.h
  h2 : y.h ≤ 20
theorem NdIn.below {w w' : World} {c : Nat} {y : Nd} (h : NdIn w c y) (hb : Below w.heap.size w w') : NdIn w' c y := by
  obtain ⟨cs, h1, h2⟩ := h.nxb
  obtain ⟨ds, g1, g2⟩ := h.wdb
  exact ⟨blk_below h.blk hb, ⟨cs, blk_below h1 hb, h2⟩, ⟨ds, blk_below g1 hb, g2⟩, h.la, h.ln, h.lw, h.h1, h.h2⟩
theorem NdIn.set {w : World} {c : Nat} {y : Nd} (h : NdIn w c y) (b k : Nat) (v : Value) (hb : ∀ cs t, w.heap[b]? = some (.cells cs t) → t = 195 ∨ t = 3) : NdIn (w.setCell ⟨b, k, none⟩ v) c y := by
  obtain ⟨cs, h1, h2⟩ := h.nxb
  obtain ⟨ds, g1, g2⟩ := h.wdb
  refine ⟨?_, ?_, ?_, h.la, h.ln, h.lw, h.h1, h.h2⟩
  · rw [Below.heap_setCell w ⟨b, k, none⟩ v y.a ?_]
    · exact h.blk
    · intro e
      have e : y.a = b := e
      rcases hb _ _ (e ▸ h.blk) with e | e <;> exact absurd e (by decide)
  · by_cases e : y.nx = b
    · subst e
      exact ⟨_, set_cells h1, by simpa using h2⟩
    · exact ⟨cs, (Below.heap_setCell w ⟨b, k, none⟩ v y.nx e).trans h1, h2⟩
  · by_cases e : y.wd = b
    · subst e
      exact ⟨_, set_cells g1, by simpa using g2⟩
    · exact ⟨ds, (Below.heap_setCell w ⟨b, k, none⟩ v y.wd e).trans g1, g2⟩
/-- Nodes stand apart. -/
def Apart (N : List Nd) : Prop := N.Pairwise fun y z => y.a ≠ z.a ∧ y.nx ≠ z.nx ∧ y.wd ≠ z.wd
/-- What a level holds in memory. -/
def LvM (w : World) (k : Nat) : List Nd → Prop
  | [] => True
  | y :: T => (k < y.h → w.cell? ⟨y.nx, k, none⟩ = some (ptrN (fstN k T)) ∧ w.cell? ⟨y.wd, k, none⟩ = some (.int .i64 (dstN k T : Nat))) ∧ LvM w k T
theorem LvM.at {w : World} {k : Nat} {y : Nd} {T : List Nd} : ∀ {P : List Nd}, LvM w k (P ++ y :: T) → k < y.h → w.cell? ⟨y.nx, k, none⟩ = some (ptrN (fstN k T)) ∧ w.cell? ⟨y.wd, k, none⟩ = some (.int .i64 (dstN k T : Nat))
  | [], h, hk => h.1 hk
  | _ :: _, h, hk => LvM.at h.2 hk
theorem LvM.congr {w w' : World} {k : Nat} : ∀ {L : List Nd}, LvM w k L → (∀ y ∈ L, w'.cell? ⟨y.nx, k, none⟩ = w.cell? ⟨y.nx, k, none⟩ ∧ w'.cell? ⟨y.wd, k, none⟩ = w.cell? ⟨y.wd, k, none⟩) → LvM w' k L
  | [], _, _ => trivial
  | y :: T, h, hc => by
    refine ⟨fun hk => ?_, LvM.congr h.2 fun u hu => hc u (by simp [hu])⟩
    rw [(hc y (by simp)).1, (hc y (by simp)).2]
    exact h.1 hk
theorem LvM.tail {w : World} {k : Nat} {B : List Nd} : ∀ {T : List Nd}, LvM w k (T ++ B) → LvM w k B
  | [], h => h
  | _ :: _, h => LvM.tail h.2
theorem LvM.skip {w : World} {k : Nat} {B : List Nd} (hB : LvM w k B) : ∀ {T : List Nd}, (∀ z ∈ T, ¬ k < z.h) → LvM w k (T ++ B)
  | [], _ => hB
  | z :: T, h => ⟨fun hk => absurd hk (h z (by simp)), LvM.skip hB fun u hu => h u (by simp [hu])⟩
/-- A node is put in; y is the last one on the level ahead of it. -/
theorem LvM.ins {w w' : World} {k : Nat} {x y : Nd} {T B : List Nd} (hT : ∀ z ∈ T, ¬ k < z.h) (hy : k < y.h)
    (hB : ∀ z ∈ B, w'.cell? ⟨z.nx, k, none⟩ = w.cell? ⟨z.nx, k, none⟩ ∧ w'.cell? ⟨z.wd, k, none⟩ = w.cell? ⟨z.wd, k, none⟩)
    (hx : k < x.h → w'.cell? ⟨y.nx, k, none⟩ = some (ptrN (some x)) ∧ w'.cell? ⟨y.wd, k, none⟩ = some (.int .i64 (T.length + 1 : Nat)) ∧ w'.cell? ⟨x.nx, k, none⟩ = some (ptrN (fstN k (T ++ B))) ∧ w'.cell? ⟨x.wd, k, none⟩ = some (.int .i64 ((dstN k (T ++ B) : Int) - (T.length : Int))))
    (hx' : ¬ k < x.h → w'.cell? ⟨y.nx, k, none⟩ = w.cell? ⟨y.nx, k, none⟩ ∧ w'.cell? ⟨y.wd, k, none⟩ = some (.int .i64 ((dstN k (T ++ B) : Int) + 1))) :
    ∀ {P : List Nd}, (∀ z ∈ P, w'.cell? ⟨z.nx, k, none⟩ = w.cell? ⟨z.nx, k, none⟩ ∧ w'.cell? ⟨z.wd, k, none⟩ = w.cell? ⟨z.wd, k, none⟩) → LvM w k (P ++ y :: (T ++ B)) → LvM w' k (P ++ y :: (T ++ x :: B))
  | [], _, h => by
    obtain ⟨h3, h4⟩ := h.1 hy
    obtain ⟨e1, e2⟩ := fstN_skip k T B hT
    obtain ⟨g1, g2⟩ := fstN_skip k T (x :: B) hT
    have hB' : LvM w' k B := (LvM.tail h.2).congr hB
    have hxB : LvM w' k (x :: B) := by
      refine ⟨fun hk => ?_, hB'⟩
      obtain ⟨_, _, a3, a4⟩ := hx hk
      rw [a3, a4, e1, e2]
      refine ⟨rfl, ?_⟩
      rw [show ((T.length + dstN k B : Nat) : Int) - (T.length : Int) = (dstN k B : Int) by omega]
    refine ⟨fun _ => ?_, LvM.skip hxB hT⟩
    rw [g1, g2]
    by_cases hk : k < x.h
    · obtain ⟨a1, a2, _⟩ := hx hk
      rw [a1, a2]
      simp only [fstN, dstN, hk, if_true]
      exact ⟨trivial, trivial⟩
    · obtain ⟨a1, a2⟩ := hx' hk
      rw [a1, a2, h3, e1, e2]
      simp only [fstN, dstN, hk, if_false]
      refine ⟨trivial, ?_⟩
      rw [show ((T.length + dstN k B : Nat) : Int) + 1 = ((T.length + (dstN k B + 1) : Nat) : Int) by omega]
  | z :: P, hP, h => by
    refine ⟨fun hk => ?_, LvM.ins hT hy hB hx hx' (fun u hu => hP u (by simp [hu])) h.2⟩
    obtain ⟨h3, h4⟩ := h.1 hk
    rw [(hP z (by simp)).1, (hP z (by simp)).2, h3, h4]
    have e := fstN_hit k (P ++ [y]) (T ++ B) (T ++ x :: B) ⟨y, by simp, hy⟩
    simp only [List.append_assoc, List.singleton_append] at e
    exact ⟨congrArg (fun o => some (ptrN o)) e.1, congrArg (fun n : Nat => some (Value.int .i64 (n : Int))) e.2⟩
/-- A node is taken out; y is the last one on the level ahead of it. -/
theorem LvM.rem {w w' : World} {k : Nat} {x y : Nd} {T B : List Nd} (hT : ∀ z ∈ T, ¬ k < z.h) (hy : k < y.h)
    (hB : ∀ z ∈ B, w'.cell? ⟨z.nx, k, none⟩ = w.cell? ⟨z.nx, k, none⟩ ∧ w'.cell? ⟨z.wd, k, none⟩ = w.cell? ⟨z.wd, k, none⟩)
    (hx : k < x.h → w'.cell? ⟨y.nx, k, none⟩ = some (ptrN (fstN k B)) ∧ w'.cell? ⟨y.wd, k, none⟩ = some (.int .i64 ((dstN k (T ++ x :: B) : Int) + (dstN k B : Int) - 1)))
    (hx' : ¬ k < x.h → w'.cell? ⟨y.nx, k, none⟩ = w.cell? ⟨y.nx, k, none⟩ ∧ w'.cell? ⟨y.wd, k, none⟩ = some (.int .i64 ((dstN k (T ++ x :: B) : Int) - 1))) :
    ∀ {P : List Nd}, (∀ z ∈ P, w'.cell? ⟨z.nx, k, none⟩ = w.cell? ⟨z.nx, k, none⟩ ∧ w'.cell? ⟨z.wd, k, none⟩ = w.cell? ⟨z.wd, k, none⟩) → LvM w k (P ++ y :: (T ++ x :: B)) → LvM w' k (P ++ y :: (T ++ B))
  | [], _, h => by
    obtain ⟨h3, h4⟩ := h.1 hy
    obtain ⟨g1, g2⟩ := fstN_skip k T B hT
    obtain ⟨e1, e2⟩ := fstN_skip k T (x :: B) hT
    have hB' : LvM w' k B := (LvM.tail (T := [x]) (LvM.tail h.2)).congr hB
    refine ⟨fun _ => ?_, LvM.skip hB' hT⟩
    rw [g1, g2]
    by_cases hk : k < x.h
    · obtain ⟨a1, a2⟩ := hx hk
      rw [a1, a2, e2]
      simp only [dstN, hk, if_true]
      refine ⟨trivial, ?_⟩
      rw [show ((T.length + 1 : Nat) : Int) + (dstN k B : Int) - 1 = ((T.length + dstN k B : Nat) : Int) by omega]
    · obtain ⟨a1, a2⟩ := hx' hk
      rw [a1, a2, h3, e1, e2]
      simp only [fstN, dstN, hk, if_false]
      refine ⟨trivial, ?_⟩
      rw [show ((T.length + (dstN k B + 1) : Nat) : Int) - 1 = ((T.length + dstN k B : Nat) : Int) by omega]
  | z :: P, hP, h => by
    refine ⟨fun hk => ?_, LvM.rem hT hy hB hx hx' (fun u hu => hP u (by simp [hu])) h.2⟩
    obtain ⟨h3, h4⟩ := h.1 hk
    rw [(hP z (by simp)).1, (hP z (by simp)).2, h3, h4]
    have e := fstN_hit k (P ++ [y]) (T ++ x :: B) (T ++ B) ⟨y, by simp, hy⟩
    simp only [List.append_assoc, List.singleton_append] at e
    exact ⟨congrArg (fun o => some (ptrN o)) e.1, congrArg (fun n : Nat => some (Value.int .i64 (n : Int))) e.2⟩
/-- A skip list's nodes and levels. -/
structure SKm (w : World) (c : Nat) (hd : Nd) (L : List Nd) : Prop where
  nodes : ∀ y ∈ hd :: L, NdIn w c y
  apart : Apart (hd :: L)
  head : hd.h = 20
  lv : ∀ k, k < 20 → LvM w k (hd :: L)
theorem SKm.below {w w' : World} {c : Nat} {hd : Nd} {L : List Nd} (h : SKm w c hd L) (hb : Below w.heap.size w w') : SKm w' c hd L := by
  refine ⟨fun y hy => (h.nodes y hy).below hb, h.apart, h.head, fun k hk => (h.lv k hk).congr fun y hy => ?_⟩
  obtain ⟨cs, h1, _⟩ := (h.nodes y hy).nxb
  obtain ⟨ds, g1, _⟩ := (h.nodes y hy).wdb
  exact ⟨hb.cell (p := ⟨y.nx, k, none⟩) (lt_blk h1), hb.cell (p := ⟨y.wd, k, none⟩) (lt_blk g1)⟩
/-- Names and scores of nodes. -/
def zN (L : List Nd) : List (ByteArray × Int) := L.map fun y => (y.name, y.score)
/-- The last node on a level. -/
def Last (k : Nat) (N : List Nd) (y : Nd) (n : Nat) : Prop := ∃ P T, N = P ++ y :: T ∧ P.length = n ∧ k < y.h ∧ ∀ z ∈ T, ¬ k < z.h
/-- A set of names by scores in memory. -/
structure SKs (w : World) (c sp bM : Nat) (hd : Nd) (L : List Nd) (E : List (ByteArray × Int)) (made high : Int) : Prop where
  set : w.heap[sp]? = some (.cells #[.pointer (some ⟨hd.a, 0, none⟩), .map (some bM), .int .u64 made, .int .i64 high] 197)
  lo : c ≤ sp
  lom : c ≤ bM
  map : MapT.MB w bM (E.map fun p => (p.1, .int .i64 p.2))
  nd : (namesD E).Nodup
  same : ∀ n, findD n E = findD n (zN L)
  mem : SKm w c hd L
  ord : Ord (zN L)
  ndZ : (namesD (zN L)).Nodup
  mad : 0 ≤ made ∧ made < 18446744073709551616
/-- A set of names by scores. -/
def SK (w : World) (c sp : Nat) (Z : List (ByteArray × Int)) : Prop := ∃ bM hd L E made high, SKs w c sp bM hd L E made high ∧ zN L = Z
theorem SKs.below {w w' : World} {c sp bM : Nat} {hd : Nd} {L : List Nd} {E : List (ByteArray × Int)} {made high : Int} (h : SKs w c sp bM hd L E made high) (hb : Below w.heap.size w w') : SKs w' c sp bM hd L E made high :=
  ⟨blk_below h.set hb, h.lo, h.lom, h.map.below hb, h.nd, h.same, h.mem.below hb, h.ord, h.ndZ, h.mad⟩
theorem SK.below {w w' : World} {c sp : Nat} {Z : List (ByteArray × Int)} (h : SK w c sp Z) (hb : Below w.heap.size w w') : SK w' c sp Z := by
  obtain ⟨bM, hd, L, E, made, high, h1, h2⟩ := h
  exact ⟨bM, hd, L, E, made, high, h1.below hb, h2⟩
theorem SKs.len {w : World} {c sp bM : Nat} {hd : Nd} {L : List Nd} {E : List (ByteArray × Int)} {made high : Int} (h : SKs w c sp bM hd L E made high) : E.length = L.length := by
  have := (perm_names h.nd h.ndZ h.same).length_eq
  rw [len_names, len_names] at this
  simpa [zN] using this
theorem findE (n : ByteArray) : ∀ E : List (ByteArray × Int), MapT.find n (E.map fun p => (p.1, Value.int .i64 p.2)) = (findD n E).map (Value.int .i64)
  | [] => rfl
  | (k, v) :: r => by
    have ih := findE n r
    rw [List.map_cons]
    unfold MapT.find findD
    rw [ih]
    by_cases hk : k = n <;> simp [hk]
theorem putE (n : ByteArray) (x : Int) : ∀ E : List (ByteArray × Int), MapT.put n (.int .i64 x) (E.map fun p => (p.1, Value.int .i64 p.2)) = (putD n x E).map fun p => (p.1, Value.int .i64 p.2)
  | [] => rfl
  | (k, v) :: r => by
    have ih := putE n x r
    rw [List.map_cons]
    unfold MapT.put putD
    rw [ih]
    by_cases hk : k = n <;> simp [hk]
theorem delE (n : ByteArray) : ∀ E : List (ByteArray × Int), MapT.del n (E.map fun p => (p.1, Value.int .i64 p.2)) = (delD n E).map fun p => (p.1, Value.int .i64 p.2)
  | [] => rfl
  | (k, v) :: r => by
    have ih := delE n r
    rw [List.map_cons]
    unfold MapT.del delD
    rw [ih]
    by_cases hk : k = n <;> simp [hk]
end Go.Proofs.YticlacjpgjkhcaaGreatDoor
