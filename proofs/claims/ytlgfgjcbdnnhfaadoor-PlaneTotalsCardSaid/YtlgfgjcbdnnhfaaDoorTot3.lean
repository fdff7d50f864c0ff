/- Rows of points that the call itself makes. -/
import Derived.Test.YtlgfgjcbdnnhfaaDoorTot1
import Derived.Test.YtlgfgjcbdnnhfaaDoorTot2
import Derived.Test.YtlgfgjcbdnnhfaaDoorPl4
import Derived.Deep.AppendLies
import Derived.Deep.AppendSrc
namespace Go.Proofs.YtlgfgjcbdnnhfaaDoor
open Go.ChangeShapes Go.WideShapes Go.ChangeAt Go.RowKit Go.Fl

theorem info32 : (Tryd.prog.info? 32).map (fun i => (i.zero, i.size, i.bytes)) = some (some (.agg #[.string ⟨#[]⟩, .complex .f64 0 0]), 2, 32) := by kernel_rfl
def cellsP (ps : List (Int × Int)) : List Value := ps.flatMap fun p => ptC p.1 p.2
theorem cellsP_len (ps : List (Int × Int)) : (cellsP ps).length = ps.length * 2 := by
  induction ps with
  | nil => rfl
  | cons p r ih => unfold cellsP at ih ⊢; rw [List.flatMap_cons, List.length_append, ih, List.length_cons]; show 2 + _ = _; omega
theorem cellsP_at (ps : List (Int × Int)) (i j : Nat) (x y : Int) (v : Value) (hi : ps[i]? = some (x, y)) (hv : (ptC x y)[j]? = some v) : (cellsP ps)[i * 2 + j]? = some v := by
  induction ps generalizing i with
  | nil => cases hi
  | cons p r ih =>
    unfold cellsP at ih ⊢
    rw [List.flatMap_cons]
    have hj : j < 2 := (List.getElem?_eq_some_iff.1 hv).1
    cases i with
    | zero =>
      cases hi
      rw [List.getElem?_append_left (by show 0 * 2 + j < 2; omega), Nat.zero_mul, Nat.zero_add]
      exact hv
    | succ i =>
      have hl : (ptC p.1 p.2).length = 2 := rfl
      rw [List.getElem?_append_right (by rw [hl]; omega), hl, show (i + 1) * 2 + j - 2 = i * 2 + j by omega]
      exact ih i hi
/-- A row of points of the call's own. -/
def PO (c : Nat) (w : World) (v : Value) (ps : List (Int × Int)) : Prop := w.ownsRow c 32 2 v ps.length (cellsP ps)
theorem PO.nil (c : Nat) (w : World) : PO c w (.slice none 0 0) [] := World.ownsRow_nil w _ _ _
theorem PO.row {c : Nat} {w : World} {v : Value} {ps : List (Int × Int)} (h : PO c w v ps) : PSl w v ps := by
  rcases h.2 with ⟨rfl, h0⟩ | ⟨g, cap, cur, rfl, hB, hh, hn, hc, hs, ht⟩
  · obtain rfl : ps = [] := List.eq_nil_of_length_eq_zero h0
    exact ⟨none, 0, rfl, Nat.le_refl _, Nat.zero_le _, fun h => absurd rfl h⟩
  · refine ⟨_, cap, rfl, hn, hc, fun _ => ⟨g, rfl, (Array.getElem?_eq_some_iff.1 hh).1, fun i x y hi j v hv => ?_⟩⟩
    have h1 := cellsP_at ps i j x y v hi hv
    have hl : i * 2 + j < ps.length * 2 := by
      have := (List.getElem?_eq_some_iff.1 h1).1
      rwa [cellsP_len] at this
    rw [← ht, List.getElem?_take_of_lt hl] at h1
    rw [Nat.zero_add]
    have hcell : w.cell? ⟨g, i * 2 + j, none⟩ = cur[i * 2 + j]? := by unfold World.cell?; rw [hh]; simp
    rw [hcell, ← Array.getElem?_toList]
    exact h1
theorem run_append_P (w : World) (ty : TypeId) (B c2 : Nat) (ps qs : List (Int × Int)) (v u : Value) (h : PO B w v ps) (h2 : PO c2 w u qs) (hne : qs ≠ []) (hb : ps.length + qs.length ≤ 1000) (hB : B ≤ w.heap.size) :
    ∃ g cap w', (Builtin.append_ #[24, 24] ty #[v, u]).run Tryd.prog w = .ok (.slice (some ⟨g, 0, none⟩) (ps.length + qs.length) cap) w' ∧ PO B w' (.slice (some ⟨g, 0, none⟩) (ps.length + qs.length) cap) (ps ++ qs) ∧ w.grownBy w' v.ownBlock ∧ (v.ownBlock = some g ∨ g = w.heap.size) := by
  obtain ⟨i0, hi, hz0, hz1, hz2⟩ := info_parts info32
  have hpos : 0 < qs.length := List.length_pos_iff.2 hne
  rcases h2.2 with ⟨_, h0⟩ | ⟨g, cap, cur, rfl, hBg, hh, hn, hc, hs, ht⟩
  · omega
  · have hnews : ∀ j z, (cellsP qs)[j]? = some z → w.cell? ((⟨g, 0, none⟩ : Addr).add j) = some z := by
      intro j z hj
      have e : (⟨g, 0, none⟩ : Addr).add j = ⟨g, j, none⟩ := by unfold Addr.add; split <;> simp_all
      have hl := (List.getElem?_eq_some_iff.1 hj).1
      rw [cellsP_len] at hl
      have hcell : w.cell? ⟨g, j, none⟩ = cur[j]? := by unfold World.cell?; rw [hh]; simp
      rw [e, hcell, ← Array.getElem?_toList]
      rw [← ht, List.getElem?_take_of_lt hl] at hj
      exact hj
    have hone : ∀ z ∈ cellsP qs, z.oneCell' = true := by
      intro z hz
      obtain ⟨p, _, hp⟩ := List.mem_flatMap.1 hz
      unfold ptC at hp
      simp at hp
      rcases hp with rfl | rfl <;> rfl
    obtain ⟨g2, cap2, w', hr, q1, q2, q3, q4⟩ := run_append_lies (P := Tryd.prog) w 24 ty B 32 i0 _ 2 32 Tryd.underlying24 hi hz0 hz1 hz2 rfl (by decide) v ps.length (cellsP ps) h ⟨g, 0, none⟩ qs.length cap (cellsP qs) (cellsP_len qs) hnews hone hpos (by unfold maxLen; omega) (by omega) hB _ rfl
    refine ⟨g2, cap2, w', hr, ?_, q2, q3⟩
    unfold PO
    rw [List.length_append, show cellsP (ps ++ qs) = cellsP ps ++ cellsP qs by unfold cellsP; rw [List.flatMap_append]]
    exact q1
theorem PO.kept {c : Nat} {w w' : World} {v : Value} {ps : List (Int × Int)} (h : PO c w v ps) (hb : ∀ g, v.ownBlock = some g → w'.heap[g]? = w.heap[g]?) : PO c w' v ps := by
  refine ⟨h.1, ?_⟩
  rcases h.2 with g | ⟨g, cap, cur, r1, r2, r3, r4⟩
  · exact .inl g
  · exact .inr ⟨g, cap, cur, r1, r2, (hb g (by rw [r1]; rfl)).trans r3, r4⟩
theorem PO.below {c : Nat} {w w' : World} {v : Value} {ps : List (Int × Int)} (h : PO c w v ps) (hb : Below w.heap.size w w') : PO c w' v ps := by
  refine ⟨h.1, ?_⟩
  rcases h.2 with g | ⟨g, cap, cur, r1, r2, r3, r4⟩
  · exact .inl g
  · exact .inr ⟨g, cap, cur, r1, r2, (hb.block g (Array.getElem?_eq_some_iff.1 r3).1).trans r3, r4⟩
theorem PO.fresh (c : Nat) (w : World) (x y : Int) (hc : c ≤ w.heap.size) : PO c (w.alloc (.cells #[.string ⟨#[]⟩, .complex .f64 (fi x) (fi y)] 32)) (.slice (some ⟨w.heap.size, 0, none⟩) 1 1) [(x, y)] :=
  ⟨rfl, .inr ⟨w.heap.size, 1, _, rfl, hc, heap_alloc_new w _, Nat.le_refl _, by unfold maxLen; decide, rfl, rfl⟩⟩
theorem append_P {ops : Array Oper} {rest : List Oper} {o : Oper} {a : Act} {Q : Exit → Act → World → Prop} (w : World) (hg : o.guard = none) (s x : Operand) (hop : o.op = Op.call { callee := Callee.builtin Builtin.append, args := #[s, x], argTypes := #[24, 24] })
    (B c2 : Nat) (ps qs : List (Int × Int)) (v u : Value) (hs : a.eval s = v) (h : PO B w v ps) (hx : a.eval x = u) (h2 : PO c2 w u qs) (hne : qs ≠ []) (hb : ps.length + qs.length ≤ 1000) (hB : B ≤ w.heap.size)
    (k : ∀ g cap w', PO B w' (.slice (some ⟨g, 0, none⟩) (ps.length + qs.length) cap) (ps ++ qs) → w.grownBy w' v.ownBlock → (v.ownBlock = some g ∨ g = w.heap.size) → wpList Tryd.prog ops Q rest (a.put o.dst (.slice (some ⟨g, 0, none⟩) (ps.length + qs.length) cap)) w') : wpList Tryd.prog ops Q (o :: rest) a w := by
  obtain ⟨g, cap, w', hrun, h1, h3, h4⟩ := run_append_P w o.type B c2 ps qs v u h h2 hne hb hB
  refine wpList_plain hg fun K hK' => ?_
  unfold Oper.wp
  simp [execOp, hop, resolve, invoke, builtin, hs, hx, hrun, Result.andThen]
  exact hK' _ _ (k g cap w' h1 h3 h4)
/-- Nothing is appended: the row as it was. -/
theorem run_append_P_nil (w : World) (ty : TypeId) (c2 g0 n c0 : Nat) (hn : n ≤ c0) (u : Value) (h2 : PO c2 w u []) :
    (Builtin.append_ #[24, 24] ty #[.slice (some ⟨g0, 0, none⟩) n c0, u]).run Tryd.prog w = .ok (.slice (some ⟨g0, 0, none⟩) n c0) w := by
  obtain ⟨i0, hi, hz0, hz1, hz2⟩ := info_parts info32
  rcases h2.2 with ⟨rfl, h0⟩ | ⟨g, cap, cur, rfl, hBg, hh, hn', hc, hs, ht⟩
  · exact run_append_room_src w 24 24 ty 32 i0 Tryd.underlying24 hi g0 0 n c0 _ 0 [] (Src.ofNil w Tryd.underlying24 0) (by omega) (fun j hj => absurd hj (Nat.not_lt_zero _)) (fun j hj => absurd hj (Nat.not_lt_zero _))
  · exact run_append_room_src w 24 24 ty 32 i0 Tryd.underlying24 hi g0 0 n c0 _ 0 [] (Src.ofSlice w Tryd.underlying24 ⟨g, 0, none⟩ 0 cap [] (by simp) (fun j u hj => by simp at hj) (fun u hu => by simp at hu)) (by omega) (fun j hj => absurd hj (Nat.not_lt_zero _)) (fun j hj => absurd hj (Nat.not_lt_zero _))
/-- A row behind one that is there, whatever its length. -/
theorem run_append_PA (w : World) (ty : TypeId) (B c2 g0 n c0 : Nat) (ps qs : List (Int × Int)) (u : Value) (h : PO B w (.slice (some ⟨g0, 0, none⟩) n c0) ps) (hn : n = ps.length) (h2 : PO c2 w u qs) (hb : ps.length + qs.length ≤ 1000) (hB : B ≤ w.heap.size) :
    ∃ g cap w', (Builtin.append_ #[24, 24] ty #[.slice (some ⟨g0, 0, none⟩) n c0, u]).run Tryd.prog w = .ok (.slice (some ⟨g, 0, none⟩) (ps.length + qs.length) cap) w' ∧ PO B w' (.slice (some ⟨g, 0, none⟩) (ps.length + qs.length) cap) (ps ++ qs) ∧ w.grownBy w' (some g0) ∧ (g0 = g ∨ g = w.heap.size) := by
  subst hn
  by_cases hq : qs = []
  · subst hq
    have hn : ps.length ≤ c0 := by
      rcases h.2 with ⟨h0, _⟩ | ⟨g, cap, cur, he, _, _, hn, _⟩
      · cases h0
      · cases he; exact hn
    refine ⟨g0, c0, w, ?_, ?_, ⟨rfl, rfl, rfl, Nat.le_refl _, fun _ _ _ => rfl⟩, .inl rfl⟩
    · exact run_append_P_nil w ty c2 g0 ps.length c0 hn u h2
    · rw [List.append_nil]; exact h
  · obtain ⟨g, cap, w', h1, h3, h4, h5⟩ := run_append_P w ty B c2 ps qs _ u h h2 hq hb hB
    refine ⟨g, cap, w', h1, h3, h4, ?_⟩
    rcases h5 with h5 | h5
    · exact .inl (Option.some.inj h5)
    · exact .inr h5
theorem append_PA {ops : Array Oper} {rest : List Oper} {o : Oper} {a : Act} {Q : Exit → Act → World → Prop} (w : World) (hg : o.guard = none) (s x : Operand) (hop : o.op = Op.call { callee := Callee.builtin Builtin.append, args := #[s, x], argTypes := #[24, 24] })
    (B c2 g0 n c0 : Nat) (ps qs : List (Int × Int)) (u : Value) (hs : a.eval s = .slice (some ⟨g0, 0, none⟩) n c0) (h : PO B w (.slice (some ⟨g0, 0, none⟩) n c0) ps) (hn : n = ps.length) (hx : a.eval x = u) (h2 : PO c2 w u qs) (hb : ps.length + qs.length ≤ 1000) (hB : B ≤ w.heap.size)
    (k : ∀ g cap w', PO B w' (.slice (some ⟨g, 0, none⟩) (ps.length + qs.length) cap) (ps ++ qs) → w.grownBy w' (some g0) → (g0 = g ∨ g = w.heap.size) → wpList Tryd.prog ops Q rest (a.put o.dst (.slice (some ⟨g, 0, none⟩) (ps.length + qs.length) cap)) w') : wpList Tryd.prog ops Q (o :: rest) a w := by
  obtain ⟨g, cap, w', hrun, h1, h3, h4⟩ := run_append_PA w o.type B c2 g0 n c0 ps qs u h hn h2 hb hB
  refine wpList_plain hg fun K hK' => ?_
  unfold Oper.wp
  simp [execOp, hop, resolve, invoke, builtin, hs, hx, hrun, Result.andThen]
  exact hK' _ _ (k g cap w' h1 h3 h4)
theorem PO.lt {c : Nat} {w : World} {v : Value} {ps : List (Int × Int)} (h : PO c w v ps) (g : Nat) (hg : v.ownBlock = some g) : g < w.heap.size ∧ c ≤ g := by
  rcases h.2 with ⟨rfl, _⟩ | ⟨g', cap, cur, rfl, r2, r3, _⟩
  · cases hg
  · cases hg; exact ⟨(Array.getElem?_eq_some_iff.1 r3).1, r2⟩
/-- What an append to one row leaves of another. -/
theorem PO.far {c : Nat} {w w' : World} {v : Value} {ps : List (Int × Int)} {row : Option Nat} (h : PO c w v ps) (hg : w.grownBy w' row) (hne : ∀ g, v.ownBlock = some g → some g ≠ row) : PO c w' v ps :=
  h.kept fun g e => hg.block g (h.lt g e).1 (hne g e)
end Go.Proofs.YtlgfgjcbdnnhfaaDoor
