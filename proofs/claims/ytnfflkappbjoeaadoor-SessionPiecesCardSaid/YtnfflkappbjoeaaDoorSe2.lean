/- Appending to a session's row of bytes; New; Push. -/
import Derived.Test.YtnfflkappbjoeaaDoorSe1
namespace Go.Proofs.YtnfflkappbjoeaaDoor
open Go.ChangeShapes Go.WideShapes Go.ChangeAt Go.RowKit Go.Resp

theorem Tryd.info5 : (Tryd.prog.info? 5).map (fun i => (i.zero, i.size, i.bytes)) = some (some (.int .u8 0), 1, 1) := by kernel_rfl
def cellB (c : UInt8) : Value := .int .u8 (c.toNat : Int)
theorem size_setCells (w : World) (g o : Nat) (vs : List Value) : (w.setCells g o vs).heap.size = w.heap.size := by
  induction vs generalizing w o with
  | nil => rfl
  | cons v r ih => rw [World.setCells, ih]; simp
theorem below_setCells (B : Nat) (w : World) (g o : Nat) (vs : List Value) (hg : B ≤ g) : Below B w (w.setCells g o vs) := by
  induction vs generalizing w o with
  | nil => exact Below.refl _ _
  | cons v r ih => rw [World.setCells]; exact ((Below.refl B w).setCell (by exact hg) v).trans (ih _ _)
theorem OwnG.fresh {c : Nat} {w : World} (l : List UInt8) (X : Array Value) (hX : l.length ≤ X.size) (hm : X.size ≤ maxLen) (hl : ∀ (i : Nat) (x : UInt8), l[i]? = some x → X[i]? = some (cellB x)) (hc : c ≤ w.heap.size) :
    OwnG c (w.alloc (.cells X 5)) (.slice (some ⟨w.heap.size, 0, none⟩) l.length X.size) l := by
  have hn : (w.alloc (.cells X 5)).heap[w.heap.size]? = some (.cells X 5 (0, 0)) := heap_alloc_new w _
  refine .inl ⟨w.heap.size, 0, X.size, rfl, hc, by simp, hX, hm, fun i x hi => ?_, fun j hj => ⟨?_, ?_⟩⟩
  · rw [cell_of_row _ _ _ _ _ _ hn, Nat.zero_add, hl i x hi]; rfl
  · rw [cell_of_row _ _ _ _ _ _ hn, Nat.zero_add]; simp [hj]
  · rw [Nat.zero_add]; unfold World.frozen?; rw [hn]; simp
theorem setCells_other (w : World) (g o : Nat) (vs : List Value) (k : Nat) (hk : k ≠ g) : (w.setCells g o vs).heap[k]? = w.heap[k]? := by
  induction vs generalizing w o with
  | nil => rfl
  | cons v r ih => rw [World.setCells, ih]; exact Below.heap_setCell w ⟨g, o, none⟩ v k hk
theorem setCells_type (w : World) (g o : Nat) (vs : List Value) (cs : Array Value) (t : TypeId) (fr : Nat × Nat) (h : w.heap[g]? = some (.cells cs t fr)) : ∃ cs', (w.setCells g o vs).heap[g]? = some (.cells cs' t fr) := by
  induction vs generalizing w o cs with
  | nil => exact ⟨cs, h⟩
  | cons v r ih =>
    rw [World.setCells]
    exact ih (w.setCell ⟨g, o, none⟩ v) _ (cs.setIfInBounds o v) (by simp [World.setCell, Array.getElem?_modify, h])
theorem append_G {ops : Array Oper} {rest : List Oper} {o : Oper} {a : Act} {Q : Exit → Act → World → Prop} (w : World) (hg : o.guard = none) (s x : Operand) (tx : TypeId) (hop : o.op = Op.call { callee := Callee.builtin Builtin.append, args := #[s, x], argTypes := #[24, tx] })
    (c : Nat) (l l2 : List UInt8) (v u : Value) (hs : a.eval s = v) (h : OwnG c w v l) (hx : a.eval x = u) (h2 : Src Tryd.prog 1 tx u l2.length (l2.map cellB) w) (hb : l.length + l2.length ≤ 140737488355328) (hB : c ≤ w.heap.size) (h5 : In5 w v)
    (k : ∀ v' w', OwnG c w' v' (l ++ l2) → Below c w w' ∧ In5 w' v' ∧ (∀ q, q < w.heap.size → (∀ cs fr, w.heap[q]? ≠ some (.cells cs 5 fr)) → w'.heap[q]? = w.heap[q]?) → wpList Tryd.prog ops Q rest (a.put o.dst v') w') : wpList Tryd.prog ops Q (o :: rest) a w := by
  obtain ⟨i0, hi, hz0, hz1, hz2⟩ := info_parts Tryd.info5
  have h2' : Src Tryd.prog i0.size tx u l2.length (l2.map cellB) w := by rw [hz1]; exact h2
  have grown : ∀ (base : Option Addr) (cap : Nat), (Builtin.firstCells i0.size l.length (.slice base l.length cap)).run Tryd.prog w.drew = .ok (l.map cellB).toArray w.drew → v = .slice base l.length cap → cap < l.length + l2.length → wpList Tryd.prog ops Q (o :: rest) a w := by
    intro base cap hold hv hlt
    subst hv
    have hge := grownCap_ge w (l.length + l2.length) cap 5
    have hcm : grownCap w (l.length + l2.length) cap 5 ≤ maxLen := grownCap_le_maxLen w (l.length + l2.length) cap 5 (by unfold maxLen; omega)
    have hrun := run_append_grow_src (P := Tryd.prog) w 24 tx o.type 5 i0 (.int .u8 0) Tryd.underlying24 hi hz0 base l.length cap (l.map cellB) hold u l2.length (l2.map cellB) h2' hlt (by omega) (by rw [hz2]; exact growslice_fits hlt (by omega))
    refine wpList_plain hg fun K hK' => ?_
    unfold Oper.wp
    simp [execOp, hop, resolve, invoke, builtin, hs, hx, hrun, Result.andThen]
    refine hK' _ _ (k _ _ ?_ ?_)
    · have hX : ((l.map cellB ++ l2.map cellB).toArray ++ Builtin.zeroCells (Value.int .u8 0).cells (grownCap w (l.length + l2.length) cap 5 - (l.length + l2.length))).size = grownCap w (l.length + l2.length) cap 5 := by
        simp only [Array.size_append, size_zeroCells, Value.cells]
        simp
        omega
      have := OwnG.fresh (c := c) (w := w.drew) (l ++ l2) ((l.map cellB ++ l2.map cellB).toArray ++ Builtin.zeroCells (Value.int .u8 0).cells (grownCap w (l.length + l2.length) cap 5 - (l.length + l2.length))) (by rw [hX, List.length_append]; exact hge) (by rw [hX]; exact hcm) (by
        intro i x hi
        have hlt := (List.getElem?_eq_some_iff.1 hi).1
        rw [List.length_append] at hlt
        rw [Array.getElem?_append_left (by simp; omega)]
        rw [List.getElem?_toArray, ← List.map_append, List.getElem?_map, hi]; rfl) hB
      rw [hX, List.length_append] at this
      simpa using this
    · refine ⟨Below.trans (b := w.drew) ⟨rfl, rfl, rfl, Nat.le_refl _, fun _ _ => rfl⟩ ((Below.refl c w.drew).alloc hB _), fun g hg => ?_, fun q hq _ => heap_alloc_old w.drew _ hq⟩
      have hg' : w.heap.size = g := by simpa [Value.ownBlock] using hg
      subst hg'
      exact ⟨_, _, heap_alloc_new w.drew _⟩
  rcases h with ⟨g, off, cap, rfl, h2g, h3, h4, h5c, h6, h7⟩ | ⟨rfl, rfl⟩
  · by_cases hr : l.length + l2.length ≤ cap
    · have hin : ∀ j, j < (l2.map cellB).length → (w.cell? ⟨g, off + l.length * i0.size + j, none⟩).isSome = true := fun j hj => by
        rw [List.length_map] at hj
        have := (h7 (l.length + j) (by omega)).1
        rw [hz1, Nat.mul_one, Nat.add_assoc]; exact this
      have hfz : ∀ j, j < (l2.map cellB).length → w.frozen? ⟨g, off + l.length * i0.size + j, none⟩ = false := fun j hj => by
        rw [List.length_map] at hj
        have := (h7 (l.length + j) (by omega)).2
        rw [hz1, Nat.mul_one, Nat.add_assoc]; exact this
      have hrun := run_append_room_src (P := Tryd.prog) w 24 tx o.type 5 i0 Tryd.underlying24 hi g off l.length cap u l2.length (l2.map cellB) h2' hr hin hfz
      refine wpList_plain hg fun K hK' => ?_
      unfold Oper.wp
      simp [execOp, hop, resolve, invoke, builtin, hs, hx, hrun, Result.andThen]
      refine hK' _ _ (k _ _ ?_ ⟨below_setCells _ _ _ _ _ h2g, fun g' hg => ?_, fun q hq ht => setCells_other w g _ _ q (fun e => ?_)⟩)
      rotate_left
      · have hg' : g = g' := by simpa [Value.ownBlock] using hg
        subst hg'
        obtain ⟨cs, fr, hh⟩ := h5 g rfl
        obtain ⟨cs', hh'⟩ := setCells_type w g (off + l.length * i0.size) (l2.map cellB) cs 5 fr hh
        exact ⟨cs', fr, hh'⟩
      · subst e
        obtain ⟨cs, fr, hh⟩ := h5 q rfl
        exact ht cs fr hh
      refine .inl ⟨g, off, cap, by rw [List.length_append], h2g, by rw [size_setCells]; exact h3, by rw [List.length_append]; exact hr, h5c, ?_, fun j hj => ⟨?_, ?_⟩⟩
      · intro i x hi
        by_cases hil : i < l.length
        · rw [World.cell?_setCells_out g _ _ w _ (fun _ _ => .inl (by rw [hz1]; simp; omega))]
          rw [List.getElem?_append_left hil] at hi
          exact h6 i x hi
        · rw [List.getElem?_append_right (by omega)] at hi
          have hj : i - l.length < (l2.map cellB).length := by rw [List.length_map]; exact (List.getElem?_eq_some_iff.1 hi).1
          have := World.cell?_setCells_in g (l2.map cellB) (off + l.length * i0.size) w hin (i - l.length) hj
          rw [show off + l.length * i0.size + (i - l.length) = off + i by rw [hz1]; omega] at this
          rw [this]
          have e : (l2.map cellB)[i - l.length] = cellB x := by
            obtain ⟨h1, h2⟩ := List.getElem?_eq_some_iff.1 hi
            simp [h2]
          rw [e]; rfl
      · exact World.isSome_setCells g _ _ w _ (h7 j hj).1
      · rw [World.frozen?_setCells]; exact (h7 j hj).2
    · refine grown _ cap ?_ rfl (by omega)
      refine run_firstCells_some w.drew i0.size l.length ⟨g, off, none⟩ _ _ (l.map cellB) (by rw [hz1]; simp) (fun j u hj => ?_)
      rw [Addr.add_lit]
      rw [List.getElem?_map] at hj
      obtain ⟨c, hc, rfl⟩ := Option.map_eq_some_iff.1 hj
      exact h6 j c hc
  · by_cases hr : l2.length = 0
    · obtain rfl : l2 = [] := List.eq_nil_of_length_eq_zero hr
      have hc := h2'.cells
      simp only [List.length_nil, List.map_nil] at hc
      have hlen := h2'.len
      have hrun : (Builtin.append_ #[24, tx] o.type #[.slice none 0 0, u]).run Tryd.prog w = .ok (.slice none 0 0) w := by
        rcases h2'.kind with ⟨e', hk⟩ | hk <;> simp [Builtin.append_, run_underlying Tryd.underlying24, run_underlying hk, sizeOf, typeInfo, hi, hlen, hc]
      refine wpList_plain hg fun K hK' => ?_
      unfold Oper.wp
      simp [execOp, hop, resolve, invoke, builtin, hs, hx, hrun, Result.andThen]
      exact hK' _ _ (k _ _ (.inr ⟨rfl, rfl⟩) ⟨Below.refl _ _, h5, fun _ _ _ => rfl⟩)
    · exact grown none 0 (run_firstCells_none w.drew i0.size 0 0 0) rfl (by simp; omega)
end Go.Proofs.YtnfflkappbjoeaaDoor
