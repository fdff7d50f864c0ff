/- A row of bytes that is appended to and written over. -/
import Derived.Test.YtaomiglmahklfaaGreatDoorSt10
import Derived.Deep.AppendSrc
import Derived.ArgAppend
import Derived.Deep.MidRow
import Derived.OneCell
import Derived.OwnWalk
import Derived.Laws.Rows
import Derived.Lib.LazyBuf
import Derived.Maps.AppendAt
namespace Go.Proofs.YtaomiglmahklfaaGreatDoor
open Go.ChangeShapes Go.WideShapes Go.ChangeAt Go.RowKit

/-- Bytes in memory. -/
def Bytes (w : World) (blk off : Nat) (l : List UInt8) : Prop := ∀ i c, l[i]? = some c → w.cell? ⟨blk, off + i, none⟩ = some (.int .u8 (c.toNat : Int))
/-- A row of bytes of the call's own: it may be appended to. -/
def OwnG (c : Nat) (w : World) (v : Value) (l : List UInt8) : Prop :=
  (∃ g off cap, v = .slice (some ⟨g, off, none⟩) l.length cap ∧ c ≤ g ∧ g < w.heap.size ∧ l.length ≤ cap ∧ cap ≤ maxLen ∧ Bytes w g off l ∧
    ∀ j, j < cap → (w.cell? ⟨g, off + j, none⟩).isSome = true ∧ w.frozen? ⟨g, off + j, none⟩ = false) ∨ (l = [] ∧ v = .slice none 0 0)
theorem OwnG.kept {c : Nat} {w w' : World} {v : Value} {l : List UInt8} (h : OwnG c w v l) (hs : w.heap.size ≤ w'.heap.size) (hb : ∀ k, c ≤ k → k < w.heap.size → w'.heap[k]? = w.heap[k]?) : OwnG c w' v l := by
  rcases h with ⟨g, off, cap, rfl, h2, h3, h4, h5, h6, h7⟩ | h
  · have hk := hb g h2 h3
    have hc : ∀ j, w'.cell? ⟨g, j, none⟩ = w.cell? ⟨g, j, none⟩ := fun j => World.cell?_of_block hk
    refine .inl ⟨g, off, cap, rfl, h2, by omega, h4, h5, fun i x hx => (hc _).trans (h6 i x hx), fun j hj => ⟨by rw [hc]; exact (h7 j hj).1, ?_⟩⟩
    have := (h7 j hj).2
    unfold World.frozen? at this ⊢
    simp only [hk]
    exact this
  · exact .inr h
theorem OwnG.below {c : Nat} {w w' : World} {v : Value} {l : List UInt8} (h : OwnG c w v l) (hb : Below w.heap.size w w') : OwnG c w' v l := h.kept hb.size (fun k _ hk => hb.block k hk)
theorem OwnG.set_ {c : Nat} {w : World} {v : Value} {l : List UInt8} (h : OwnG c w v l) {b : Nat} (hb : b < c) (i : Nat) (u : Value) : OwnG c (w.setCell ⟨b, i, none⟩ u) v l :=
  h.kept (by show _ ≤ (w.heap.modify _ _).size; rw [Array.size_modify]; exact Nat.le_refl _) (fun k hk _ => Below.heap_setCell w ⟨b, i, none⟩ u k (by show k ≠ b; omega))
theorem i5 : (Tryz.prog.info? 5).map (fun i => (i.zero, i.size, i.bytes)) = some (some (.int .u8 0), 1, 1) := by kernel_rfl
def cellB (c : UInt8) : Value := .int .u8 (c.toNat : Int)
theorem size_setCells (w : World) (g o : Nat) (vs : List Value) : (w.setCells g o vs).heap.size = w.heap.size := by
  induction vs generalizing w o with
  | nil => rfl
  | cons v r ih => rw [World.setCells, ih]; simp
theorem below_setCells (B : Nat) (w : World) (g o : Nat) (vs : List Value) (hg : B ≤ g) : Below B w (w.setCells g o vs) := by
  induction vs generalizing w o with
  | nil => exact Below.refl _ _
  | cons v r ih => rw [World.setCells]; exact ((Below.refl B w).setCell (by exact hg) v).trans (ih _ _)
theorem OwnG.fresh {c : Nat} {w : World} (l : List UInt8) (X : Array Value) (hX : l.length ≤ X.size) (hm : X.size ≤ maxLen) (hl : ∀ (i : Nat) (x : UInt8), l[i]? = some x → X[i]? = some (cellB x)) (hc : c ≤ w.heap.size) :
    OwnG c (w.alloc (.cells X 5)) (.slice (some ⟨w.heap.size, 0, none⟩) l.length X.size) l := by
  have hn : (w.alloc (.cells X 5)).heap[w.heap.size]? = some (.cells X 5 (0, 0)) := heap_alloc_new w _
  refine .inl ⟨w.heap.size, 0, X.size, rfl, hc, by simp, hX, hm, fun i x hi => ?_, fun j hj => ⟨?_, ?_⟩⟩
  · rw [cell_of_row _ _ _ _ _ _ hn, Nat.zero_add, hl i x hi]; rfl
  · rw [cell_of_row _ _ _ _ _ _ hn, Nat.zero_add]; simp [hj]
  · rw [Nat.zero_add]; unfold World.frozen?; rw [hn]; simp
theorem append_G {ops : Array Oper} {rest : List Oper} {o : Oper} {a : Act} {Q : Exit → Act → World → Prop} (w : World) (hg : o.guard = none) (s x : Operand) (tx : TypeId) (hop : o.op = Op.call { callee := Callee.builtin Builtin.append, args := #[s, x], argTypes := #[34, tx] })
    (c : Nat) (l l2 : List UInt8) (v u : Value) (hs : a.eval s = v) (h : OwnG c w v l) (hx : a.eval x = u) (h2 : Src Tryz.prog 1 tx u l2.length (l2.map cellB) w) (hb : l.length + l2.length ≤ 140737488355328) (hB : c ≤ w.heap.size)
    (k : ∀ v' w', OwnG c w' v' (l ++ l2) → Below c w w' → wpList Tryz.prog ops Q rest (a.put o.dst v') w') : wpList Tryz.prog ops Q (o :: rest) a w := by
  obtain ⟨i0, hi, hz0, hz1, hz2⟩ := info_parts i5
  have h2' : Src Tryz.prog i0.size tx u l2.length (l2.map cellB) w := by rw [hz1]; exact h2
  have grown : ∀ (base : Option Addr) (cap : Nat), (Builtin.firstCells i0.size l.length (.slice base l.length cap)).run Tryz.prog w.drew = .ok (l.map cellB).toArray w.drew → v = .slice base l.length cap → cap < l.length + l2.length → wpList Tryz.prog ops Q (o :: rest) a w := by
    intro base cap hold hv hlt
    subst hv
    have hge := grownCap_ge w (l.length + l2.length) cap 5
    have hcm : grownCap w (l.length + l2.length) cap 5 ≤ maxLen := grownCap_le_maxLen w (l.length + l2.length) cap 5 (by unfold maxLen; omega)
    have hrun := run_append_grow_src (P := Tryz.prog) w 34 tx o.type 5 i0 (.int .u8 0) Tryz.underlying34 hi hz0 base l.length cap (l.map cellB) hold u l2.length (l2.map cellB) h2' hlt (by omega) (by rw [hz2]; exact growslice_fits hlt (by omega))
    refine wpList_plain hg fun K hK' => ?_
    unfold Oper.wp
    simp [execOp, hop, resolve, invoke, builtin, hs, hx, hrun, Result.andThen]
    refine hK' _ _ (k _ _ ?_ ?_)
    · have hX : ((l.map cellB ++ l2.map cellB).toArray ++ Builtin.zeroCells (Value.int .u8 0).cells (grownCap w (l.length + l2.length) cap 5 - (l.length + l2.length))).size = grownCap w (l.length + l2.length) cap 5 := by
        simp only [Array.size_append, size_zeroCells, Value.cells]
        simp
        omega
      have := OwnG.fresh (c := c) (w := w.drew) (l ++ l2) ((l.map cellB ++ l2.map cellB).toArray ++ Builtin.zeroCells (Value.int .u8 0).cells (grownCap w (l.length + l2.length) cap 5 - (l.length + l2.length))) (by rw [hX, List.length_append]; exact hge) (by rw [hX]; exact hcm) (by
        intro i x hi
        have hlt := (List.getElem?_eq_some_iff.1 hi).1
        rw [List.length_append] at hlt
        rw [Array.getElem?_append_left (by simp; omega)]
        rw [List.getElem?_toArray, ← List.map_append, List.getElem?_map, hi]; rfl) hB
      rw [hX, List.length_append] at this
      simpa using this
    · exact Below.trans (b := w.drew) ⟨rfl, rfl, rfl, Nat.le_refl _, fun _ _ => rfl⟩ ((Below.refl c w.drew).alloc hB _)
  rcases h with ⟨g, off, cap, rfl, h2g, h3, h4, h5, h6, h7⟩ | ⟨rfl, rfl⟩
  · by_cases hr : l.length + l2.length ≤ cap
    · have hin : ∀ j, j < (l2.map cellB).length → (w.cell? ⟨g, off + l.length * i0.size + j, none⟩).isSome = true := fun j hj => by
        rw [List.length_map] at hj
        have := (h7 (l.length + j) (by omega)).1
        rw [hz1, Nat.mul_one, Nat.add_assoc]; exact this
      have hfz : ∀ j, j < (l2.map cellB).length → w.frozen? ⟨g, off + l.length * i0.size + j, none⟩ = false := fun j hj => by
        rw [List.length_map] at hj
        have := (h7 (l.length + j) (by omega)).2
        rw [hz1, Nat.mul_one, Nat.add_assoc]; exact this
      have hrun := run_append_room_src (P := Tryz.prog) w 34 tx o.type 5 i0 Tryz.underlying34 hi g off l.length cap u l2.length (l2.map cellB) h2' hr hin hfz
      refine wpList_plain hg fun K hK' => ?_
      unfold Oper.wp
      simp [execOp, hop, resolve, invoke, builtin, hs, hx, hrun, Result.andThen]
      refine hK' _ _ (k _ _ ?_ (below_setCells _ _ _ _ _ h2g))
      refine .inl ⟨g, off, cap, by rw [List.length_append], h2g, by rw [size_setCells]; exact h3, by rw [List.length_append]; exact hr, h5, ?_, fun j hj => ⟨?_, ?_⟩⟩
      · intro i x hi
        by_cases hil : i < l.length
        · rw [World.cell?_setCells_out g _ _ w _ (fun _ _ => .inl (by rw [hz1]; simp; omega))]
          rw [List.getElem?_append_left hil] at hi
          exact h6 i x hi
        · rw [List.getElem?_append_right (by omega)] at hi
          have hj : i - l.length < (l2.map cellB).length := by rw [List.length_map]; exact (List.getElem?_eq_some_iff.1 hi).1
          have := World.cell?_setCells_in g (l2.map cellB) (off + l.length * i0.size) w hin (i - l.length) hj
          rw [show off + l.length * i0.size + (i - l.length) = off + i by rw [hz1]; omega] at this
          rw [this]
          have e : (l2.map cellB)[i - l.length] = cellB x := by
            obtain ⟨h1, h2⟩ := List.getElem?_eq_some_iff.1 hi
            simp [h2]
          rw [e]; rfl
      · exact World.isSome_setCells g _ _ w _ (h7 j hj).1
      · rw [World.frozen?_setCells]; exact (h7 j hj).2
    · refine grown _ cap ?_ rfl (by omega)
      refine run_firstCells_some w.drew i0.size l.length ⟨g, off, none⟩ _ _ (l.map cellB) (by rw [hz1]; simp) (fun j u hj => ?_)
      rw [Addr.add_lit]
      rw [List.getElem?_map] at hj
      obtain ⟨c, hc, rfl⟩ := Option.map_eq_some_iff.1 hj
      exact h6 j c hc
  · by_cases hr : l2.length = 0
    · obtain rfl : l2 = [] := List.eq_nil_of_length_eq_zero hr
      have hc := h2'.cells
      simp only [List.length_nil, List.map_nil] at hc
      have hlen := h2'.len
      have hrun : (Builtin.append_ #[34, tx] o.type #[.slice none 0 0, u]).run Tryz.prog w = .ok (.slice none 0 0) w := by
        rcases h2'.kind with ⟨e', hk⟩ | hk <;> simp [Builtin.append_, run_underlying Tryz.underlying34, run_underlying hk, sizeOf, typeInfo, hi, hlen, hc]
      refine wpList_plain hg fun K hK' => ?_
      unfold Oper.wp
      simp [execOp, hop, resolve, invoke, builtin, hs, hx, hrun, Result.andThen]
      exact hK' _ _ (k _ _ (.inr ⟨rfl, rfl⟩) (Below.refl _ _))
    · exact grown none 0 (run_firstCells_none w.drew i0.size 0 0 0) rfl (by simp; omega)

set_option maxRecDepth 100000 in
theorem OwnG.new (w : World) (s : ByteArray) (hs : s.size ≤ 1000000) : OwnG w.heap.size (Lib.bytesWorld w 5 s) (.slice (some ⟨w.heap.size, 0, none⟩) s.size (grownCap w s.size 0 5)) s.data.toList := by
  have hl : s.data.toList.length = s.size := by simp
  have hc1 := grownCap_ge w s.size 0 5
  have hc2 := grownCap_le_maxLen w s.size 0 5 (by unfold maxLen; omega)
  have hz : (Lib.bytesCells w 5 s).size = grownCap w s.size 0 5 := by simp [Lib.bytesCells]; omega
  refine .inl ⟨w.heap.size, 0, _, by rw [hl], Nat.le_refl _, by rw [Lib.bytesWorld_size]; omega, by rw [hl]; exact hc1, hc2, fun i x hx => ?_, fun j hj => ⟨?_, ?_⟩⟩
  · have hi : i < s.size := by rw [← hl]; exact (List.getElem?_eq_some_iff.1 hx).1
    have := Lib.bytesWorld_cell w 5 s i hi
    rw [Nat.zero_add, this]
    simp [List.getD, hx]
  · rw [Nat.zero_add]
    simp [World.cell?, Lib.bytesWorld_at_new, hz, hj]
  · rw [Nat.zero_add]
    unfold World.frozen?
    rw [Lib.bytesWorld_at_new]
    simp [hz]
    omega
/-- A row over a part of which another is laid. -/
def ovL (l s : List UInt8) (p : Nat) : List UInt8 := l.take p ++ s ++ l.drop (p + s.length)
theorem ovL_len (l s : List UInt8) (p : Nat) (h : p + s.length ≤ l.length) : (ovL l s p).length = l.length := by
  unfold ovL
  rw [List.length_append, List.length_append, List.length_take, List.length_drop]
  omega
theorem wpList_copy_G {ops : Array Oper} {rest : List Oper} {o : Oper} {a : Act} {Q : Exit → Act → World → Prop} (w : World) (hg : o.guard = none) (d x : Operand) (hop : o.op = Op.call { callee := Callee.builtin Builtin.copy, args := #[d, x], argTypes := #[34, 9] })
    (c g off n cap p : Nat) (l : List UInt8) (t : ByteArray) (hd : a.eval d = .slice (some ⟨g, off + p, none⟩) (n - p) (cap - p)) (h : OwnG c w (.slice (some ⟨g, off, none⟩) n cap) l) (hx : a.eval x = .string t) (hle : p + t.size ≤ n)
    (k : ∀ w', OwnG c w' (.slice (some ⟨g, off, none⟩) n cap) (ovL l t.data.toList p) → Below c w w' → wpList Tryz.prog ops Q rest (a.put o.dst (goInt t.size)) w') : wpList Tryz.prog ops Q (o :: rest) a w := by
  obtain ⟨i0, hi, hz0, hz1, hz2⟩ := info_parts i5
  rcases h with ⟨g', off', cap', h1, h2, h3, h4, h5, h6, h7⟩ | ⟨_, h⟩
  · injection h1 with e1 e2 e3
    injection e1 with e1
    injection e1 with e1 e4
    subst e1 e3
    subst e2
    subst e4
    have hts : t.data.toList.length = t.size := by simp
    have hrun := Go.run_copy_string (P := Tryz.prog) w 34 9 o.type 5 g (off + p) (l.length - p) (cap - p) t Tryz.underlying34 (fun w => by simp [sizeOf, typeInfo, hi, hz1]) (by omega) (fun j hj => by rw [Nat.add_assoc]; exact (h7 (p + j) (by omega)).1) (fun j hj => by rw [Nat.add_assoc]; exact (h7 (p + j) (by omega)).2)
    refine wpList_plain hg fun K hK' => ?_
    unfold Oper.wp
    simp [execOp, hop, resolve, invoke, builtin, hd, hx, hrun, Result.andThen]
    refine hK' _ _ (k _ ?_ (below_setCells _ _ _ _ _ h2))
    have hl := ovL_len l t.data.toList p (by omega)
    refine .inl ⟨g, off, cap, by rw [hl], h2, by rw [size_setCells]; exact h3, by rw [hl]; exact h4, h5, ?_, fun j hj => ⟨?_, ?_⟩⟩
    · intro i x hi
      have hil : i < l.length := by rw [← hl]; exact (List.getElem?_eq_some_iff.1 hi).1
      unfold ovL at hi
      by_cases hip : i < p
      · rw [World.cell?_setCells_out g _ _ w _ (fun _ _ => .inl (by simp only; omega))]
        rw [List.append_assoc, List.getElem?_append_left (by rw [List.length_take]; omega), List.getElem?_take, if_pos hip] at hi
        exact h6 i x hi
      · by_cases hi2 : i < p + t.size
        · rw [List.append_assoc, List.getElem?_append_right (by rw [List.length_take]; omega), List.getElem?_append_left (by rw [List.length_take]; omega), List.length_take] at hi
          have hmp : min p l.length = p := by omega
          rw [hmp] at hi
          have := World.cell?_setCells_in g (t.data.toList.map fun x => Value.int .u8 (x.toNat : Int)) (off + p) w (fun j hj => by
            rw [List.length_map] at hj
            rw [Nat.add_assoc]
            exact (h7 (p + j) (by omega)).1) (i - p) (by rw [List.length_map]; omega)
          rw [show off + p + (i - p) = off + i by omega] at this
          rw [this]
          obtain ⟨q1, q2⟩ := List.getElem?_eq_some_iff.1 hi
          simp only [List.getElem_map, q2]
        · rw [World.cell?_setCells_out g _ _ w _ (fun _ _ => .inr (by rw [List.length_map]; simp only; omega))]
          rw [List.getElem?_append_right (by rw [List.length_append, List.length_take]; omega), List.getElem?_drop, List.length_append, List.length_take] at hi
          exact h6 i x (by rw [← hi, show p + t.data.toList.length + (i - (min p l.length + t.data.toList.length)) = i by omega])
    · exact World.isSome_setCells g _ _ w _ (h7 j hj).1
    · rw [World.frozen?_setCells]; exact (h7 j hj).2
  · cases h
theorem OwnG.back {c g off n cap : Nat} {w : World} {l : List UInt8} (h : OwnG c w (.slice (some ⟨g, off, none⟩) n cap) l) : (convert 34 9 (.slice (some ⟨g, off, none⟩) n cap)).run Tryz.prog w = .ok (.string ⟨l.toArray⟩) w := by
  rcases h with ⟨g', off', cap', h1, h2, h3, h4, h5, h6, h7⟩ | ⟨_, h⟩
  · obtain ⟨⟨e1, e4⟩, e2, e3⟩ : (g = g' ∧ off = off') ∧ n = l.length ∧ cap = cap' := by simpa using h1
    subst e1 e3
    subst e2
    subst e4
    refine run_convert_bytes_back (P := Tryz.prog) w 34 9 5 ⟨g, off, none⟩ cap l Tryz.underlying34 Tryz.underlying5 Tryz.underlying9 (fun j hj => ?_)
    have := h6 j l[j] (List.getElem?_eq_getElem hj)
    rw [Addr.add_lit, this]
  · cases h
end Go.Proofs.YtaomiglmahklfaaGreatDoor
