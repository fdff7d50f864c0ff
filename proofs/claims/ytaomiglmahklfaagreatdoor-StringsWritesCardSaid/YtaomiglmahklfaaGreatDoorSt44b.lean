/- A row of bytes that grows beside other things: nothing else turns. -/
import Derived.Test.YtaomiglmahklfaaGreatDoorSt44
namespace Go.Proofs.YtaomiglmahklfaaGreatDoor
open Go.ChangeShapes Go.WideShapes Go.ChangeAt Go.RowKit

theorem kp_setCells (B : Nat) (S : Nat → Prop) (w : World) (g o : Nat) (vs : List Value) (hg : ¬ S g) : Kp B S w (w.setCells g o vs) := by
  induction vs generalizing w o with
  | nil => exact Kp.refl _ _ _
  | cons v r ih => rw [World.setCells]; exact ((Kp.refl B S w).setCell (p := ⟨g, o, none⟩) (fun h => hg h.2) v).trans (ih _ _)
theorem append_H {ops : Array Oper} {rest : List Oper} {o : Oper} {a : Act} {Q : Exit → Act → World → Prop} (w : World) (hg : o.guard = none) (s x : Operand) (tx : TypeId) (hop : o.op = Op.call { callee := Callee.builtin Builtin.append, args := #[s, x], argTypes := #[34, tx] })
    (c : Nat) (l l2 : List UInt8) (v u : Value) (hs : a.eval s = v) (h : OwnG c w v l) (hx : a.eval x = u) (h2 : Src Tryz.prog 1 tx u l2.length (l2.map cellB) w) (hb : l.length + l2.length ≤ 140737488355328) (hB : c ≤ w.heap.size)
    (k : ∀ v' w', OwnG c w' v' (l ++ l2) → Kp w.heap.size (fun i => v.ownBlock ≠ some i) w w' → (v'.ownBlock = v.ownBlock ∨ ∃ g', v'.ownBlock = some g' ∧ w.heap.size ≤ g') → wpList Tryz.prog ops Q rest (a.put o.dst v') w') : wpList Tryz.prog ops Q (o :: rest) a w := by
  obtain ⟨i0, hi, hz0, hz1, hz2⟩ := info_parts i5
  have h2' : Src Tryz.prog i0.size tx u l2.length (l2.map cellB) w := by rw [hz1]; exact h2
  have grown : ∀ (base : Option Addr) (cap : Nat), (Builtin.firstCells i0.size l.length (.slice base l.length cap)).run Tryz.prog w.drew = .ok (l.map cellB).toArray w.drew → v = .slice base l.length cap → cap < l.length + l2.length → wpList Tryz.prog ops Q (o :: rest) a w := by
    intro base cap hold hv hlt
    subst hv
    have hge := grownCap_ge w (l.length + l2.length) cap 5
    have hcm : grownCap w (l.length + l2.length) cap 5 ≤ maxLen := grownCap_le_maxLen w (l.length + l2.length) cap 5 (by unfold maxLen; omega)
    have hrun := run_append_grow_src (P := Tryz.prog) w 34 tx o.type 5 i0 (.int .u8 0) Tryz.underlying34 hi hz0 base l.length cap (l.map cellB) hold u l2.length (l2.map cellB) h2' hlt (by omega) (by rw [hz2]; exact growslice_fits hlt (by omega))
    refine wpList_plain hg fun K hK' => ?_
    unfold Oper.wp
    simp [execOp, hop, resolve, invoke, builtin, hs, hx, hrun, Result.andThen]
    refine hK' _ _ (k _ _ ?_ ?_ ?_)
    · have hX : ((l.map cellB ++ l2.map cellB).toArray ++ Builtin.zeroCells (Value.int .u8 0).cells (grownCap w (l.length + l2.length) cap 5 - (l.length + l2.length))).size = grownCap w (l.length + l2.length) cap 5 := by
        simp only [Array.size_append, size_zeroCells, Value.cells]
        simp
        omega
      have := OwnG.fresh (c := c) (w := w.drew) (l ++ l2) ((l.map cellB ++ l2.map cellB).toArray ++ Builtin.zeroCells (Value.int .u8 0).cells (grownCap w (l.length + l2.length) cap 5 - (l.length + l2.length))) (by rw [hX, List.length_append]; exact hge) (by rw [hX]; exact hcm) (by
        intro i x hi
        have hlt := (List.getElem?_eq_some_iff.1 hi).1
        rw [List.length_append] at hlt
        rw [Array.getElem?_append_left (by simp; omega)]
        rw [List.getElem?_toArray, ← List.map_append, List.getElem?_map, hi]; rfl) hB
      rw [hX, List.length_append] at this
      simpa using this
    · exact (Kp.refl _ _ w).drew.alloc (Nat.le_refl _) _
    · exact .inr ⟨w.heap.size, rfl, Nat.le_refl _⟩
  rcases h with ⟨g, off, cap, rfl, h2g, h3, h4, h5, h6, h7⟩ | ⟨rfl, rfl⟩
  · by_cases hr : l.length + l2.length ≤ cap
    · have hin : ∀ j, j < (l2.map cellB).length → (w.cell? ⟨g, off + l.length * i0.size + j, none⟩).isSome = true := fun j hj => by
        rw [List.length_map] at hj
        have := (h7 (l.length + j) (by omega)).1
        rw [hz1, Nat.mul_one, Nat.add_assoc]; exact this
      have hfz : ∀ j, j < (l2.map cellB).length → w.frozen? ⟨g, off + l.length * i0.size + j, none⟩ = false := fun j hj => by
        rw [List.length_map] at hj
        have := (h7 (l.length + j) (by omega)).2
        rw [hz1, Nat.mul_one, Nat.add_assoc]; exact this
      have hrun := run_append_room_src (P := Tryz.prog) w 34 tx o.type 5 i0 Tryz.underlying34 hi g off l.length cap u l2.length (l2.map cellB) h2' hr hin hfz
      refine wpList_plain hg fun K hK' => ?_
      unfold Oper.wp
      simp [execOp, hop, resolve, invoke, builtin, hs, hx, hrun, Result.andThen]
      refine hK' _ _ (k _ _ ?_ (kp_setCells _ _ _ _ _ _ (fun h => h rfl)) (.inl rfl))
      refine .inl ⟨g, off, cap, by rw [List.length_append], h2g, by rw [size_setCells]; exact h3, by rw [List.length_append]; exact hr, h5, ?_, fun j hj => ⟨?_, ?_⟩⟩
      · intro i x hi
        by_cases hil : i < l.length
        · rw [World.cell?_setCells_out g _ _ w _ (fun _ _ => .inl (by rw [hz1]; simp; omega))]
          rw [List.getElem?_append_left hil] at hi
          exact h6 i x hi
        · rw [List.getElem?_append_right (by omega)] at hi
          have hj : i - l.length < (l2.map cellB).length := by rw [List.length_map]; exact (List.getElem?_eq_some_iff.1 hi).1
          have := World.cell?_setCells_in g (l2.map cellB) (off + l.length * i0.size) w hin (i - l.length) hj
          rw [show off + l.length * i0.size + (i - l.length) = off + i by rw [hz1]; omega] at this
          rw [this]
          have e : (l2.map cellB)[i - l.length] = cellB x := by
            obtain ⟨h1, h2⟩ := List.getElem?_eq_some_iff.1 hi
            simp [h2]
          rw [e]; rfl
      · exact World.isSome_setCells g _ _ w _ (h7 j hj).1
      · rw [World.frozen?_setCells]; exact (h7 j hj).2
    · refine grown _ cap ?_ rfl (by omega)
      refine run_firstCells_some w.drew i0.size l.length ⟨g, off, none⟩ _ _ (l.map cellB) (by rw [hz1]; simp) (fun j u hj => ?_)
      rw [Addr.add_lit]
      rw [List.getElem?_map] at hj
      obtain ⟨c, hc, rfl⟩ := Option.map_eq_some_iff.1 hj
      exact h6 j c hc
  · by_cases hr : l2.length = 0
    · obtain rfl : l2 = [] := List.eq_nil_of_length_eq_zero hr
      have hc := h2'.cells
      simp only [List.length_nil, List.map_nil] at hc
      have hlen := h2'.len
      have hrun : (Builtin.append_ #[34, tx] o.type #[.slice none 0 0, u]).run Tryz.prog w = .ok (.slice none 0 0) w := by
        rcases h2'.kind with ⟨e', hk⟩ | hk <;> simp [Builtin.append_, run_underlying Tryz.underlying34, run_underlying hk, sizeOf, typeInfo, hi, hlen, hc]
      refine wpList_plain hg fun K hK' => ?_
      unfold Oper.wp
      simp [execOp, hop, resolve, invoke, builtin, hs, hx, hrun, Result.andThen]
      exact hK' _ _ (k _ _ (.inr ⟨rfl, rfl⟩) (Kp.refl _ _ _) (.inl rfl))
    · exact grown none 0 (run_firstCells_none w.drew i0.size 0 0 0) rfl (by simp; omega)

theorem wpList_copy_H {ops : Array Oper} {rest : List Oper} {o : Oper} {a : Act} {Q : Exit → Act → World → Prop} (w : World) (hg : o.guard = none) (d x : Operand) (hop : o.op = Op.call { callee := Callee.builtin Builtin.copy, args := #[d, x], argTypes := #[34, 9] })
    (c g off n cap p : Nat) (l : List UInt8) (t : ByteArray) (hd : a.eval d = .slice (some ⟨g, off + p, none⟩) (n - p) (cap - p)) (h : OwnG c w (.slice (some ⟨g, off, none⟩) n cap) l) (hx : a.eval x = .string t) (hle : p + t.size ≤ n)
    (k : ∀ w', OwnG c w' (.slice (some ⟨g, off, none⟩) n cap) (ovL l t.data.toList p) → Kp w.heap.size (fun i => i ≠ g) w w' → wpList Tryz.prog ops Q rest (a.put o.dst (goInt t.size)) w') : wpList Tryz.prog ops Q (o :: rest) a w := by
  obtain ⟨i0, hi, hz0, hz1, hz2⟩ := info_parts i5
  rcases h with ⟨g', off', cap', h1, h2, h3, h4, h5, h6, h7⟩ | ⟨_, h⟩
  · injection h1 with e1 e2 e3
    injection e1 with e1
    injection e1 with e1 e4
    subst e1 e3
    subst e2
    subst e4
    have hts : t.data.toList.length = t.size := by simp
    have hrun := Go.run_copy_string (P := Tryz.prog) w 34 9 o.type 5 g (off + p) (l.length - p) (cap - p) t Tryz.underlying34 (fun w => by simp [sizeOf, typeInfo, hi, hz1]) (by omega) (fun j hj => by rw [Nat.add_assoc]; exact (h7 (p + j) (by omega)).1) (fun j hj => by rw [Nat.add_assoc]; exact (h7 (p + j) (by omega)).2)
    refine wpList_plain hg fun K hK' => ?_
    unfold Oper.wp
    simp [execOp, hop, resolve, invoke, builtin, hd, hx, hrun, Result.andThen]
    refine hK' _ _ (k _ ?_ (kp_setCells _ _ _ _ _ _ (fun h => h rfl)))
    have hl := ovL_len l t.data.toList p (by omega)
    refine .inl ⟨g, off, cap, by rw [hl], h2, by rw [size_setCells]; exact h3, by rw [hl]; exact h4, h5, ?_, fun j hj => ⟨?_, ?_⟩⟩
    · intro i x hi
      have hil : i < l.length := by rw [← hl]; exact (List.getElem?_eq_some_iff.1 hi).1
      unfold ovL at hi
      by_cases hip : i < p
      · rw [World.cell?_setCells_out g _ _ w _ (fun _ _ => .inl (by simp only; omega))]
        rw [List.append_assoc, List.getElem?_append_left (by rw [List.length_take]; omega), List.getElem?_take, if_pos hip] at hi
        exact h6 i x hi
      · by_cases hi2 : i < p + t.size
        · rw [List.append_assoc, List.getElem?_append_right (by rw [List.length_take]; omega), List.getElem?_append_left (by rw [List.length_take]; omega), List.length_take] at hi
          have hmp : min p l.length = p := by omega
          rw [hmp] at hi
          have := World.cell?_setCells_in g (t.data.toList.map fun x => Value.int .u8 (x.toNat : Int)) (off + p) w (fun j hj => by
            rw [List.length_map] at hj
            rw [Nat.add_assoc]
            exact (h7 (p + j) (by omega)).1) (i - p) (by rw [List.length_map]; omega)
          rw [show off + p + (i - p) = off + i by omega] at this
          rw [this]
          obtain ⟨q1, q2⟩ := List.getElem?_eq_some_iff.1 hi
          simp only [List.getElem_map, q2]
        · rw [World.cell?_setCells_out g _ _ w _ (fun _ _ => .inr (by rw [List.length_map]; simp only; omega))]
          rw [List.getElem?_append_right (by rw [List.length_append, List.length_take]; omega), List.getElem?_drop, List.length_append, List.length_take] at hi
          exact h6 i x (by rw [← hi, show p + t.data.toList.length + (i - (min p l.length + t.data.toList.length)) = i by omega])
    · exact World.isSome_setCells g _ _ w _ (h7 j hj).1
    · rw [World.frozen?_setCells]; exact (h7 j hj).2
  · cases h
theorem OwnG.own_ge {c g : Nat} {w : World} {v : Value} {l : List UInt8} (h : OwnG c w v l) (hv : v.ownBlock = Option.some g) : c ≤ g ∧ g < w.heap.size := by
  rcases h with ⟨g', off, cap, rfl, h2, h3, _⟩ | ⟨_, rfl⟩
  · cases hv
    exact ⟨h2, h3⟩
  · cases hv
theorem LW.keptO {W0 X X' : World} {bS bM c : Nat} {l : MapT.Ents} {S : Nat → Prop} (h : LW W0 X bS bM l) (hS : bS < c) (hM : bM < c) (hc : W0.heap.size ≤ c) (hcX : c ≤ X.heap.size) (hs : ∀ i, i < c → S i) (hK : Kp X.heap.size S X X') : LW W0 X' bS bM l :=
  ⟨h.sp.kept (hK.block bS (by omega) (hs bS hS)) (hK.block bM (by omega) (hs bM hM)), h.below.trans (hK.below (fun k hk => ⟨by omega, hs k (by omega)⟩)), h.hS, h.hM⟩
/-- A reply that lies in a block of its own, stored behind the call. -/
theorem fin4 {W0 Y X : World} {bS bM b : Nat} {l : MapT.Ents} {a0 a1 a2 a3 : Value} (h : LW W0 X bS bM l) (hb : X.heap[b]? = some (.cells #[a0, a1, a2, a3] 37)) (hK : Kp Y.heap.size (fun i => i ≠ bS ∧ i ≠ bM) Y X) (hy : Y.heap.size ≤ b) (hw : W0.heap.size ≤ Y.heap.size) (v0 v1 v2 v3 : Value) :
    ((((X.setCell ⟨b, 0, none⟩ v0).setCell ⟨b, 1, none⟩ v1).setCell ⟨b, 2, none⟩ v2).setCell ⟨b, 3, none⟩ v3).heap[b]? = some (.cells #[v0, v1, v2, v3] 37) ∧
    LW W0 ((((X.setCell ⟨b, 0, none⟩ v0).setCell ⟨b, 1, none⟩ v1).setCell ⟨b, 2, none⟩ v2).setCell ⟨b, 3, none⟩ v3) bS bM l ∧
    Kp Y.heap.size (fun i => i ≠ bS ∧ i ≠ bM) Y ((((X.setCell ⟨b, 0, none⟩ v0).setCell ⟨b, 1, none⟩ v1).setCell ⟨b, 2, none⟩ v2).setCell ⟨b, 3, none⟩ v3) ∧ Y.heap.size ≤ b := by
  obtain ⟨n1, n2⟩ := h.sp.ne37 hb
  have hk : ∀ o v (Z : World), Kp Y.heap.size (fun i => i ≠ bS ∧ i ≠ bM) Y Z → Kp Y.heap.size (fun i => i ≠ bS ∧ i ≠ bM) Y (Z.setCell ⟨b, o, none⟩ v) := fun o v Z hZ => hZ.setCell (p := ⟨b, o, none⟩) (fun hh => by have := hh.1; show False; simp only at this; omega) v
  have hl : ∀ o v (Z : World), Below W0.heap.size W0 Z → Below W0.heap.size W0 (Z.setCell ⟨b, o, none⟩ v) := fun o v Z hZ => hZ.setCell (p := ⟨b, o, none⟩) (Nat.le_trans hw hy) v
  exact ⟨set4 hb v0 v1 v2 v3, ⟨h.sp.kept (far4 _ _ _ _ (Ne.symm n1)) (far4 _ _ _ _ (Ne.symm n2)), hl _ _ _ (hl _ _ _ (hl _ _ _ (hl _ _ _ h.below))), h.hS, h.hM⟩, hk _ _ _ (hk _ _ _ (hk _ _ _ (hk _ _ _ hK))), hy⟩
theorem fin1 {W0 Y X : World} {bS bM : Nat} {l : MapT.Ents} (h : LW W0 X bS bM l) (hK : Kp Y.heap.size (fun i => i ≠ bS ∧ i ≠ bM) Y X) (o : Obj) :
    (X.alloc o).heap[X.heap.size]? = some o ∧ LW W0 (X.alloc o) bS bM l ∧ Kp Y.heap.size (fun i => i ≠ bS ∧ i ≠ bM) Y (X.alloc o) ∧ Y.heap.size ≤ X.heap.size :=
  ⟨heap_alloc_new X o, h.old alloc_old, hK.alloc hK.size o, hK.size⟩
end Go.Proofs.YtaomiglmahklfaaGreatDoor
