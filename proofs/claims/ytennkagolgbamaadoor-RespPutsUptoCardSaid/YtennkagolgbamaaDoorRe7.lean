/- Rows of bytes that the call itself has made: appending to them. -/
import Derived.Test.YtennkagolgbamaaDoorRe6
import Derived.ArgAppend
import Derived.Deep.MidRow
import Derived.Deep.Upon
namespace Go.Proofs.YtennkagolgbamaaDoor
open Go.ChangeShapes Go.WideShapes Go.ChangeAt Go.RowKit Go.Resp

theorem Tryd.info5 : (Tryd.prog.info? 5).map (fun i => (i.zero, i.size, i.bytes)) = some (some (.int .u8 0), 1, 1) := by kernel_rfl
/-- A row of bytes that the call itself has made, at the head of its block: it may be appended to. -/
def OwnB (B : Nat) (w : World) (v : Value) (l : List UInt8) : Prop := ∃ g cap, v = .slice (some ⟨g, 0, none⟩) l.length cap ∧ B ≤ g ∧ g < w.heap.size ∧ l.length ≤ cap ∧ cap ≤ maxLen ∧ Bytes w g 0 l ∧
  ∀ j, j < cap → (w.cell? ⟨g, j, none⟩).isSome = true ∧ w.frozen? ⟨g, j, none⟩ = false
theorem OwnB.below {B : Nat} {w w' : World} {v : Value} {l : List UInt8} (h : OwnB B w v l) (hb : Below w.heap.size w w') : OwnB B w' v l := by
  obtain ⟨g, cap, h1, h2, h3, h4, h5, h6, h7⟩ := h
  have hs := Below.size hb
  refine ⟨g, cap, h1, h2, by omega, h4, h5, h6.below hb h3, fun j hj => ?_⟩
  rw [hb.cell (p := ⟨g, j, none⟩) h3, hb.frozen (p := ⟨g, j, none⟩) h3]
  exact h7 j hj
theorem OwnB.slice {B : Nat} {w : World} {v : Value} {l : List UInt8} (h : OwnB B w v l) : BSl w v l := by
  obtain ⟨g, cap, rfl, h2, h3, h4, h5, h6, h7⟩ := h
  exact ⟨_, _, rfl, h4, h5, fun _ => ⟨g, 0, rfl, h3, h6⟩⟩
theorem OwnB.bytes (w : World) (s : ByteArray) (hs : s.size ≤ maxLen) : OwnB w.heap.size (Lib.bytesWorld w 5 s) (.slice (some ⟨w.heap.size, 0, none⟩) s.size (grownCap w s.size 0 5)) s.data.toList := by
  have e : s.data.toList.length = s.size := by simp
  have hc1 := grownCap_ge w s.size 0 5
  have hc2 := grownCap_le_maxLen w s.size 0 5 hs
  have hn := Lib.bytesWorld_at_new w 5 s
  have hz : (Lib.bytesCells w 5 s).size = grownCap w s.size 0 5 := by
    unfold Lib.bytesCells
    simp
    omega
  refine ⟨_, _, by rw [e], Nat.le_refl _, by rw [Lib.bytesWorld_size]; omega, by omega, hc2, ?_, fun j hj => ⟨?_, ?_⟩⟩
  · intro i c hc
    have hi : i < s.size := by rw [← e]; exact (List.getElem?_eq_some_iff.1 hc).1
    rw [Nat.zero_add, Lib.bytesWorld_cell w 5 s i hi, getD_of hc]
  · unfold World.cell?
    rw [hn]
    simp [hz, hj]
  · unfold World.frozen?
    rw [hn]
    simp [hz]
    omega

def cellB (c : UInt8) : Value := .int .u8 (c.toNat : Int)
theorem OwnB.of_own {B : Nat} {w : World} {v : Value} {l : List UInt8} (h : w.ownsRow B 5 1 v l.length (l.map cellB)) (hne : l ≠ []) : OwnB B w v l := by
  rcases h.2 with ⟨_, h0⟩ | ⟨g, cap, cur, hv, hB, hh, hn, hc, hs, ht⟩
  · exact absurd (List.eq_nil_of_length_eq_zero h0) hne
  · refine ⟨g, cap, hv, hB, (Array.getElem?_eq_some_iff.1 hh).1, hn, hc, ?_, fun j hj => ⟨?_, ?_⟩⟩
    · intro i c hi
      have := World.ownsRow.cells h (g := g) (by rw [hv]; rfl) i (cellB c) (by rw [List.getElem?_map, hi]; rfl)
      refine Eq.trans ?_ this
      unfold Addr.add
      by_cases h0 : i = 0
      · subst h0; simp
      · simp [h0]
    · unfold World.cell?
      rw [hh]
      simp; omega
    · unfold World.frozen?
      rw [hh]
      simp
theorem size_setCells (w : World) (g o : Nat) (vs : List Value) : (w.setCells g o vs).heap.size = w.heap.size := by
  induction vs generalizing w o with
  | nil => rfl
  | cons v r ih => rw [World.setCells, ih]; simp
theorem below_setCells (B : Nat) (w : World) (g o : Nat) (vs : List Value) (hg : B ≤ g) : Below B w (w.setCells g o vs) := by
  induction vs generalizing w o with
  | nil => exact Below.refl _ _
  | cons v r ih => rw [World.setCells]; exact ((Below.refl B w).setCell (by exact hg) v).trans (ih _ _)
theorem append_B {ops : Array Oper} {rest : List Oper} {o : Oper} {a : Act} {Q : Exit → Act → World → Prop} (w : World) (hg : o.guard = none) (s x : Operand) (hop : o.op = Op.call { callee := Callee.builtin Builtin.append, args := #[s, x], argTypes := #[27, 27] })
    (B : Nat) (l l2 : List UInt8) (v u : Value) (hs : a.eval s = v) (h : OwnB B w v l) (hx : a.eval x = u) (h2 : BSl w u l2) (hne : l2 ≠ []) (hb : l.length + l2.length ≤ 140737488355328) (_hB : B ≤ w.heap.size)
    (k : ∀ v' w', OwnB B w' v' (l ++ l2) → Below B w w' → wpList Tryd.prog ops Q rest (a.put o.dst v') w') : wpList Tryd.prog ops Q (o :: rest) a w := by
  obtain ⟨i0, hi, hz0, hz1, hz2⟩ := info_parts Tryd.info5
  obtain ⟨g, cap, rfl, hBg, hlt, hlc, hcm, hcell, hsp⟩ := h
  obtain ⟨A, cap2, rfl, h21, h22, h23⟩ := h2
  obtain ⟨blk, off, rfl, hblk, hby⟩ := h23 hne
  refine wpList_append_arg w hg s x 27 hop 5 i0 (.int .u8 0) 1 1 Tryd.underlying27 hi hz0 hz1 hz2 rfl (by decide) g 0 l.length cap (l.map cellB) hs (by simp) ?_ ⟨blk, off, none⟩ l2.length cap2 (l2.map cellB) hx (by simp) ?_ ?_ ?_ (by unfold maxLen; omega) (by omega) ?_ ?_
  · intro j u hj
    rw [List.getElem?_map] at hj
    obtain ⟨c, hc, rfl⟩ := Option.map_eq_some_iff.1 hj
    exact hcell j c hc
  · intro j u hj
    rw [List.getElem?_map] at hj
    obtain ⟨c, hc, rfl⟩ := Option.map_eq_some_iff.1 hj
    have := hby j c hc
    rw [show cellB c = .int .u8 (c.toNat : Int) from rfl, ← this]
    unfold Addr.add
    by_cases h0 : j = 0
    · subst h0; simp
    · simp [h0]
  · intro u hu
    obtain ⟨c, _, rfl⟩ := List.mem_map.1 hu
    rfl
  · intro hr j hj
    rw [List.length_map] at hj
    have := hsp (l.length + j) (by omega)
    simpa using this
  · intro hr
    have hin : ∀ j, j < (l2.map cellB).length → (w.cell? ⟨g, 0 + l.length * 1 + j, none⟩).isSome = true := fun j hj => by
      rw [List.length_map] at hj
      have := (hsp (l.length + j) (by omega)).1
      simpa using this
    refine k _ _ ⟨g, cap, by rw [List.length_append], hBg, by rw [size_setCells]; exact hlt, by rw [List.length_append]; exact hr, hcm, ?_, fun j hj => ⟨?_, ?_⟩⟩ (below_setCells B w g _ _ hBg)
    · intro i c hc
      by_cases hil : i < l.length
      · rw [World.cell?_setCells_out g _ _ w _ (fun _ _ => .inl (by simp; omega))]
        rw [List.getElem?_append_left hil] at hc
        exact hcell i c hc
      · rw [List.getElem?_append_right (by omega)] at hc
        have hj : i - l.length < (l2.map cellB).length := by rw [List.length_map]; exact (List.getElem?_eq_some_iff.1 hc).1
        have := World.cell?_setCells_in g (l2.map cellB) (0 + l.length * 1) w hin (i - l.length) hj
        rw [show 0 + l.length * 1 + (i - l.length) = 0 + i by omega] at this
        rw [this]
        have e : (l2.map cellB)[i - l.length] = cellB c := by
          obtain ⟨h1, h2⟩ := List.getElem?_eq_some_iff.1 hc
          simp [h2]
        rw [e]; rfl
    · exact World.isSome_setCells g _ _ w _ (hsp j hj).1
    · rw [World.frozen?_setCells]; exact (hsp j hj).2
  · intro hr v' w' hown hgr
    have e : l.map cellB ++ l2.map cellB = (l ++ l2).map cellB := by simp
    rw [e, ← List.length_append] at hown
    have h3 := OwnB.of_own hown (by simp [hne])
    obtain ⟨g', cap', h31, h32, h33⟩ := h3
    refine k v' w' ⟨g', cap', h31, by omega, h33⟩ ⟨hgr.os, hgr.tape, hgr.output, hgr.size, fun i hi => hgr.block i (by omega) (by simp)⟩
end Go.Proofs.YtennkagolgbamaaDoor
