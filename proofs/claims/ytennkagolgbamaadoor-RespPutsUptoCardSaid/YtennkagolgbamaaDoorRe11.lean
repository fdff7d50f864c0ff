/- Appending whatever bytes to a row of bytes that is nil or that the call itself has made. -/
import Derived.Test.YtennkagolgbamaaDoorRe9
import Derived.Deep.AppendSrc
namespace Go.Proofs.YtennkagolgbamaaDoor
open Go.ChangeShapes Go.WideShapes Go.ChangeAt Go.RowKit Go.Resp

def OwnN (B : Nat) (w : World) (v : Value) (l : List UInt8) : Prop := OwnB B w v l ∨ (l = [] ∧ v = .slice none 0 0)
theorem OwnN.below {B : Nat} {w w' : World} {v : Value} {l : List UInt8} (h : OwnN B w v l) (hb : Below w.heap.size w w') : OwnN B w' v l := by
  rcases h with h | h
  · exact .inl (h.below hb)
  · exact .inr h
theorem OwnN.slice {B : Nat} {w : World} {v : Value} {l : List UInt8} (h : OwnN B w v l) : BSl w v l := by
  rcases h with h | ⟨rfl, rfl⟩
  · exact h.slice
  · exact ⟨none, 0, rfl, Nat.le_refl _, Nat.zero_le _, fun h => absurd rfl h⟩
theorem BSl.src {w : World} {v : Value} {l : List UInt8} (h : BSl w v l) : Src Tryd.prog 1 27 v l.length (l.map cellB) w := by
  obtain ⟨A, cap, rfl, h1, h2, h3⟩ := h
  by_cases hl : l = []
  · subst hl
    cases A with
    | none => exact Src.ofNil w Tryd.underlying27 cap
    | some a => exact Src.ofSlice w Tryd.underlying27 a 0 cap [] rfl (fun j u h => by cases h) (fun u h => by cases h)
  · obtain ⟨blk, off, rfl, h4, h5⟩ := h3 hl
    refine Src.ofSlice w Tryd.underlying27 ⟨blk, off, none⟩ l.length cap _ (by simp) (fun j u hj => ?_) (fun u hu => ?_)
    · rw [List.getElem?_map] at hj
      obtain ⟨c, hc, rfl⟩ := Option.map_eq_some_iff.1 hj
      have := h5 j c hc
      rw [show cellB c = .int .u8 (c.toNat : Int) from rfl, ← this]
      unfold Addr.add
      by_cases h0 : j = 0
      · subst h0; simp
      · simp [h0]
    · obtain ⟨c, _, rfl⟩ := List.mem_map.1 hu
      rfl
theorem run_append_nil_none {w : World} {x : Value} (ty : TypeId) (hs : Src Tryd.prog 1 27 x 0 [] w) : (Builtin.append_ #[27, 27] ty #[.slice none 0 0, x]).run Tryd.prog w = .ok (.slice none 0 0) w := by
  obtain ⟨i0, hi, hz0, hz1, hz2⟩ := info_parts Tryd.info5
  have hc := hs.cells
  rw [← hz1] at hc
  simp [Builtin.append_, run_underlying Tryd.underlying27, sizeOf, typeInfo, hi, hs.len, hc]
theorem append_N {ops : Array Oper} {rest : List Oper} {o : Oper} {a : Act} {Q : Exit → Act → World → Prop} (w : World) (hg : o.guard = none) (s x : Operand) (hop : o.op = Op.call { callee := Callee.builtin Builtin.append, args := #[s, x], argTypes := #[27, 27] })
    (B : Nat) (l l2 : List UInt8) (v u : Value) (hs : a.eval s = v) (h : OwnN B w v l) (hx : a.eval x = u) (h2 : BSl w u l2) (hb : l.length + l2.length ≤ 140737488355328) (hB : B ≤ w.heap.size)
    (k : ∀ v' w', OwnN B w' v' (l ++ l2) → Below B w w' → wpList Tryd.prog ops Q rest (a.put o.dst v') w') : wpList Tryd.prog ops Q (o :: rest) a w := by
  obtain ⟨i0, hi, hz0, hz1, hz2⟩ := info_parts Tryd.info5
  by_cases hne : l2 = []
  · subst hne
    rw [List.append_nil] at k
    have hsrc := h2.src
    rcases h with h | ⟨rfl, rfl⟩
    · have hO := h
      obtain ⟨g, cap, rfl, hBg, hlt, hlc, hcm, hcell, hsp⟩ := h
      have hrun := run_append_room_src (P := Tryd.prog) w 27 27 o.type 5 i0 Tryd.underlying27 hi g 0 l.length cap u 0 [] (by rw [hz1]; exact hsrc) hlc (fun j hj => by cases hj) (fun j hj => by cases hj)
      refine wpList_plain hg fun K hK' => ?_
      unfold Oper.wp
      simp [execOp, hop, resolve, invoke, builtin, hs, hx, hrun, Result.andThen]
      exact hK' _ _ (k _ _ (.inl hO) (Below.refl _ _))
    · have hrun := run_append_nil_none o.type hsrc
      refine wpList_plain hg fun K hK' => ?_
      unfold Oper.wp
      simp [execOp, hop, resolve, invoke, builtin, hs, hx, hrun, Result.andThen]
      exact hK' _ _ (k _ _ (.inr ⟨rfl, rfl⟩) (Below.refl _ _))
  · rcases h with h | ⟨rfl, rfl⟩
    · exact append_B w hg s x hop B l l2 v u hs h hx h2 hne hb hB (fun v' w' h1 h2 => k v' w' (.inl h1) h2)
    · obtain ⟨A, cap2, rfl, h21, h22, h23⟩ := h2
      obtain ⟨blk, off, rfl, hblk, hby⟩ := h23 hne
      have hlen : 0 < l2.length := List.length_pos_iff.2 hne
      refine wpList_append_grows w hg s x 27 hop 5 i0 (.int .u8 0) 1 1 Tryd.underlying27 hi hz0 hz1 hz2 rfl (by decide) none 0 0 [] hs (fun _ => ⟨rfl, rfl⟩) rfl (fun _ h => by cases h) ⟨blk, off, none⟩ l2.length cap2 (l2.map cellB) hx (by simp) ?_ ?_ (by omega) (by unfold maxLen; simp at hb; omega) (by simp at hb; omega) ?_
      · intro j u hj
        rw [List.getElem?_map] at hj
        obtain ⟨c, hc, rfl⟩ := Option.map_eq_some_iff.1 hj
        have := hby j c hc
        rw [show cellB c = .int .u8 (c.toNat : Int) from rfl, ← this]
        unfold Addr.add
        by_cases h0 : j = 0
        · subst h0; simp
        · simp [h0]
      · intro u hu
        obtain ⟨c, _, rfl⟩ := List.mem_map.1 hu
        rfl
      · intro v' w' hown hgr
        rw [Nat.zero_add, List.nil_append] at hown
        have h3 := OwnB.of_own hown hne
        obtain ⟨g', cap', h31, h32, h33⟩ := h3
        refine k v' w' (.inl ⟨g', cap', h31, by omega, h33⟩) ⟨hgr.os, hgr.tape, hgr.output, hgr.size, fun i hi => hgr.block i (by omega) (by simp)⟩
/-- What Read hands back, as a slice of texts. -/
theorem SSl.of_own {B : Nat} {w : World} {v : Value} {xs : List (List UInt8)} (h : w.ownsRow B 9 1 v xs.length (xs.map strV)) (hm : xs.length ≤ 1024) : SSl w v (xs.map fun l => ⟨l.toArray⟩) := by
  rcases h.2 with ⟨hv, h0⟩ | ⟨g, cap, cur, hv, hB, hh, hn, hc, hs, ht⟩
  · obtain rfl : xs = [] := List.eq_nil_of_length_eq_zero h0
    exact ⟨none, 0, hv, Nat.le_refl _, Nat.zero_le _, fun h => absurd rfl h⟩
  · refine ⟨_, cap, by rw [hv, List.length_map], by rw [List.length_map]; exact hn, hc, fun _ => ⟨g, 0, rfl, (Array.getElem?_eq_some_iff.1 hh).1, fun i s hs => ?_⟩⟩
    rw [List.getElem?_map] at hs
    obtain ⟨c, hc, rfl⟩ := Option.map_eq_some_iff.1 hs
    have := World.ownsRow.cells h (g := g) (by rw [hv]; rfl) i (strV c) (by rw [List.getElem?_map, hc]; rfl)
    refine Eq.trans ?_ this
    unfold Addr.add
    by_cases h0 : i = 0
    · subst h0; simp
    · simp [h0]
theorem frameL_P (xs : List ByteArray) : frameL xs = frameP (xs.map fun s => s.data.toList) := by
  unfold frameL frameP
  rw [List.length_map, List.flatMap_map]
  congr 2
theorem bytes_back (xs : List ByteArray) : (xs.map fun s => s.data.toList).map (fun l => (⟨l.toArray⟩ : ByteArray)) = xs := by
  rw [List.map_map]
  conv => rhs; rw [← List.map_id xs]
  rfl
end Go.Proofs.YtennkagolgbamaaDoor
