/- Texts joined: Tb6, Tb7, Tb8 -/
import Derived.Test.YticlacjpgjkhcaaGreatDoorQh16
import Derived.Test.YticlacjpgjkhcaaGreatDoorQh13
import Derived.Test.YticlacjpgjkhcaaGreatDoorQh17
import Derived.Sort.OwnSorted
import Derived.Lib.SliceRun

/- A table's names. -/
namespace Go.Proofs.YticlacjpgjkhcaaGreatDoor
open Go.ChangeShapes Go.WideShapes Go.ChangeAt Go.RowKit

theorem encStr_bl (ns : List ByteArray) : (ns.map bl).map encStr = ns.map Value.string := by
  rw [List.map_map]
  refine List.map_congr_left fun s _ => ?_
  show encStr (bl s) = .string s
  unfold encStr bl
  congr 1
/-- slices.Sort of a row of texts of the call's own. -/
theorem Sort_TO (c : Nat) (A : Option Addr) (C : Nat) (ns : List ByteArray) (hn : ns.length ≤ 1000000) (w : World) (h : TO w c (.slice A ns.length C) ns) : Calls Tryz.prog 91 #[.slice A ns.length C] w fun e w' => e = .returned (.tuple #[]) ∧ TO w' c (.slice A ns.length C) (srtN ns) ∧ w.grownBy w' (Value.slice A ns.length C).ownBlock := by
  have h' := h
  unfold TO World.ownsRow at h'
  obtain ⟨hl, ⟨h1, h0⟩ | ⟨g, cap, cur, h1, h2, h3, h4, h5, h6, h7⟩⟩ := h'
  · obtain rfl : ns = [] := List.length_eq_zero_iff.1 h0
    cases h1
    refine (Tryz.slices_Sort_string_none none 0 w).mono ?_
    rintro e w' ⟨rfl, rfl⟩
    refine ⟨rfl, ?_, ⟨rfl, rfl, rfl, Nat.le_refl _, fun _ _ _ => rfl⟩⟩
    have e : srtN [] = [] := by simp [srtN]
    rw [e]
    exact h
  · cases h1
    have hH : Go.Sort.Holds encStr w g 0 (ns.map bl).toArray := by
      intro j hj
      have hj' : j < ns.length := by simpa using hj
      obtain ⟨s, hs⟩ : ∃ s, ns[j]? = some s := ⟨_, List.getElem?_eq_getElem hj'⟩
      refine ⟨?_, frozen_of_row w g _ _ _ h3⟩
      rw [Nat.zero_add, row_cell h j (.string s) (by rw [List.getElem?_map, hs]; rfl)]
      have e1 := congrArg (fun l : List Value => l[j]?) (encStr_bl ns)
      simp only [List.getElem?_map, hs, Option.map_some] at e1
      rw [← Option.some.inj e1]
      congr 1
      rw [getElem!_pos _ j (by simpa using hj')]
      obtain ⟨q1, q2⟩ := List.getElem?_eq_some_iff.1 hs
      simp [q2]
    have hc := Tryz.slices_Sort_string g 0 C (ns.map bl) w hH (Array.getElem?_eq_some_iff.1 h3).1 (by simp; omega)
    rw [List.length_map] at hc
    refine hc.mono ?_
    rintro e w' ⟨rfl, m, os, rfl⟩
    refine ⟨rfl, ?_, Go.grownBy_sorted _⟩
    rw [← srtN_map]
    have ho := Go.ownsRow_sorted (w := w) (base := c) (g := g) (cap := C) (n := m) (os := os) (ss := ns.map bl) (ts := (srtN ns).map bl) (by simp [srtN_len]) h2 h3 (by simpa using h4) h5 h6
    unfold TO
    rw [srtN_len, ← encStr_bl]
    simpa using ho
theorem row_grown {w w' : World} {c c2 : Nat} {e e2 : TypeId} {m m2 : Nat} {v u : Value} {n n2 : Nat} {xs ys : List Value} (h : w.ownsRow c e m v n xs) (hG : w.grownBy w' u.ownBlock) (hu : w.ownsRow c2 e2 m2 u n2 ys) (hne : e ≠ e2) : w'.ownsRow c e m v n xs :=
  row_kept h fun b hb => hG.block b (row_own h b hb).2 fun e' => by
    obtain ⟨c1, h1⟩ := row_typ h b hb
    obtain ⟨c2, h2⟩ := row_typ hu b e'.symm
    rw [h1] at h2
    cases h2
    exact hne rfl
theorem row_one {w : World} {c : Nat} {e : TypeId} {m : Nat} {v : Value} {n : Nat} {xs : List Value} (h : w.ownsRow c e m v n xs) : v.oneCell' = true := by
  obtain ⟨A, C, rfl, _⟩ := row_form h
  rfl
/-- The names of the slots, one behind another. -/
def catN (D : List (ByteArray × Nat)) (j : Nat) : List ByteArray := namesD (catT slotT D j)
theorem catN_zero (D : List (ByteArray × Nat)) : catN D 0 = [] := rfl
theorem catN_succ (D : List (ByteArray × Nat)) (j : Nat) : catN D (j + 1) = catN D j ++ namesD (rowT slotT D j) := by
  unfold catN
  rw [catT_succ]
  simp [namesD]
theorem catN_all (D : List (ByteArray × Nat)) : srtN (catN D 8) = srtN (namesD D) := srtN_eq ((catT_all slotT D 8 slot_lt).map Prod.fst)
theorem catN_len (D : List (ByteArray × Nat)) (j : Nat) : (catN D j).length ≤ D.length := by
  unfold catN
  rw [len_names]
  have := (catT_perm slotT D j).length_eq
  rw [this]
  exact List.length_filter_le _ _
set_option maxRecDepth 100000 in
set_option maxHeartbeats 4000000 in
theorem names_T (c p g : Nat) (f : Nat → Value) (D : List (ByteArray × Nat)) (w : World) (h : TabT c w p g f D) : Calls Tryz.prog 140 #[.pointer (some ⟨p, 0, none⟩)] w fun e w' => ∃ v, e = .returned v ∧ TO w' w.heap.size v (srtN (namesD D)) ∧ Below w.heap.size w w' := by
  have H := Lib.hid h
  obtain ⟨⟨c0, c1, c2, c3, c4⟩, _⟩ := cells5 h.tab
  have B0 := Lib.hid (show Below w.heap.size w (w.alloc (.cells #[.slice (some ⟨g, 0, none⟩) 8 8, .slice none 0 0] 219)).drew from (alloc_old (w := w) (o := .cells #[.slice (some ⟨g, 0, none⟩) 8 8, .slice none 0 0] 219)).drew)
  have CC := Lib.hid (Concat_T w.heap.size g f (w.alloc (.cells #[.slice (some ⟨g, 0, none⟩) 8 8, .slice none 0 0] 219)).drew (heap_alloc_new w _) (blk_below h.slots B0.out) (fun j hj => row_one (h.row j hj)))
  clear h
  go_enter Tryz.func140, Tryz.ntmps140
  have SX := Lib.hid (show ∀ X, Below w.heap.size w X → (X.cell? ⟨p, 0, none⟩ = some (.slice (some ⟨g, 0, none⟩) 8 8) ∧ X.cell? ⟨p, 1, none⟩ = some (.slice none 0 0)) from fun X hb => by
    obtain ⟨⟨c0, c1, _⟩, _⟩ := cells5 (blk_below H.out.tab hb)
    exact ⟨c0, c1⟩)
  have S0 := SX.out w.drew (Below.refl _ _).drew
  have S1 := Lib.hid (SX.out _ B0.out)
  clear c0 c1 c2 c3 c4
  go_wp2
  go_region_held3 (fun X => X.cell? ⟨p, 0, none⟩ = some (.slice (some ⟨g, 0, none⟩) 8 8) ∧ X.cell? ⟨p, 1, none⟩ = some (.slice none 0 0)) (first | (with_reducible exact S0) | (with_reducible exact S1.out) | (with_reducible exact S2.out))
    (first | (go_at_call 189; (with_reducible refine (CC.out).mono ?_); rintro e w1 ⟨g1, C1, rfl, h1, h2⟩; have R1 := Lib.hid h1; have B1 := Lib.hid (B0.out.trans (h2.mono (by simp))); have S2 := Lib.hid (SX.out _ B1.out); clear h1 h2))
  clear CC S0 S1 S2
  go_wp2
  have N8 := Lib.hid (show ∀ j, j < 8 → ([f 0, f 1, f 2, f 3, f 4, f 5, f 6, f 7] : List Value)[j]? = some (f j) from fun j hj => by
    match j, hj with
    | 0, _ => rfl
    | 1, _ => rfl
    | 2, _ => rfl
    | 3, _ => rfl
    | 4, _ => rfl
    | 5, _ => rfl
    | 6, _ => rfl
    | 7, _ => rfl)
  go_loopw [3, 21] (fun ov iv wr => ∃ j : Nat, j ≤ 8 ∧ iv = .int .i64 j ∧ Hid (TO wr w.heap.size ov (catN D j) ∧ Below w.heap.size w wr ∧ wr.ownsRow (w.heap.size + 1) 217 1 (.slice (some ⟨g1, 0, none⟩) 8 C1) 8 [f 0, f 1, f 2, f 3, f 4, f 5, f 6, f 7])) (fun _ iv _ => 8 - (intOf iv).toNat)
  case atStart => exact ⟨0, Nat.zero_le _, rfl, Lib.hid ⟨World.ownsRow_nil _ _ _ _, B1.out, by have := R1.out; simpa using this⟩⟩
  case round =>
    obtain ⟨j, hj, rfl, HQ⟩ := hrel
    by_cases hlt : j < 8
    · have q1 : (j : Int) < 8 := by omega
      have cj := row_cell HQ.out.2.2 j (f j) (N8.out j hlt)
      have hR := H.out.row j hlt
      have hcs := catN_succ D j
      have hcl := catN_len D (j + 1)
      have h16 := H.out.few
      obtain ⟨l, hl⟩ : ∃ l, rowT slotT D j = l := ⟨_, rfl⟩
      rw [hl] at hR hcs
      obtain ⟨A, C, hf, hA, hC⟩ := row_form hR
      rw [hf] at cj hR
      have HR := Lib.hid hR
      have HCS := Lib.hid hcs
      have hll : (catN D j).length + l.length ≤ 16 := by
        rw [hcs, List.length_append, len_names] at hcl
        omega
      clear hR hcs hl hf hcl h16
      go_wp2
      go_loopw [3, 27] (fun ov iv wr => ∃ i : Nat, i ≤ l.length ∧ iv = .int .i64 i ∧ Hid (TO wr w.heap.size ov (catN D j ++ namesD (l.take i)) ∧ Below w.heap.size w wr ∧ wr.ownsRow (w.heap.size + 1) 217 1 (.slice (some ⟨g1, 0, none⟩) 8 C1) 8 [f 0, f 1, f 2, f 3, f 4, f 5, f 6, f 7])) (fun _ iv _ => l.length - (intOf iv).toNat)
      case atStart => exact ⟨0, Nat.zero_le _, rfl, Lib.hid ⟨by simpa [namesD] using HQ.out.1, HQ.out.2⟩⟩
      case round =>
        obtain ⟨i, hi, rfl, HI⟩ := hrel
        by_cases hli : i < l.length
        · obtain ⟨⟨y, u⟩, hs⟩ : ∃ x, l[i]? = some x := ⟨_, List.getElem?_eq_getElem hli⟩
          have q2 : (i : Int) < (l.length : Int) := by omega
          obtain ⟨gA, rfl⟩ : ∃ gA, A = some ⟨gA, 0, none⟩ := hA.resolve_left (by omega)
          have hR2 := row_below HR.out HI.out.2.1
          have d0 := row_cell hR2 (i * 2 + 0) (.string y) (pairC_at l i 0 (y, u) _ hs rfl)
          have d1 := row_cell hR2 (i * 2 + 1) (.int .i64 (u : Int)) (pairC_at l i 1 (y, u) _ hs rfl)
          rw [Nat.add_zero] at d0
          have hln : (catN D j ++ namesD (l.take i)).length = (catN D j).length + i := by
            rw [List.length_append, len_names, List.length_take]
            omega
          have htk : catN D j ++ namesD (l.take (i + 1)) = (catN D j ++ namesD (l.take i)) ++ [y] := by
            rw [List.take_add_one, hs]
            simp [namesD]
          have HLN := Lib.hid hln
          have HTK := Lib.hid htk
          have A1 := Lib.hid (alloc_old (w := wr) (o := .cells #[.string y, .int .i64 (u : Int)] 216))
          have A2 := Lib.hid (A1.out.trans ((alloc_old (w := wr.alloc (.cells #[.string y, .int .i64 (u : Int)] 216)) (o := .cells #[.string y] 9)).mono (by simp)))
          have b5 := Lib.hid (show ((wr.alloc (.cells #[.string y, .int .i64 (u : Int)] 216)).alloc (.cells #[.string y] 9)).heap[wr.heap.size + 1]? = some (.cells #[.string y] 9) from heap2L wr _)
          have R5 := Lib.hid (show TO _ w.heap.size _ _ from row_below HI.out.1 A2.out)
          have z5 := Lib.hid (Nat.le_trans (Below.size HI.out.2.1) (Below.size A2.out))
          clear hR2 hs hln htk
          go_wp2_with (first | (at_builtin; refine append_TO _ rfl _ _ rfl w.heap.size _ _ ((catN D j).length + i) HLN.out rfl R5.out [y] 1 rfl _ rfl b5.out (by decide) (by omega) z5.out ?_; intro g6 C6 w6 h6 h7 h8; have T6 := Lib.hid h6; have G6 := Lib.hid h7; clear h6 h7 h8))
          refine ⟨⟨i + 1, hli, by go_num, Lib.hid ⟨?_, ?_, ?_⟩⟩, by simp [intOf]; omega⟩
          · rw [HTK.out]
            exact T6.out
          · exact (HI.out.2.1.trans (A2.out.mono (Below.size HI.out.2.1))).grown G6.out z5.out (fun k hk => (row_own R5.out k hk).1)
          · exact row_grown (row_below HI.out.2.2 A2.out) G6.out R5.out (by decide)
        · obtain rfl : l.length = i := by omega
          have q2 : ¬ (l.length : Int) < (l.length : Int) := by omega
          go_wp2
          exact ⟨⟨j + 1, by omega, by go_num, Lib.hid ⟨by rw [HCS.out]; have := HI.out.1; rw [List.take_length] at this; exact this, HI.out.2⟩⟩, by simp [intOf]; omega⟩
    · obtain rfl : j = 8 := by omega
      obtain ⟨A9, C9, rfl, _, _⟩ := row_form HQ.out.1
      have SO := Lib.hid (Sort_TO w.heap.size A9 C9 (catN D 8) (by have := catN_len D 8; have := H.out.few; omega) _ HQ.out.1)
      go_wp2_with (first | (go_at_call 91; (with_reducible refine (SO.out).mono ?_); rintro e w9 ⟨rfl, h8, h9⟩; have T9 := Lib.hid h8; have G9 := Lib.hid h9; clear h8 h9))
      go_ret
      refine ⟨_, rfl, ?_, HQ.out.2.1.grown G9.out (Below.size HQ.out.2.1) (fun k hk => (row_own HQ.out.1 k hk).1)⟩
      have := T9.out
      rw [catN_all] at this
      exact this
end Go.Proofs.YticlacjpgjkhcaaGreatDoor

/- slices.Delete of one pair; a name is taken. -/
namespace Go.Proofs.YticlacjpgjkhcaaGreatDoor
open Go.ChangeShapes Go.WideShapes Go.ChangeAt Go.RowKit

/-- 'clear' of one element of two cells. -/
theorem run_clear_two (w : World) (t e ty : TypeId) (z z0 z1 : Value) (ht : Tryz.prog.underlying t = some (.slice e)) (hv : ∀ w, (zeroValue e).run Tryz.prog w = .ok z w) (hz : z.cells = #[z0, z1]) (h0 : z0.oneCell' = true) (h1 : z1.oneCell' = true) (b o c : Nat)
    (hc : ∀ j, j < 2 → (w.cell? ⟨b, o + j, none⟩).isSome = true) (hf : ∀ j, j < 2 → w.frozen? ⟨b, o + j, none⟩ = false) :
    (Builtin.clear_ #[t] ty #[.slice (some ⟨b, o, none⟩) 1 c]).run Tryz.prog w = .ok (.tuple #[]) (w.setCells b o [z0, z1]) := by
  have hzc : (Builtin.zeroCells z.cells 1).toList = [z0, z1] := by
    rw [hz]
    simp [Builtin.zeroCells]
    apply List.ext_getElem
    · simp
    · intro i h1 h2
      have : i < 2 := by simpa using h2
      match i, this with
      | 0, _ => simp
      | 1, _ => simp
  have hst := run_storeCells_cells (P := Tryz.prog) b o [z0, z1] 0 w (by simpa using hc) (by simpa using hf) (by
    intro v hv'
    simp at hv'
    rcases hv' with rfl | rfl
    · exact h0
    · exact h1)
  simp only [Nat.add_zero] at hst
  simp [Builtin.clear_, run_underlying ht, hv, hzc, hst]
theorem zeroPair (w : World) : (zeroValue 216).run Tryz.prog w = .ok (.agg #[.string ⟨#[]⟩, .int .i64 0]) w := by kernel_rfl
theorem pair_one (l : List (ByteArray × Nat)) : ∀ u ∈ l.flatMap pairC, u.oneCell' = true := by
  intro u hu
  obtain ⟨p, _, h⟩ := List.mem_flatMap.1 hu
  simp [pairC] at h
  rcases h with rfl | rfl <;> rfl
theorem erase_flat (l : List (ByteArray × Nat)) (i : Nat) : (l.eraseIdx i).flatMap pairC = (l.flatMap pairC).take (i * 2) ++ (l.flatMap pairC).drop ((i + 1) * 2) := by
  induction l generalizing i with
  | nil => simp
  | cons p r ih =>
    cases i with
    | zero => simp [pairC]
    | succ i =>
      have h1 : (pairC p ++ r.flatMap pairC).take ((i + 1) * 2) = pairC p ++ (r.flatMap pairC).take (i * 2) := by
        rw [show (i + 1) * 2 = (pairC p).length + i * 2 from by simp [pairC]; omega, List.take_length_add_append]
      have h2 : (pairC p ++ r.flatMap pairC).drop ((i + 1 + 1) * 2) = (r.flatMap pairC).drop ((i + 1) * 2) := by
        rw [show (i + 1 + 1) * 2 = (pairC p).length + (i + 1) * 2 from by simp [pairC]; omega, List.drop_length_add_append]
      rw [List.eraseIdx_cons_succ, List.flatMap_cons, ih i, List.flatMap_cons, h1, h2, List.append_assoc]
theorem cells_set (b : Nat) (t : TypeId) : ∀ (vs : List Value) (o : Nat) (w : World) (cs : Array Value), w.heap[b]? = some (.cells cs t (0, 0)) → ∃ cs', (w.setCells b o vs).heap[b]? = some (.cells cs' t (0, 0)) ∧ cs'.size = cs.size
  | [], _, _, cs, h => ⟨cs, h, rfl⟩
  | v :: r, o, w, cs, h => by
    have h2 : (w.setCell ⟨b, o, none⟩ v).heap[b]? = some (.cells (cs.setIfInBounds o v) t (0, 0)) := by
      simp [World.setCell, Array.getElem?_modify, h]
    obtain ⟨cs', h3, h4⟩ := cells_set b t r (o + 1) _ _ h2
    exact ⟨cs', h3, by rw [h4]; simp⟩
theorem heap_setCells (b : Nat) : ∀ (vs : List Value) (o : Nat) (w : World) (i : Nat), i ≠ b → (w.setCells b o vs).heap[i]? = w.heap[i]?
  | [], _, _, _, _ => rfl
  | v :: r, o, _, i, h => (heap_setCells b r (o + 1) _ i h).trans (Below.heap_setCell _ ⟨b, o, none⟩ v i h)
theorem os_setCells (b : Nat) : ∀ (vs : List Value) (o : Nat) (w : World), (w.setCells b o vs).os = w.os ∧ (w.setCells b o vs).tape = w.tape ∧ (w.setCells b o vs).output = w.output
  | [], _, _ => ⟨rfl, rfl, rfl⟩
  | v :: r, o, w => os_setCells b r (o + 1) (w.setCell ⟨b, o, none⟩ v)
/-- A row from which an element was taken: the others moved up, its last cells cleared. -/
theorem row_deleted {c g C n i : Nat} {l : List (ByteArray × Nat)} (hn : l.length = n) (hi : i < n) {w w2 : World} (h : w.ownsRow c 216 2 (.slice (some ⟨g, 0, none⟩) n C) n (l.flatMap pairC)) (z0 z1 : Value)
    (h2 : w2 = (w.drew.setCells g (i * 2) ((l.flatMap pairC).drop ((i + 1) * 2))).setCells g ((n - 1) * 2) [z0, z1]) : w2.ownsRow c 216 2 (.slice (some ⟨g, 0, none⟩) (n - 1) C) (n - 1) ((l.eraseIdx i).flatMap pairC) ∧ w.grownBy w2 (some g) := by
  have hxl : (l.flatMap pairC).length = n * 2 := by rw [pairC_len, hn]
  have hx := h
  unfold World.ownsRow at h
  obtain ⟨_, ⟨h0, _⟩ | ⟨g', cap, cur, h0, q1, q2, q3, q4, q5, q6⟩⟩ := h
  · cases h0
  · cases h0
    obtain ⟨cs1, e1, z1'⟩ := cells_set g 216 ((l.flatMap pairC).drop ((i + 1) * 2)) (i * 2) w.drew cur q2
    obtain ⟨cs2, e2, z2'⟩ := cells_set g 216 [z0, z1] ((n - 1) * 2) _ cs1 e1
    rw [← h2] at e2
    have hcell : ∀ j, j < n * 2 → w.cell? ⟨g, j, none⟩ = (l.flatMap pairC)[j]? := fun j hj => by
      have hv : (l.flatMap pairC)[j]? = some ((l.flatMap pairC)[j]'(by omega)) := List.getElem?_eq_getElem (by omega)
      rw [hv]
      exact row_cell hx j _ hv
    have key : ∀ j, j < (n - 1) * 2 → cs2[j]? = ((l.eraseIdx i).flatMap pairC)[j]? := fun j hj => by
      have hc := cell_of_row w2 g j cs2 216 (0, 0) e2
      rw [← hc, h2, World.cell?_setCells_out g [z0, z1] _ _ _ (fun _ _ => .inl hj), erase_flat]
      by_cases hji : j < i * 2
      · rw [World.cell?_setCells_out g _ _ _ _ (fun _ _ => .inl hji), List.getElem?_append_left (by rw [List.length_take]; omega), List.getElem?_take_of_lt hji]
        exact hcell j (by omega)
      · have hlen : ((l.flatMap pairC).drop ((i + 1) * 2)).length = n * 2 - (i + 1) * 2 := by rw [List.length_drop, hxl]
        have hin := World.cell?_setCells_in g ((l.flatMap pairC).drop ((i + 1) * 2)) (i * 2) w.drew (fun q hq => by
          rw [hlen] at hq
          show (w.cell? _).isSome = true
          rw [hcell _ (by omega), List.getElem?_eq_getElem (by omega)]
          rfl) (j - i * 2) (by rw [hlen]; omega)
        rw [show i * 2 + (j - i * 2) = j from by omega] at hin
        rw [hin, List.getElem?_append_right (by rw [List.length_take]; omega), List.length_take, show min (i * 2) (l.flatMap pairC).length = i * 2 from by omega, List.getElem?_eq_getElem]
    have hel : ((l.eraseIdx i).flatMap pairC).length = (n - 1) * 2 := by rw [pairC_len, List.length_eraseIdx, if_pos (by omega), hn]
    refine ⟨⟨hel, .inr ⟨g, C, cs2, rfl, q1, e2, by omega, q4, by rw [z2', z1', q5], ?_⟩⟩, ?_⟩
    · apply List.ext_getElem?
      intro j
      by_cases hj : j < (n - 1) * 2
      · rw [List.getElem?_take_of_lt hj, Array.getElem?_toList, key j hj]
      · rw [List.getElem?_take_eq_none (by omega), List.getElem?_eq_none (by omega)]
    · rw [h2]
      refine ⟨?_, ?_, ?_, ?_, fun k hk hne => ?_⟩
      · rw [(os_setCells g _ _ _).1, (os_setCells g _ _ _).1]
        rfl
      · rw [(os_setCells g _ _ _).2.1, (os_setCells g _ _ _).2.1]
        rfl
      · rw [(os_setCells g _ _ _).2.2, (os_setCells g _ _ _).2.2]
        rfl
      · rw [size_setCells, size_setCells]
        exact Nat.le_refl _
      · have hkg : k ≠ g := fun e => hne (by rw [e])
        rw [heap_setCells g _ _ _ k hkg, heap_setCells g _ _ _ k hkg]
        rfl
set_option maxRecDepth 100000 in
set_option maxHeartbeats 4000000 in
theorem Delete_T (c g C : Nat) (l : List (ByteArray × Nat)) (n i : Nat) (hn : l.length = n) (hi : i < n) (h16 : n ≤ 16) (w : World) (h : w.ownsRow c 216 2 (.slice (some ⟨g, 0, none⟩) n C) n (l.flatMap pairC)) : Calls Tryz.prog 188 #[.slice (some ⟨g, 0, none⟩) n C, .int .i64 (i : Int), .int .i64 ((i : Int) + 1)] w fun e w' => e = .returned (.slice (some ⟨g, 0, none⟩) (n - 1) C) ∧ w'.ownsRow c 216 2 (.slice (some ⟨g, 0, none⟩) (n - 1) C) (n - 1) ((l.eraseIdx i).flatMap pairC) ∧ w.grownBy w' (some g) := by
  have hC := row_cap h
  have hxl : (l.flatMap pairC).length = n * 2 := by rw [pairC_len, hn]
  have hcell : ∀ j, j < n * 2 → w.cell? ⟨g, j, none⟩ = (l.flatMap pairC)[j]? := fun j hj => by
    have hv : (l.flatMap pairC)[j]? = some ((l.flatMap pairC)[j]'(by omega)) := List.getElem?_eq_getElem (by omega)
    rw [hv]
    exact row_cell h j _ hv
  have hfr : ∀ j, w.frozen? ⟨g, j, none⟩ = false := fun j => by
    obtain ⟨cs, hc⟩ := row_typ h g rfl
    exact frozen_of_row w g j _ _ hc
  obtain ⟨A, hA, hsrc⟩ : ∃ A : Addr, (if C = i + 1 then some (⟨g, 0, none⟩ : Addr) else some ⟨g, (i + 1) * 2, none⟩) = some A ∧ Hid (∀ t u, ((l.flatMap pairC).drop ((i + 1) * 2))[t]? = some u → w.drew.cell? (A.add t) = some u) := by
    by_cases hc : C = i + 1
    · refine ⟨⟨g, 0, none⟩, by simp [hc], fun t u hu => ?_⟩
      have := (List.getElem?_eq_some_iff.1 hu).1
      rw [List.length_drop, hxl] at this
      omega
    · refine ⟨⟨g, (i + 1) * 2, none⟩, by simp [hc], fun t u hu => ?_⟩
      have := (List.getElem?_eq_some_iff.1 hu).1
      rw [List.length_drop, hxl] at this
      rw [List.getElem?_drop] at hu
      rw [Addr.add_lit]
      exact (hcell _ (by omega)).trans hu
  have s1 : Hid (((l.flatMap pairC).drop ((i + 1) * 2)).length = (n - (i + 1)) * 2) := by
    show _ = _
    rw [List.length_drop, hxl]
    omega
  have s2 : Hid (∀ u ∈ (l.flatMap pairC).drop ((i + 1) * 2), u.oneCell' = true) := fun u hu => pair_one l u (List.mem_of_mem_drop hu)
  have s3 : Hid (∀ j, j < ((l.flatMap pairC).drop ((i + 1) * 2)).length → (w.drew.cell? ⟨g, 0 + i * 2 + j, none⟩).isSome = true ∧ w.drew.frozen? ⟨g, 0 + i * 2 + j, none⟩ = false) := fun j hj => by
    rw [s1] at hj
    refine ⟨?_, hfr _⟩
    show (w.cell? _).isSome = true
    rw [hcell _ (by omega), List.getElem?_eq_getElem (by omega)]
    rfl
  obtain ⟨i0, hi0, hz0, hz1, hz2⟩ := info_parts iPair
  have RD := Lib.hid (row_deleted hn hi h (.string ⟨#[]⟩) (.int .i64 0) rfl)
  have W1c := Lib.hid (show ∀ j, j < 2 → ((w.drew.setCells g (i * 2) ((l.flatMap pairC).drop ((i + 1) * 2))).cell? ⟨g, (n - 1) * 2 + j, none⟩).isSome = true from fun j hj => by
    rw [World.cell?_setCells_out g _ _ _ _ (fun _ _ => .inr (by rw [s1]; show i * 2 + (n - (i + 1)) * 2 ≤ (n - 1) * 2 + j; omega))]
    show (w.cell? _).isSome = true
    rw [hcell _ (by omega), List.getElem?_eq_getElem (by omega)]
    rfl)
  have W1f := Lib.hid (show ∀ j, j < 2 → (w.drew.setCells g (i * 2) ((l.flatMap pairC).drop ((i + 1) * 2))).frozen? ⟨g, (n - 1) * 2 + j, none⟩ = false from fun j _ => by
    rw [World.frozen?_setCells]
    exact hfr _)
  obtain ⟨W1, hW⟩ : ∃ W1, W1 = w.drew.setCells g (0 + i * 2) ((l.flatMap pairC).drop ((i + 1) * 2)) := ⟨_, rfl⟩
  have hW' : w.drew.setCells g (i * 2) ((l.flatMap pairC).drop ((i + 1) * 2)) = W1 := by rw [hW, Nat.zero_add]
  rw [hW'] at RD W1c W1f
  have HW := Lib.hid hW
  have hcl : ∀ ty c, (Builtin.clear_ #[217] ty #[.slice (some ⟨g, (n - 1) * 2, none⟩) (n - (n - 1)) c]).run Tryz.prog W1 = .ok (.tuple #[]) (W1.setCells g ((n - 1) * 2) [.string ⟨#[]⟩, .int .i64 0]) :=
    fun ty c => by
      rw [show n - (n - 1) = 1 from by omega]
      exact run_clear_two _ 217 216 ty _ _ _ Tryz.underlying217 zeroPair rfl rfl rfl g _ c W1c.out W1f.out
  have b1 : (n : Int) ≤ (C : Int) := by omega
  have b2 : (i : Int) < (n : Int) := by omega
  have b3 : (i : Int) + 1 ≤ (n : Int) := by omega
  have b4 : ¬ (i : Int) = (i : Int) + 1 := by omega
  have b5 : (i : Int) ≤ (C : Int) := by omega
  have b6 : (i : Int) + 1 ≤ (C : Int) := by omega
  have b7 : ((i : Int) == (i : Int) + 1) = false := by rw [beq_eq_false_iff_ne]; exact b4
  have b8 : ((i : Int) + 1).toNat = i + 1 := by omega
  have b9 : (0 : Int) ≤ (i : Int) + 1 := by omega
  have e1 : i + (n - (i + 1)) = n - 1 := by omega
  clear hcell hfr h hW hW'
  go_enter Tryz.func188, Tryz.ntmps188
  go_wp2
  go_region_law (refine step_append_room rfl (.tmp 22) (.tmp 25) 217 rfl 216 i0 2 Tryz.underlying217 hi0 hz1 g 0 i C (by simp [Act.eval, Act.put]) A (n - (i + 1)) (C - (i + 1)) _ (by simp [Act.eval, Act.put]) s1.out hsrc.out s2.out (by omega) s3.out ?_; rw [← HW.out, e1])
  have b10 : n - 1 < n := by omega
  have b11 : ((n - 1 : Nat) : Int) ≤ (n : Int) := by omega
  go_wp2
  go_ret
  exact ⟨by simp, RD.out.1, RD.out.2⟩
end Go.Proofs.YticlacjpgjkhcaaGreatDoor

/- A table: a name is taken. -/
namespace Go.Proofs.YticlacjpgjkhcaaGreatDoor
open Go.ChangeShapes Go.WideShapes Go.ChangeAt Go.RowKit

theorem TabT.del {c : Nat} {w w' w2 : World} {p g : Nat} {f : Nat → Value} {D : List (ByteArray × Nat)} {k : ByteArray} (h : TabT c w p g f D) {l : List (ByteArray × Nat)} (hl : rowT slotT D (slotT k) = l) {i : Nat} (hi : idxD k l = some i) {gA C : Nat} (hf : f (slotT k) = .slice (some ⟨gA, 0, none⟩) l.length C)
    (hO : w'.ownsRow c 216 2 (.slice (some ⟨gA, 0, none⟩) (l.length - 1) C) (l.length - 1) ((l.eraseIdx i).flatMap pairC)) (hG : w.grownBy w' (some gA))
    (h2 : w2 = (w'.setCell ⟨g, slotT k, none⟩ (.slice (some ⟨gA, 0, none⟩) (l.length - 1) C)).setCell ⟨p, 3, none⟩ (.int .i64 ((D.length : Int) - 1))) :
    TabT c w2 p g (fset f (slotT k) (.slice (some ⟨gA, 0, none⟩) (l.length - 1) C)) (delD k D) ∧ KTab c w w2 := by
  have hq := slot_lt k
  have hrow := h.row _ hq
  have hpr := lt_blk h.tab
  have hgr := lt_blk h.slots
  have hpg : p ≠ g := h.ne
  have hG' : w.grownBy w' (f (slotT k)).ownBlock := by rw [hf]; exact hG
  obtain ⟨hT', hS'⟩ := h.grown hq hG'
  have hown : gA ≠ p ∧ gA ≠ g := by
    obtain ⟨cs, hc⟩ := row_typ hrow gA (by rw [hf]; rfl)
    constructor
    · rintro rfl
      rw [h.tab] at hc
      cases hc
    · rintro rfl
      rw [h.slots] at hc
      cases hc
  have far : ∀ i, i ≠ p → i ≠ g → w2.heap[i]? = w'.heap[i]? := fun i h1 h3 => by
    rw [h2]
    exact (Below.heap_setCell _ ⟨p, 3, none⟩ _ _ h1).trans (Below.heap_setCell _ ⟨g, slotT k, none⟩ _ _ h3)
  obtain ⟨v, hv, hfv, _, hdel, _⟩ := idxD_some hi
  have hfD : findD k D = some v := by rw [← rowT_find slotT k D, hl, hfv]
  have hlen : (delD k D).length = D.length - 1 := by rw [del_len, hfD]; rfl
  have hpos : 0 < D.length := by
    rcases Nat.eq_zero_or_pos D.length with h0 | h0
    · rw [List.length_eq_zero_iff.1 h0] at hfD
      cases hfD
    · exact h0
  have hll : (l.eraseIdx i).length = l.length - 1 := by rw [List.length_eraseIdx, if_pos (List.getElem?_eq_some_iff.1 hv).1]
  refine ⟨⟨h.hp, h.hg, ?_, ?_, fun j hj => ?_, fun i j b hi hj h1 h3 => ?_, by rw [hlen]; have := h.few; omega, nd_delD h.nd⟩, ⟨?_, fun i hi hni => ?_⟩⟩
  · rw [h2, set_cells ((Below.heap_setCell _ ⟨g, slotT k, none⟩ _ _ hpg).trans hT'), hlen, show ((D.length - 1 : Nat) : Int) = (D.length : Int) - 1 from by omega]
    rfl
  · rw [h2, Below.heap_setCell _ ⟨p, 3, none⟩ _ _ (Ne.symm hpg), set_cells hS', arr8 f _ hq]
  · rw [rowT_del]
    unfold fset
    by_cases he : slotT k = j
    · subst he
      rw [if_pos rfl, if_pos rfl, hl, hdel, hll]
      refine row_kept hO (fun b hb => ?_)
      cases hb
      exact far gA hown.1 hown.2
    · rw [if_neg (Ne.symm he), if_neg he]
      refine row_kept (h.row j hj) (fun b hb => ?_)
      obtain ⟨cs, hc⟩ := row_typ (h.row j hj) b hb
      have b1 : b ≠ p := by rintro rfl; rw [h.tab] at hc; cases hc
      have b2 : b ≠ g := by rintro rfl; rw [h.slots] at hc; cases hc
      exact (far b b1 b2).trans (hG'.block b (lt_blk hc) (fun e => he (h.dist _ _ b hq hj e.symm hb)))
  · have e9 : ∀ i b, (fset f (slotT k) (.slice (some ⟨gA, 0, none⟩) (l.length - 1) C) i).ownBlock = some b → (f i).ownBlock = some b := by
      intro i b hb
      unfold fset at hb
      by_cases e1 : i = slotT k
      · rw [if_pos e1] at hb
        rw [e1, hf]
        exact hb
      · rw [if_neg e1] at hb
        exact hb
    exact h.dist i j b hi hj (e9 i b h1) (e9 j b h3)
  · rw [h2]
    refine ((Below.refl c w).grown hG (Nat.le_of_lt (Nat.lt_of_le_of_lt h.hp hpr)) (fun b hb => ?_)).setCell (p := ⟨g, slotT k, none⟩) h.hg _ |>.setCell (p := ⟨p, 3, none⟩) h.hp _
    cases hb
    exact (row_own hO gA rfl).1
  · have b1 : i ≠ p := by rintro rfl; exact hni ⟨_, _, h.tab, .inl rfl⟩
    have b2 : i ≠ g := by rintro rfl; exact hni ⟨_, _, h.slots, .inr (.inl rfl)⟩
    refine (far i b1 b2).trans (hG'.block i hi (fun e => ?_))
    obtain ⟨cs, hc⟩ := row_typ hrow i e.symm
    exact hni ⟨_, _, hc, .inr (.inr rfl)⟩
theorem TabT.reset {c : Nat} {w w2 : World} {p g : Nat} {f : Nat → Value} {D : List (ByteArray × Nat)} (h : TabT c w p g f D) (h0 : D.length = 0)
    (h2 : w2 = (((w.alloc (.cells #[.slice none 0 0, .slice none 0 0, .slice none 0 0, .slice none 0 0, .slice none 0 0, .slice none 0 0, .slice none 0 0, .slice none 0 0] 217)).setCell ⟨p, 0, none⟩ (.slice (some ⟨w.heap.size, 0, none⟩) 8 8)).setCell ⟨p, 1, none⟩ (.slice none 0 0)).setCell ⟨p, 2, none⟩ (.int .i64 0)) :
    TabT c w2 p w.heap.size nilF D ∧ KTab c w w2 := by
  obtain rfl : D = [] := List.length_eq_zero_iff.1 h0
  have hpr := lt_blk h.tab
  have hp1 := blk_below h.tab (alloc_old (o := .cells #[.slice none 0 0, .slice none 0 0, .slice none 0 0, .slice none 0 0, .slice none 0 0, .slice none 0 0, .slice none 0 0, .slice none 0 0] 217))
  have hne : w.heap.size ≠ p := by omega
  have far : ∀ i, i ≠ p → w2.heap[i]? = (w.alloc (.cells #[.slice none 0 0, .slice none 0 0, .slice none 0 0, .slice none 0 0, .slice none 0 0, .slice none 0 0, .slice none 0 0, .slice none 0 0] 217)).heap[i]? := fun i hi => by
    rw [h2]
    exact (Below.heap_setCell _ ⟨p, 2, none⟩ _ _ hi).trans ((Below.heap_setCell _ ⟨p, 1, none⟩ _ _ hi).trans (Below.heap_setCell _ ⟨p, 0, none⟩ _ _ hi))
  refine ⟨⟨h.hp, h.le, ?_, ?_, fun j hj => ?_, fun i j b hi hj h1 => (by cases h1), h.few, h.nd⟩, ⟨?_, fun i hi hni => ?_⟩⟩
  · rw [h2, set_cells (set_cells (set_cells hp1))]
    rfl
  · exact (far _ hne).trans (heap_alloc_new w _)
  · exact World.ownsRow_nil _ _ _ _
  · rw [h2]
    exact ((((alloc_old (w := w)).mono h.le).setCell (p := ⟨p, 0, none⟩) h.hp _).setCell (p := ⟨p, 1, none⟩) h.hp _).setCell (p := ⟨p, 2, none⟩) h.hp _
  · have b1 : i ≠ p := by rintro rfl; exact hni ⟨_, _, h.tab, .inl rfl⟩
    exact (far i b1).trans (alloc_old.block i hi)
theorem KTab.trans' {c : Nat} {w W w' : World} (h1 : KTab c w W) (hs : w.heap.size ≤ W.heap.size) (h2 : KTab c W w') : KTab c w w' :=
  ⟨h1.below.trans h2.below, fun i hi hn => (h2.kept i (Nat.lt_of_lt_of_le hi hs) (fun ⟨cs, t, g1, g2⟩ => hn ⟨cs, t, (h1.kept i hi hn).symm.trans g1, g2⟩)).trans (h1.kept i hi hn)⟩
set_option maxRecDepth 100000 in
set_option maxHeartbeats 4000000 in
theorem del_no (c p g : Nat) (f : Nat → Value) (D : List (ByteArray × Nat)) (k : ByteArray) (hk : k.size ≤ 1000000) (hn : findD k D = none) (w : World) (h : TabT c w p g f D) : Calls Tryz.prog 137 #[.pointer (some ⟨p, 0, none⟩), .string k] w fun e w' => e = .returned (.tuple #[.int .i64 0, .bool false]) ∧ Below w.heap.size w w' := by
  have MV := Lib.hid (move_T c p g f D w h)
  have FD := Lib.hid (fun X (hX : Below w.heap.size w X) => find_T c p g f D k hk X (h.below hX))
  have hix : idxD k (rowT slotT D (slotT k)) = none := by
    cases hx : idxD k (rowT slotT D (slotT k)) with
    | none => rfl
    | some i =>
      obtain ⟨v, _, h2, _⟩ := idxD_some hx
      rw [rowT_find, hn] at h2
      cases h2
  have hpl : placeI k D = -1 := by unfold placeI; rw [hix]
  simp only [hpl] at FD
  clear h hn hix hpl
  go_enter Tryz.func137, Tryz.ntmps137
  go_wp2_with (first | (go_at_call 186; (with_reducible refine (MV.out).mono ?_); rintro e w1 ⟨rfl, h1⟩; have B1 := Lib.hid h1; clear h1) | (go_at_call 187; (with_reducible refine (FD.out _ B1.out).mono ?_); rintro e w2 ⟨rfl, h2⟩; have B2 := Lib.hid (B1.out.trans (h2.mono (Below.size B1.out))); clear h2))
  exact bodyPost_ret (v := .tuple #[.int .i64 0, .bool false]) (by simp [results, Tryz.results137, go_sem]) rfl ⟨rfl, B2.out⟩
set_option maxRecDepth 100000 in
set_option maxHeartbeats 4000000 in
theorem del_yes (c p g : Nat) (f : Nat → Value) (D : List (ByteArray × Nat)) (k : ByteArray) (hk : k.size ≤ 1000000) (q : Nat) (hq : findD k D = some q) (w : World) (h : TabT c w p g f D) : Calls Tryz.prog 137 #[.pointer (some ⟨p, 0, none⟩), .string k] w fun e w' => e = .returned (.tuple #[.int .i64 (q : Int), .bool true]) ∧ (∃ g' f', TabT c w' p g' f' (delD k D)) ∧ KTab c w w' := by
  have H := Lib.hid h
  have MV := Lib.hid (move_T c p g f D w h)
  have FD := Lib.hid (fun X (hX : Below w.heap.size w X) => find_T c p g f D k hk X (h.below hX))
  have hsl := slot_lt k
  have hF := rowT_find slotT k D
  rw [hq] at hF
  obtain ⟨l, hl⟩ : ∃ l, rowT slotT D (slotT k) = l := ⟨_, rfl⟩
  rw [hl] at hF
  obtain ⟨i, hi⟩ : ∃ i, idxD k l = some i := by
    cases hx : idxD k l with
    | none =>
      rw [(idxD_none hx).1] at hF
      cases hF
    | some i => exact ⟨i, rfl⟩
  have hpl : placeI k D = (i : Int) := by unfold placeI; rw [hl, hi]
  simp only [hpl] at FD
  obtain ⟨v, hv, hfv, _, _, _⟩ := idxD_some hi
  obtain rfl : q = v := by rw [hF] at hfv; exact Option.some.inj hfv
  have hil := (List.getElem?_eq_some_iff.1 hv).1
  have hR := h.row _ hsl
  rw [hl] at hR
  obtain ⟨A, C, hf, hA, hC⟩ := row_form hR
  obtain ⟨gA, rfl⟩ : ∃ gA, A = some ⟨gA, 0, none⟩ := hA.resolve_left (by omega)
  rw [hf] at hR
  have HR := Lib.hid hR
  have HL := Lib.hid hl
  have HI := Lib.hid hi
  have HV := Lib.hid hv
  have HF := Lib.hid hf
  have LE := Lib.hid h.le
  have h16 : l.length ≤ 16 := by rw [← hl]; exact Nat.le_trans (rowT_len _ _ _) h.few
  have q1 : (i : Int) < (l.length : Int) := by omega
  have q2 : ¬ (i : Int) < 0 := by omega
  clear h hF hpl hi hv hR hl hf hfv hq hA
  go_enter Tryz.func137, Tryz.ntmps137
  go_wp2_with (first | (go_at_call 186; (with_reducible refine (MV.out).mono ?_); rintro e w1 ⟨rfl, h1⟩; have B1 := Lib.hid h1; clear h1) | (go_at_call 187; (with_reducible refine (FD.out _ B1.out).mono ?_); rintro e w2 ⟨rfl, h2⟩; have B2 := Lib.hid (B1.out.trans (h2.mono (Below.size B1.out))); clear h2; refine Hid.out ?_))
  refine Lib.hid ?_
  have H2 := Lib.hid (H.out.below B2.out)
  have s0 := H2.out.slot _ hsl
  rw [HF.out] at s0
  have R2 := Lib.hid (row_below HR.out B2.out)
  have d0 := row_cell R2.out (i * 2 + 0) (.string k) (pairC_at l i 0 (k, q) _ HV.out rfl)
  have d1 := row_cell R2.out (i * 2 + 1) (.int .i64 (q : Int)) (pairC_at l i 1 (k, q) _ HV.out rfl)
  rw [Nat.add_zero] at d0
  have zs : w2.frozen? ⟨g, slotT k, none⟩ = false := frozen_of_row w2 g _ _ _ H2.out.slots
  have DL := Lib.hid (Delete_T c gA C l l.length i rfl hil h16 w2 R2.out)
  go_wp2_with (first | (go_at_call 188; (with_reducible refine (DL.out).mono ?_); rintro e w5 ⟨rfl, h5, h6⟩; have O5 := Lib.hid h5; have G5 := Lib.hid h6; clear h5 h6; refine Hid.out ?_))
  refine Lib.hid ?_
  obtain ⟨T5, S5⟩ := H2.out.grown hsl (by rw [HF.out]; exact G5.out)
  obtain ⟨⟨c0, c1, c2, c3, c4⟩, zz⟩ := cells5 T5
  have z3 := zz 3
  have s5 := slots_cell S5 _ hsl
  have zs5 : w5.frozen? ⟨g, slotT k, none⟩ = false := frozen_of_row w5 g _ _ _ S5
  have hpg : ¬ p = g := H2.out.ne
  have hgp : ¬ g = p := fun e => hpg e.symm
  have zz0 := zz 0
  have zz1 := zz 1
  have zz2 := zz 2
  clear T5 S5 zz d0 d1 s0 zs
  have TD := fun w9 hw9 => H2.out.del HL.out HI.out HF.out O5.out G5.out (w2 := w9) hw9
  have hlD : (delD k D).length = D.length - 1 := by
    rw [del_len, show findD k D = some q from by rw [← rowT_find slotT k D, HL.out]; exact (by obtain ⟨v, hv, hfv, _⟩ := idxD_some HI.out; rw [HV.out] at hv; cases hv; exact hfv)]
    rfl
  have hpos : 1 ≤ D.length := by
    have := rowT_len slotT D (slotT k)
    rw [HL.out] at this
    omega
  by_cases hD : D.length = 1
  · have hD1 : (D.length : Int) = 1 := by omega
    rw [hD1] at c3
    obtain ⟨hT9, hK9⟩ := TD _ rfl
    rw [hD1, show (1 : Int) - 1 = 0 from rfl] at hT9 hK9
    have HT9 := Lib.hid hT9
    have HK9 := Lib.hid (hK9.after B2.out LE.out)
    have hm := make8
    have HD1 := Lib.hid hD
    clear hT9 hK9 TD hD1 hD hlD hpos h16 q1 q2
    go_wp2_with (first | (at_make; refine Hid.out ?_))
    refine Lib.hid ?_
    clear c0 c1 c2 c3 c4 s5 z3 zs5 zz0 zz1 zz2
    have SZ := Lib.hid (show w.heap.size ≤ ((w5.setCell ⟨g, slotT k, none⟩ (.slice (some ⟨gA, 0, none⟩) (l.length - 1) C)).setCell ⟨p, 3, none⟩ (.int .i64 0)).heap.size by
      have h1 := Below.size B2.out
      have h2 := G5.out.size
      simp [World.setCell]
      omega)
    generalize ((w5.setCell ⟨g, slotT k, none⟩ (.slice (some ⟨gA, 0, none⟩) (l.length - 1) C)).setCell ⟨p, 3, none⟩ (.int .i64 0)) = w6 at HT9 HK9 SZ ⊢
    obtain ⟨⟨c0, c1, c2, c3, c4⟩, zz⟩ := cells5 (blk_below HT9.out.tab (alloc_old (o := .cells #[.slice none 0 0, .slice none 0 0, .slice none 0 0, .slice none 0 0, .slice none 0 0, .slice none 0 0, .slice none 0 0, .slice none 0 0] 217)))
    have z0 := zz 0
    have z1 := zz 1
    have z2 := zz 2
    have RS := HT9.out.reset (show (delD k D).length = 0 by
      rw [del_len, show findD k D = some q from by rw [← rowT_find slotT k D, HL.out]; exact (by obtain ⟨v, hv, hfv, _⟩ := idxD_some HI.out; rw [HV.out] at hv; cases hv; exact hfv)]
      have := HD1.out
      simp [this]) rfl
    have HRS := Lib.hid RS
    clear zz RS
    go_wp2
    exact bodyPost_ret (v := .tuple #[.int .i64 (q : Int), .bool true]) (by simp [results, Tryz.results137, go_sem]) rfl ⟨rfl, ⟨_, _, HRS.out.1⟩, HK9.out.trans' SZ.out HRS.out.2⟩
  · have q9 : ¬ (D.length : Int) - 1 = 0 := by omega
    have h17 := H.out.few
    have q8 : 1 < D.length := by omega
    obtain ⟨hT9, hK9⟩ := TD _ rfl
    have HT9 := Lib.hid hT9
    have HK9 := Lib.hid (hK9.after B2.out LE.out)
    clear hT9 hK9 TD
    go_wp2
    exact bodyPost_ret (v := .tuple #[.int .i64 (q : Int), .bool true]) (by simp [results, Tryz.results137, go_sem]) rfl ⟨rfl, ⟨_, _, HT9.out⟩, HK9.out⟩
end Go.Proofs.YticlacjpgjkhcaaGreatDoor
