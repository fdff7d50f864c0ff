/- Texts joined: Li1, Li2, Li3, Li4, Li5, Li6, Li7 (Rows of texts of the call's own; the copy of a list.) -/
import Derived.Test.YtaomiglmahklfaaGreatDoorSt35
import Derived.Test.YtaomiglmahklfaaGreatDoorSt17
import Derived.Test.YtaomiglmahklfaaGreatDoorSt23
import Derived.Test.YtaomiglmahklfaaGreatDoorSt18
import Derived.Test.YtaomiglmahklfaaGreatDoorSt6
namespace Go.Proofs.YtaomiglmahklfaaGreatDoor
open Go.ChangeShapes Go.WideShapes Go.ChangeAt Go.RowKit

/-- A row of texts at the head of a block of texts. -/
def TR (w : World) (v : Value) (xs : List ByteArray) : Prop := ∃ (g C : Nat) (cs : Array Value), v = .slice (some ⟨g, 0, none⟩) xs.length C ∧ w.heap[g]? = some (.cells cs 9) ∧ xs.length ≤ C ∧ C ≤ maxLen ∧ ∀ (i : Nat) (s : ByteArray), xs[i]? = some s → cs[i]? = some (Value.string s)
theorem TR.ssl {w : World} {v : Value} {xs : List ByteArray} (h : TR w v xs) : SSl w v xs := by
  obtain ⟨g, C, cs, rfl, h2, h3, h4, h5⟩ := h
  refine ⟨_, C, rfl, h3, h4, fun _ => ⟨g, 0, rfl, (Array.getElem?_eq_some_iff.1 h2).1, fun i s hi => ?_⟩⟩
  rw [cell_of_row _ g _ _ 9 (0, 0) h2, Nat.zero_add]
  exact h5 i s hi
theorem TR.kept {w w' : World} {v : Value} {xs : List ByteArray} (h : TR w v xs) (hb : ∀ g, v.ownBlock = some g → w'.heap[g]? = w.heap[g]?) : TR w' v xs := by
  obtain ⟨g, C, cs, rfl, h2, h3, h4, h5⟩ := h
  exact ⟨g, C, cs, rfl, (hb g rfl).trans h2, h3, h4, h5⟩
theorem TR.below {w w' : World} {v : Value} {xs : List ByteArray} (h : TR w v xs) (hb : Below w.heap.size w w') : TR w' v xs := by
  refine h.kept (fun g hg => ?_)
  obtain ⟨g', C, cs, rfl, h2, _⟩ := h
  cases hg
  exact hb.block _ (Array.getElem?_eq_some_iff.1 h2).1
theorem TR.lt {w : World} {v : Value} {xs : List ByteArray} (h : TR w v xs) : ∃ g, v.ownBlock = some g ∧ g < w.heap.size ∧ ∃ cs, w.heap[g]? = some (.cells cs 9) := by
  obtain ⟨g', C, cs, rfl, h2, _⟩ := h
  exact ⟨g', rfl, (Array.getElem?_eq_some_iff.1 h2).1, cs, h2⟩
theorem TR.lit (w : World) (x : ByteArray) : TR (w.alloc (.cells #[.string x] 9)) (.slice (some ⟨w.heap.size, 0, none⟩) 1 1) [x] := by
  refine ⟨w.heap.size, 1, #[.string x], rfl, heap_alloc_new w _, Nat.le_refl _, by unfold maxLen; decide, fun i s hi => ?_⟩
  match i, hi with
  | 0, hi => cases hi; rfl
theorem i9 : (Tryz.prog.info? 9).map (fun i => (i.zero, i.size, i.bytes)) = some (some (.string ⟨#[]⟩), 1, 16) := by kernel_rfl
theorem Src.ofSSl {w : World} {v : Value} {xs : List ByteArray} (h : SSl w v xs) (hne : xs ≠ []) : Src Tryz.prog 1 22 v xs.length (xs.map Value.string) w := by
  obtain ⟨A, cap, rfl, h2, h3, h4⟩ := h
  obtain ⟨blk, off, rfl, h5, h6⟩ := h4 hne
  refine Src.ofSlice (P := Tryz.prog) (size := 1) w Tryz.underlying22 ⟨blk, off, none⟩ xs.length cap (xs.map Value.string) (by simp) (fun j u hj => ?_) (fun u hu => by obtain ⟨s, _, rfl⟩ := List.mem_map.1 hu; rfl)
  rw [List.getElem?_map] at hj
  obtain ⟨s, hs, rfl⟩ := Option.map_eq_some_iff.1 hj
  rw [Addr.add_lit]
  exact h6 j s hs
theorem wpList_append_T {ops : Array Oper} {rest : List Oper} {o : Oper} {a : Act} {Q : Exit → Act → World → Prop} (w : World) (hg : o.guard = none) (s x : Operand) (hop : o.op = Op.call { callee := Callee.builtin Builtin.append, args := #[s, x], argTypes := #[22, 22] })
    (base : Option Addr) (xs : List ByteArray) (u : Value) (hs : a.eval s = .slice base 0 0) (hfc : (Builtin.firstCells 1 0 (.slice base 0 0)).run Tryz.prog w.drew = .ok #[] w.drew) (hx : a.eval x = u) (h2 : SSl w u xs) (hne : xs ≠ []) (hb : xs.length ≤ 1000000)
    (k : ∀ v' w', TR w' v' xs → v'.ownBlock = some w.heap.size → Below w.heap.size w w' → wpList Tryz.prog ops Q rest (a.put o.dst v') w') : wpList Tryz.prog ops Q (o :: rest) a w := by
  obtain ⟨i0, hi, hz0, hz1, hz2⟩ := info_parts i9
  have h2' : Src Tryz.prog i0.size 22 u xs.length (xs.map Value.string) w := by rw [hz1]; exact Src.ofSSl h2 hne
  have hpos : 0 < xs.length := List.length_pos_iff.2 hne
  have hge := grownCap_ge w (0 + xs.length) 0 9
  have hcm : grownCap w (0 + xs.length) 0 9 ≤ maxLen := grownCap_le_maxLen w (0 + xs.length) 0 9 (by unfold maxLen; omega)
  have hrun := run_append_grow_src (P := Tryz.prog) w 22 22 o.type 9 i0 (.string ⟨#[]⟩) Tryz.underlying22 hi hz0 base 0 0 [] (by rw [hz1]; exact hfc) u xs.length (xs.map Value.string) h2' (by omega) (by omega) (by rw [hz2]; exact growslice_fits (by omega) (by omega))
  refine wpList_plain hg fun K hK' => ?_
  unfold Oper.wp
  simp [execOp, hop, resolve, invoke, builtin, hs, hx, hrun, Result.andThen]
  refine hK' _ _ (k _ _ ⟨w.heap.size, grownCap w (0 + xs.length) 0 9, _, by simp, heap_alloc_new w.drew _, by omega, hcm, fun i s hi => ?_⟩ rfl (((Below.refl w.heap.size w).drew).alloc (Nat.le_refl _) _))
  have hlt := (List.getElem?_eq_some_iff.1 hi).1
  rw [Array.getElem?_append_left (by simp; omega)]
  simp [hi]
set_option maxRecDepth 100000 in
set_option maxHeartbeats 2000000 in
theorem Clone57L (v : Value) (xs : List ByteArray) (hne : xs ≠ []) (hn : xs.length ≤ 1000000) (w : World) (h : SSl w v xs) : Calls Tryz.prog 57 #[v] w fun e w' => ∃ v', e = .returned v' ∧ TR w' v' xs ∧ (∃ g, v'.ownBlock = some g ∧ w.heap.size ≤ g) ∧ Below w.heap.size w w' := by
  have H := Lib.hid h
  obtain ⟨A, cap, rfl, h2, h3, h4⟩ := h
  obtain ⟨blk, off, rfl, h5, h6⟩ := h4 hne
  have hq : ∀ w, (binOp .eql 22 (.slice (some ⟨blk, off, none⟩) xs.length cap) (.slice none 0 0)).run Tryz.prog w = .ok (.bool false) w := fun w => by kernel_rfl
  clear h2 h3 h4 h5 h6
  go_enter Tryz.func57, Tryz.ntmps57
  have hfc : (Builtin.firstCells 1 0 (.slice (some ⟨w.heap.size, 0, none⟩) 0 0)).run Tryz.prog (w.alloc (.cells #[] 9)).drew = .ok #[] (w.alloc (.cells #[] 9)).drew := by
    refine run_firstCells_some _ 1 0 ⟨w.heap.size, 0, none⟩ _ _ [] rfl (fun j u hj => by cases hj)
  have HF := Lib.hid hfc
  have HZ := Lib.hid (H.out.below (alloc_old (o := .cells #[] 9)))
  clear hfc
  go_wp2_with (first | (at_builtin; refine wpList_append_T _ rfl _ _ rfl (some ⟨w.heap.size, 0, none⟩) xs _ rfl HF.out rfl HZ.out hne hn ?_; intro v2 w2 hT2 ho2 hb2))
  go_ret
  exact ⟨v2, rfl, hT2, ⟨_, ho2, by simp⟩, alloc_old.trans (hb2.mono (by simp))⟩
def iOfL : Value → Int | .int _ n => n | _ => 0
def sumSz (xs : List ByteArray) : Nat := (xs.map ByteArray.size).sum
theorem sumSz_take {xs : List ByteArray} {k : Nat} {s : ByteArray} (h : xs[k]? = some s) : sumSz (xs.take (k + 1)) = sumSz (xs.take k) + s.size := by
  unfold sumSz
  rw [List.take_add_one, h]
  simp
theorem sumSz_le (xs : List ByteArray) (k : Nat) : sumSz (xs.take k) ≤ sumSz xs := by
  unfold sumSz
  conv => rhs; rw [← List.take_append_drop k xs, List.map_append, List.sum_append]
  omega
set_option maxRecDepth 100000 in
set_option maxHeartbeats 4000000 in
theorem count46L (xs : List ByteArray) (A : Option Addr) (cap : Nat) (w : World) : Calls Tryz.prog 46 #[.agg #[.int .i64 2, .string ⟨#[]⟩, .slice A xs.length cap, .slice none 0 0, .slice none 0 0, .slice none 0 0]] w fun e w' => e = .returned (.agg #[.int .i64 (xs.length : Int), .int .i64 0, .int .i64 0, .int .i64 0]) ∧ Below w.heap.size w w' := by
  go_enter Tryz.func46, Tryz.ntmps46
  go_wp2
  exact bodyPost_ret (v := .agg #[.int .i64 (xs.length : Int), .int .i64 0, .int .i64 0, .int .i64 0]) (by simp [results, Tryz.results46, go_sem]) rfl ⟨rfl, ((Below.refl _ _).alloc (Nat.le_refl _) _).alloc (by simp) _⟩
set_option maxRecDepth 100000 in
set_option maxHeartbeats 4000000 in
theorem Len56L (xs : List ByteArray) (A : Option Addr) (cap : Nat) (w : World) : Calls Tryz.prog 56 #[.agg #[.int .i64 2, .string ⟨#[]⟩, .slice A xs.length cap, .slice none 0 0, .slice none 0 0, .slice none 0 0]] w fun e w' => e = .returned (.int .i64 (xs.length : Int)) ∧ Below w.heap.size w w' := by
  go_enter Tryz.func56, Tryz.ntmps56
  go_wp2
  go_ret
  exact ⟨by simp, alloc_old⟩
set_option maxRecDepth 100000 in
set_option maxHeartbeats 4000000 in
theorem rise49 (f : Value) (w : World) : Calls Tryz.prog 49 #[.slice none 0 0, f] w fun e w' => e = .returned (.bool true) ∧ Below w.heap.size w w' := by
  go_enter Tryz.func49, Tryz.ntmps49
  go_wp2
  go_loopw [5] (fun i wr => i = .int .i64 1 ∧ wr = w) (fun _ _ => 0)
  case atStart => exact ⟨rfl, rfl⟩
  case round =>
    obtain ⟨rfl, rfl⟩ := hrel
    go_wp2
    go_ret
    exact ⟨by simp, Below.refl _ _⟩
set_option maxRecDepth 100000 in
set_option maxHeartbeats 4000000 in
theorem rise51 (f : Value) (w : World) : Calls Tryz.prog 51 #[.slice none 0 0, f] w fun e w' => e = .returned (.bool true) ∧ Below w.heap.size w w' := by
  go_enter Tryz.func51, Tryz.ntmps51
  go_wp2
  go_loopw [5] (fun i wr => i = .int .i64 1 ∧ wr = w) (fun _ _ => 0)
  case atStart => exact ⟨rfl, rfl⟩
  case round =>
    obtain ⟨rfl, rfl⟩ := hrel
    go_wp2
    go_ret
    exact ⟨by simp, Below.refl _ _⟩
set_option maxRecDepth 100000 in
set_option maxHeartbeats 4000000 in
theorem rise53 (f : Value) (w : World) : Calls Tryz.prog 53 #[.slice none 0 0, f] w fun e w' => e = .returned (.bool true) ∧ Below w.heap.size w w' := by
  go_enter Tryz.func53, Tryz.ntmps53
  go_wp2
  go_loopw [5] (fun i wr => i = .int .i64 1 ∧ wr = w) (fun _ _ => 0)
  case atStart => exact ⟨rfl, rfl⟩
  case round =>
    obtain ⟨rfl, rfl⟩ := hrel
    go_wp2
    go_ret
    exact ⟨by simp, Below.refl _ _⟩
set_option maxRecDepth 100000 in
set_option maxHeartbeats 4000000 in
theorem once55 (w : World) : Calls Tryz.prog 55 #[.slice none 0 0] w fun e w' => e = .returned (.bool true) ∧ Below w.heap.size w w' := by
  have hmm := @run_makeMap Tryz.prog
  go_enter Tryz.func55, Tryz.ntmps55
  go_wp2
  go_loopw [9] (fun i wr => i = .int .i64 0 ∧ wr = w.alloc (.map #[] 0)) (fun _ _ => 0)
  case atStart => exact ⟨rfl, rfl⟩
  case round =>
    obtain ⟨rfl, rfl⟩ := hrel
    go_wp2
    go_ret
    exact ⟨by simp, alloc_old⟩
set_option maxRecDepth 100000 in
set_option maxHeartbeats 4000000 in
theorem texts47L (xs : List ByteArray) (A : Option Addr) (cap : Nat) (hne : xs ≠ []) (hn : xs.length ≤ 1000000) (w : World) (h : SSl w (.slice A xs.length cap) xs) : Calls Tryz.prog 47 #[.agg #[.int .i64 2, .string ⟨#[]⟩, .slice A xs.length cap, .slice none 0 0, .slice none 0 0, .slice none 0 0]] w fun e w' => ∃ v', e = .returned v' ∧ TR w' v' xs ∧ Below w.heap.size w w' := by
  have C := Lib.hid (Clone57L _ xs hne hn (w.alloc (.cells #[.int .i64 2, .string ⟨#[]⟩, .slice A xs.length cap, .slice none 0 0, .slice none 0 0, .slice none 0 0] 31)) (h.below alloc_old))
  have hb := Lib.hid (heap_alloc_new w (.cells #[.int .i64 2, .string ⟨#[]⟩, .slice A xs.length cap, .slice none 0 0, .slice none 0 0, .slice none 0 0] 31))
  have hn0 := Lib.hid (alloc_old (w := w) (o := .cells #[.int .i64 2, .string ⟨#[]⟩, .slice A xs.length cap, .slice none 0 0, .slice none 0 0, .slice none 0 0] 31))
  clear h
  go_enter Tryz.func47, Tryz.ntmps47
  go_wp2_with (first | (go_at_call 57; (with_reducible refine (C.out).mono ?_); rintro e w2 ⟨v2, rfl, hT, hg, hb2⟩; have HT := Lib.hid hT; have HG := Lib.hid hg; have B2 := Lib.hid (hn0.out.trans (hb2.mono (by simp))); have R2 := Lib.hid (blk_below hb.out hb2); clear hT hg hb2; obtain ⟨⟨c0, c1, c2, c3, c4, c5⟩, _⟩ := cells6 R2.out))
  go_loopw [3, 16] (fun t i wr => v2 = t ∧ i = .int .i64 0 ∧ w2 = wr) (fun _ _ _ => 0)
  case atStart => exact ⟨rfl, rfl, rfl⟩
  case round =>
  obtain ⟨rfl, rfl, rfl⟩ := hrel
  go_wp2
  go_loopw [3, 31] (fun t i wr => v2 = t ∧ i = .int .i64 0 ∧ w2 = wr) (fun _ _ _ => 0)
  case atStart => exact ⟨rfl, rfl, rfl⟩
  case round =>
  obtain ⟨rfl, rfl, rfl⟩ := hrel
  go_wp2
  go_loopw [3, 44] (fun t i wr => v2 = t ∧ i = .int .i64 0 ∧ w2 = wr) (fun _ _ _ => 0)
  case atStart => exact ⟨rfl, rfl, rfl⟩
  case round =>
  obtain ⟨rfl, rfl, rfl⟩ := hrel
  go_wp2
  go_ret
  exact ⟨v2, rfl, HT.out, B2.out⟩
set_option maxRecDepth 100000 in
set_option maxHeartbeats 4000000 in
theorem texts47O (xs : List ByteArray) (A : Option Addr) (cap : Nat) (hne : xs ≠ []) (hn : xs.length ≤ 1000000) (w : World) (h : SSl w (.slice A xs.length cap) xs) : Calls Tryz.prog 47 #[.agg #[.int .i64 0, .string ⟨#[]⟩, .slice A xs.length cap, .slice none 0 0, .slice none 0 0, .slice none 0 0]] w fun e w' => ∃ v', e = .returned v' ∧ TR w' v' xs ∧ Below w.heap.size w w' := by
  have C := Lib.hid (Clone57L _ xs hne hn (w.alloc (.cells #[.int .i64 0, .string ⟨#[]⟩, .slice A xs.length cap, .slice none 0 0, .slice none 0 0, .slice none 0 0] 31)) (h.below alloc_old))
  have hb := Lib.hid (heap_alloc_new w (.cells #[.int .i64 0, .string ⟨#[]⟩, .slice A xs.length cap, .slice none 0 0, .slice none 0 0, .slice none 0 0] 31))
  have hn0 := Lib.hid (alloc_old (w := w) (o := .cells #[.int .i64 0, .string ⟨#[]⟩, .slice A xs.length cap, .slice none 0 0, .slice none 0 0, .slice none 0 0] 31))
  clear h
  go_enter Tryz.func47, Tryz.ntmps47
  go_wp2_with (first | (go_at_call 57; (with_reducible refine (C.out).mono ?_); rintro e w2 ⟨v2, rfl, hT, hg, hb2⟩; have HT := Lib.hid hT; have HG := Lib.hid hg; have B2 := Lib.hid (hn0.out.trans (hb2.mono (by simp))); have R2 := Lib.hid (blk_below hb.out hb2); clear hT hg hb2; obtain ⟨⟨c0, c1, c2, c3, c4, c5⟩, _⟩ := cells6 R2.out))
  go_loopw [3, 16] (fun t i wr => v2 = t ∧ i = .int .i64 0 ∧ w2 = wr) (fun _ _ _ => 0)
  case atStart => exact ⟨rfl, rfl, rfl⟩
  case round =>
  obtain ⟨rfl, rfl, rfl⟩ := hrel
  go_wp2
  go_loopw [3, 31] (fun t i wr => v2 = t ∧ i = .int .i64 0 ∧ w2 = wr) (fun _ _ _ => 0)
  case atStart => exact ⟨rfl, rfl, rfl⟩
  case round =>
  obtain ⟨rfl, rfl, rfl⟩ := hrel
  go_wp2
  go_loopw [3, 44] (fun t i wr => v2 = t ∧ i = .int .i64 0 ∧ w2 = wr) (fun _ _ _ => 0)
  case atStart => exact ⟨rfl, rfl, rfl⟩
  case round =>
  obtain ⟨rfl, rfl, rfl⟩ := hrel
  go_wp2
  go_ret
  exact ⟨v2, rfl, HT.out, B2.out⟩
theorem sz_q1 (n : Nat) (h : n ≤ 1000000) : IntKind.i64.wrap (16 * (n : Int)) = 16 * (n : Int) := IntWalk.i64_in _ (by omega)
theorem sz_q2 (n : Nat) (h : n ≤ 1000000) : IntKind.i64.wrap (16 + 16 * (n : Int)) = 16 + 16 * (n : Int) := IntWalk.i64_in _ (by omega)
theorem sz_q3 (n a b : Nat) (h : n ≤ 1000000) (hab : a + b ≤ 1000000000) : IntKind.i64.wrap (16 + 16 * (n : Int) + (a : Int) + (b : Int)) = 16 + 16 * (n : Int) + ((a + b : Nat) : Int) := (IntWalk.i64_in _ (by omega)).trans (by omega)
theorem some_at {α : Type} {l : List α} {k : Nat} (h : k < l.length) : ∃ x, l[k]? = some x := ⟨_, List.getElem?_eq_getElem h⟩
set_option maxRecDepth 100000 in
set_option maxHeartbeats 4000000 in
theorem Size24L (xs : List ByteArray) (A : Option Addr) (cap : Nat) (hne : xs ≠ []) (hn : xs.length ≤ 1000000) (w : World) (h : SSl w (.slice A xs.length cap) xs) (hs : sumSz xs ≤ 1000000000) : Calls Tryz.prog 24 #[.agg #[.int .i64 2, .string ⟨#[]⟩, .slice A xs.length cap, .slice none 0 0, .slice none 0 0, .slice none 0 0]] w fun e w' => e = .returned (.int .i64 (16 + 16 * (xs.length : Int) + (sumSz xs : Int))) ∧ Below w.heap.size w w' := by
  obtain ⟨W, hW⟩ : ∃ W, (w.alloc (.cells #[.int .i64 2, .string ⟨#[]⟩, .slice A xs.length cap, .slice none 0 0, .slice none 0 0, .slice none 0 0] 31)).alloc (.cells #[.int .i64 0, .string ⟨#[]⟩, .slice A xs.length cap, .slice none 0 0, .slice none 0 0, .slice none 0 0] 31) = W := ⟨_, rfl⟩
  have hb0 : W.heap[w.heap.size]? = some (.cells #[.int .i64 2, .string ⟨#[]⟩, .slice A xs.length cap, .slice none 0 0, .slice none 0 0, .slice none 0 0] 31) := by rw [← hW]; exact blk_below (heap_alloc_new w _) alloc_old
  have hb1 : W.heap[w.heap.size + 1]? = some (.cells #[.int .i64 0, .string ⟨#[]⟩, .slice A xs.length cap, .slice none 0 0, .slice none 0 0, .slice none 0 0] 31) := by rw [← hW]; have := heap_alloc_new (w.alloc (.cells #[.int .i64 2, .string ⟨#[]⟩, .slice A xs.length cap, .slice none 0 0, .slice none 0 0, .slice none 0 0] 31)) (.cells #[.int .i64 0, .string ⟨#[]⟩, .slice A xs.length cap, .slice none 0 0, .slice none 0 0, .slice none 0 0] 31); rw [World.size_alloc] at this; exact this
  have hB : Below w.heap.size w W := by rw [← hW]; exact alloc_old.trans (alloc_old.mono (by simp))
  have LN := Lib.hid (Len56L xs A cap W)
  have TX := Lib.hid (fun X (hX : Below w.heap.size w X) => texts47O xs A cap hne hn X (h.below hX))
  have B0 := Lib.hid hB
  have H0 := Lib.hid hb0
  have H1 := Lib.hid hb1
  have q1 := sz_q1 xs.length hn
  have q2 := sz_q2 xs.length hn
  obtain ⟨⟨c0, c1, c2, c3, c4, c5⟩, _⟩ := cells6 hb0
  obtain ⟨⟨d0, d1, d2, d3, d4, d5⟩, _⟩ := cells6 hb1
  clear h hb0 hb1 hB
  go_enter Tryz.func24, Tryz.ntmps24
  go_wp2_with (first | (go_at_call 56; (with_reducible refine (LN.out).mono ?_); rintro e w2 ⟨rfl, hb2⟩; have B2 := Lib.hid (B0.out.trans (hb2.mono (Below.size B0.out))); have R1 := Lib.hid (blk_below H1.out hb2); clear hb2; obtain ⟨⟨e0, e1, e2, e3, e4, e5⟩, _⟩ := cells6 R1.out; have T2 := Lib.hid (TX.out w2 B2.out)) | (go_at_call 47; (with_reducible refine (T2.out).mono ?_); rintro e w3 ⟨v3, rfl, hT3, hb3⟩; have T3 := Lib.hid hT3; have B3 := Lib.hid (B2.out.trans (hb3.mono (Below.size B2.out))); clear hT3 hb3; refine Hid.out ?_))
  refine Lib.hid ?_
  obtain ⟨A3, cap3, rfl, s2, s3, s4⟩ := T3.out.ssl
  obtain ⟨blk, off, rfl, hblt, hcell⟩ := s4 hne
  clear s2 s3 s4
  have HCL := Lib.hid hcell
  clear hcell c0 c1 c2 c3 c4 c5 d0 d1 d2 d3 d4 d5 e0 e1 e2 e3 e4 e5
  go_wp2
  go_loopw [4, 44] (fun n i wr => ∃ k : Nat, k ≤ xs.length ∧ i = .int .i64 k ∧ n = .int .i64 (16 + 16 * (xs.length : Int) + (sumSz (xs.take k) : Int)) ∧ w3 = wr) (fun _ i _ => xs.length - (iOfL i).toNat)
  case atStart => exact ⟨0, Nat.zero_le _, rfl, by simp [sumSz], rfl⟩
  case round =>
    obtain ⟨k, hk, rfl, rfl, rfl⟩ := hrel
    by_cases hlt : k < xs.length
    · have i0 : (k : Int) < (xs.length : Int) := by omega
      obtain ⟨s, hs0⟩ := some_at hlt
      have x0 := HCL.out k s hs0
      have e9 := sumSz_take hs0
      have e8 := sumSz_le xs (k + 1)
      have q3 := sz_q3 xs.length (sumSz (xs.take k)) s.size hn (by omega)
      rw [← e9] at q3
      have HE := Lib.hid e9
      clear hs0 e8 e9
      go_wp2
      exact ⟨⟨k + 1, hlt, by go_num, rfl, trivial⟩, by simp [iOfL]; omega⟩
    · have i0 : ¬ (k : Int) < (xs.length : Int) := by omega
      have hkk : xs.take k = xs := List.take_of_length_le (by omega)
      rw [hkk]
      clear hkk hlt
      go_wp2
      go_ret
      exact ⟨by simp, B3.out⟩
set_option maxRecDepth 100000 in
set_option maxHeartbeats 4000000 in
theorem VMay23L (xs : List ByteArray) (A : Option Addr) (cap : Nat) (hne : xs ≠ []) (hn : xs.length ≤ 1000000) (w : World) (h : SSl w (.slice A xs.length cap) xs) (h1000 : xs.length ≤ 1000) (hsz : ∀ s ∈ xs, s.size ≤ 4096) (hs : 16 + 16 * xs.length + sumSz xs ≤ 262144) : Calls Tryz.prog 23 #[.agg #[.int .i64 2, .string ⟨#[]⟩, .slice A xs.length cap, .slice none 0 0, .slice none 0 0, .slice none 0 0]] w fun e w' => e = .returned (.bool true) ∧ Below w.heap.size w w' := by
  have CN := Lib.hid (fun X => count46L xs A cap X)
  have TX := Lib.hid (fun X (hX : Below w.heap.size w X) => texts47L xs A cap hne hn X (h.below hX))
  have SZ := Lib.hid (fun X (hX : Below w.heap.size w X) => Size24L xs A cap hne hn X (h.below hX) (by omega))
  have F1 := Lib.hid rise49
  have F2 := Lib.hid rise51
  have F3 := Lib.hid rise53
  have F4 := Lib.hid once55
  have B0 := Lib.hid (alloc_old (w := w) (o := .cells #[.int .i64 2, .string ⟨#[]⟩, .slice A xs.length cap, .slice none 0 0, .slice none 0 0, .slice none 0 0] 31))
  have R0 := Lib.hid (heap_alloc_new w (.cells #[.int .i64 2, .string ⟨#[]⟩, .slice A xs.length cap, .slice none 0 0, .slice none 0 0, .slice none 0 0] 31))
  have hpos : 0 < xs.length := List.length_pos_iff.2 hne
  have g1 : ¬ (xs.length : Int) < 1 := by omega
  have g2 : ¬ (1000 : Int) < (xs.length : Int) := by omega
  have g3 : 16 + 16 * (xs.length : Int) + (sumSz xs : Int) ≤ 262144 := by omega
  clear h hs hpos
  go_enter Tryz.func23, Tryz.ntmps23
  go_wp2_with (first | (go_at_call 46; (with_reducible refine (CN.out _).mono ?_); rintro e w1 ⟨rfl, hb⟩; have B1 := Lib.hid (B0.out.trans (hb.mono (Below.size B0.out))); have R1 := Lib.hid (blk_below R0.out hb); clear hb; obtain ⟨⟨c0, c1, c2, c3, c4, c5⟩, _⟩ := cells6 R1.out; refine Hid.out ?_))
  refine Lib.hid ?_
  have RN := Lib.hid (heap_alloc_new w1 (.cells #[.int .i64 (xs.length : Int), .int .i64 0, .int .i64 0, .int .i64 0] 73))
  have B2 := Lib.hid (B1.out.trans ((alloc_old (o := .cells #[.int .i64 (xs.length : Int), .int .i64 0, .int .i64 0, .int .i64 0] 73)).mono (Below.size B1.out)))
  have R2 := Lib.hid (blk_below R1.out (alloc_old (o := .cells #[.int .i64 (xs.length : Int), .int .i64 0, .int .i64 0, .int .i64 0] 73)))
  obtain ⟨⟨c0, c1, c2, c3, c4, c5⟩, _⟩ := cells6 R2.out
  obtain ⟨⟨n0, n1, n2, n3⟩, _⟩ := cells4 RN.out
  have T2 := Lib.hid (TX.out _ B2.out)
  go_wp2_with (first | (go_at_call 47; (with_reducible refine (T2.out).mono ?_); rintro e w3 ⟨v3, rfl, hT3, hb⟩; have T3 := Lib.hid hT3; clear hT3; have B3 := Lib.hid (B2.out.trans (hb.mono (Below.size B2.out))); have R3 := Lib.hid (blk_below R2.out hb); clear hb; obtain ⟨⟨c0, c1, c2, c3, c4, c5⟩, _⟩ := cells6 R3.out; refine Hid.out ?_))
  refine Lib.hid ?_
  obtain ⟨A3, cap3, rfl, s2, s3, s4⟩ := T3.out.ssl
  obtain ⟨blk, off, rfl, hblt, hcell⟩ := s4 hne
  clear s2 s3 s4 n0 n1 n2 n3
  have HCL := Lib.hid hcell
  clear hcell
  go_wp2
  go_loopw [62] (fun i wr => ∃ k : Nat, k ≤ xs.length ∧ i = .int .i64 k ∧ w3 = wr) (fun i _ => xs.length - (iOfL i).toNat)
  case atStart => exact ⟨0, Nat.zero_le _, rfl, rfl⟩
  case round =>
    obtain ⟨k, hk, rfl, rfl⟩ := hrel
    by_cases hlt : k < xs.length
    · have i0 : (k : Int) < (xs.length : Int) := by omega
      obtain ⟨s, hs0⟩ := some_at hlt
      have x0 := HCL.out k s hs0
      have hs1 := hsz s (List.mem_of_getElem? hs0)
      have i1 : ¬ (4096 : Int) < (s.size : Int) := by omega
      clear hs0 hs1
      go_wp2
      exact ⟨⟨k + 1, hlt, by go_num, trivial⟩, by simp [iOfL]; omega⟩
    · have i0 : ¬ (k : Int) < (xs.length : Int) := by omega
      clear hlt
      go_wp2
      go_loopw [73] (fun i wr => i = .int .i64 0 ∧ w3 = wr) (fun _ _ => 0)
      case atStart => exact ⟨rfl, rfl⟩
      case round =>
        obtain ⟨rfl, rfl⟩ := hrel
        go_wp2_with (first | (go_at_call 49; (with_reducible refine (F1.out _ _).mono ?_); rintro e w4 ⟨rfl, hb⟩; have B4 := Lib.hid (B3.out.trans (hb.mono (Below.size B3.out))); have R4 := Lib.hid (blk_below R3.out hb); clear hb; obtain ⟨⟨c0, c1, c2, c3, c4, c5⟩, _⟩ := cells6 R4.out) | (go_at_call 51; (with_reducible refine (F2.out _ _).mono ?_); rintro e w5 ⟨rfl, hb⟩; have B5 := Lib.hid (B4.out.trans (hb.mono (Below.size B4.out))); have R5 := Lib.hid (blk_below R4.out hb); clear hb; obtain ⟨⟨c0, c1, c2, c3, c4, c5⟩, _⟩ := cells6 R5.out) | (go_at_call 53; (with_reducible refine (F3.out _ _).mono ?_); rintro e w6 ⟨rfl, hb⟩; have B6 := Lib.hid (B5.out.trans (hb.mono (Below.size B5.out))); have R6 := Lib.hid (blk_below R5.out hb); clear hb; obtain ⟨⟨c0, c1, c2, c3, c4, c5⟩, _⟩ := cells6 R6.out) | (go_at_call 55; (with_reducible refine (F4.out _).mono ?_); rintro e w7 ⟨rfl, hb⟩; have B7 := Lib.hid (B6.out.trans (hb.mono (Below.size B6.out))); have R7 := Lib.hid (blk_below R6.out hb); clear hb; obtain ⟨⟨c0, c1, c2, c3, c4, c5⟩, _⟩ := cells6 R7.out; have S7 := Lib.hid (SZ.out _ B7.out)) | (go_at_call 24; (with_reducible refine (S7.out).mono ?_); rintro e w8 ⟨rfl, hb⟩; have B8 := Lib.hid (B7.out.trans (hb.mono (Below.size B7.out))); have R8 := Lib.hid (blk_below R7.out hb); clear hb; obtain ⟨⟨c0, c1, c2, c3, c4, c5⟩, _⟩ := cells6 R8.out))
        go_ret
        exact ⟨by simp, B8.out⟩
theorem far60 {X : World} {b i : Nat} (v0 v1 v2 v3 v4 v5 : Value) (hi : i ≠ b) : ((((((X.setCell ⟨b, 0, none⟩ v0).setCell ⟨b, 1, none⟩ v1).setCell ⟨b, 2, none⟩ v2).setCell ⟨b, 3, none⟩ v3).setCell ⟨b, 4, none⟩ v4).setCell ⟨b, 5, none⟩ v5).heap[i]? = X.heap[i]? :=
  (Below.heap_setCell _ ⟨b, 5, none⟩ _ _ hi).trans ((Below.heap_setCell _ ⟨b, 4, none⟩ _ _ hi).trans ((Below.heap_setCell _ ⟨b, 3, none⟩ _ _ hi).trans ((Below.heap_setCell _ ⟨b, 2, none⟩ _ _ hi).trans ((Below.heap_setCell _ ⟨b, 1, none⟩ _ _ hi).trans (Below.heap_setCell _ ⟨b, 0, none⟩ _ _ hi)))))
set_option maxRecDepth 100000 in
set_option maxHeartbeats 4000000 in
theorem VClone25L (xs : List ByteArray) (A : Option Addr) (cap : Nat) (hne : xs ≠ []) (hn : xs.length ≤ 1000000) (w : World) (h : SSl w (.slice A xs.length cap) xs) : Calls Tryz.prog 25 #[.agg #[.int .i64 2, .string ⟨#[]⟩, .slice A xs.length cap, .slice none 0 0, .slice none 0 0, .slice none 0 0]] w fun e w' => ∃ v', e = .returned (.agg #[.int .i64 2, .string ⟨#[]⟩, v', .slice none 0 0, .slice none 0 0, .slice none 0 0]) ∧ TR w' v' xs ∧ (∃ g, v'.ownBlock = some g ∧ w.heap.size ≤ g) ∧ Below w.heap.size w w' := by
  go_enter Tryz.func25, Tryz.ntmps25
  go_wp2
  obtain ⟨W, hW⟩ : ∃ W, (w.alloc (.cells #[.int .i64 2, .string ⟨#[]⟩, .slice A xs.length cap, .slice none 0 0, .slice none 0 0, .slice none 0 0] 31)).alloc (.cells #[.int .i64 0, .string ⟨#[]⟩, .slice none 0 0, .slice none 0 0, .slice none 0 0, .slice none 0 0] 31) = W := ⟨_, rfl⟩
  have hz : W.heap.size = w.heap.size + 2 := by rw [← hW]; simp
  have hb0 : W.heap[w.heap.size]? = some (.cells #[.int .i64 2, .string ⟨#[]⟩, .slice A xs.length cap, .slice none 0 0, .slice none 0 0, .slice none 0 0] 31) := by rw [← hW]; exact blk_below (heap_alloc_new w _) alloc_old
  have hb1 : W.heap[w.heap.size + 1]? = some (.cells #[.int .i64 0, .string ⟨#[]⟩, .slice none 0 0, .slice none 0 0, .slice none 0 0, .slice none 0 0] 31) := by rw [← hW]; have := heap_alloc_new (w.alloc (.cells #[.int .i64 2, .string ⟨#[]⟩, .slice A xs.length cap, .slice none 0 0, .slice none 0 0, .slice none 0 0] 31)) (.cells #[.int .i64 0, .string ⟨#[]⟩, .slice none 0 0, .slice none 0 0, .slice none 0 0, .slice none 0 0] 31); rw [World.size_alloc] at this; exact this
  have hB : Below w.heap.size w W := by rw [← hW]; exact alloc_old.trans (alloc_old.mono (by simp))
  have C57 := Lib.hid (Clone57L _ xs hne hn W.drew (h.below hB.drew))
  have K := Lib.hid (show ∀ X, Below (w.heap.size + 1) W X → ((X.cell? ⟨w.heap.size, 0, none⟩ = some (.int .i64 2) ∧ X.cell? ⟨w.heap.size, 1, none⟩ = some (.string ⟨#[]⟩) ∧ X.cell? ⟨w.heap.size, 2, none⟩ = some (.slice A xs.length cap) ∧ X.cell? ⟨w.heap.size, 3, none⟩ = some (.slice none 0 0) ∧ X.cell? ⟨w.heap.size, 4, none⟩ = some (.slice none 0 0) ∧ X.cell? ⟨w.heap.size, 5, none⟩ = some (.slice none 0 0)) ∧ Below (w.heap.size + 1) W X) from fun X hb => by
    obtain ⟨⟨c0, c1, c2, c3, c4, c5⟩, _⟩ := cells6 ((hb.block _ (Nat.lt_succ_self _)).trans hb0)
    exact ⟨⟨c0, c1, c2, c3, c4, c5⟩, hb⟩)
  have ST := Lib.hid (show ∀ X v0 v1 v2 v3 v4 v5, ((X.cell? ⟨w.heap.size, 0, none⟩ = some (.int .i64 2) ∧ X.cell? ⟨w.heap.size, 1, none⟩ = some (.string ⟨#[]⟩) ∧ X.cell? ⟨w.heap.size, 2, none⟩ = some (.slice A xs.length cap) ∧ X.cell? ⟨w.heap.size, 3, none⟩ = some (.slice none 0 0) ∧ X.cell? ⟨w.heap.size, 4, none⟩ = some (.slice none 0 0) ∧ X.cell? ⟨w.heap.size, 5, none⟩ = some (.slice none 0 0)) ∧ Below (w.heap.size + 1) W X) → (fun X => (X.cell? ⟨w.heap.size, 0, none⟩ = some (.int .i64 2) ∧ X.cell? ⟨w.heap.size, 1, none⟩ = some (.string ⟨#[]⟩) ∧ X.cell? ⟨w.heap.size, 2, none⟩ = some (.slice A xs.length cap) ∧ X.cell? ⟨w.heap.size, 3, none⟩ = some (.slice none 0 0) ∧ X.cell? ⟨w.heap.size, 4, none⟩ = some (.slice none 0 0) ∧ X.cell? ⟨w.heap.size, 5, none⟩ = some (.slice none 0 0)) ∧ Below (w.heap.size + 1) W X) (((((((X).setCell ⟨w.heap.size + 1, 0, none⟩ v0).setCell ⟨w.heap.size + 1, 1, none⟩ v1).setCell ⟨w.heap.size + 1, 2, none⟩ v2).setCell ⟨w.heap.size + 1, 3, none⟩ v3).setCell ⟨w.heap.size + 1, 4, none⟩ v4).setCell ⟨w.heap.size + 1, 5, none⟩ v5) from fun X v0 v1 v2 v3 v4 v5 hX => K.out _ ((((((hX.2.setCell (p := ⟨w.heap.size + 1, 0, none⟩) (Nat.le_refl _) v0).setCell (p := ⟨w.heap.size + 1, 1, none⟩) (Nat.le_refl _) v1).setCell (p := ⟨w.heap.size + 1, 2, none⟩) (Nat.le_refl _) v2).setCell (p := ⟨w.heap.size + 1, 3, none⟩) (Nat.le_refl _) v3).setCell (p := ⟨w.heap.size + 1, 4, none⟩) (Nat.le_refl _) v4).setCell (p := ⟨w.heap.size + 1, 5, none⟩) (Nat.le_refl _) v5))
  have S0 : (W.drew.cell? ⟨w.heap.size, 0, none⟩ = some (.int .i64 2) ∧ W.drew.cell? ⟨w.heap.size, 1, none⟩ = some (.string ⟨#[]⟩) ∧ W.drew.cell? ⟨w.heap.size, 2, none⟩ = some (.slice A xs.length cap) ∧ W.drew.cell? ⟨w.heap.size, 3, none⟩ = some (.slice none 0 0) ∧ W.drew.cell? ⟨w.heap.size, 4, none⟩ = some (.slice none 0 0) ∧ W.drew.cell? ⟨w.heap.size, 5, none⟩ = some (.slice none 0 0)) ∧ Below (w.heap.size + 1) W W.drew := K.out _ (Below.refl _ W).drew
  have B0 := Lib.hid hB.drew
  have H1 := Lib.hid (show W.drew.heap[w.heap.size + 1]? = some (.cells #[.int .i64 0, .string ⟨#[]⟩, .slice none 0 0, .slice none 0 0, .slice none 0 0, .slice none 0 0] 31) from hb1)
  have hzd : w.heap.size + 1 ≤ W.drew.heap.size := by show _ ≤ W.heap.size; omega
  have hz2 : w.heap.size + 2 ≤ W.drew.heap.size := by show _ ≤ W.heap.size; omega
  obtain ⟨⟨c0, c1, c2, c3, c4, c5⟩, ⟨f0, f1, f2, f3, f4, f5⟩⟩ := cells6 H1.out
  rw [hW]
  clear hW hz hb0 hb1 hB h
  go_region_held3 (fun X => (X.cell? ⟨w.heap.size, 0, none⟩ = some (.int .i64 2) ∧ X.cell? ⟨w.heap.size, 1, none⟩ = some (.string ⟨#[]⟩) ∧ X.cell? ⟨w.heap.size, 2, none⟩ = some (.slice A xs.length cap) ∧ X.cell? ⟨w.heap.size, 3, none⟩ = some (.slice none 0 0) ∧ X.cell? ⟨w.heap.size, 4, none⟩ = some (.slice none 0 0) ∧ X.cell? ⟨w.heap.size, 5, none⟩ = some (.slice none 0 0)) ∧ Below (w.heap.size + 1) W X) (first | (with_reducible exact S0) | (with_reducible exact S3.out) | (refine ST.out _ _ _ _ _ _ _ ?_; assumption))
    (first | (go_at_call 57; (with_reducible refine (C57.out).mono ?_); rintro e w3 ⟨v3, rfl, ⟨g, C, cs, rfl, t2, t3, t4, t5⟩, hg, hb⟩; have HT := Lib.hid (show TR w3 (.slice (some ⟨g, 0, none⟩) xs.length C) xs from ⟨g, C, cs, rfl, t2, t3, t4, t5⟩); have HG := Lib.hid (by obtain ⟨g0, hg0, hg1⟩ := hg; cases hg0; exact hg1 : W.drew.heap.size ≤ g); have S3 := Lib.hid (K.out w3 ((Below.refl _ W).drew.trans (hb.mono hzd))); have R3 := Lib.hid (blk_below H1.out hb); have B3 := Lib.hid (B0.out.trans (hb.mono (Below.size B0.out))); clear t2 t3 t4 t5 hg hb; obtain ⟨⟨c0, c1, c2, c3, c4, c5⟩, ⟨f0, f1, f2, f3, f4, f5⟩⟩ := cells6 R3.out) | (go_at_call 58; (with_reducible refine (Clone58 _).mono ?_); rintro e w' ⟨rfl, rfl⟩) | (go_at_call 59; (with_reducible refine (Clone59 _).mono ?_); rintro e w' ⟨rfl, rfl⟩) | (go_at_call 60; (with_reducible refine (Clone60 _).mono ?_); rintro e w' ⟨rfl, rfl⟩))
  go_wp2
  have hge := HG.out
  exact bodyPost_ret (v := .agg #[.int .i64 2, .string ⟨#[]⟩, .slice (some ⟨g, 0, none⟩) xs.length C, .slice none 0 0, .slice none 0 0, .slice none 0 0]) (by simp [results, Tryz.results25, go_sem, c0, c1, c2, c3, c4, c5]) rfl ⟨_, rfl, HT.out.kept (fun g' hg' => far60 _ _ _ _ _ _ (by cases hg'; show g ≠ w.heap.size + 1; omega)), ⟨g, rfl, by omega⟩, (((((B3.out.setCell (Nat.le_succ _) _).setCell (Nat.le_succ _) _).setCell (Nat.le_succ _) _).setCell (Nat.le_succ _) _).setCell (Nat.le_succ _) _).setCell (Nat.le_succ _) _⟩
theorem far6b {X : World} {b i : Nat} (hi : i ≠ b) (v1 v2 v3 v4 v5 v6 : Value) : ((((((X.setCell ⟨b, 1, none⟩ v1).setCell ⟨b, 2, none⟩ v2).setCell ⟨b, 3, none⟩ v3).setCell ⟨b, 4, none⟩ v4).setCell ⟨b, 5, none⟩ v5).setCell ⟨b, 6, none⟩ v6).heap[i]? = X.heap[i]? :=
  (Below.heap_setCell _ ⟨b, 6, none⟩ _ _ hi).trans ((Below.heap_setCell _ ⟨b, 5, none⟩ _ _ hi).trans ((Below.heap_setCell _ ⟨b, 4, none⟩ _ _ hi).trans ((Below.heap_setCell _ ⟨b, 3, none⟩ _ _ hi).trans ((Below.heap_setCell _ ⟨b, 2, none⟩ _ _ hi).trans (Below.heap_setCell _ ⟨b, 1, none⟩ _ _ hi)))))
theorem far8b {X : World} {b i : Nat} (hi : i ≠ b) (v0 v1 v2 v3 v4 v5 v6 v7 : Value) : ((((((((X.setCell ⟨b, 0, none⟩ v0).setCell ⟨b, 1, none⟩ v1).setCell ⟨b, 2, none⟩ v2).setCell ⟨b, 3, none⟩ v3).setCell ⟨b, 4, none⟩ v4).setCell ⟨b, 5, none⟩ v5).setCell ⟨b, 6, none⟩ v6).setCell ⟨b, 7, none⟩ v7).heap[i]? = X.heap[i]? :=
  (Below.heap_setCell _ ⟨b, 7, none⟩ _ _ hi).trans ((far6b hi v1 v2 v3 v4 v5 v6).trans (Below.heap_setCell _ ⟨b, 0, none⟩ _ _ hi))
theorem heap2L {o : Obj} (X : World) (o2 : Obj) : ((X.alloc o).alloc o2).heap[X.heap.size + 1]? = some o2 := by
  have h := heap_alloc_new (X.alloc o) o2
  have e : (X.alloc o).heap.size = X.heap.size + 1 := by simp
  rw [e] at h
  exact h
set_option maxRecDepth 100000 in
set_option maxHeartbeats 4000000 in
theorem clone17L (k : ByteArray) (u : Int) (xs : List ByteArray) (A : Option Addr) (cap : Nat) (hne : xs ≠ []) (hn : xs.length ≤ 1000000) (w : World) (h : SSl w (.slice A xs.length cap) xs) : Calls Tryz.prog 17 #[.agg #[.string k, .int .i64 2, .string ⟨#[]⟩, .slice A xs.length cap, .slice none 0 0, .slice none 0 0, .slice none 0 0, .int .i64 u]] w fun e w' => ∃ g C, e = .returned (.agg #[.string k, .int .i64 2, .string ⟨#[]⟩, .slice (some ⟨g, 0, none⟩) xs.length C, .slice none 0 0, .slice none 0 0, .slice none 0 0, .int .i64 u]) ∧ TR w' (.slice (some ⟨g, 0, none⟩) xs.length C) xs ∧ w.heap.size ≤ g ∧ Below w.heap.size w w' := by
  have hb1 := Lib.hid (show ((w.alloc (.cells #[.string k, .int .i64 2, .string ⟨#[]⟩, .slice A xs.length cap, .slice none 0 0, .slice none 0 0, .slice none 0 0, .int .i64 u] 33)).alloc (.cells #[.string ⟨#[]⟩, .int .i64 0, .string ⟨#[]⟩, .slice none 0 0, .slice none 0 0, .slice none 0 0, .slice none 0 0, .int .i64 0] 33)).heap[w.heap.size]? = some (.cells #[.string k, .int .i64 2, .string ⟨#[]⟩, .slice A xs.length cap, .slice none 0 0, .slice none 0 0, .slice none 0 0, .int .i64 u] 33) from blk_below (heap_alloc_new w _) alloc_old)
  have hb2 := Lib.hid (heap2L (o := .cells #[.string k, .int .i64 2, .string ⟨#[]⟩, .slice A xs.length cap, .slice none 0 0, .slice none 0 0, .slice none 0 0, .int .i64 u] 33) w (.cells #[.string ⟨#[]⟩, .int .i64 0, .string ⟨#[]⟩, .slice none 0 0, .slice none 0 0, .slice none 0 0, .slice none 0 0, .int .i64 0] 33))
  have hb3 := Lib.hid (show Below w.heap.size w ((w.alloc (.cells #[.string k, .int .i64 2, .string ⟨#[]⟩, .slice A xs.length cap, .slice none 0 0, .slice none 0 0, .slice none 0 0, .int .i64 u] 33)).alloc (.cells #[.string ⟨#[]⟩, .int .i64 0, .string ⟨#[]⟩, .slice none 0 0, .slice none 0 0, .slice none 0 0, .slice none 0 0, .int .i64 0] 33)) from alloc_old.trans (alloc_old.mono (by simp)))
  have V := Lib.hid (VClone25L xs A cap hne hn _ (h.below hb3.out))
  have hz : ((w.alloc (.cells #[.string k, .int .i64 2, .string ⟨#[]⟩, .slice A xs.length cap, .slice none 0 0, .slice none 0 0, .slice none 0 0, .int .i64 u] 33)).alloc (.cells #[.string ⟨#[]⟩, .int .i64 0, .string ⟨#[]⟩, .slice none 0 0, .slice none 0 0, .slice none 0 0, .slice none 0 0, .int .i64 0] 33)).heap.size = w.heap.size + 2 := by simp
  have HZ := Lib.hid hz
  clear h hz
  go_enter Tryz.func17, Tryz.ntmps17
  go_wp2_with (first | (go_at_call 25; (with_reducible refine (V.out).mono ?_); rintro e w1 ⟨v3, rfl, ⟨g, C, cs, rfl, t2, t3, t4, t5⟩, hg, h1⟩; have HT := Lib.hid (show TR w1 (.slice (some ⟨g, 0, none⟩) xs.length C) xs from ⟨g, C, cs, rfl, t2, t3, t4, t5⟩); have HG := Lib.hid (by obtain ⟨g0, hg0, hg1⟩ := hg; cases hg0; rw [HZ.out] at hg1; exact hg1 : w.heap.size + 2 ≤ g); have B1 := Lib.hid h1; clear t2 t3 t4 t5 hg h1; obtain ⟨⟨c0, c1, c2, c3, c4, c5, c6, c7⟩, ⟨f0, f1, f2, f3, f4, f5, f6, f7⟩, z1⟩ := cells8 (blk_below hb1.out B1.out); obtain ⟨⟨d0, d1, d2, d3, d4, d5, d6, d7⟩, ⟨g0, g1, g2, g3, g4, g5, g6, g7⟩, z2⟩ := cells8 (blk_below hb2.out B1.out)))
  have hge := HG.out
  have hz := HZ.out
  have hn1 : g ≠ w.heap.size := by omega
  have hn2 : g ≠ w.heap.size + 1 := by omega
  exact bodyPost_ret (v := .agg #[.string k, .int .i64 2, .string ⟨#[]⟩, .slice (some ⟨g, 0, none⟩) xs.length C, .slice none 0 0, .slice none 0 0, .slice none 0 0, .int .i64 u]) (by simp [results, Tryz.results17, go_sem, d0, d1, d2, d3, d4, d5, d6, d7]) rfl ⟨g, C, rfl, HT.out.kept (fun g' hg' => by cases hg'; exact (far8b hn2 _ _ _ _ _ _ _ _).trans (far6b hn1 _ _ _ _ _ _)), by omega, ((((((((((((((hb3.out.trans (B1.out.mono (by omega))).setCell (Nat.le_refl _) _).setCell (Nat.le_refl _) _).setCell (Nat.le_refl _) _).setCell (Nat.le_refl _) _).setCell (Nat.le_refl _) _).setCell (Nat.le_refl _) _).setCell (Nat.le_succ _) _).setCell (Nat.le_succ _) _).setCell (Nat.le_succ _) _).setCell (Nat.le_succ _) _).setCell (Nat.le_succ _) _).setCell (Nat.le_succ _) _).setCell (Nat.le_succ _) _).setCell (Nat.le_succ _) _⟩
theorem sz_e (n m : Nat) (a : Nat) (ha : a ≤ 1000000) (hn : n ≤ 1000000) (hm : m ≤ 1000000000) : IntKind.i64.wrap (32 + (a : Int)) = 32 + (a : Int) ∧ IntKind.i64.wrap (32 + (a : Int) + (16 + 16 * (n : Int) + (m : Int))) = 48 + (a : Int) + 16 * (n : Int) + (m : Int) :=
  ⟨IntWalk.i64_in _ (by omega), (IntWalk.i64_in _ (by omega)).trans (by omega)⟩
set_option maxRecDepth 100000 in
set_option maxHeartbeats 4000000 in
theorem size16L (k : ByteArray) (u : Int) (hk : k.size ≤ 1000000) (xs : List ByteArray) (A : Option Addr) (cap : Nat) (hne : xs ≠ []) (hn : xs.length ≤ 1000000) (w : World) (h : SSl w (.slice A xs.length cap) xs) (hs : sumSz xs ≤ 1000000000) : Calls Tryz.prog 16 #[.agg #[.string k, .int .i64 2, .string ⟨#[]⟩, .slice A xs.length cap, .slice none 0 0, .slice none 0 0, .slice none 0 0, .int .i64 u]] w fun e w' => e = .returned (.int .i64 (48 + (k.size : Int) + 16 * (xs.length : Int) + (sumSz xs : Int))) ∧ Below w.heap.size w w' := by
  obtain ⟨q1, q2⟩ := sz_e xs.length (sumSz xs) k.size hk hn hs
  obtain ⟨W, hW⟩ : ∃ W, w.alloc (.cells #[.string k, .int .i64 2, .string ⟨#[]⟩, .slice A xs.length cap, .slice none 0 0, .slice none 0 0, .slice none 0 0, .int .i64 u] 33) = W := ⟨_, rfl⟩
  have hb1 : W.heap[w.heap.size]? = some (.cells #[.string k, .int .i64 2, .string ⟨#[]⟩, .slice A xs.length cap, .slice none 0 0, .slice none 0 0, .slice none 0 0, .int .i64 u] 33) := by rw [← hW]; exact heap_alloc_new w _
  have hb3 : Below w.heap.size w W := by rw [← hW]; exact alloc_old
  have hz : w.heap.size ≤ W.heap.size := Below.size hb3
  have Q := Lib.hid (Size24L xs A cap hne hn W.drew (h.below hb3.drew) hs)
  have K := Lib.hid (show ∀ X, Below W.heap.size W X → (X.cell? ⟨w.heap.size, 0, none⟩ = some (.string k) ∧ X.cell? ⟨w.heap.size, 1, none⟩ = some (.int .i64 2) ∧ X.cell? ⟨w.heap.size, 2, none⟩ = some (.string ⟨#[]⟩) ∧ X.cell? ⟨w.heap.size, 3, none⟩ = some (.slice A xs.length cap) ∧ X.cell? ⟨w.heap.size, 4, none⟩ = some (.slice none 0 0) ∧ X.cell? ⟨w.heap.size, 5, none⟩ = some (.slice none 0 0) ∧ X.cell? ⟨w.heap.size, 6, none⟩ = some (.slice none 0 0)) from fun X hb => by
    obtain ⟨⟨c0, c1, c2, c3, c4, c5, c6, c7⟩, _⟩ := cells8 (blk_below hb1 hb)
    exact ⟨c0, c1, c2, c3, c4, c5, c6⟩)
  have S0 : ((W.drew.cell? ⟨w.heap.size, 0, none⟩ = some (.string k) ∧ W.drew.cell? ⟨w.heap.size, 1, none⟩ = some (.int .i64 2) ∧ W.drew.cell? ⟨w.heap.size, 2, none⟩ = some (.string ⟨#[]⟩) ∧ W.drew.cell? ⟨w.heap.size, 3, none⟩ = some (.slice A xs.length cap) ∧ W.drew.cell? ⟨w.heap.size, 4, none⟩ = some (.slice none 0 0) ∧ W.drew.cell? ⟨w.heap.size, 5, none⟩ = some (.slice none 0 0) ∧ W.drew.cell? ⟨w.heap.size, 6, none⟩ = some (.slice none 0 0)) ∧ Below W.heap.size W W.drew) := ⟨K.out _ (Below.refl W.heap.size W).drew, (Below.refl W.heap.size W).drew⟩
  have SK := Lib.hid (show ∀ Y X : World, Below X.heap.size X Y → ((X.cell? ⟨w.heap.size, 0, none⟩ = some (.string k) ∧ X.cell? ⟨w.heap.size, 1, none⟩ = some (.int .i64 2) ∧ X.cell? ⟨w.heap.size, 2, none⟩ = some (.string ⟨#[]⟩) ∧ X.cell? ⟨w.heap.size, 3, none⟩ = some (.slice A xs.length cap) ∧ X.cell? ⟨w.heap.size, 4, none⟩ = some (.slice none 0 0) ∧ X.cell? ⟨w.heap.size, 5, none⟩ = some (.slice none 0 0) ∧ X.cell? ⟨w.heap.size, 6, none⟩ = some (.slice none 0 0)) ∧ Below W.heap.size W X) → ((Y.cell? ⟨w.heap.size, 0, none⟩ = some (.string k) ∧ Y.cell? ⟨w.heap.size, 1, none⟩ = some (.int .i64 2) ∧ Y.cell? ⟨w.heap.size, 2, none⟩ = some (.string ⟨#[]⟩) ∧ Y.cell? ⟨w.heap.size, 3, none⟩ = some (.slice A xs.length cap) ∧ Y.cell? ⟨w.heap.size, 4, none⟩ = some (.slice none 0 0) ∧ Y.cell? ⟨w.heap.size, 5, none⟩ = some (.slice none 0 0) ∧ Y.cell? ⟨w.heap.size, 6, none⟩ = some (.slice none 0 0)) ∧ Below W.heap.size W Y) from fun Y X hb h => ⟨K.out _ (belT h.2 hb), belT h.2 hb⟩)
  have HB := Lib.hid hb3
  clear hb1 hb3 h
  go_enter Tryz.func16, Tryz.ntmps16
  go_wp2

  clear hW
  go_region_held3 (fun X => ((X.cell? ⟨w.heap.size, 0, none⟩ = some (.string k) ∧ X.cell? ⟨w.heap.size, 1, none⟩ = some (.int .i64 2) ∧ X.cell? ⟨w.heap.size, 2, none⟩ = some (.string ⟨#[]⟩) ∧ X.cell? ⟨w.heap.size, 3, none⟩ = some (.slice A xs.length cap) ∧ X.cell? ⟨w.heap.size, 4, none⟩ = some (.slice none 0 0) ∧ X.cell? ⟨w.heap.size, 5, none⟩ = some (.slice none 0 0) ∧ X.cell? ⟨w.heap.size, 6, none⟩ = some (.slice none 0 0)) ∧ Below W.heap.size W X)) (first | exact S0 | exact SK.out _ _ (by assumption) (by assumption) | exact SK.out _ _ (by assumption) ⟨by assumption, by assumption⟩)
    (first | (go_at_call 24; refine (Q.out).mono ?_; rintro e w5 ⟨rfl, hb5⟩))
  go_wp2
  go_ret
  exact ⟨by simp, HB.out.trans ((belT S0.2 hb5).mono hz)⟩
set_option maxRecDepth 100000 in
set_option maxHeartbeats 4000000 in
theorem May15L (k : ByteArray) (hk1 : 1 ≤ k.size) (hk : k.size ≤ 512) (u : Int) (hu0 : 0 ≤ u) (hu1 : u ≤ 1125899906842624) (xs : List ByteArray) (A : Option Addr) (cap : Nat) (hne : xs ≠ []) (hn : xs.length ≤ 1000000) (w : World) (h : SSl w (.slice A xs.length cap) xs) (h1000 : xs.length ≤ 1000) (hsz : ∀ s ∈ xs, s.size ≤ 4096) (hs : 16 + 16 * xs.length + sumSz xs ≤ 262144) : Calls Tryz.prog 15 #[.agg #[.string k, .int .i64 2, .string ⟨#[]⟩, .slice A xs.length cap, .slice none 0 0, .slice none 0 0, .slice none 0 0, .int .i64 u]] w fun e w' => e = .returned (.bool true) ∧ Below w.heap.size w w' := by
  have i1 : (1 : Int) ≤ (k.size : Int) := by omega
  have i2 : (k.size : Int) ≤ 512 := by omega
  have V := Lib.hid (VMay23L xs A cap hne hn (w.alloc (.cells #[.string k, .int .i64 2, .string ⟨#[]⟩, .slice A xs.length cap, .slice none 0 0, .slice none 0 0, .slice none 0 0, .int .i64 u] 33)) (h.below alloc_old) h1000 hsz hs)
  have hb1 := Lib.hid (heap_alloc_new w (.cells #[.string k, .int .i64 2, .string ⟨#[]⟩, .slice A xs.length cap, .slice none 0 0, .slice none 0 0, .slice none 0 0, .int .i64 u] 33))
  clear h hsz hs hk1 hk
  go_enter Tryz.func15, Tryz.ntmps15
  go_wp2_with (first | (go_at_call 23; (with_reducible refine (V.out).mono ?_); rintro e w1 ⟨rfl, h1⟩; have B1 := Lib.hid h1; clear h1; obtain ⟨⟨c0, c1, c2, c3, c4, c5, c6, c7⟩, _, z1⟩ := cells8 (blk_below hb1.out B1.out)))
  go_ret
  exact ⟨by simp, alloc_old.trans (B1.out.mono (by simp))⟩
theorem Over_kdL (k : ByteArray) (A : Option Addr) (n0 c0 : Nat) (u n : Int) (h : Lives u n) (w : World) : Calls Tryz.prog 21 #[.agg #[.string k, .int .i64 2, .string ⟨#[]⟩, .slice A n0 c0, .slice none 0 0, .slice none 0 0, .slice none 0 0, .int .i64 u], .int .i64 n] w fun e w' => e = .returned (.bool false) ∧ Below w.heap.size w w' := by
  rcases h with rfl | ⟨h0, h1⟩
  · go_enter Tryz.func21, Tryz.ntmps21
    go_wp2
    go_ret
    exact ⟨rfl, alloc_old⟩
  · have g1 : ¬ u = 0 := by omega
    have g2 : (u == 0) = false := by rw [beq_eq_false_iff_ne]; exact g1
    have g3 : ¬ u ≤ n := by omega
    go_enter Tryz.func21, Tryz.ntmps21
    go_wp2
    go_ret
    exact ⟨by simp, alloc_old⟩
theorem far8c {X : World} {b i : Nat} (hi : i ≠ b) (v0 v1 v2 v3 v4 v5 v6 v7 : Value) : ((((((((X.setCell ⟨b, 0, none⟩ v0).setCell ⟨b, 1, none⟩ v1).setCell ⟨b, 2, none⟩ v2).setCell ⟨b, 3, none⟩ v3).setCell ⟨b, 4, none⟩ v4).setCell ⟨b, 5, none⟩ v5).setCell ⟨b, 6, none⟩ v6).setCell ⟨b, 7, none⟩ v7).heap[i]? = X.heap[i]? := far8b hi v0 v1 v2 v3 v4 v5 v6 v7
set_option maxRecDepth 100000 in
set_option maxHeartbeats 4000000 in
theorem Has_yesL (bS bM : Nat) (l : MapT.Ents) (k : ByteArray) (u : Int) (xs : List ByteArray) (A : Option Addr) (cap : Nat) (hne : xs ≠ []) (hn : xs.length ≤ 1000000) (hf : MapT.find k l = some (.agg #[.string k, .int .i64 2, .string ⟨#[]⟩, .slice A xs.length cap, .slice none 0 0, .slice none 0 0, .slice none 0 0, .int .i64 u])) (w : World) (h : SP w bS bM l) (hl : SSl w (.slice A xs.length cap) xs) : Calls Tryz.prog 20 #[.pointer (some ⟨bS, 0, none⟩), .string k] w fun e w' => ∃ g C, e = .returned (.tuple #[.agg #[.string k, .int .i64 2, .string ⟨#[]⟩, .slice (some ⟨g, 0, none⟩) xs.length C, .slice none 0 0, .slice none 0 0, .slice none 0 0, .int .i64 u], .bool true]) ∧ TR w' (.slice (some ⟨g, 0, none⟩) xs.length C) xs ∧ w.heap.size ≤ g ∧ Below w.heap.size w w' := by
  have CL := Lib.hid (clone17L k u xs A cap hne hn ((w.alloc (.cells #[.string ⟨#[]⟩, .int .i64 0, .string ⟨#[]⟩, .slice none 0 0, .slice none 0 0, .slice none 0 0, .slice none 0 0, .int .i64 0] 33)).alloc (.cells #[.string k, .int .i64 2, .string ⟨#[]⟩, .slice A xs.length cap, .slice none 0 0, .slice none 0 0, .slice none 0 0, .int .i64 u] 33)) (hl.below (alloc_old.trans (alloc_old.mono (by simp)))))
  have hz : ((w.alloc (.cells #[.string ⟨#[]⟩, .int .i64 0, .string ⟨#[]⟩, .slice none 0 0, .slice none 0 0, .slice none 0 0, .slice none 0 0, .int .i64 0] 33)).alloc (.cells #[.string k, .int .i64 2, .string ⟨#[]⟩, .slice A xs.length cap, .slice none 0 0, .slice none 0 0, .slice none 0 0, .int .i64 u] 33)).heap.size = w.heap.size + 2 := by simp
  have HZ := Lib.hid hz
  have hr : (if true = true then Value.tuple #[(MapT.find k l).getD (.agg #[.string ⟨#[]⟩, .int .i64 0, .string ⟨#[]⟩, .slice none 0 0, .slice none 0 0, .slice none 0 0, .slice none 0 0, .int .i64 0]), .bool (MapT.find k l).isSome] else (MapT.find k l).getD (.agg #[.string ⟨#[]⟩, .int .i64 0, .string ⟨#[]⟩, .slice none 0 0, .slice none 0 0, .slice none 0 0, .slice none 0 0, .int .i64 0])) = .tuple #[.agg #[.string k, .int .i64 2, .string ⟨#[]⟩, .slice A xs.length cap, .slice none 0 0, .slice none 0 0, .slice none 0 0, .int .i64 u], .bool true] := by rw [hf]; rfl
  have HR := Lib.hid hr
  have z2 := Lib.hid (fun o => show ((w.alloc (.cells #[.string ⟨#[]⟩, .int .i64 0, .string ⟨#[]⟩, .slice none 0 0, .slice none 0 0, .slice none 0 0, .slice none 0 0, .int .i64 0] 33)).alloc o).heap[w.heap.size]? = some (.cells #[.string ⟨#[]⟩, .int .i64 0, .string ⟨#[]⟩, .slice none 0 0, .slice none 0 0, .slice none 0 0, .slice none 0 0, .int .i64 0] 33) from blk_below (heap_alloc_new w _) alloc_old)
  have hs := (h.below (alloc_old (o := .cells #[.string ⟨#[]⟩, .int .i64 0, .string ⟨#[]⟩, .slice none 0 0, .slice none 0 0, .slice none 0 0, .slice none 0 0, .int .i64 0] 33))).cell
  obtain ⟨hs1, hs2⟩ := hs
  have hM := Lib.hid (h.2.1.below (alloc_old (o := .cells #[.string ⟨#[]⟩, .int .i64 0, .string ⟨#[]⟩, .slice none 0 0, .slice none 0 0, .slice none 0 0, .slice none 0 0, .int .i64 0] 33)))
  clear h hf hr hl hz
  go_enter Tryz.func20, Tryz.ntmps20
  go_wp2_with (first | (at_lookup; refine MapT.at_look _ rfl _ _ true rfl Tryz.underlying51 Tryz.underlying9 bM l rfl hM.out k rfl _ (zero33 _) _ HR.out ?_) | (go_at_call 17; (with_reducible refine (CL.out).mono ?_); rintro e w1 ⟨g, C, rfl, hT, hge, h1⟩; have HT := Lib.hid hT; have HG := Lib.hid hge; have B1 := Lib.hid h1; clear hT hge h1; obtain ⟨⟨c0, c1, c2, c3, c4, c5, c6, c7⟩, ⟨f0, f1, f2, f3, f4, f5, f6, f7⟩, z1⟩ := cells8 (blk_below (z2.out _) B1.out)))
  have hge := HG.out
  have hz := HZ.out
  rw [hz] at hge
  have hn1 : g ≠ w.heap.size := by omega
  exact bodyPost_ret (v := .tuple #[.agg #[.string k, .int .i64 2, .string ⟨#[]⟩, .slice (some ⟨g, 0, none⟩) xs.length C, .slice none 0 0, .slice none 0 0, .slice none 0 0, .int .i64 u], .bool true]) (by simp [results, Tryz.results20, go_sem, c0, c1, c2, c3, c4, c5, c6, c7]) rfl ⟨g, C, rfl, HT.out.kept (fun g' hg' => by cases hg'; exact far8b hn1 _ _ _ _ _ _ _ _), by omega, (((((((((alloc_old.trans (alloc_old.mono (by simp))).trans (B1.out.mono (by omega))).setCell (Nat.le_refl _) _).setCell (Nat.le_refl _) _).setCell (Nat.le_refl _) _).setCell (Nat.le_refl _) _).setCell (Nat.le_refl _) _).setCell (Nat.le_refl _) _).setCell (Nat.le_refl _) _).setCell (Nat.le_refl _) _⟩
set_option maxRecDepth 100000 in
set_option maxHeartbeats 4000000 in
theorem Get_yesL (bS bM : Nat) (l : MapT.Ents) (k : ByteArray) (u now : Int) (xs : List ByteArray) (A : Option Addr) (cap : Nat) (hne : xs ≠ []) (hn : xs.length ≤ 1000000) (hf : MapT.find k l = some (.agg #[.string k, .int .i64 2, .string ⟨#[]⟩, .slice A xs.length cap, .slice none 0 0, .slice none 0 0, .slice none 0 0, .int .i64 u])) (hv : Lives u now) (w : World) (h : SP w bS bM l) (hl : SSl w (.slice A xs.length cap) xs) : Calls Tryz.prog 12 #[.pointer (some ⟨bS, 0, none⟩), .string k, .int .i64 now] w fun e w' => ∃ g C, e = .returned (.tuple #[.agg #[.string k, .int .i64 2, .string ⟨#[]⟩, .slice (some ⟨g, 0, none⟩) xs.length C, .slice none 0 0, .slice none 0 0, .slice none 0 0, .int .i64 u], .bool true]) ∧ TR w' (.slice (some ⟨g, 0, none⟩) xs.length C) xs ∧ w.heap.size ≤ g ∧ Below w.heap.size w w' := by
  have H := Lib.hid (Has_yesL bS bM l k u xs A cap hne hn hf _ (h.below (alloc_old (w := w) (o := .cells #[.string ⟨#[]⟩, .int .i64 0, .string ⟨#[]⟩, .slice none 0 0, .slice none 0 0, .slice none 0 0, .slice none 0 0, .int .i64 0] 33))) (hl.below alloc_old))
  have O := Lib.hid (fun A n c w => Over_kdL k A n c u now hv w)
  have z0 := Lib.hid (heap_alloc_new w (.cells #[.string ⟨#[]⟩, .int .i64 0, .string ⟨#[]⟩, .slice none 0 0, .slice none 0 0, .slice none 0 0, .slice none 0 0, .int .i64 0] 33))
  have hz : (w.alloc (.cells #[.string ⟨#[]⟩, .int .i64 0, .string ⟨#[]⟩, .slice none 0 0, .slice none 0 0, .slice none 0 0, .slice none 0 0, .int .i64 0] 33)).heap.size = w.heap.size + 1 := by simp
  have HZ := Lib.hid hz
  clear h hf hv hl hz
  go_enter Tryz.func12, Tryz.ntmps12
  go_wp2_with (first | (go_at_call 20; (with_reducible refine (H.out).mono ?_); rintro e w1 ⟨g, C, rfl, hT, hge, h1⟩; have HT := Lib.hid hT; have HG := Lib.hid hge; have B1 := Lib.hid h1; clear hT hge h1; refine Hid.out ?_))
  refine Lib.hid ?_
  have zE := Lib.hid (heap_alloc_new w1 (.cells #[.string k, .int .i64 2, .string ⟨#[]⟩, .slice (some ⟨g, 0, none⟩) xs.length C, .slice none 0 0, .slice none 0 0, .slice none 0 0, .int .i64 u] 33))
  have OV := Lib.hid (O.out (some ⟨g, 0, none⟩) xs.length C (w1.alloc (.cells #[.string k, .int .i64 2, .string ⟨#[]⟩, .slice (some ⟨g, 0, none⟩) xs.length C, .slice none 0 0, .slice none 0 0, .slice none 0 0, .int .i64 u] 33)))
  go_wp2_with (first | (go_at_call 21; (with_reducible refine (OV.out).mono ?_); rintro e w2 ⟨rfl, h2⟩; have B2 := Lib.hid h2; clear h2; obtain ⟨⟨c0, c1, c2, c3, c4, c5, c6, c7⟩, ⟨f0, f1, f2, f3, f4, f5, f6, f7⟩, z1⟩ := cells8 (blk_below z0.out (belA B1.out B2.out)); obtain ⟨⟨d0, d1, d2, d3, d4, d5, d6, d7⟩, _, z2⟩ := cells8 (blk_below zE.out B2.out)))
  have hge := HG.out
  have hz := HZ.out
  rw [hz] at hge
  have hn1 : g ≠ w.heap.size := by omega
  exact bodyPost_ret (v := .tuple #[.agg #[.string k, .int .i64 2, .string ⟨#[]⟩, .slice (some ⟨g, 0, none⟩) xs.length C, .slice none 0 0, .slice none 0 0, .slice none 0 0, .int .i64 u], .bool true]) (by simp [results, Tryz.results12, go_sem, c0, c1, c2, c3, c4, c5, c6, c7]) rfl ⟨g, C, rfl, ((HT.out.below alloc_old).below B2.out).kept (fun g' hg' => by cases hg'; exact far8b hn1 _ _ _ _ _ _ _ _), by omega, (((((((((alloc_old.trans ((belA B1.out B2.out).mono (by omega))).setCell (Nat.le_refl _) _).setCell (Nat.le_refl _) _).setCell (Nat.le_refl _) _).setCell (Nat.le_refl _) _).setCell (Nat.le_refl _) _).setCell (Nat.le_refl _) _).setCell (Nat.le_refl _) _).setCell (Nat.le_refl _) _)⟩
set_option maxRecDepth 100000 in
set_option maxHeartbeats 4000000 in
theorem JGet_yesL (bS bM j : Nat) (l : MapT.Ents) (k : ByteArray) (now : Int) (vA vl : Value) (u : Int) (xs : List ByteArray) (A : Option Addr) (cap : Nat) (hne : xs ≠ []) (hn : xs.length ≤ 1000000) (hf : MapT.find k l = some (.agg #[.string k, .int .i64 2, .string ⟨#[]⟩, .slice A xs.length cap, .slice none 0 0, .slice none 0 0, .slice none 0 0, .int .i64 u])) (hl : Lives u now) (w : World) (h : SP w bS bM l) (hj : JB w j bS now vA vl) (hss : SSl w (.slice A xs.length cap) xs) : Calls Tryz.prog 70 #[.pointer (some ⟨j, 0, none⟩), .string k] w fun e w' => ∃ g C, e = .returned (.tuple #[.agg #[.string k, .int .i64 2, .string ⟨#[]⟩, .slice (some ⟨g, 0, none⟩) xs.length C, .slice none 0 0, .slice none 0 0, .slice none 0 0, .int .i64 u], .bool true]) ∧ TR w' (.slice (some ⟨g, 0, none⟩) xs.length C) xs ∧ w.heap.size ≤ g ∧ Below w.heap.size w w' := by
  obtain ⟨W, hW⟩ : ∃ W, w.alloc (.cells #[.string ⟨#[]⟩, .int .i64 0, .string ⟨#[]⟩, .slice none 0 0, .slice none 0 0, .slice none 0 0, .slice none 0 0, .int .i64 0] 33) = W := ⟨_, rfl⟩
  have hb3 : Below w.heap.size w W := by rw [← hW]; exact alloc_old
  have z0 : W.heap[w.heap.size]? = some (.cells #[.string ⟨#[]⟩, .int .i64 0, .string ⟨#[]⟩, .slice none 0 0, .slice none 0 0, .slice none 0 0, .slice none 0 0, .int .i64 0] 33) := by rw [← hW]; exact heap_alloc_new w _
  have hJ := hj.below hb3
  have hS := h.below hb3
  have hss2 := hss.below hb3
  have G := Lib.hid (show ∀ X, ((X.cell? ⟨j, 0, none⟩ = some (.pointer (some ⟨bS, 0, none⟩)) ∧ X.cell? ⟨j, 1, none⟩ = some (.int .i64 now)) ∧ Below W.heap.size W X) → Calls Tryz.prog 12 #[.pointer (some ⟨bS, 0, none⟩), .string k, .int .i64 now] X (fun e w' => ∃ g C, e = .returned (.tuple #[.agg #[.string k, .int .i64 2, .string ⟨#[]⟩, .slice (some ⟨g, 0, none⟩) xs.length C, .slice none 0 0, .slice none 0 0, .slice none 0 0, .int .i64 u], .bool true]) ∧ TR w' (.slice (some ⟨g, 0, none⟩) xs.length C) xs ∧ X.heap.size ≤ g ∧ Below X.heap.size X w') from fun X hX => Get_yesL bS bM l k u now xs A cap hne hn hf hl X (hS.below hX.2) (hss2.below hX.2))
  have K := Lib.hid (show ∀ X, Below W.heap.size W X → ((X.cell? ⟨j, 0, none⟩ = some (.pointer (some ⟨bS, 0, none⟩)) ∧ X.cell? ⟨j, 1, none⟩ = some (.int .i64 now)) ∧ Below W.heap.size W X) from fun X hb => ⟨⟨(hJ.below hb).cells.1, (hJ.below hb).cells.2.1⟩, hb⟩)
  have S0 : ((W.drew.cell? ⟨j, 0, none⟩ = some (.pointer (some ⟨bS, 0, none⟩)) ∧ W.drew.cell? ⟨j, 1, none⟩ = some (.int .i64 now)) ∧ Below W.heap.size W W.drew) := K.out _ (Below.refl W.heap.size W).drew
  have SK := Lib.hid (show ∀ Y X : World, Below X.heap.size X Y → ((X.cell? ⟨j, 0, none⟩ = some (.pointer (some ⟨bS, 0, none⟩)) ∧ X.cell? ⟨j, 1, none⟩ = some (.int .i64 now)) ∧ Below W.heap.size W X) → ((Y.cell? ⟨j, 0, none⟩ = some (.pointer (some ⟨bS, 0, none⟩)) ∧ Y.cell? ⟨j, 1, none⟩ = some (.int .i64 now)) ∧ Below W.heap.size W Y) from fun Y X hb h => K.out _ (belT h.2 hb))
  have SA := Lib.hid (show ∀ (X : World) (o : Obj), ((X.cell? ⟨j, 0, none⟩ = some (.pointer (some ⟨bS, 0, none⟩)) ∧ X.cell? ⟨j, 1, none⟩ = some (.int .i64 now)) ∧ Below W.heap.size W X) → (((X.alloc o).cell? ⟨j, 0, none⟩ = some (.pointer (some ⟨bS, 0, none⟩)) ∧ (X.alloc o).cell? ⟨j, 1, none⟩ = some (.int .i64 now)) ∧ Below W.heap.size W (X.alloc o)) from fun X o h => SK.out _ X alloc_old h)
  have Z0 := Lib.hid (And.intro z0 hb3)
  have hz : w.heap.size < W.heap.size := (Array.getElem?_eq_some_iff.1 z0).1
  have HZ := Lib.hid hz
  have G1 := Lib.hid (G.out _ S0)
  have S2 := Lib.hid (K.out ((W.alloc (.cells #[.string ⟨#[]⟩, .int .i64 0, .string ⟨#[]⟩, .slice none 0 0, .slice none 0 0, .slice none 0 0, .slice none 0 0, .int .i64 0] 33)).drew) alloc_old.drew)
  have G2 := Lib.hid (G.out _ S2.out)
  have hA := Lib.hid (show ((W.alloc (.cells #[.string ⟨#[]⟩, .int .i64 0, .string ⟨#[]⟩, .slice none 0 0, .slice none 0 0, .slice none 0 0, .slice none 0 0, .int .i64 0] 33)).drew).heap[W.heap.size]? = some (.cells #[.string ⟨#[]⟩, .int .i64 0, .string ⟨#[]⟩, .slice none 0 0, .slice none 0 0, .slice none 0 0, .slice none 0 0, .int .i64 0] 33) from heap_alloc_new W (.cells #[.string ⟨#[]⟩, .int .i64 0, .string ⟨#[]⟩, .slice none 0 0, .slice none 0 0, .slice none 0 0, .slice none 0 0, .int .i64 0] 33))
  have ST := Lib.hid (show ∀ (X : World) (a0 a1 a2 a3 a4 a5 a6 a7 : Value), Below W.heap.size W X → ((((((((((X.setCell ⟨W.heap.size, 0, none⟩ a0).setCell ⟨W.heap.size, 1, none⟩ a1).setCell ⟨W.heap.size, 2, none⟩ a2).setCell ⟨W.heap.size, 3, none⟩ a3).setCell ⟨W.heap.size, 4, none⟩ a4).setCell ⟨W.heap.size, 5, none⟩ a5).setCell ⟨W.heap.size, 6, none⟩ a6).setCell ⟨W.heap.size, 7, none⟩ a7).cell? ⟨j, 0, none⟩ = some (.pointer (some ⟨bS, 0, none⟩)) ∧ ((((((((X.setCell ⟨W.heap.size, 0, none⟩ a0).setCell ⟨W.heap.size, 1, none⟩ a1).setCell ⟨W.heap.size, 2, none⟩ a2).setCell ⟨W.heap.size, 3, none⟩ a3).setCell ⟨W.heap.size, 4, none⟩ a4).setCell ⟨W.heap.size, 5, none⟩ a5).setCell ⟨W.heap.size, 6, none⟩ a6).setCell ⟨W.heap.size, 7, none⟩ a7).cell? ⟨j, 1, none⟩ = some (.int .i64 now)) ∧ Below W.heap.size W ((((((((X.setCell ⟨W.heap.size, 0, none⟩ a0).setCell ⟨W.heap.size, 1, none⟩ a1).setCell ⟨W.heap.size, 2, none⟩ a2).setCell ⟨W.heap.size, 3, none⟩ a3).setCell ⟨W.heap.size, 4, none⟩ a4).setCell ⟨W.heap.size, 5, none⟩ a5).setCell ⟨W.heap.size, 6, none⟩ a6).setCell ⟨W.heap.size, 7, none⟩ a7)) from fun X a0 a1 a2 a3 a4 a5 a6 a7 hb => K.out _ ((((((((hb.setCell (Nat.le_refl _) _).setCell (Nat.le_refl _) _).setCell (Nat.le_refl _) _).setCell (Nat.le_refl _) _).setCell (Nat.le_refl _) _).setCell (Nat.le_refl _) _).setCell (Nat.le_refl _) _).setCell (Nat.le_refl _) _))
  have S5 := Lib.hid (show ∀ X, Below ((W.alloc (.cells #[.string ⟨#[]⟩, .int .i64 0, .string ⟨#[]⟩, .slice none 0 0, .slice none 0 0, .slice none 0 0, .slice none 0 0, .int .i64 0] 33)).drew).heap.size ((W.alloc (.cells #[.string ⟨#[]⟩, .int .i64 0, .string ⟨#[]⟩, .slice none 0 0, .slice none 0 0, .slice none 0 0, .slice none 0 0, .int .i64 0] 33)).drew) X → Below W.heap.size W X from fun X hb => belT S2.out.2 hb)
  clear h hj hJ hS hss hss2 hf hb3 z0 hz hl
  go_enter Tryz.func70, Tryz.ntmps70
  go_wp2
  clear hW
  go_region_held3 (fun X => ((X.cell? ⟨j, 0, none⟩ = some (.pointer (some ⟨bS, 0, none⟩)) ∧ X.cell? ⟨j, 1, none⟩ = some (.int .i64 now)) ∧ Below W.heap.size W X)) (first | (with_reducible exact S0) | (with_reducible exact S2.out) | (with_reducible exact ST.out _ _ _ _ _ _ _ _ _ (S5.out _ (by assumption))) | (with_reducible exact SA.out _ _ (SK.out _ _ (by assumption) S0)) | (with_reducible exact SK.out _ _ (by assumption) S0) | (with_reducible exact SK.out _ _ (by assumption) S2.out) | exact SA.out _ _ (by assumption))
    (first | (go_at_call 12; (with_reducible refine (G1.out).mono ?_); rintro e w5 ⟨g, C, rfl, hT, hge, hb5⟩) | (go_at_call 12; (with_reducible refine (G2.out).mono ?_); rintro e w5 ⟨g, C, rfl, hT, hge, hb5⟩; obtain ⟨⟨c0, c1, c2, c3, c4, c5, c6, c7⟩, ⟨f0, f1, f2, f3, f4, f5, f6, f7⟩, z5⟩ := cells8 (blk_below hA.out hb5)))
  · have hb := belT S0.2 hb5
    obtain ⟨⟨d0, d1, d2, d3, d4, d5, d6, d7⟩, ⟨g0, g1, g2, g3, g4, g5, g6, g7⟩, zz⟩ := cells8 (blk_below Z0.out.1 hb)
    have BB := Lib.hid (Z0.out.2.trans (hb.mono (Nat.le_of_lt HZ.out)))
    have HT := Lib.hid hT
    have hge2 : W.heap.size ≤ g := hge
    have hn3 : w.heap.size ≤ g := by have := HZ.out; omega
    have hn1 : g ≠ w.heap.size := by have := HZ.out; omega
    clear hb hb5 hT hge
    go_wp2
    exact bodyPost_ret (v := .tuple #[.agg #[.string k, .int .i64 2, .string ⟨#[]⟩, .slice (some ⟨g, 0, none⟩) xs.length C, .slice none 0 0, .slice none 0 0, .slice none 0 0, .int .i64 u], .bool true]) (by simp [results, Tryz.results70, go_sem, d0, d1, d2, d3, d4, d5, d6, d7, zz]) rfl ⟨g, C, rfl, (HT.out.kept (fun g' hg' => by cases hg'; exact far8b hn1 _ _ _ _ _ _ _ _)).below alloc_old, hn3, ((((((((BB.out.setCell (Nat.le_refl _) _).setCell (Nat.le_refl _) _).setCell (Nat.le_refl _) _).setCell (Nat.le_refl _) _).setCell (Nat.le_refl _) _).setCell (Nat.le_refl _) _).setCell (Nat.le_refl _) _).setCell (Nat.le_refl _) _).alloc (by simp; omega) _⟩
  · have hb := S5.out _ hb5
    obtain ⟨⟨d0, d1, d2, d3, d4, d5, d6, d7⟩, ⟨g0, g1, g2, g3, g4, g5, g6, g7⟩, zz⟩ := cells8 (blk_below Z0.out.1 hb)
    have BB := Lib.hid (Z0.out.2.trans (hb.mono (Nat.le_of_lt HZ.out)))
    have hne1 : ¬ w.heap.size = W.heap.size := by have := HZ.out; omega
    have hne2 : ¬ W.heap.size = w.heap.size := by have := HZ.out; omega
    have hle := Lib.hid (Nat.le_of_lt HZ.out)
    have HT := Lib.hid hT
    have e9 : (W.alloc (.cells #[.string ⟨#[]⟩, .int .i64 0, .string ⟨#[]⟩, .slice none 0 0, .slice none 0 0, .slice none 0 0, .slice none 0 0, .int .i64 0] 33)).drew.heap.size = W.heap.size + 1 := (by simp : (W.alloc (.cells #[.string ⟨#[]⟩, .int .i64 0, .string ⟨#[]⟩, .slice none 0 0, .slice none 0 0, .slice none 0 0, .slice none 0 0, .int .i64 0] 33)).heap.size = W.heap.size + 1)
    have hge2 : W.heap.size + 1 ≤ g := by rw [e9] at hge; exact hge
    have hn3 : w.heap.size ≤ g := by have := HZ.out; omega
    have hn1 : g ≠ w.heap.size := by have := HZ.out; omega
    have hn2 : g ≠ W.heap.size := by omega
    clear hb hb5 hT hge e9
    go_wp2
    exact bodyPost_ret (v := .tuple #[.agg #[.string k, .int .i64 2, .string ⟨#[]⟩, .slice (some ⟨g, 0, none⟩) xs.length C, .slice none 0 0, .slice none 0 0, .slice none 0 0, .int .i64 u], .bool true]) (by simp [results, Tryz.results70, go_sem, d0, d1, d2, d3, d4, d5, d6, d7]) rfl ⟨g, C, rfl, HT.out.kept (fun g' hg' => by cases hg'; exact (far8b hn1 _ _ _ _ _ _ _ _).trans (far8b hn2 _ _ _ _ _ _ _ _)), hn3, ((((((((((((((((BB.out.setCell hle.out _).setCell hle.out _).setCell hle.out _).setCell hle.out _).setCell hle.out _).setCell hle.out _).setCell hle.out _).setCell hle.out _).setCell (Nat.le_refl _) _).setCell (Nat.le_refl _) _).setCell (Nat.le_refl _) _).setCell (Nat.le_refl _) _).setCell (Nat.le_refl _) _).setCell (Nat.le_refl _) _).setCell (Nat.le_refl _) _).setCell (Nat.le_refl _) _)⟩
theorem own_ne {w : World} {bS bM : Nat} {l : MapT.Ents} {v : Value} {xs : List ByteArray} (h : TR w v xs) (hS : SP w bS bM l) : ∀ g, v.ownBlock = some g → g < w.heap.size ∧ g ≠ bS ∧ g ≠ bM := by
  intro g hg
  obtain ⟨g', e, hlt, cs, hc⟩ := h.lt
  rw [hg] at e
  cases e
  obtain ⟨⟨mem, h1⟩, ⟨es, c, h2, _⟩, _⟩ := hS
  refine ⟨hlt, fun e => ?_, fun e => ?_⟩
  · subst e; rw [h1] at hc; cases hc
  · subst e; rw [h2] at hc; cases hc
set_option maxRecDepth 100000 in
set_option maxHeartbeats 8000000 in
theorem Put10_newL (bS bM : Nat) (l : MapT.Ents) (xs : List ByteArray) (A : Option Addr) (cap : Nat) (hx0 : xs ≠ []) (h1000 : xs.length ≤ 1000) (hsz : ∀ s ∈ xs, s.size ≤ 4096) (hs : 16 + 16 * xs.length + sumSz xs ≤ 262144) (k : ByteArray) (hk1 : 1 ≤ k.size) (hk : k.size ≤ 512) (u : Int) (hu0 : 0 ≤ u) (hu1 : u ≤ 1125899906842624) (w : World) (h : SP w bS bM l) (hf : MapT.find k l = none) (hlen : l.length < 4096) (hTR : TR w (.slice A xs.length cap) xs) : Calls Tryz.prog 10 #[.pointer (some ⟨bS, 0, none⟩), .agg #[.string k, .int .i64 2, .string ⟨#[]⟩, .slice A xs.length cap, .slice none 0 0, .slice none 0 0, .slice none 0 0, .int .i64 u]] w fun e w' => ∃ g C, e = .returned (.int .i64 0) ∧ SP w' bS bM (MapT.put k (.agg #[.string k, .int .i64 2, .string ⟨#[]⟩, .slice (some ⟨g, 0, none⟩) xs.length C, .slice none 0 0, .slice none 0 0, .slice none 0 0, .int .i64 u]) l) ∧ TR w' (.slice (some ⟨g, 0, none⟩) xs.length C) xs ∧ w.heap.size ≤ g ∧ Kp w.heap.size (fun i => i ≠ bS ∧ i ≠ bM) w w' := by
  have hn6 : xs.length ≤ 1000000 := by omega
  have MY := Lib.hid (May15L k hk1 hk u hu0 hu1 xs A cap hx0 hn6 (w.alloc (.cells #[.string k, .int .i64 2, .string ⟨#[]⟩, .slice A xs.length cap, .slice none 0 0, .slice none 0 0, .slice none 0 0, .int .i64 u] 33)) (hTR.ssl.below alloc_old) h1000 hsz hs)
  have CL := Lib.hid (fun X (hX : Below w.heap.size w X) => clone17L k u xs A cap hx0 hn6 X (hTR.ssl.below hX))
  have SZ := Lib.hid (fun X (hX : TR X (.slice A xs.length cap) xs) => size16L k u (by omega) xs A cap hx0 hn6 X hX.ssl (by omega))
  have HTR := Lib.hid hTR
  have HAB := Lib.hid (own_ne hTR h)
  have hlt := Lib.hid h.lt
  have hneP := Lib.hid (show bS ≠ w.heap.size from by have := h.lt; omega)
  have hl1 := hlen
  obtain ⟨⟨mem, hmem⟩, hMB, hne⟩ := h
  have hp := Lib.hid (heap_alloc_new w (.cells #[.string k, .int .i64 2, .string ⟨#[]⟩, .slice A xs.length cap, .slice none 0 0, .slice none 0 0, .slice none 0 0, .int .i64 u] 33))
  have hS1 := Lib.hid (blk_below hmem (alloc_old (o := .cells #[.string k, .int .i64 2, .string ⟨#[]⟩, .slice A xs.length cap, .slice none 0 0, .slice none 0 0, .slice none 0 0, .int .i64 u] 33)))
  have hM1 := Lib.hid (hMB.below (alloc_old (o := .cells #[.string k, .int .i64 2, .string ⟨#[]⟩, .slice A xs.length cap, .slice none 0 0, .slice none 0 0, .slice none 0 0, .int .i64 u] 33)))
  have hr : (Value.tuple #[(MapT.find k l).getD (.agg #[.string ⟨#[]⟩, .int .i64 0, .string ⟨#[]⟩, .slice none 0 0, .slice none 0 0, .slice none 0 0, .slice none 0 0, .int .i64 0]), .bool (MapT.find k l).isSome]) = .tuple #[.agg #[.string ⟨#[]⟩, .int .i64 0, .string ⟨#[]⟩, .slice none 0 0, .slice none 0 0, .slice none 0 0, .slice none 0 0, .int .i64 0], .bool false] := by rw [hf]; rfl
  have HR := Lib.hid hr
  clear hmem hMB hf hr hTR hs hsz
  go_enter Tryz.func10, Tryz.ntmps10
  go_wp2_with (first | (go_at_call 15; (with_reducible refine (MY.out).mono ?_); rintro e w1 ⟨rfl, h1⟩; have B1 := Lib.hid h1; clear h1))
  have hS2 := blk_below hS1.out B1.out
  have hp2 := blk_below hp.out B1.out
  have hM2 := hM1.out.below B1.out
  obtain ⟨⟨p0, p1, p2, p3, p4, p5, p6, p7⟩, ⟨pf0, pf1, pf2, pf3, pf4, pf5, pf6, pf7⟩, pz⟩ := cells8 hp2
  have s0 : w1.cell? ⟨bS, 0, none⟩ = some (.map (some bM)) := by simp [World.cell?, hS2]
  have hmk := (hMB_all w1 bM l k _ hM2 HR.out)
  have L1 := hmk w1.drew (Below.refl w1.heap.size w1).drew
  have L2 := hmk (w1.alloc (.cells #[.string ⟨#[]⟩, .int .i64 0, .string ⟨#[]⟩, .slice none 0 0, .slice none 0 0, .slice none 0 0, .slice none 0 0, .int .i64 0] 33)).drew (alloc_old).drew
  have sz := (Array.getElem?_eq_some_iff.1 hS2).1
  have hpz : w.heap.size < w1.heap.size := pz
  have KH := Lib.hid (show ∀ X, Below w1.heap.size w1 X → (X.cell? ⟨bS, 0, none⟩ = some (.map (some bM)) ∧ X.cell? ⟨w.heap.size, 0, none⟩ = some (.string k)) from fun X hb => ⟨(hb.cell (p := ⟨bS, 0, none⟩) sz).trans s0, (hb.cell (p := ⟨w.heap.size, 0, none⟩) hpz).trans p0⟩)
  have K0 := Lib.hid (KH.out w1.drew (Below.refl w1.heap.size w1).drew)
  have K1 := Lib.hid (KH.out (w1.alloc (.cells #[.string ⟨#[]⟩, .int .i64 0, .string ⟨#[]⟩, .slice none 0 0, .slice none 0 0, .slice none 0 0, .slice none 0 0, .int .i64 0] 33)).drew (alloc_old).drew)
  have K2 := Lib.hid (KH.out (w1.alloc (.cells #[.string ⟨#[]⟩, .int .i64 0, .string ⟨#[]⟩, .slice none 0 0, .slice none 0 0, .slice none 0 0, .slice none 0 0, .int .i64 0] 33)).drew (alloc_old).drew)
  clear hmk hM2 hS2 hp2
  go_region_held3 (fun X => X.cell? ⟨bS, 0, none⟩ = some (.map (some bM)) ∧ X.cell? ⟨w.heap.size, 0, none⟩ = some (.string k)) (first | (with_reducible exact K0.out) | (with_reducible exact K1.out) | (with_reducible exact K2.out)) (first | skip)
  all_goals (
    change Exit.then _ _ _ _ (w1.alloc (.cells #[.string ⟨#[]⟩, .int .i64 0, .string ⟨#[]⟩, .slice none 0 0, .slice none 0 0, .slice none 0 0, .slice none 0 0, .int .i64 0] 33)).drew
    have w2b := Lib.hid (show Below w1.heap.size w1 (w1.alloc (.cells #[.string ⟨#[]⟩, .int .i64 0, .string ⟨#[]⟩, .slice none 0 0, .slice none 0 0, .slice none 0 0, .slice none 0 0, .int .i64 0] 33)).drew from alloc_old.drew)
    have w2n := Lib.hid (show (w1.alloc (.cells #[.string ⟨#[]⟩, .int .i64 0, .string ⟨#[]⟩, .slice none 0 0, .slice none 0 0, .slice none 0 0, .slice none 0 0, .int .i64 0] 33)).drew.heap[w1.heap.size]? = some (.cells #[.string ⟨#[]⟩, .int .i64 0, .string ⟨#[]⟩, .slice none 0 0, .slice none 0 0, .slice none 0 0, .slice none 0 0, .int .i64 0] 33) from heap_alloc_new w1 _)
    generalize (w1.alloc (.cells #[.string ⟨#[]⟩, .int .i64 0, .string ⟨#[]⟩, .slice none 0 0, .slice none 0 0, .slice none 0 0, .slice none 0 0, .int .i64 0] 33)).drew = w2 at w2b w2n ⊢
    clear L1 L2 K0 K1 K2 KH s0
    have BW := Lib.hid (show Below w.heap.size w w2 from (alloc_old.trans (B1.out.mono (by simp))).trans (w2b.out.mono (by omega)))
    have Q2 := Lib.hid (show Kp w.heap.size (fun i => i ≠ bS ∧ i ≠ bM) w w2 from .of BW.out)
    have S2 := Lib.hid (blk_below hS1.out (B1.out.trans (w2b.out.mono (Below.size B1.out))))
    have P2 := Lib.hid (blk_below hp.out (B1.out.trans (w2b.out.mono (Below.size B1.out))))
    have M2 := Lib.hid (hM1.out.below (B1.out.trans (w2b.out.mono (Below.size B1.out))))
    have hne1 := Lib.hid (show bS ≠ w1.heap.size from by omega)
    clear hS1 hM1 hp w2b p0 p1 p2 p3 p4 p5 p6 p7 pf0 pf1 pf2 pf3 pf4 pf5 pf6 pf7
    have cM2 := cell53 S2.out
    have LN := MapT.run_len Tryz.underlying51 M2.out
    have il : ¬ (4096 : Int) ≤ (l.length : Int) := by omega
    go_wp2
    have KQ := Lib.hid (show ∀ X, Below w2.heap.size w2 X → (X.cell? ⟨bS, 0, none⟩ = some (.map (some bM)) ∧ X.cell? ⟨w.heap.size, 0, none⟩ = some (.string k) ∧ X.cell? ⟨w.heap.size, 1, none⟩ = some (.int .i64 2) ∧ X.cell? ⟨w.heap.size, 2, none⟩ = some (.string ⟨#[]⟩) ∧ X.cell? ⟨w.heap.size, 3, none⟩ = some (.slice A xs.length cap) ∧ X.cell? ⟨w.heap.size, 4, none⟩ = some (.slice none 0 0) ∧ X.cell? ⟨w.heap.size, 5, none⟩ = some (.slice none 0 0) ∧ X.cell? ⟨w.heap.size, 6, none⟩ = some (.slice none 0 0) ∧ X.cell? ⟨w.heap.size, 7, none⟩ = some (.int .i64 u)) from fun X hb => ⟨cell53 (blk_below S2.out hb), (cells8 (blk_below P2.out hb)).1⟩)
    have KU := Lib.hid (show ∀ X Y, X.grownBy Y (some bM) → Below w2.heap.size w2 X → (Y.cell? ⟨bS, 0, none⟩ = some (.map (some bM)) ∧ Y.cell? ⟨w.heap.size, 0, none⟩ = some (.string k) ∧ Y.cell? ⟨w.heap.size, 1, none⟩ = some (.int .i64 2) ∧ Y.cell? ⟨w.heap.size, 2, none⟩ = some (.string ⟨#[]⟩) ∧ Y.cell? ⟨w.heap.size, 3, none⟩ = some (.slice A xs.length cap) ∧ Y.cell? ⟨w.heap.size, 4, none⟩ = some (.slice none 0 0) ∧ Y.cell? ⟨w.heap.size, 5, none⟩ = some (.slice none 0 0) ∧ Y.cell? ⟨w.heap.size, 6, none⟩ = some (.slice none 0 0) ∧ Y.cell? ⟨w.heap.size, 7, none⟩ = some (.int .i64 u)) from fun X Y hg hb => ⟨cell53 ((grown_block hg (lt_blk (blk_below S2.out hb)) hne).trans (blk_below S2.out hb)), (cells8 ((grown_block hg (lt_blk (blk_below P2.out hb)) (by have := hlt.out; omega)).trans (blk_below P2.out hb))).1⟩)
    have Z8 := Lib.hid (CL.out w2.drew BW.out.drew)
    have K8 := Lib.hid (KQ.out w2.drew (Below.refl _ _).drew)
    go_region_held3 (fun X => X.cell? ⟨bS, 0, none⟩ = some (.map (some bM)) ∧ X.cell? ⟨w.heap.size, 0, none⟩ = some (.string k) ∧ X.cell? ⟨w.heap.size, 1, none⟩ = some (.int .i64 2) ∧ X.cell? ⟨w.heap.size, 2, none⟩ = some (.string ⟨#[]⟩) ∧ X.cell? ⟨w.heap.size, 3, none⟩ = some (.slice A xs.length cap) ∧ X.cell? ⟨w.heap.size, 4, none⟩ = some (.slice none 0 0) ∧ X.cell? ⟨w.heap.size, 5, none⟩ = some (.slice none 0 0) ∧ X.cell? ⟨w.heap.size, 6, none⟩ = some (.slice none 0 0) ∧ X.cell? ⟨w.heap.size, 7, none⟩ = some (.int .i64 u)) (first | (with_reducible exact K8.out) | (with_reducible exact KU.out _ _ (by assumption) (by assumption)) | (with_reducible exact KQ.out _ (by assumption))) (first | (go_at_call 17; (with_reducible refine (Z8.out).mono ?_); rintro e w5 ⟨g, C, rfl, hT5, hg5, h5⟩; have B5 : Below w2.heap.size w2 w5 := belT (Below.refl w2.heap.size w2).drew h5; clear h5; obtain ⟨w6, hrun, r1, r2, r3⟩ := MapT.run_update Tryz.underlying51 Tryz.underlying9 (M2.out.below B5) k (.agg #[.string k, .int .i64 2, .string ⟨#[]⟩, .slice (some ⟨g, 0, none⟩) xs.length C, .slice none 0 0, .slice none 0 0, .slice none 0 0, .int .i64 u])))
    all_goals (
      have S6 := Lib.hid ((grown_block r2 (lt_blk (blk_below S2.out B5)) hne).trans (blk_below S2.out B5))
      have P6 := Lib.hid ((grown_block r2 (lt_blk (blk_below P2.out B5)) (show w.heap.size ≠ bM by have := hlt.out; omega)).trans (blk_below P2.out B5))
      have M6 := Lib.hid r1
      have Q6 := Lib.hid ((Q2.out.trans (.of (B5.mono Q2.out.size))).grown r2 (Nat.le_trans Q2.out.size (Below.size B5)) (fun k hk _ hS => hS.2 (Option.some.inj hk).symm))
      have hgw : w.heap.size ≤ g := Nat.le_trans (Below.size BW.out) hg5
      have GW := Lib.hid hgw
      have TG6 := Lib.hid (hT5.kept (fun g' hg' => by cases hg'; exact grown_block r2 (by obtain ⟨g9, e9, l9, _⟩ := hT5.lt; cases e9; exact l9) (by have := hlt.out; show g ≠ bM; omega)))
      have T6 := Lib.hid (HTR.out.kept (fun g' hg' => Q6.out.block g' (HAB.out g' hg').1 (HAB.out g' hg').2))
      clear KQ KU Z8 K8 B5 hrun r1 r2 r3 hT5 hg5 hgw
      go_wp2
      obtain ⟨cm6, cf6⟩ := mem53 S6.out
      obtain ⟨⟨g0, g1, g2, g3, g4, g5, g6, g7⟩, _, gz⟩ := cells8 P6.out
      have Z7 := Lib.hid (SZ.out w6.drew T6.out)
      go_region_with ((go_at_call 16; (with_reducible refine (Z7.out).mono ?_); rintro e w7 ⟨rfl, h5⟩; have B7 : Below w6.heap.size w6 w7 := belT (Below.refl w6.heap.size w6).drew h5; clear h5; obtain ⟨cm7, cf7⟩ := mem53 (blk_below S6.out B7)))
      all_goals (
        change Exit.then _ _ _ _ (w7.setCell ⟨bS, 1, none⟩ (.int .i64 (IntKind.i64.wrap (mem + (48 + (k.size : Int) + 16 * (xs.length : Int) + (sumSz xs : Int))))))
        have S8 := Lib.hid (set53 (blk_below S6.out B7) (.int .i64 (IntKind.i64.wrap (mem + (48 + (k.size : Int) + 16 * (xs.length : Int) + (sumSz xs : Int))))))
        have P8 := Lib.hid ((Below.heap_setCell w7 ⟨bS, 1, none⟩ (.int .i64 (IntKind.i64.wrap (mem + (48 + (k.size : Int) + 16 * (xs.length : Int) + (sumSz xs : Int))))) w.heap.size (by have := hlt.out; show w.heap.size ≠ bS; omega)).trans (blk_below P6.out B7))
        have M8 := Lib.hid ((M6.out.below B7).kept (Below.heap_setCell w7 ⟨bS, 1, none⟩ (.int .i64 (IntKind.i64.wrap (mem + (48 + (k.size : Int) + 16 * (xs.length : Int) + (sumSz xs : Int))))) bM (Ne.symm hne)))
        have Q8 := Lib.hid (((Q6.out.trans (.of (B7.mono Q6.out.size))).setCell (p := ⟨bS, 1, none⟩) (by simp) (.int .i64 (IntKind.i64.wrap (mem + (48 + (k.size : Int) + 16 * (xs.length : Int) + (sumSz xs : Int)))))))
        have TG8 := Lib.hid ((TG6.out.below B7).kept (fun g' hg' => by cases hg'; exact Below.heap_setCell w7 ⟨bS, 1, none⟩ (.int .i64 (IntKind.i64.wrap (mem + (48 + (k.size : Int) + 16 * (xs.length : Int) + (sumSz xs : Int))))) g (by have := hlt.out; have := GW.out; show g ≠ bS; omega)))
        clear cm6 cf6 cm7 cf7 g0 g1 g2 g3 g4 g5 g6 g7 gz Z7 B7
        generalize w7.setCell ⟨bS, 1, none⟩ (.int .i64 (IntKind.i64.wrap (mem + (48 + (k.size : Int) + 16 * (xs.length : Int) + (sumSz xs : Int))))) = w8 at S8 P8 M8 Q8 TG8 ⊢
        go_wp2
        go_ret
        exact ⟨g, C, by simp, ⟨⟨_, S8.out⟩, M8.out, hne⟩, TG8.out, GW.out, Q8.out⟩)))
end Go.Proofs.YtaomiglmahklfaaGreatDoor
