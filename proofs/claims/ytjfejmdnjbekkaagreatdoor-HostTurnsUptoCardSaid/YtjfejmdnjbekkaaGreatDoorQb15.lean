/- Texts joined: St35, Li1, G16, HG, HH, HR, HI -/
import Derived.Test.YtjfejmdnjbekkaaGreatDoorQb4
import Derived.Deep.AppendSrc
import Derived.ArgAppend
import Derived.Deep.MidRow
import Derived.OneCell
import Derived.OwnWalk
import Derived.Laws.Rows
import Derived.Lib.LazyBuf
import Derived.Maps.AppendAt
import Derived.Test.YtjfejmdnjbekkaaGreatDoorQb5
import Derived.Test.YtjfejmdnjbekkaaGreatDoorQb11
import Derived.Test.YtjfejmdnjbekkaaGreatDoorQb14
import Derived.Test.YtjfejmdnjbekkaaGreatDoorQb8
import Derived.Test.YtjfejmdnjbekkaaGreatDoorQb10
import Derived.Test.YtjfejmdnjbekkaaGreatDoorQb13
import Derived.Deep.Upon
set_option linter.unusedVariables false
set_option linter.unusedSimpArgs false

/- A row of bytes that is appended to and written over. -/
namespace Go.Proofs.YtjfejmdnjbekkaaGreatDoor
open Go.ChangeShapes Go.WideShapes Go.ChangeAt Go.RowKit

/-- Bytes in memory. -/
def Bytes (w : World) (blk off : Nat) (l : List UInt8) : Prop := ∀ i c, l[i]? = some c → w.cell? ⟨blk, off + i, none⟩ = some (.int .u8 (c.toNat : Int))
/-- A row of bytes of the call's own: it may be appended to. -/
def OwnG (c : Nat) (w : World) (v : Value) (l : List UInt8) : Prop :=
  (∃ g off cap, v = .slice (some ⟨g, off, none⟩) l.length cap ∧ c ≤ g ∧ g < w.heap.size ∧ l.length ≤ cap ∧ cap ≤ maxLen ∧ Bytes w g off l ∧
    ∀ j, j < cap → (w.cell? ⟨g, off + j, none⟩).isSome = true ∧ w.frozen? ⟨g, off + j, none⟩ = false) ∨ (l = [] ∧ v = .slice none 0 0)
theorem OwnG.kept {c : Nat} {w w' : World} {v : Value} {l : List UInt8} (h : OwnG c w v l) (hs : w.heap.size ≤ w'.heap.size) (hb : ∀ k, c ≤ k → k < w.heap.size → w'.heap[k]? = w.heap[k]?) : OwnG c w' v l := by
  rcases h with ⟨g, off, cap, rfl, h2, h3, h4, h5, h6, h7⟩ | h
  · have hk := hb g h2 h3
    have hc : ∀ j, w'.cell? ⟨g, j, none⟩ = w.cell? ⟨g, j, none⟩ := fun j => World.cell?_of_block hk
    refine .inl ⟨g, off, cap, rfl, h2, by omega, h4, h5, fun i x hx => (hc _).trans (h6 i x hx), fun j hj => ⟨by rw [hc]; exact (h7 j hj).1, ?_⟩⟩
    have := (h7 j hj).2
    unfold World.frozen? at this ⊢
    simp only [hk]
    exact this
  · exact .inr h
theorem OwnG.below {c : Nat} {w w' : World} {v : Value} {l : List UInt8} (h : OwnG c w v l) (hb : Below w.heap.size w w') : OwnG c w' v l := h.kept hb.size (fun k _ hk => hb.block k hk)
theorem OwnG.set_ {c : Nat} {w : World} {v : Value} {l : List UInt8} (h : OwnG c w v l) {b : Nat} (hb : b < c) (i : Nat) (u : Value) : OwnG c (w.setCell ⟨b, i, none⟩ u) v l :=
  h.kept (by show _ ≤ (w.heap.modify _ _).size; rw [Array.size_modify]; exact Nat.le_refl _) (fun k hk _ => Below.heap_setCell w ⟨b, i, none⟩ u k (by show k ≠ b; omega))
theorem i5 : (Tryz.prog.info? 5).map (fun i => (i.zero, i.size, i.bytes)) = some (some (.int .u8 0), 1, 1) := by kernel_rfl
def cellB (c : UInt8) : Value := .int .u8 (c.toNat : Int)
theorem size_setCells (w : World) (g o : Nat) (vs : List Value) : (w.setCells g o vs).heap.size = w.heap.size := by
  induction vs generalizing w o with
  | nil => rfl
  | cons v r ih => rw [World.setCells, ih]; simp
theorem below_setCells (B : Nat) (w : World) (g o : Nat) (vs : List Value) (hg : B ≤ g) : Below B w (w.setCells g o vs) := by
  induction vs generalizing w o with
  | nil => exact Below.refl _ _
  | cons v r ih => rw [World.setCells]; exact ((Below.refl B w).setCell (by exact hg) v).trans (ih _ _)
theorem OwnG.fresh {c : Nat} {w : World} (l : List UInt8) (X : Array Value) (hX : l.length ≤ X.size) (hm : X.size ≤ maxLen) (hl : ∀ (i : Nat) (x : UInt8), l[i]? = some x → X[i]? = some (cellB x)) (hc : c ≤ w.heap.size) :
    OwnG c (w.alloc (.cells X 5)) (.slice (some ⟨w.heap.size, 0, none⟩) l.length X.size) l := by
  have hn : (w.alloc (.cells X 5)).heap[w.heap.size]? = some (.cells X 5 (0, 0)) := heap_alloc_new w _
  refine .inl ⟨w.heap.size, 0, X.size, rfl, hc, by simp, hX, hm, fun i x hi => ?_, fun j hj => ⟨?_, ?_⟩⟩
  · rw [cell_of_row _ _ _ _ _ _ hn, Nat.zero_add, hl i x hi]; rfl
  · rw [cell_of_row _ _ _ _ _ _ hn, Nat.zero_add]; simp [hj]
  · rw [Nat.zero_add]; unfold World.frozen?; rw [hn]; simp
set_option maxRecDepth 100000 in
theorem OwnG.new (w : World) (s : ByteArray) (hs : s.size ≤ 1000000) : OwnG w.heap.size (Lib.bytesWorld w 5 s) (.slice (some ⟨w.heap.size, 0, none⟩) s.size (grownCap w s.size 0 5)) s.data.toList := by
  have hl : s.data.toList.length = s.size := by simp
  have hc1 := grownCap_ge w s.size 0 5
  have hc2 := grownCap_le_maxLen w s.size 0 5 (by unfold maxLen; omega)
  have hz : (Lib.bytesCells w 5 s).size = grownCap w s.size 0 5 := by simp [Lib.bytesCells]; omega
  refine .inl ⟨w.heap.size, 0, _, by rw [hl], Nat.le_refl _, by rw [Lib.bytesWorld_size]; omega, by rw [hl]; exact hc1, hc2, fun i x hx => ?_, fun j hj => ⟨?_, ?_⟩⟩
  · have hi : i < s.size := by rw [← hl]; exact (List.getElem?_eq_some_iff.1 hx).1
    have := Lib.bytesWorld_cell w 5 s i hi
    rw [Nat.zero_add, this]
    simp [List.getD, hx]
  · rw [Nat.zero_add]
    simp [World.cell?, Lib.bytesWorld_at_new, hz, hj]
  · rw [Nat.zero_add]
    unfold World.frozen?
    rw [Lib.bytesWorld_at_new]
    simp [hz]
    omega
/-- A row over a part of which another is laid. -/
def ovL (l s : List UInt8) (p : Nat) : List UInt8 := l.take p ++ s ++ l.drop (p + s.length)
theorem ovL_len (l s : List UInt8) (p : Nat) (h : p + s.length ≤ l.length) : (ovL l s p).length = l.length := by
  unfold ovL
  rw [List.length_append, List.length_append, List.length_take, List.length_drop]
  omega
theorem OwnG.back {c g off n cap : Nat} {w : World} {l : List UInt8} (h : OwnG c w (.slice (some ⟨g, off, none⟩) n cap) l) : (convert 72 9 (.slice (some ⟨g, off, none⟩) n cap)).run Tryz.prog w = .ok (.string ⟨l.toArray⟩) w := by
  rcases h with ⟨g', off', cap', h1, h2, h3, h4, h5, h6, h7⟩ | ⟨_, h⟩
  · obtain ⟨⟨e1, e4⟩, e2, e3⟩ : (g = g' ∧ off = off') ∧ n = l.length ∧ cap = cap' := by simpa using h1
    subst e1 e3
    subst e2
    subst e4
    refine run_convert_bytes_back (P := Tryz.prog) w 72 9 5 ⟨g, off, none⟩ cap l Tryz.underlying72 Tryz.underlying5 Tryz.underlying9 (fun j hj => ?_)
    have := h6 j l[j] (List.getElem?_eq_getElem hj)
    rw [Addr.add_lit, this]
  · cases h
end Go.Proofs.YtjfejmdnjbekkaaGreatDoor

/- Rows of texts of the call's own; the copy of a list. -/
namespace Go.Proofs.YtjfejmdnjbekkaaGreatDoor
open Go.ChangeShapes Go.WideShapes Go.ChangeAt Go.RowKit

/-- A row of texts at the head of a block of texts. -/
def TR (w : World) (v : Value) (xs : List ByteArray) : Prop := ∃ (g C : Nat) (cs : Array Value), v = .slice (some ⟨g, 0, none⟩) xs.length C ∧ w.heap[g]? = some (.cells cs 9) ∧ xs.length ≤ C ∧ C ≤ maxLen ∧ ∀ (i : Nat) (s : ByteArray), xs[i]? = some s → cs[i]? = some (Value.string s)
theorem TR.ssl {w : World} {v : Value} {xs : List ByteArray} (h : TR w v xs) : SSl w v xs := by
  obtain ⟨g, C, cs, rfl, h2, h3, h4, h5⟩ := h
  refine ⟨_, C, rfl, h3, h4, fun _ => ⟨g, 0, rfl, (Array.getElem?_eq_some_iff.1 h2).1, fun i s hi => ?_⟩⟩
  rw [cell_of_row _ g _ _ 9 (0, 0) h2, Nat.zero_add]
  exact h5 i s hi
theorem TR.kept {w w' : World} {v : Value} {xs : List ByteArray} (h : TR w v xs) (hb : ∀ g, v.ownBlock = some g → w'.heap[g]? = w.heap[g]?) : TR w' v xs := by
  obtain ⟨g, C, cs, rfl, h2, h3, h4, h5⟩ := h
  exact ⟨g, C, cs, rfl, (hb g rfl).trans h2, h3, h4, h5⟩
theorem TR.below {w w' : World} {v : Value} {xs : List ByteArray} (h : TR w v xs) (hb : Below w.heap.size w w') : TR w' v xs := by
  refine h.kept (fun g hg => ?_)
  obtain ⟨g', C, cs, rfl, h2, _⟩ := h
  cases hg
  exact hb.block _ (Array.getElem?_eq_some_iff.1 h2).1
theorem TR.lt {w : World} {v : Value} {xs : List ByteArray} (h : TR w v xs) : ∃ g, v.ownBlock = some g ∧ g < w.heap.size ∧ ∃ cs, w.heap[g]? = some (.cells cs 9) := by
  obtain ⟨g', C, cs, rfl, h2, _⟩ := h
  exact ⟨g', rfl, (Array.getElem?_eq_some_iff.1 h2).1, cs, h2⟩
theorem TR.lit (w : World) (x : ByteArray) : TR (w.alloc (.cells #[.string x] 9)) (.slice (some ⟨w.heap.size, 0, none⟩) 1 1) [x] := by
  refine ⟨w.heap.size, 1, #[.string x], rfl, heap_alloc_new w _, Nat.le_refl _, by unfold maxLen; decide, fun i s hi => ?_⟩
  match i, hi with
  | 0, hi => cases hi; rfl
theorem i9 : (Tryz.prog.info? 9).map (fun i => (i.zero, i.size, i.bytes)) = some (some (.string ⟨#[]⟩), 1, 16) := by kernel_rfl
theorem Src.ofSSl {w : World} {v : Value} {xs : List ByteArray} (h : SSl w v xs) (hne : xs ≠ []) : Src Tryz.prog 1 38 v xs.length (xs.map Value.string) w := by
  obtain ⟨A, cap, rfl, h2, h3, h4⟩ := h
  obtain ⟨blk, off, rfl, h5, h6⟩ := h4 hne
  refine Src.ofSlice (P := Tryz.prog) (size := 1) w Tryz.underlying38 ⟨blk, off, none⟩ xs.length cap (xs.map Value.string) (by simp) (fun j u hj => ?_) (fun u hu => by obtain ⟨s, _, rfl⟩ := List.mem_map.1 hu; rfl)
  rw [List.getElem?_map] at hj
  obtain ⟨s, hs, rfl⟩ := Option.map_eq_some_iff.1 hj
  rw [Addr.add_lit]
  exact h6 j s hs
theorem wpList_append_T {ops : Array Oper} {rest : List Oper} {o : Oper} {a : Act} {Q : Exit → Act → World → Prop} (w : World) (hg : o.guard = none) (s x : Operand) (hop : o.op = Op.call { callee := Callee.builtin Builtin.append, args := #[s, x], argTypes := #[38, 38] })
    (base : Option Addr) (xs : List ByteArray) (u : Value) (hs : a.eval s = .slice base 0 0) (hfc : (Builtin.firstCells 1 0 (.slice base 0 0)).run Tryz.prog w.drew = .ok #[] w.drew) (hx : a.eval x = u) (h2 : SSl w u xs) (hne : xs ≠ []) (hb : xs.length ≤ 1000000)
    (k : ∀ v' w', TR w' v' xs → v'.ownBlock = some w.heap.size → Below w.heap.size w w' → wpList Tryz.prog ops Q rest (a.put o.dst v') w') : wpList Tryz.prog ops Q (o :: rest) a w := by
  obtain ⟨i0, hi, hz0, hz1, hz2⟩ := info_parts i9
  have h2' : Src Tryz.prog i0.size 38 u xs.length (xs.map Value.string) w := by rw [hz1]; exact Src.ofSSl h2 hne
  have hpos : 0 < xs.length := List.length_pos_iff.2 hne
  have hge := grownCap_ge w (0 + xs.length) 0 9
  have hcm : grownCap w (0 + xs.length) 0 9 ≤ maxLen := grownCap_le_maxLen w (0 + xs.length) 0 9 (by unfold maxLen; omega)
  have hrun := run_append_grow_src (P := Tryz.prog) w 38 38 o.type 9 i0 (.string ⟨#[]⟩) Tryz.underlying38 hi hz0 base 0 0 [] (by rw [hz1]; exact hfc) u xs.length (xs.map Value.string) h2' (by omega) (by omega) (by rw [hz2]; exact growslice_fits (by omega) (by omega))
  refine wpList_plain hg fun K hK' => ?_
  unfold Oper.wp
  simp [execOp, hop, resolve, invoke, builtin, hs, hx, hrun, Result.andThen]
  refine hK' _ _ (k _ _ ⟨w.heap.size, grownCap w (0 + xs.length) 0 9, _, by simp, heap_alloc_new w.drew _, by omega, hcm, fun i s hi => ?_⟩ rfl (((Below.refl w.heap.size w).drew).alloc (Nat.le_refl _) _))
  have hlt := (List.getElem?_eq_some_iff.1 hi).1
  rw [Array.getElem?_append_left (by simp; omega)]
  simp [hi]
set_option maxRecDepth 100000 in
set_option maxHeartbeats 2000000 in
theorem Clone57L (v : Value) (xs : List ByteArray) (hne : xs ≠ []) (hn : xs.length ≤ 1000000) (w : World) (h : SSl w v xs) : Calls Tryz.prog 65 #[v] w fun e w' => ∃ v', e = .returned v' ∧ TR w' v' xs ∧ (∃ g, v'.ownBlock = some g ∧ w.heap.size ≤ g) ∧ Below w.heap.size w w' := by
  have H := Lib.hid h
  obtain ⟨A, cap, rfl, h2, h3, h4⟩ := h
  obtain ⟨blk, off, rfl, h5, h6⟩ := h4 hne
  have hq : ∀ w, (binOp .eql 38 (.slice (some ⟨blk, off, none⟩) xs.length cap) (.slice none 0 0)).run Tryz.prog w = .ok (.bool false) w := fun w => by kernel_rfl
  clear h2 h3 h4 h5 h6
  go_enter Tryz.func65, Tryz.ntmps65
  have hfc : (Builtin.firstCells 1 0 (.slice (some ⟨w.heap.size, 0, none⟩) 0 0)).run Tryz.prog (w.alloc (.cells #[] 9)).drew = .ok #[] (w.alloc (.cells #[] 9)).drew := by
    refine run_firstCells_some _ 1 0 ⟨w.heap.size, 0, none⟩ _ _ [] rfl (fun j u hj => by cases hj)
  have HF := Lib.hid hfc
  have HZ := Lib.hid (H.out.below (alloc_old (o := .cells #[] 9)))
  clear hfc
  go_wp2_with (first | (at_builtin; refine wpList_append_T _ rfl _ _ rfl (some ⟨w.heap.size, 0, none⟩) xs _ rfl HF.out rfl HZ.out hne hn ?_; intro v2 w2 hT2 ho2 hb2))
  go_ret
  exact ⟨v2, rfl, hT2, ⟨_, ho2, by simp⟩, alloc_old.trans (hb2.mono (by simp))⟩
end Go.Proofs.YtjfejmdnjbekkaaGreatDoor

/- Rows of texts of the call's own: append. -/
namespace Go.Proofs.YtjfejmdnjbekkaaGreatDoor
open Go.ChangeShapes Go.WideShapes Go.ChangeAt Go.RowKit

/-- A row of texts of the call's own. -/
def TO (w : World) (c : Nat) (v : Value) (xs : List ByteArray) : Prop := w.ownsRow c 9 1 v xs.length (xs.map Value.string)
theorem TO.ssl {w : World} {c : Nat} {v : Value} {xs : List ByteArray} (h : TO w c v xs) : SSl w v xs := by
  have h' := h
  unfold TO World.ownsRow at h'
  obtain ⟨_, ⟨rfl, h0⟩ | ⟨g, cap, cur, rfl, h1, h2, h3, h4, h5, h6⟩⟩ := h'
  · exact ⟨none, 0, by rw [h0], by omega, Nat.zero_le _, fun hne => absurd (List.length_eq_zero_iff.1 h0) hne⟩
  · refine ⟨_, cap, rfl, h3, h4, fun _ => ⟨g, 0, rfl, (Array.getElem?_eq_some_iff.1 h2).1, fun i s hi => ?_⟩⟩
    rw [Nat.zero_add]
    exact row_cell h i _ (by rw [List.getElem?_map, hi]; rfl)
theorem step_append_TO {ops : Array Oper} {o : Oper} {a : Act} {K : Act → World → Prop} {Q : Exit → Act → World → Prop} {E : Prop} (w : World) (hg : o.guard = none) (s x : Operand) (hop : o.op = Op.call { callee := Callee.builtin Builtin.append, args := #[s, x], argTypes := #[38, 38] })
    (c : Nat) (v : Value) (xs : List ByteArray) (N : Nat) (hN : xs.length = N) (hs : a.eval s = v) (h : TO w c v xs) (ys : List ByteArray) (M : Nat) (hM : ys.length = M) (b : Nat) (hx : a.eval x = .slice (some ⟨b, 0, none⟩) M M) (hb : w.heap[b]? = some (.cells (ys.map Value.string).toArray 9)) (hp : 0 < M) (hl : N + M ≤ 100000) (hc : c ≤ w.heap.size)
    (k : ∀ g cap w', TO w' c (.slice (some ⟨g, 0, none⟩) (N + M) cap) (xs ++ ys) → w.grownBy w' v.ownBlock → (v.ownBlock = some g ∨ g = w.heap.size) → K (a.put o.dst (.slice (some ⟨g, 0, none⟩) (N + M) cap)) w') :
    if Region.wanted o (yielded ops a.tmps) = true then Oper.wp Tryz.prog o a w K Q else E := by
  subst hN
  subst hM
  obtain ⟨i0, hi, hz0, hz1, hz2⟩ := info_parts i9
  refine step_append_lies w hg s x 38 hop c 9 i0 _ 1 16 Tryz.underlying38 hi hz0 hz1 hz2 rfl (by decide) v xs.length _ hs h ⟨b, 0, none⟩ ys.length ys.length (ys.map Value.string) hx (by simp) (news_blk hb) (map_one ys) hp (by unfold maxLen; omega) (by omega) hc _ rfl ?_
  intro g cap w' h1 h2 h3 _
  refine k g cap w' ?_ h2 h3
  unfold TO
  rw [List.length_append, List.map_append]
  exact h1
theorem append_TO {ops : Array Oper} {rest : List Oper} {o : Oper} {a : Act} {Q : Exit → Act → World → Prop} (w : World) (hg : o.guard = none) (s x : Operand) (hop : o.op = Op.call { callee := Callee.builtin Builtin.append, args := #[s, x], argTypes := #[38, 38] })
    (c : Nat) (v : Value) (xs : List ByteArray) (N : Nat) (hN : xs.length = N) (hs : a.eval s = v) (h : TO w c v xs) (ys : List ByteArray) (M : Nat) (hM : ys.length = M) (b : Nat) (hx : a.eval x = .slice (some ⟨b, 0, none⟩) M M) (hb : w.heap[b]? = some (.cells (ys.map Value.string).toArray 9)) (hp : 0 < M) (hl : N + M ≤ 100000) (hc : c ≤ w.heap.size)
    (k : ∀ g cap w', TO w' c (.slice (some ⟨g, 0, none⟩) (N + M) cap) (xs ++ ys) → w.grownBy w' v.ownBlock → (v.ownBlock = some g ∨ g = w.heap.size) → wpList Tryz.prog ops Q rest (a.put o.dst (.slice (some ⟨g, 0, none⟩) (N + M) cap)) w') : wpList Tryz.prog ops Q (o :: rest) a w := by
  subst hN
  subst hM
  obtain ⟨i0, hi, hz0, hz1, hz2⟩ := info_parts i9
  refine wpList_append_lies w hg s x 38 hop c 9 i0 _ 1 16 Tryz.underlying38 hi hz0 hz1 hz2 rfl (by decide) v xs.length _ hs h ⟨b, 0, none⟩ ys.length ys.length (ys.map Value.string) hx (by simp) (news_blk hb) (map_one ys) hp (by unfold maxLen; omega) (by omega) hc _ rfl ?_
  intro g cap w' h1 h2 h3 _
  refine k g cap w' ?_ h2 h3
  unfold TO
  rw [List.length_append, List.map_append]
  exact h1
theorem TO.lit (X : World) (xs : List ByteArray) (b : Nat) (c : Nat) (n : Nat) (hn : xs.length = n) (hm : n ≤ 1000) (hc : c ≤ b) (h : X.heap[b]? = some (.cells (xs.map Value.string).toArray 9)) : TO X c (.slice (some ⟨b, 0, none⟩) n n) xs := by
  subst hn
  unfold TO World.ownsRow
  refine ⟨by simp, .inr ⟨b, xs.length, _, rfl, hc, h, Nat.le_refl _, by unfold maxLen; omega, by simp, ?_⟩⟩
  exact List.take_of_length_le (by simp)
end Go.Proofs.YtjfejmdnjbekkaaGreatDoor

/- undo.New; command.Keys of a command with one key. -/
namespace Go.Proofs.YtjfejmdnjbekkaaGreatDoor
open Go.ChangeShapes Go.WideShapes Go.ChangeAt Go.RowKit

set_option maxRecDepth 100000 in
set_option maxHeartbeats 4000000 in
theorem uNew_any (bS : Nat) (w : World) : Calls Tryz.prog 15 #[.pointer (some ⟨bS, 0, none⟩)] w fun e w' => e = .returned (.pointer (some ⟨w.heap.size, 0, none⟩)) ∧ w'.heap[w.heap.size]? = some (.cells #[.pointer (some ⟨bS, 0, none⟩), .slice none 0 0] 60) ∧ Below w.heap.size w w' := by
  go_enter Tryz.func15, Tryz.ntmps15
  go_wp2
  go_ret
  exact ⟨rfl, heap_alloc_new w _, alloc_old⟩
theorem cells7h {X : World} {b : Nat} {a0 a1 a2 a3 a4 a5 a6 : Value} {t : TypeId} (h : X.heap[b]? = some (.cells #[a0, a1, a2, a3, a4, a5, a6] t)) : X.cell? ⟨b, 4, none⟩ = some a4 ∧ X.cell? ⟨b, 5, none⟩ = some a5 ∧ X.cell? ⟨b, 6, none⟩ = some a6 := by
  refine ⟨?_, ?_, ?_⟩ <;> (rw [cell_of_row _ b _ _ t (0, 0) h]; rfl)
set_option maxRecDepth 100000 in
set_option maxHeartbeats 8000000 in
theorem Keys_one (raw k b0 : ByteArray) (b1 b2 : Int) (b3 : Bool) (v : Value) (w : World) (hA : SSl w v [raw, k]) (hfit : Calls Tryz.prog 28 #[v] w fun e w' => e = .returned (.int .i64 0) ∧ Below w.heap.size w w') (hfind : ∀ X, Calls Tryz.prog 35 #[.string raw] X fun e w' => e = .returned (.tuple #[.agg #[.string b0, .int .i64 b1, .int .i64 b2, .bool b3, .int .i64 1, .int .i64 1, .int .i64 1], .bool true]) ∧ Below X.heap.size X w') : Calls Tryz.prog 31 #[v] w fun e w' => ∃ A C, e = .returned (.slice A 1 C) ∧ TO w' w.heap.size (.slice A 1 C) [k] ∧ Below w.heap.size w w' := by
  obtain ⟨aA, cap, rfl, p1, p2, p3⟩ := hA
  obtain ⟨blk, off, rfl, hblt, hc⟩ := p3 (by simp)
  have CA := Lib.hid (show ∀ X, Below w.heap.size w X → X.cell? ⟨blk, off, none⟩ = some (.string raw) ∧ X.cell? ⟨blk, off + 1, none⟩ = some (.string k) from fun X hX => ⟨(hX.cell (p := ⟨blk, off, none⟩) hblt).trans (hc 0 raw rfl), (hX.cell (p := ⟨blk, off + 1, none⟩) hblt).trans (hc 1 k rfl)⟩)
  have F1 := Lib.hid hfit
  have F2 := Lib.hid hfind
  clear hfit hfind p1 p2 p3 hc hblt
  have i0 : (0 : Int) < (2 : Int) := by decide
  simp only [List.length_cons, List.length_nil, Nat.zero_add, Nat.reduceAdd] at F1 ⊢
  go_enter Tryz.func31, Tryz.ntmps31
  go_wp2_with (first | (go_at_call 28; (with_reducible refine (F1.out).mono ?_); rintro e w1 ⟨rfl, h1⟩; have B1 := Lib.hid h1; obtain ⟨ca, cb⟩ := CA.out w1 h1; clear h1) | (go_at_call 35; (with_reducible refine (F2.out _).mono ?_); rintro e w2 ⟨rfl, h1⟩; have B2 := Lib.hid (B1.out.trans (h1.mono (Below.size B1.out))); clear h1; refine Hid.out ?_))
  refine Lib.hid ?_
  have B3 := Lib.hid (B2.out.trans ((alloc_old (w := w2) (o := .cells #[.string b0, .int .i64 b1, .int .i64 b2, .bool b3, .int .i64 1, .int .i64 1, .int .i64 1] 68)).mono (Below.size B2.out)))
  have r3 := Lib.hid (heap_alloc_new w2 (.cells #[.string b0, .int .i64 b1, .int .i64 b2, .bool b3, .int .i64 1, .int .i64 1, .int .i64 1] 68))
  obtain ⟨c4, c5, c6⟩ := cells7h r3.out
  go_wp2
  clear c4 c5 c6 ca cb
  have HS := Lib.hid (Below.size B2.out)
  generalize w2.alloc (.cells #[.string b0, .int .i64 b1, .int .i64 b2, .bool b3, .int .i64 1, .int .i64 1, .int .i64 1] 68) = y at B3 r3 ⊢
  generalize w2.heap.size = R at r3 HS ⊢
  go_loopw [6, 7] (fun ov iv wr => ∃ (t : Nat) (A' : Option Addr) (C' : Nat), t ≤ 1 ∧ ov = .slice A' t C' ∧ iv = .int .i64 ((t : Int) + 1) ∧ Hid (TO wr y.heap.size (.slice A' t C') ([k].take t) ∧ Below y.heap.size y wr)) (fun _ iv _ => 3 - (intOf iv).toNat)
  case atStart => exact ⟨0, none, 0, Nat.zero_le _, rfl, rfl, Lib.hid ⟨World.ownsRow_nil _ _ _ _, Below.refl _ _⟩⟩
  case round =>
    obtain ⟨t, A', C', ht, rfl, rfl, HQ⟩ := hrel
    obtain ⟨c4, c5, c6⟩ := cells7h (blk_below r3.out HQ.out.2)
    have BW := Lib.hid (B3.out.trans (HQ.out.2.mono (Below.size B3.out)))
    obtain ⟨ca, cb⟩ := CA.out wr BW.out
    rcases (show t = 0 ∨ t = 1 by omega) with rfl | rfl
    · have AY := Lib.hid (alloc_old (w := wr) (o := .cells #[.string k] 9))
      have ny := Lib.hid (heap_alloc_new wr (.cells #[.string k] 9))
      have RY := Lib.hid (show TO _ y.heap.size _ _ from row_below HQ.out.1 AY.out)
      have DY := Lib.hid (HQ.out.2.trans (AY.out.mono (Below.size HQ.out.2)))
      have HZ := Lib.hid (Below.size DY.out)
      have HL := Lib.hid (show ([k].take 0).length = 0 from rfl)
      go_wp2_with (first | (at_builtin; refine append_TO _ rfl _ _ rfl y.heap.size _ _ _ HL.out rfl RY.out [k] 1 rfl _ rfl ny.out (by decide) (by omega) HZ.out ?_; intro g1 C1 x1 h6 h7 h8; have T1 := Lib.hid h6; have G1 := Lib.hid (DY.out.grown h7 HZ.out (fun b hb => (row_own RY.out b hb).1)); clear h6 h7 h8; obtain ⟨c4, c5, c6⟩ := cells7h (blk_below r3.out G1.out)))
      exact ⟨⟨1, _, C1, Nat.le_refl _, rfl, by go_num, Lib.hid ⟨T1.out, G1.out⟩⟩, by simp [intOf]⟩
    · have T1 := Lib.hid (show TO wr y.heap.size (.slice A' 1 C') [k] from HQ.out.1)
      go_wp2
      go_ret
      exact ⟨A', C', rfl, row_mono T1.out (Below.size B3.out), BW.out⟩
end Go.Proofs.YtjfejmdnjbekkaaGreatDoor

/- host.Call of GET where the key is not declared. -/
namespace Go.Proofs.YtjfejmdnjbekkaaGreatDoor
open Go.ChangeShapes Go.WideShapes Go.ChangeAt Go.RowKit

theorem hu_GETh (w : World) : Calls Tryz.prog 30 #[.string ⟨#[71, 69, 84]⟩] w fun e w' => e = .returned (.string ⟨#[71, 69, 84]⟩) ∧ Below w.heap.size w w' := Upper62 ⟨#[71, 69, 84]⟩ (by decide) (of_decide_eq_true (by kernel_rfl)) w
theorem Fits_GETh (v : Value) (k : ByteArray) (w : World) (h : SSl w v [⟨#[71, 69, 84]⟩, k]) : Calls Tryz.prog 28 #[v] w fun e w' => e = .returned (.int .i64 0) ∧ Below w.heap.size w w' :=
  Fits_ok 14 ⟨#[71, 69, 84]⟩ ⟨#[71, 69, 84]⟩ 2 2 false 1 1 1 [71, 69, 84] rfl (by kernel_rfl) hu_GETh v _ rfl (by simp) (.inr (by simp)) (groups_GET _) w h
theorem TO.some {w : World} {c n C : Nat} {A : Option Addr} {xs : List ByteArray} (h : TO w c (.slice A n C) xs) (hne : xs ≠ []) : ∃ g, A = some ⟨g, 0, none⟩ := by
  unfold TO World.ownsRow at h
  obtain ⟨_, ⟨_, h0⟩ | ⟨g, cap, cur, h1, _⟩⟩ := h
  · exact absurd (List.eq_nil_of_length_eq_zero h0) hne
  · cases h1
    exact ⟨g, rfl⟩
set_option maxRecDepth 100000 in
set_option maxHeartbeats 8000000 in
theorem call_undecl (u bS : Nat) (now mem : Int) (k : ByteArray) (q : Nat) (w : World) (hq : w.heap[q]? = some (.cells #[.string k] 9)) : Calls Tryz.prog 16 #[.pointer (some ⟨u, 0, none⟩), .pointer (some ⟨bS, 0, none⟩), .int .i64 now, .int .i64 mem, .slice none 0 0, .string ⟨#[71, 69, 84]⟩, .slice (some ⟨q, 0, none⟩) 1 1] w fun e w' => e = .returned (.tuple #[.agg #[.int .i64 0, .int .i64 0, .string ⟨#[]⟩, .slice none 0 0], .bool false, .int .i64 16]) ∧ Below w.heap.size w w' := by
  have h2 := blk2 w (.cells #[.int .i64 0, .int .i64 0, .string ⟨#[]⟩, .slice none 0 0] 27) (.cells #[.string ⟨#[71, 69, 84]⟩] 9)
  have B2 := Lib.hid (two_old w (.cells #[.int .i64 0, .int .i64 0, .string ⟨#[]⟩, .slice none 0 0] 27) (.cells #[.string ⟨#[71, 69, 84]⟩] 9))
  have z2 := Lib.hid (blk_below (heap_alloc_new w (.cells #[.int .i64 0, .int .i64 0, .string ⟨#[]⟩, .slice none 0 0] 27)) (alloc_old (o := .cells #[.string ⟨#[71, 69, 84]⟩] 9)))
  have q2 := Lib.hid (blk_below hq B2.out)
  have T2 := Lib.hid (TO.lit _ [⟨#[71, 69, 84]⟩] (w.heap.size + 1) (w.heap.size + 1) 1 rfl (by decide) (Nat.le_refl _) h2)
  have s2 := Lib.hid (show w.heap.size + 1 ≤ ((w.alloc (.cells #[.int .i64 0, .int .i64 0, .string ⟨#[]⟩, .slice none 0 0] 27)).alloc (.cells #[.string ⟨#[71, 69, 84]⟩] 9)).heap.size by simp)
  have lq := lt_blk hq
  clear h2 hq
  go_enter Tryz.func16, Tryz.ntmps16
  go_wp2_with (first | (at_builtin; refine append_TO _ rfl _ _ rfl (w.heap.size + 1) (.slice (some ⟨w.heap.size + 1, 0, none⟩) 1 1) [⟨#[71, 69, 84]⟩] 1 rfl rfl T2.out [k] 1 rfl _ rfl q2.out (by decide) (by decide) s2.out ?_; intro g1 C1 x1 h6 h7 h8; have T3 := Lib.hid h6; have D3 := Lib.hid ((Below.refl _ _).grown h7 s2.out (fun b hb => (row_own T2.out b hb).1)); have z3 := Lib.hid ((D3.out.block w.heap.size (Nat.lt_succ_self _)).trans z2.out); have B3 := Lib.hid (B2.out.trans (D3.out.mono (Nat.le_succ _))); have F3 := Lib.hid (Fits_GETh _ k x1 h6.ssl); clear h6 h7 h8) | (go_at_call 28; (with_reducible refine (F3.out).mono ?_); rintro e x2 ⟨rfl, h1⟩; have T4 := Lib.hid (show TO x2 (w.heap.size + 1) _ _ from row_below T3.out h1); have z4 := Lib.hid (blk_below z3.out h1); have B4 := Lib.hid (B3.out.trans (h1.mono (Below.size B3.out))); clear h1; refine Hid.out ?_))
  refine Lib.hid ?_
  have UP := Lib.hid (hu_GETh x2)
  go_wp2_with (first | (go_at_call 30; (with_reducible refine (UP.out).mono ?_); rintro e x3 ⟨rfl, h1⟩; have T5 := Lib.hid (show TO x3 (w.heap.size + 1) _ _ from row_below T4.out h1); have z5 := Lib.hid (blk_below z4.out h1); have B5 := Lib.hid (B4.out.trans (h1.mono (Below.size B4.out))); have KE := Lib.hid (Keys_one ⟨#[71, 69, 84]⟩ k ⟨#[71, 69, 84]⟩ 2 2 false _ x3 T5.out.ssl (Fits_GETh _ k x3 T5.out.ssl) (fun X => Find_at 14 ⟨#[71, 69, 84]⟩ ⟨#[71, 69, 84]⟩ 2 2 false 1 1 1 [71, 69, 84] rfl (by kernel_rfl) hu_GETh X)); clear h1) | (go_at_call 31; (with_reducible refine (KE.out).mono ?_); rintro e x4 ⟨A4, C4, rfl, h1, h2⟩; have T6 := Lib.hid h1; have z6 := Lib.hid (blk_below z5.out h2); have B6 := Lib.hid (B5.out.trans (h2.mono (Below.size B5.out))); clear h1 h2; refine Hid.out ?_))
  refine Lib.hid ?_
  obtain ⟨g4, rfl⟩ := T6.out.some (by simp)
  have ck := row_cell T6.out 0 (.string k) rfl
  have CN := Lib.hid (fun X => Tryz.slices_Contains_string_empty none 0 k X)
  obtain ⟨⟨c0, c1, c2, c3⟩, ⟨f0, f1, f2, f3⟩⟩ := cells4 z6.out
  have i0 : (0 : Int) < (1 : Int) := by decide
  go_wp2
  go_loopw [51] (fun iv wr => iv = .int .i64 0 ∧ Hid (wr = x4)) (fun _ _ => 0)
  case atStart => exact ⟨rfl, Lib.hid rfl⟩
  case round =>
    obtain ⟨rfl, HQ⟩ := hrel
    obtain rfl := HQ.out
    go_wp2_with (first | (go_at_call 32; (with_reducible refine (CN.out _).mono ?_); rintro e x5 ⟨rfl, hx5⟩; obtain rfl := hx5.symm))
    exact bodyPost_ret (v := .tuple #[.agg #[.int .i64 0, .int .i64 0, .string ⟨#[]⟩, .slice none 0 0], .bool false, .int .i64 16]) (by simp [results, Tryz.results16, go_sem, c0, c1, c2, c3]) rfl ⟨rfl, ((((B6.out.setCell (Nat.le_refl _) _).setCell (Nat.le_refl _) _).setCell (Nat.le_refl _) _).setCell (Nat.le_refl _) _)⟩
end Go.Proofs.YtjfejmdnjbekkaaGreatDoor

/- host.Call of "incr" of a key that is declared and not there. -/
namespace Go.Proofs.YtjfejmdnjbekkaaGreatDoor
open Go.ChangeShapes Go.WideShapes Go.ChangeAt Go.RowKit

set_option maxRecDepth 100000 in
set_option maxHeartbeats 8000000 in
theorem call_incr (W0 : World) (hT : Tab W0) (u bS bM : Nat) (now : Int) (k : ByteArray) (hk1 : 1 ≤ k.size) (hk : k.size ≤ 512) (q q2 : Nat) (w : World) (hI : Below W0.heap.size W0 w) (hu : w.heap[u]? = some (.cells #[.pointer (some ⟨bS, 0, none⟩), .slice none 0 0] 60)) (hmem : w.heap[bS]? = some (.cells #[.map (some bM), .int .i64 0] 57)) (hS : SP w bS bM []) (hub : u ≠ bS ∧ u ≠ bM) (hq : w.heap[q]? = some (.cells #[.string k] 9)) (hq2 : w.heap[q2]? = some (.cells #[.string k] 9)) : Calls Tryz.prog 16 #[.pointer (some ⟨u, 0, none⟩), .pointer (some ⟨bS, 0, none⟩), .int .i64 now, .int .i64 1000, .slice (some ⟨q, 0, none⟩) 1 1, .string ⟨#[105, 110, 99, 114]⟩, .slice (some ⟨q2, 0, none⟩) 1 1] w fun e w' => e = .returned (.tuple #[.agg #[.int .i64 2, .int .i64 1, .string ⟨#[]⟩, .slice none 0 0], .bool false, .int .i64 0]) ∧ Kp w.heap.size (fun i => i ≠ bS ∧ i ≠ bM ∧ i ≠ u) w w' := by
  have h2 := blk2 w (.cells #[.int .i64 0, .int .i64 0, .string ⟨#[]⟩, .slice none 0 0] 27) (.cells #[.string ⟨#[105, 110, 99, 114]⟩] 9)
  have B2 := Lib.hid (two_old w (.cells #[.int .i64 0, .int .i64 0, .string ⟨#[]⟩, .slice none 0 0] 27) (.cells #[.string ⟨#[105, 110, 99, 114]⟩] 9))
  have z2 := Lib.hid (blk_below (heap_alloc_new w (.cells #[.int .i64 0, .int .i64 0, .string ⟨#[]⟩, .slice none 0 0] 27)) (alloc_old (o := .cells #[.string ⟨#[105, 110, 99, 114]⟩] 9)))
  have q2' := Lib.hid (blk_below hq2 B2.out)
  have T2 := Lib.hid (TO.lit _ [⟨#[105, 110, 99, 114]⟩] (w.heap.size + 1) (w.heap.size + 1) 1 rfl (by decide) (Nat.le_refl _) h2)
  have s2 := Lib.hid (show w.heap.size + 1 ≤ ((w.alloc (.cells #[.int .i64 0, .int .i64 0, .string ⟨#[]⟩, .slice none 0 0] 27)).alloc (.cells #[.string ⟨#[105, 110, 99, 114]⟩] 9)).heap.size by simp)
  have lq := lt_blk hq
  have lq2 := lt_blk hq2
  have FI := Lib.hid (fun v X (hX : SSl X v [⟨#[105, 110, 99, 114]⟩, k]) => Fits_incr_low v _ rfl (by simp) (by simp) X hX)
  have KY := Lib.hid (fun v X (hX : SSl X v [⟨#[105, 110, 99, 114]⟩, k]) => Keys_one ⟨#[105, 110, 99, 114]⟩ k ⟨#[73, 78, 67, 82]⟩ 2 2 true v X hX (FI.out v X hX) (fun X => Find_at 21 ⟨#[105, 110, 99, 114]⟩ ⟨#[73, 78, 67, 82]⟩ 2 2 true 1 1 1 [73, 78, 67, 82] rfl (by kernel_rfl) hu_incr_low X))
  have RU := Lib.hid (fun v X (hX : Below w.heap.size w X) (hA : SSl X v [⟨#[105, 110, 99, 114]⟩, k]) => eRun_incr W0 hT u bS bM now k hk1 hk v X (hI.trans (hX.mono (Below.size hI))) (blk_below hu hX) (blk_below hmem hX) (hS.below hX) hub hA)
  have CN := Lib.hid (fun X (hX : Below w.heap.size w X) => Tryz.slices_Contains_string q 0 1 1 [k] k X (by simp) (by decide) (fun j hj => by
    have : j = 0 := by simpa using hj
    subst this
    simp only [Nat.add_zero]
    have := blk_below hq hX
    simp [World.cell?, this]))
  have hcs : Lib.containsS ([k].take 1) k = true := (Lib.containsS_iff _ _).2 (by simp)
  rw [hcs] at CN
  have PI := Lib.hid (fun X => hPlain_int 1 ⟨#[]⟩ X)
  have hlu := lt_blk hu
  have hlS := lt_blk hmem
  have hlM := (hS.2.1).lt
  clear h2 hq hq2 hT hI hu hmem hS
  go_enter Tryz.func16, Tryz.ntmps16
  go_wp2_with (first | (at_builtin; refine append_TO _ rfl _ _ rfl (w.heap.size + 1) (.slice (some ⟨w.heap.size + 1, 0, none⟩) 1 1) [⟨#[105, 110, 99, 114]⟩] 1 rfl rfl T2.out [k] 1 rfl _ rfl q2'.out (by decide) (by decide) s2.out ?_; intro g1 C1 x1 h6 h7 h8; have T3 := Lib.hid h6; have D3 := Lib.hid ((Below.refl _ _).grown h7 s2.out (fun b hb => (row_own T2.out b hb).1)); have z3 := Lib.hid ((D3.out.block w.heap.size (Nat.lt_succ_self _)).trans z2.out); have B3 := Lib.hid (B2.out.trans (D3.out.mono (Nat.le_succ _))); have F3 := Lib.hid (FI.out _ x1 h6.ssl); clear h6 h7 h8) | (go_at_call 28; (with_reducible refine (F3.out).mono ?_); rintro e x2 ⟨rfl, h1⟩; have T4 := Lib.hid (show TO x2 (w.heap.size + 1) _ _ from row_below T3.out h1); have z4 := Lib.hid (blk_below z3.out h1); have B4 := Lib.hid (B3.out.trans (h1.mono (Below.size B3.out))); clear h1; refine Hid.out ?_))
  refine Lib.hid ?_
  have UP := Lib.hid (hu_incr_low x2)
  go_wp2_with (first | (go_at_call 30; (with_reducible refine (UP.out).mono ?_); rintro e x3 ⟨rfl, h1⟩; have T5 := Lib.hid (show TO x3 (w.heap.size + 1) _ _ from row_below T4.out h1); have z5 := Lib.hid (blk_below z4.out h1); have B5 := Lib.hid (B4.out.trans (h1.mono (Below.size B4.out))); have KE := Lib.hid (KY.out _ x3 T5.out.ssl); clear h1) | (go_at_call 31; (with_reducible refine (KE.out).mono ?_); rintro e x4 ⟨A4, C4, rfl, h1, h2⟩; have T6 := Lib.hid h1; have z6 := Lib.hid (blk_below z5.out h2); have B6 := Lib.hid (B5.out.trans (h2.mono (Below.size B5.out))); have T7 := Lib.hid (show TO x4 (w.heap.size + 1) _ _ from row_below T5.out h2); clear h1 h2; refine Hid.out ?_))
  refine Lib.hid ?_
  obtain ⟨g4, rfl⟩ := T6.out.some (by simp)
  have ck := row_cell T6.out 0 (.string k) rfl
  have ZS := Lib.hid (lt_blk z6.out)
  go_wp2
  go_loopw [51] (fun iv wr => ∃ i : Nat, i ≤ 1 ∧ iv = .int .i64 i ∧ Hid (Below x4.heap.size x4 wr)) (fun iv _ => 2 - (intOf iv).toNat)
  case atStart => exact ⟨0, Nat.zero_le _, rfl, Lib.hid (Below.refl _ _)⟩
  case round =>
    obtain ⟨i, hi, rfl, HQ⟩ := hrel
    have BW := Lib.hid (B6.out.trans (HQ.out.mono (Below.size B6.out)))
    have zr := Lib.hid (blk_below z6.out HQ.out)
    have TR := Lib.hid (show TO wr (w.heap.size + 1) _ _ from row_below T7.out HQ.out)
    have CX := Lib.hid (CN.out wr BW.out)
    rcases (show i = 0 ∨ i = 1 by omega) with rfl | rfl
    · have cw := row_cell (show TO wr x3.heap.size _ _ from row_below T6.out HQ.out) 0 (.string k) rfl
      go_wp2_with (first | (go_at_call 32; (with_reducible refine (CX.out).mono ?_); rintro e x5 ⟨rfl, hx5⟩; obtain rfl := hx5.symm))
      exact ⟨⟨1, Nat.le_refl _, rfl, HQ⟩, by simp [intOf]⟩
    · have RX := Lib.hid (RU.out _ wr BW.out TR.out.ssl)
      go_wp2_with (first | (go_at_call 33; (with_reducible refine (RX.out).mono ?_); rintro e x6 ⟨rfl, h1⟩; have K6 := Lib.hid h1; clear h1) | (go_at_call 8; (with_reducible refine (PI.out _).mono ?_); rintro e x7 ⟨rfl, h1⟩; have K7 := Lib.hid h1; clear h1; refine Hid.out ?_))
      refine Lib.hid ?_
      have hz9 := ZS.out
      have lw := lt_blk zr.out
      have z6 := (K6.out.block w.heap.size lw ⟨by omega, by omega, by omega⟩).trans zr.out
      have BA := Lib.hid (show Below x6.heap.size x6 (x7.alloc (.cells #[.int .i64 2, .int .i64 1, .string ⟨#[]⟩, .slice none 0 0] 27)) from K7.out.trans (alloc_old.mono (Below.size K7.out)))
      obtain ⟨⟨a0, a1, a2, a3⟩, ⟨f0, f1, f2, f3⟩⟩ := cells4 (blk_below z6 BA.out)
      obtain ⟨⟨y0, y1, y2, y3⟩, _⟩ := cells4 (heap_alloc_new x7 (.cells #[.int .i64 2, .int .i64 1, .string ⟨#[]⟩, .slice none 0 0] 27))
      have KW := Lib.hid (show Kp w.heap.size (fun i => i ≠ bS ∧ i ≠ bM ∧ i ≠ u) w (x7.alloc (.cells #[.int .i64 2, .int .i64 1, .string ⟨#[]⟩, .slice none 0 0] 27)) from ((Kp.of BW.out).trans (K6.out.mono (Below.size BW.out) (fun i hi => hi))).trans (.of (BA.out.mono (Nat.le_trans (Below.size BW.out) K6.out.size))))
      clear z6 hz9 lw
      go_wp2
      exact bodyPost_ret (v := .tuple #[.agg #[.int .i64 2, .int .i64 1, .string ⟨#[]⟩, .slice none 0 0], .bool false, .int .i64 0]) (by simp [results, Tryz.results16, go_sem, a0, a1, a2, a3]) rfl ⟨rfl, (((KW.out.setCell (p := ⟨w.heap.size, 0, none⟩) (by simp) _).setCell (p := ⟨w.heap.size, 1, none⟩) (by simp) _).setCell (p := ⟨w.heap.size, 2, none⟩) (by simp) _).setCell (p := ⟨w.heap.size, 3, none⟩) (by simp) _⟩
end Go.Proofs.YtjfejmdnjbekkaaGreatDoor

/- host.Call of GET without arguments. -/
namespace Go.Proofs.YtjfejmdnjbekkaaGreatDoor
open Go.ChangeShapes Go.WideShapes Go.ChangeAt Go.RowKit

set_option maxRecDepth 100000 in
set_option maxHeartbeats 4000000 in
theorem Fits_few (v : Value) (w : World) (h : SSl w v [⟨#[71, 69, 84]⟩]) : Calls Tryz.prog 28 #[v] w fun e w' => e = .returned (.int .i64 2) ∧ Below w.heap.size w w' := by
  have F := Lib.hid (fun X => Find_at 14 ⟨#[71, 69, 84]⟩ ⟨#[71, 69, 84]⟩ 2 2 false 1 1 1 [71, 69, 84] rfl (by kernel_rfl) hu_GETh X)
  obtain ⟨A, cap, rfl, p1, p2, p3⟩ := h
  obtain ⟨blk, off, rfl, hb, hc⟩ := p3 (by simp)
  have d0 := hc 0 _ rfl
  rw [Nat.add_zero] at d0
  have i0 : (0 : Int) < (1 : Int) := by decide
  clear hc p3
  go_enter Tryz.func28, Tryz.ntmps28
  go_wp2_with (first | (go_at_call 35; (with_reducible refine (F.out _).mono ?_); rintro e w1 ⟨rfl, h1⟩; have B1 := Lib.hid h1; clear h1))
  go_ret
  exact ⟨by simp, B1.out.alloc (Below.size B1.out) _⟩
set_option maxRecDepth 100000 in
set_option maxHeartbeats 8000000 in
theorem call_few {W0 : World} (hT : Tab W0) (u bS : Nat) (now mem : Int) (w : World) (hi : Below W0.heap.size W0 w) : Calls Tryz.prog 16 #[.pointer (some ⟨u, 0, none⟩), .pointer (some ⟨bS, 0, none⟩), .int .i64 now, .int .i64 mem, .slice none 0 0, .string ⟨#[71, 69, 84]⟩, .slice none 0 0] w fun e w' => e = .returned (.tuple #[.agg #[.int .i64 3, .int .i64 0, .string ⟨#[69, 82, 82, 32, 50]⟩, .slice none 0 0], .bool true, .int .i64 0]) ∧ Below w.heap.size w w' := by
  have h2 := blk2 w (.cells #[.int .i64 0, .int .i64 0, .string ⟨#[]⟩, .slice none 0 0] 27) (.cells #[.string ⟨#[71, 69, 84]⟩] 9)
  have B2 := Lib.hid (two_old w (.cells #[.int .i64 0, .int .i64 0, .string ⟨#[]⟩, .slice none 0 0] 27) (.cells #[.string ⟨#[71, 69, 84]⟩] 9))
  have z2 := Lib.hid (blk_below (heap_alloc_new w (.cells #[.int .i64 0, .int .i64 0, .string ⟨#[]⟩, .slice none 0 0] 27)) (alloc_old (o := .cells #[.string ⟨#[71, 69, 84]⟩] 9)))
  have T2 := Lib.hid (TO.lit _ [⟨#[71, 69, 84]⟩] (w.heap.size + 1) (w.heap.size + 1) 1 rfl (by decide) (Nat.le_refl _) h2)
  have hap : ∀ (ty : TypeId) (X : World), (Builtin.append_ #[38, 38] ty #[.slice (some ⟨w.heap.size + 1, 0, none⟩) 1 1, .slice none 0 0]).run Tryz.prog X = .ok (.slice (some ⟨w.heap.size + 1, 0, none⟩) 1 1) X := fun ty X => by
    obtain ⟨i0, hi0, _⟩ := info_parts i9
    exact run_append_nothing X 38 38 ty 9 i0 Tryz.underlying38 hi0 _ 1 1 (Nat.le_refl _) _ (Src.ofNil X Tryz.underlying38 _)
  have F1 := Lib.hid (Fits_few _ _ T2.out.ssl)
  have ER := Lib.hid (fun X => Err64 2 X)
  have e5 : (⟨#[69, 82, 82, 32]⟩ : ByteArray) ++ numT 2 = ⟨#[69, 82, 82, 32, 50]⟩ := by kernel_rfl
  have PE := fun X (hX : Below w.heap.size w X) => hPlain_err hT 2 ⟨by decide, by decide⟩ ⟨#[]⟩ X (hi.trans (hX.mono (Below.size hi)))
  simp only [e5] at PE
  have PE := Lib.hid PE
  clear h2 hT hi e5
  go_enter Tryz.func16, Tryz.ntmps16
  go_wp2_with (first | (go_at_call 28; (with_reducible refine (F1.out).mono ?_); rintro e x2 ⟨rfl, h1⟩; have z4 := Lib.hid (blk_below z2.out h1); have B4 := Lib.hid (B2.out.trans (h1.mono (Below.size B2.out))); clear h1) | (go_at_call 29; (with_reducible refine (ER.out _).mono ?_); rintro e x3 ⟨rfl, h1⟩; have z5 := Lib.hid (blk_below z4.out h1); have B5 := Lib.hid (B4.out.trans (h1.mono (Below.size B4.out))); clear h1) | (go_at_call 8; (with_reducible refine (PE.out _ B5.out).mono ?_); rintro e x4 ⟨rfl, h1⟩; have z6 := Lib.hid (blk_below z5.out h1); have B6 := Lib.hid (B5.out.trans (h1.mono (Below.size B5.out))); clear h1; refine Hid.out ?_))
  refine Lib.hid ?_
  have z7 := Lib.hid (blk_below z6.out (alloc_old (w := x4) (o := .cells #[.int .i64 3, .int .i64 0, .string ⟨#[69, 82, 82, 32, 50]⟩, .slice none 0 0] 27)))
  have B7 := Lib.hid (B6.out.trans ((alloc_old (w := x4) (o := .cells #[.int .i64 3, .int .i64 0, .string ⟨#[69, 82, 82, 32, 50]⟩, .slice none 0 0] 27)).mono (Below.size B6.out)))
  obtain ⟨⟨c0, c1, c2, c3⟩, ⟨f0, f1, f2, f3⟩⟩ := cells4 z7.out
  obtain ⟨⟨d0, d1, d2, d3⟩, _⟩ := cells4 (heap_alloc_new x4 (.cells #[.int .i64 3, .int .i64 0, .string ⟨#[69, 82, 82, 32, 50]⟩, .slice none 0 0] 27))
  go_wp2
  exact bodyPost_ret (v := .tuple #[.agg #[.int .i64 3, .int .i64 0, .string ⟨#[69, 82, 82, 32, 50]⟩, .slice none 0 0], .bool true, .int .i64 0]) (by simp [results, Tryz.results16, go_sem, c0, c1, c2, c3]) rfl ⟨rfl, ((((B7.out.setCell (Nat.le_refl _) _).setCell (Nat.le_refl _) _).setCell (Nat.le_refl _) _).setCell (Nat.le_refl _) _)⟩
end Go.Proofs.YtjfejmdnjbekkaaGreatDoor
