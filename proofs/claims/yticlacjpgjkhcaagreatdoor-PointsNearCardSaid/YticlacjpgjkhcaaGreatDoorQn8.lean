/- Texts joined: Li1, G16, G1 -/
import Derived.Test.YticlacjpgjkhcaaGreatDoorQn7
import Derived.Test.YticlacjpgjkhcaaGreatDoorQn5
import Derived.Test.YticlacjpgjkhcaaGreatDoorQn6

/- Rows of texts of the call's own; the copy of a list. -/
namespace Go.Proofs.YticlacjpgjkhcaaGreatDoor
open Go.ChangeShapes Go.WideShapes Go.ChangeAt Go.RowKit

/-- A row of texts at the head of a block of texts. -/
def TR (w : World) (v : Value) (xs : List ByteArray) : Prop := ∃ (g C : Nat) (cs : Array Value), v = .slice (some ⟨g, 0, none⟩) xs.length C ∧ w.heap[g]? = some (.cells cs 9) ∧ xs.length ≤ C ∧ C ≤ maxLen ∧ ∀ (i : Nat) (s : ByteArray), xs[i]? = some s → cs[i]? = some (Value.string s)
theorem TR.ssl {w : World} {v : Value} {xs : List ByteArray} (h : TR w v xs) : SSl w v xs := by
  obtain ⟨g, C, cs, rfl, h2, h3, h4, h5⟩ := h
  refine ⟨_, C, rfl, h3, h4, fun _ => ⟨g, 0, rfl, (Array.getElem?_eq_some_iff.1 h2).1, fun i s hi => ?_⟩⟩
  rw [cell_of_row _ g _ _ 9 (0, 0) h2, Nat.zero_add]
  exact h5 i s hi
theorem TR.kept {w w' : World} {v : Value} {xs : List ByteArray} (h : TR w v xs) (hb : ∀ g, v.ownBlock = some g → w'.heap[g]? = w.heap[g]?) : TR w' v xs := by
  obtain ⟨g, C, cs, rfl, h2, h3, h4, h5⟩ := h
  exact ⟨g, C, cs, rfl, (hb g rfl).trans h2, h3, h4, h5⟩
theorem TR.below {w w' : World} {v : Value} {xs : List ByteArray} (h : TR w v xs) (hb : Below w.heap.size w w') : TR w' v xs := by
  refine h.kept (fun g hg => ?_)
  obtain ⟨g', C, cs, rfl, h2, _⟩ := h
  cases hg
  exact hb.block _ (Array.getElem?_eq_some_iff.1 h2).1
theorem TR.lt {w : World} {v : Value} {xs : List ByteArray} (h : TR w v xs) : ∃ g, v.ownBlock = some g ∧ g < w.heap.size ∧ ∃ cs, w.heap[g]? = some (.cells cs 9) := by
  obtain ⟨g', C, cs, rfl, h2, _⟩ := h
  exact ⟨g', rfl, (Array.getElem?_eq_some_iff.1 h2).1, cs, h2⟩
theorem TR.lit (w : World) (x : ByteArray) : TR (w.alloc (.cells #[.string x] 9)) (.slice (some ⟨w.heap.size, 0, none⟩) 1 1) [x] := by
  refine ⟨w.heap.size, 1, #[.string x], rfl, heap_alloc_new w _, Nat.le_refl _, by unfold maxLen; decide, fun i s hi => ?_⟩
  match i, hi with
  | 0, hi => cases hi; rfl
theorem i9 : (Tryz.prog.info? 9).map (fun i => (i.zero, i.size, i.bytes)) = some (some (.string ⟨#[]⟩), 1, 16) := by kernel_rfl
theorem Src.ofSSl {w : World} {v : Value} {xs : List ByteArray} (h : SSl w v xs) (hne : xs ≠ []) : Src Tryz.prog 1 58 v xs.length (xs.map Value.string) w := by
  obtain ⟨A, cap, rfl, h2, h3, h4⟩ := h
  obtain ⟨blk, off, rfl, h5, h6⟩ := h4 hne
  refine Src.ofSlice (P := Tryz.prog) (size := 1) w Tryz.underlying58 ⟨blk, off, none⟩ xs.length cap (xs.map Value.string) (by simp) (fun j u hj => ?_) (fun u hu => by obtain ⟨s, _, rfl⟩ := List.mem_map.1 hu; rfl)
  rw [List.getElem?_map] at hj
  obtain ⟨s, hs, rfl⟩ := Option.map_eq_some_iff.1 hj
  rw [Addr.add_lit]
  exact h6 j s hs
theorem wpList_append_T {ops : Array Oper} {rest : List Oper} {o : Oper} {a : Act} {Q : Exit → Act → World → Prop} (w : World) (hg : o.guard = none) (s x : Operand) (hop : o.op = Op.call { callee := Callee.builtin Builtin.append, args := #[s, x], argTypes := #[58, 58] })
    (base : Option Addr) (xs : List ByteArray) (u : Value) (hs : a.eval s = .slice base 0 0) (hfc : (Builtin.firstCells 1 0 (.slice base 0 0)).run Tryz.prog w.drew = .ok #[] w.drew) (hx : a.eval x = u) (h2 : SSl w u xs) (hne : xs ≠ []) (hb : xs.length ≤ 1000000)
    (k : ∀ v' w', TR w' v' xs → v'.ownBlock = some w.heap.size → Below w.heap.size w w' → wpList Tryz.prog ops Q rest (a.put o.dst v') w') : wpList Tryz.prog ops Q (o :: rest) a w := by
  obtain ⟨i0, hi, hz0, hz1, hz2⟩ := info_parts i9
  have h2' : Src Tryz.prog i0.size 58 u xs.length (xs.map Value.string) w := by rw [hz1]; exact Src.ofSSl h2 hne
  have hpos : 0 < xs.length := List.length_pos_iff.2 hne
  have hge := grownCap_ge w (0 + xs.length) 0 9
  have hcm : grownCap w (0 + xs.length) 0 9 ≤ maxLen := grownCap_le_maxLen w (0 + xs.length) 0 9 (by unfold maxLen; omega)
  have hrun := run_append_grow_src (P := Tryz.prog) w 58 58 o.type 9 i0 (.string ⟨#[]⟩) Tryz.underlying58 hi hz0 base 0 0 [] (by rw [hz1]; exact hfc) u xs.length (xs.map Value.string) h2' (by omega) (by omega) (by rw [hz2]; exact growslice_fits (by omega) (by omega))
  refine wpList_plain hg fun K hK' => ?_
  unfold Oper.wp
  simp [execOp, hop, resolve, invoke, builtin, hs, hx, hrun, Result.andThen]
  refine hK' _ _ (k _ _ ⟨w.heap.size, grownCap w (0 + xs.length) 0 9, _, by simp, heap_alloc_new w.drew _, by omega, hcm, fun i s hi => ?_⟩ rfl (((Below.refl w.heap.size w).drew).alloc (Nat.le_refl _) _))
  have hlt := (List.getElem?_eq_some_iff.1 hi).1
  rw [Array.getElem?_append_left (by simp; omega)]
  simp [hi]
set_option maxRecDepth 100000 in
set_option maxHeartbeats 2000000 in
theorem Clone57L (v : Value) (xs : List ByteArray) (hne : xs ≠ []) (hn : xs.length ≤ 1000000) (w : World) (h : SSl w v xs) : Calls Tryz.prog 145 #[v] w fun e w' => ∃ v', e = .returned v' ∧ TR w' v' xs ∧ (∃ g, v'.ownBlock = some g ∧ w.heap.size ≤ g) ∧ Below w.heap.size w w' := by
  have H := Lib.hid h
  obtain ⟨A, cap, rfl, h2, h3, h4⟩ := h
  obtain ⟨blk, off, rfl, h5, h6⟩ := h4 hne
  have hq : ∀ w, (binOp .eql 58 (.slice (some ⟨blk, off, none⟩) xs.length cap) (.slice none 0 0)).run Tryz.prog w = .ok (.bool false) w := fun w => by kernel_rfl
  clear h2 h3 h4 h5 h6
  go_enter Tryz.func145, Tryz.ntmps145
  have hfc : (Builtin.firstCells 1 0 (.slice (some ⟨w.heap.size, 0, none⟩) 0 0)).run Tryz.prog (w.alloc (.cells #[] 9)).drew = .ok #[] (w.alloc (.cells #[] 9)).drew := by
    refine run_firstCells_some _ 1 0 ⟨w.heap.size, 0, none⟩ _ _ [] rfl (fun j u hj => by cases hj)
  have HF := Lib.hid hfc
  have HZ := Lib.hid (H.out.below (alloc_old (o := .cells #[] 9)))
  clear hfc
  go_wp2_with (first | (at_builtin; refine wpList_append_T _ rfl _ _ rfl (some ⟨w.heap.size, 0, none⟩) xs _ rfl HF.out rfl HZ.out hne hn ?_; intro v2 w2 hT2 ho2 hb2))
  go_ret
  exact ⟨v2, rfl, hT2, ⟨_, ho2, by simp⟩, alloc_old.trans (hb2.mono (by simp))⟩
end Go.Proofs.YticlacjpgjkhcaaGreatDoor

/- Rows of texts of the call's own: append. -/
namespace Go.Proofs.YticlacjpgjkhcaaGreatDoor
open Go.ChangeShapes Go.WideShapes Go.ChangeAt Go.RowKit

/-- A row of texts of the call's own. -/
def TO (w : World) (c : Nat) (v : Value) (xs : List ByteArray) : Prop := w.ownsRow c 9 1 v xs.length (xs.map Value.string)
theorem TO.ssl {w : World} {c : Nat} {v : Value} {xs : List ByteArray} (h : TO w c v xs) : SSl w v xs := by
  have h' := h
  unfold TO World.ownsRow at h'
  obtain ⟨_, ⟨rfl, h0⟩ | ⟨g, cap, cur, rfl, h1, h2, h3, h4, h5, h6⟩⟩ := h'
  · exact ⟨none, 0, by rw [h0], by omega, Nat.zero_le _, fun hne => absurd (List.length_eq_zero_iff.1 h0) hne⟩
  · refine ⟨_, cap, rfl, h3, h4, fun _ => ⟨g, 0, rfl, (Array.getElem?_eq_some_iff.1 h2).1, fun i s hi => ?_⟩⟩
    rw [Nat.zero_add]
    exact row_cell h i _ (by rw [List.getElem?_map, hi]; rfl)
theorem step_append_TO {ops : Array Oper} {o : Oper} {a : Act} {K : Act → World → Prop} {Q : Exit → Act → World → Prop} {E : Prop} (w : World) (hg : o.guard = none) (s x : Operand) (hop : o.op = Op.call { callee := Callee.builtin Builtin.append, args := #[s, x], argTypes := #[58, 58] })
    (c : Nat) (v : Value) (xs : List ByteArray) (N : Nat) (hN : xs.length = N) (hs : a.eval s = v) (h : TO w c v xs) (ys : List ByteArray) (M : Nat) (hM : ys.length = M) (b : Nat) (hx : a.eval x = .slice (some ⟨b, 0, none⟩) M M) (hb : w.heap[b]? = some (.cells (ys.map Value.string).toArray 9)) (hp : 0 < M) (hl : N + M ≤ 100000) (hc : c ≤ w.heap.size)
    (k : ∀ g cap w', TO w' c (.slice (some ⟨g, 0, none⟩) (N + M) cap) (xs ++ ys) → w.grownBy w' v.ownBlock → (v.ownBlock = some g ∨ g = w.heap.size) → K (a.put o.dst (.slice (some ⟨g, 0, none⟩) (N + M) cap)) w') :
    if Region.wanted o (yielded ops a.tmps) = true then Oper.wp Tryz.prog o a w K Q else E := by
  subst hN
  subst hM
  obtain ⟨i0, hi, hz0, hz1, hz2⟩ := info_parts i9
  refine step_append_lies w hg s x 58 hop c 9 i0 _ 1 16 Tryz.underlying58 hi hz0 hz1 hz2 rfl (by decide) v xs.length _ hs h ⟨b, 0, none⟩ ys.length ys.length (ys.map Value.string) hx (by simp) (news_blk hb) (map_one ys) hp (by unfold maxLen; omega) (by omega) hc _ rfl ?_
  intro g cap w' h1 h2 h3 _
  refine k g cap w' ?_ h2 h3
  unfold TO
  rw [List.length_append, List.map_append]
  exact h1
theorem append_TO {ops : Array Oper} {rest : List Oper} {o : Oper} {a : Act} {Q : Exit → Act → World → Prop} (w : World) (hg : o.guard = none) (s x : Operand) (hop : o.op = Op.call { callee := Callee.builtin Builtin.append, args := #[s, x], argTypes := #[58, 58] })
    (c : Nat) (v : Value) (xs : List ByteArray) (N : Nat) (hN : xs.length = N) (hs : a.eval s = v) (h : TO w c v xs) (ys : List ByteArray) (M : Nat) (hM : ys.length = M) (b : Nat) (hx : a.eval x = .slice (some ⟨b, 0, none⟩) M M) (hb : w.heap[b]? = some (.cells (ys.map Value.string).toArray 9)) (hp : 0 < M) (hl : N + M ≤ 100000) (hc : c ≤ w.heap.size)
    (k : ∀ g cap w', TO w' c (.slice (some ⟨g, 0, none⟩) (N + M) cap) (xs ++ ys) → w.grownBy w' v.ownBlock → (v.ownBlock = some g ∨ g = w.heap.size) → wpList Tryz.prog ops Q rest (a.put o.dst (.slice (some ⟨g, 0, none⟩) (N + M) cap)) w') : wpList Tryz.prog ops Q (o :: rest) a w := by
  subst hN
  subst hM
  obtain ⟨i0, hi, hz0, hz1, hz2⟩ := info_parts i9
  refine wpList_append_lies w hg s x 58 hop c 9 i0 _ 1 16 Tryz.underlying58 hi hz0 hz1 hz2 rfl (by decide) v xs.length _ hs h ⟨b, 0, none⟩ ys.length ys.length (ys.map Value.string) hx (by simp) (news_blk hb) (map_one ys) hp (by unfold maxLen; omega) (by omega) hc _ rfl ?_
  intro g cap w' h1 h2 h3 _
  refine k g cap w' ?_ h2 h3
  unfold TO
  rw [List.length_append, List.map_append]
  exact h1
theorem TO.lit (X : World) (xs : List ByteArray) (b : Nat) (c : Nat) (n : Nat) (hn : xs.length = n) (hm : n ≤ 1000) (hc : c ≤ b) (h : X.heap[b]? = some (.cells (xs.map Value.string).toArray 9)) : TO X c (.slice (some ⟨b, 0, none⟩) n n) xs := by
  subst hn
  unfold TO World.ownsRow
  refine ⟨by simp, .inr ⟨b, xs.length, _, rfl, hc, h, Nat.le_refl _, by unfold maxLen; omega, by simp, ?_⟩⟩
  exact List.take_of_length_le (by simp)
end Go.Proofs.YticlacjpgjkhcaaGreatDoor

/- Effects of entries of any kind: their cells behind one another; a job's Put and Take over them. -/
namespace Go.Proofs.YticlacjpgjkhcaaGreatDoor
open Go.ChangeShapes Go.WideShapes Go.ChangeAt Go.RowKit

/-- Effects' cells in a row of the call's own. -/
def EFC (w : World) (c : Nat) (v : Value) (css : List (List Value)) : Prop := w.ownsRow c 68 8 v css.length css.flatten
theorem EFC.nil (w : World) (c : Nat) : EFC w c (.slice none 0 0) [] := World.ownsRow_nil w c 68 8
theorem EFC.kept {w w' : World} {c : Nat} {v : Value} {es : List (List Value)} (h : EFC w c v es) (hb : ∀ g, v.ownBlock = some g → w'.heap[g]? = w.heap[g]?) : EFC w' c v es := by
  unfold EFC World.ownsRow at h ⊢
  obtain ⟨h1, h2⟩ := h
  refine ⟨h1, ?_⟩
  rcases h2 with h2 | ⟨g, cap, cur, hv, hg, hh, r⟩
  · exact .inl h2
  · exact .inr ⟨g, cap, cur, hv, hg, by rw [hb g (by rw [hv]; rfl)]; exact hh, r⟩
theorem EFC.own {w : World} {c : Nat} {v : Value} {es : List (List Value)} (h : EFC w c v es) : ∀ g, v.ownBlock = some g → c ≤ g ∧ ∃ cur, w.heap[g]? = some (.cells cur 68) := by
  intro g hg
  unfold EFC World.ownsRow at h
  obtain ⟨_, ⟨rfl, _⟩ | ⟨g', cap, cur, rfl, h1, h2, _⟩⟩ := h
  · cases hg
  · cases hg
    exact ⟨h1, cur, h2⟩
theorem EFC.below {w w' : World} {c : Nat} {v : Value} {es : List (List Value)} (h : EFC w c v es) (hb : Below w.heap.size w w') : EFC w' c v es :=
  h.kept (fun g hg => hb.block g (by obtain ⟨_, cur, hh⟩ := h.own g hg; exact lt_blk hh))
theorem EFC.mono {w : World} {c d : Nat} {v : Value} {es : List (List Value)} (h : EFC w c v es) (hd : d ≤ c) : EFC w d v es := by
  unfold EFC World.ownsRow at h ⊢
  obtain ⟨h1, h2⟩ := h
  refine ⟨h1, ?_⟩
  rcases h2 with h2 | ⟨g, cap, cur, hv, hg, r⟩
  · exact .inl h2
  · exact .inr ⟨g, cap, cur, hv, by omega, r⟩
theorem EFC.form {w : World} {c : Nat} {A : Option Addr} {n cap : Nat} {es : List (List Value)} (h : EFC w c (.slice A n cap) es) : n = es.length ∧ (es ≠ [] → ∃ g, A = some ⟨g, 0, none⟩ ∧ c ≤ g ∧ g < w.heap.size) := by
  unfold EFC World.ownsRow at h
  obtain ⟨_, ⟨hv, h0⟩ | ⟨g, cap', cur, hv, h1, h2, _⟩⟩ := h
  · cases hv
    exact ⟨h0.symm, fun hne => absurd (List.eq_nil_of_length_eq_zero h0) hne⟩
  · cases hv
    exact ⟨rfl, fun _ => ⟨g, rfl, h1, lt_blk h2⟩⟩
theorem one8 (k : ByteArray) (kd : Int) (t : ByteArray) (A3 A4 A5 A6 : Option Addr) (an3 ac3 an4 ac4 an5 ac5 an6 ac6 : Nat) (u : Int) : ∀ v ∈ ([.string k, .int .i64 kd, .string t, .slice A3 an3 ac3, .slice A4 an4 ac4, .slice A5 an5 ac5, .slice A6 an6 ac6, .int .i64 u] : List Value), v.oneCell' = true := fun v hv => by
  simp at hv
  rcases hv with rfl | rfl | rfl | rfl | rfl | rfl | rfl | rfl <;> rfl
theorem run_append_C (w : World) (ty : TypeId) (c : Nat) (v : Value) (es : List (List Value)) (h : EFC w c v es) (e : List Value) (he8 : e.length = 8) (he1 : ∀ u ∈ e, u.oneCell' = true) (b : Nat) (hb : w.heap[b]? = some (.cells e.toArray 68)) (hl : es.length ≤ 100000) (hc : c ≤ w.heap.size) :
    ∃ A n cap w', (Builtin.append_ #[59, 59] ty #[v, .slice (some ⟨b, 0, none⟩) 1 1]).run Tryz.prog w = .ok (.slice A n cap) w' ∧ EFC w' c (.slice A n cap) (es ++ [e]) ∧ w.grownBy w' v.ownBlock := by
  obtain ⟨i0, hi, hz0, hz1, hz2⟩ := info_parts i60
  have hcell : ∀ (j : Nat) (u : Value), e[j]? = some u → w.cell? ((⟨b, 0, none⟩ : Addr).add j) = some u := fun j u hj => by
    have := cell_of_row w b j _ 68 (0, 0) hb
    unfold Addr.add
    by_cases h0 : j = 0
    · subst h0; simpa [hj] using this
    · simp [h0]; rw [this]; simpa using hj
  obtain ⟨v', w', hrun, hown, hgr, hnil⟩ := run_append_own (P := Tryz.prog) w c 59 ty 68 i0 (.agg #[.string ⟨#[]⟩, .int .i64 0, .string ⟨#[]⟩, .slice none 0 0, .slice none 0 0, .slice none 0 0, .slice none 0 0, .int .i64 0]) 8 144 Tryz.underlying59 hi hz0 hz1 hz2 rfl (by decide) v es.length es.flatten h ⟨b, 0, none⟩ 1 1 e (by rw [he8]) hcell
    he1 (by unfold maxLen; omega) (by omega) hc
  have hE : EFC w' c v' (es ++ [e]) := by
    unfold EFC
    rw [List.length_append, List.flatten_append, show [e].length = 1 from rfl, show [e].flatten = e by simp]
    exact hown
  have hE2 := hE
  unfold EFC World.ownsRow at hE2
  obtain ⟨_, ⟨rfl, _⟩ | ⟨g, cap, cur, rfl, _⟩⟩ := hE2
  · exact ⟨_, _, _, w', hrun, hE, hgr⟩
  · exact ⟨_, _, _, w', hrun, hE, hgr⟩
theorem step_append_C {ops : Array Oper} {o : Oper} {a : Act} {K : Act → World → Prop} {Q : Exit → Act → World → Prop} {X : Prop} (w : World) (hgd : o.guard = none) (s x : Operand) (hop : o.op = Op.call { callee := Callee.builtin Builtin.append, args := #[s, x], argTypes := #[59, 59] })
    (c : Nat) (v : Value) (es : List (List Value)) (hs : a.eval s = v) (h : EFC w c v es) (e : List Value) (he8 : e.length = 8) (he1 : ∀ u ∈ e, u.oneCell' = true) (b : Nat) (hx : a.eval x = .slice (some ⟨b, 0, none⟩) 1 1) (hb : w.heap[b]? = some (.cells e.toArray 68)) (hl : es.length ≤ 100000) (hc : c ≤ w.heap.size)
    (k : ∀ A n cap w', EFC w' c (.slice A n cap) (es ++ [e]) → w.grownBy w' v.ownBlock → K (a.put o.dst (.slice A n cap)) w') :
    if Region.wanted o (yielded ops a.tmps) = true then Oper.wp Tryz.prog o a w K Q else X := by
  have hw : Region.wanted o (yielded ops a.tmps) = true := by simp [Region.wanted, hgd]
  rw [if_pos hw]
  obtain ⟨A, n, cap, w', hr, h1, h3⟩ := run_append_C w o.type c v es h e he8 he1 b hb hl hc
  unfold Oper.wp execOp
  simp only [hop, resolve, invoke, builtin, Sem.run_bind, Sem.run_pure, Result.andThen_ok, List.map_toArray, List.map_cons, List.map_nil, hs, hx, hr]
  exact k A n cap w' h1 h3
theorem wpList_append_C {ops : Array Oper} {rest : List Oper} {o : Oper} {a : Act} {Q : Exit → Act → World → Prop} (w : World) (hgd : o.guard = none) (s x : Operand) (hop : o.op = Op.call { callee := Callee.builtin Builtin.append, args := #[s, x], argTypes := #[59, 59] })
    (c : Nat) (v : Value) (es : List (List Value)) (hs : a.eval s = v) (h : EFC w c v es) (e : List Value) (he8 : e.length = 8) (he1 : ∀ u ∈ e, u.oneCell' = true) (b : Nat) (hx : a.eval x = .slice (some ⟨b, 0, none⟩) 1 1) (hb : w.heap[b]? = some (.cells e.toArray 68)) (hl : es.length ≤ 100000) (hc : c ≤ w.heap.size)
    (k : ∀ A n cap w', EFC w' c (.slice A n cap) (es ++ [e]) → w.grownBy w' v.ownBlock → wpList Tryz.prog ops Q rest (a.put o.dst (.slice A n cap)) w') : wpList Tryz.prog ops Q (o :: rest) a w := by
  obtain ⟨A, n, cap, w', hr, h1, h3⟩ := run_append_C w o.type c v es h e he8 he1 b hb hl hc
  refine wpList_plain hgd fun K hK' => ?_
  unfold Oper.wp
  simp [execOp, hop, resolve, invoke, builtin, hs, hx, hr, Result.andThen]
  exact hK' _ _ (k A n cap w' h1 h3)
theorem EFC.ne_job {w : World} {j bS : Nat} {now : Int} {vA vl : Value} (h : JB w j bS now vA vl) {c : Nat} {v : Value} {es : List (List Value)} (hE : EFC w c v es) : v.ownBlock ≠ some j := by
  intro e
  obtain ⟨_, cur, hh⟩ := hE.own j e
  unfold JB at h
  rw [h] at hh
  simp at hh
/-- What is left when an effect has been appended and laid into the job. -/
theorem job_endC {w w1 w2 : World} {j bS : Nat} {now : Int} {vA vl : Value} {c : Nat} {v' : Value} {es es' : List (List Value)} (hj : JB w j bS now vA vl) (hE : EFC w c vl es) (hb : Below w.heap.size w w1) (h1 : EFC w2 c v' es') (h2 : w1.grownBy w2 vl.ownBlock) :
    JB (w2.setCell ⟨j, 3, none⟩ v') j bS now vA v' ∧ EFC (w2.setCell ⟨j, 3, none⟩ v') c v' es' ∧ Kp w.heap.size (fun i => i ≠ j ∧ vl.ownBlock ≠ some i) w (w2.setCell ⟨j, 3, none⟩ v') := by
  have hj1 := hj.below hb
  have hne := (hE.below hb).ne_job hj1
  have hj2 : JB w2 j bS now vA vl := hj1.kept (h2.block j hj1.cells.2.2.2.2.2 (fun e => hne e.symm))
  refine ⟨hj2.set v', h1.kept (fun g hg => Below.heap_setCell _ _ _ _ (fun e => ?_)), ?_⟩
  · have e2 : g = j := e
    subst e2
    exact h1.ne_job hj2 hg
  · exact ((Kp.of hb).grown h2 (Below.size hb) (fun k hk hkc hS => hS.2 hk)).setCell (p := ⟨j, 3, none⟩) (by simp) v'
theorem job_cellC {w w1 w2 : World} {j bS : Nat} {now : Int} {vA vl : Value} {c : Nat} {es : List (List Value)} (hj : JB w j bS now vA vl) (hE : EFC w c vl es) (hb : Below w.heap.size w w1) (h2 : w1.grownBy w2 vl.ownBlock) :
    w2.frozen? ⟨j, 3, none⟩ = false ∧ w2.cell? ⟨j, 3, none⟩ = some vl := by
  have hj1 := hj.below hb
  have hne := (hE.below hb).ne_job hj1
  have hj2 : JB w2 j bS now vA vl := hj1.kept (h2.block j hj1.cells.2.2.2.2.2 (fun e => hne e.symm))
  exact ⟨hj2.cells.2.2.2.2.1, hj2.cells.2.2.2.1⟩
/-- A job whose effects' cells are told. -/
def JE (w : World) (j bS : Nat) (now : Int) (vA : Value) (c : Nat) (css : List (List Value)) : Prop := ∃ A n cap, JB w j bS now vA (.slice A n cap) ∧ EFC w c (.slice A n cap) css
set_option maxRecDepth 100000 in
set_option maxHeartbeats 4000000 in
theorem TakeC (j bS : Nat) (now : Int) (vA : Value) (A : Option Addr) (n cap : Nat) (es : List (List Value)) (c : Nat) (w : World) (hj : JB w j bS now vA (.slice A n cap)) (hE : EFC w c (.slice A n cap) es) (hc : c ≤ w.heap.size) (hl : es.length ≤ 100000) (k : ByteArray) : Calls Tryz.prog 210 #[.pointer (some ⟨j, 0, none⟩), .string k] w fun e w' => e = .returned (.tuple #[]) ∧ JE w' j bS now vA c (es ++ [[.string k, .int .i64 0, .string ⟨#[]⟩, .slice none 0 0, .slice none 0 0, .slice none 0 0, .slice none 0 0, .int .i64 0]]) ∧ Kp w.heap.size (fun i => i ≠ j ∧ (Value.slice A n cap).ownBlock ≠ some i) w w' := by
  obtain ⟨j0, j1, j2, j3, jf, jz⟩ := hj.cells
  have HJ := Lib.hid hj
  have HE := Lib.hid hE
  clear hj hE
  go_enter Tryz.func210, Tryz.ntmps210
  go_wp2_with (first | (at_builtin; refine wpList_append_C _ rfl _ _ rfl c _ es rfl (HE.out.below alloc_old) [.string k, .int .i64 0, .string ⟨#[]⟩, .slice none 0 0, .slice none 0 0, .slice none 0 0, .slice none 0 0, .int .i64 0] rfl (one8 k 0 ⟨#[]⟩ none none none none 0 0 0 0 0 0 0 0 0) _ rfl (heap_alloc_new _ _) hl (Nat.le_trans hc (by simp)) ?_; intro A' n' cap' w2 hE2 hg2; have R := Lib.hid (job_endC HJ.out HE.out alloc_old hE2 hg2); obtain ⟨hf3, hc3⟩ := job_cellC HJ.out HE.out alloc_old hg2; clear hE2 hg2))
  go_end0
  exact ⟨rfl, ⟨A', n', cap', R.out.1, R.out.2.1⟩, R.out.2.2⟩
set_option maxRecDepth 100000 in
set_option maxHeartbeats 4000000 in
/-- A job's Put of an entry that may be. -/
theorem PutC (j bS : Nat) (now : Int) (vA : Value) (A : Option Addr) (n cap : Nat) (es : List (List Value)) (c : Nat) (w : World) (hj : JB w j bS now vA (.slice A n cap)) (hE : EFC w c (.slice A n cap) es) (hc : c ≤ w.heap.size) (hl : es.length ≤ 100000) (k : ByteArray) (kd : Int) (t : ByteArray) (A3 A4 A5 A6 : Option Addr) (an3 ac3 an4 ac4 an5 ac5 an6 ac6 : Nat) (u : Int) (hM : ∀ X, Below w.heap.size w X → Calls Tryz.prog 51 #[.agg #[.string k, .int .i64 kd, .string t, .slice A3 an3 ac3, .slice A4 an4 ac4, .slice A5 an5 ac5, .slice A6 an6 ac6, .int .i64 u]] X fun e w' => e = .returned (.bool true) ∧ Below X.heap.size X w') : Calls Tryz.prog 212 #[.pointer (some ⟨j, 0, none⟩), .agg #[.string k, .int .i64 kd, .string t, .slice A3 an3 ac3, .slice A4 an4 ac4, .slice A5 an5 ac5, .slice A6 an6 ac6, .int .i64 u]] w fun e w' => e = .returned (.tuple #[]) ∧ JE w' j bS now vA c (es ++ [[.string k, .int .i64 kd, .string t, .slice A3 an3 ac3, .slice A4 an4 ac4, .slice A5 an5 ac5, .slice A6 an6 ac6, .int .i64 u]]) ∧ Kp w.heap.size (fun i => i ≠ j ∧ (Value.slice A n cap).ownBlock ≠ some i) w w' := by
  have MY := Lib.hid hM
  have hp := Lib.hid (heap_alloc_new w (.cells #[.string k, .int .i64 kd, .string t, .slice A3 an3 ac3, .slice A4 an4 ac4, .slice A5 an5 ac5, .slice A6 an6 ac6, .int .i64 u] 66))
  have HJ := Lib.hid hj
  have HE := Lib.hid hE
  clear hj hE hM
  go_enter Tryz.func212, Tryz.ntmps212
  go_wp2_with (first | (go_at_call 51; (with_reducible refine (MY.out _ alloc_old).mono ?_); rintro e w1 ⟨rfl, h1⟩; have B1 := Lib.hid h1; clear h1))
  have BW := Lib.hid (show Below w.heap.size w w1 from alloc_old.trans (B1.out.mono (by simp)))
  obtain ⟨j0, j1, j2, j3, jf, jz⟩ := (HJ.out.below BW.out).cells
  obtain ⟨⟨p0, p1, p2, p3, p4, p5, p6, p7⟩, ⟨pf0, pf1, pf2, pf3, pf4, pf5, pf6, pf7⟩, pz⟩ := cells8 (blk_below hp.out B1.out)
  have BA := Lib.hid (show Below w.heap.size w (w1.alloc (.cells #[.string k, .int .i64 kd, .string t, .slice A3 an3 ac3, .slice A4 an4 ac4, .slice A5 an5 ac5, .slice A6 an6 ac6, .int .i64 u] 68)).drew from (BW.out.trans ((alloc_old (w := w1)).mono (Below.size BW.out))).drew)
  have HEX := Lib.hid (HE.out.below BA.out)
  have HBX := Lib.hid (show (w1.alloc (.cells #[.string k, .int .i64 kd, .string t, .slice A3 an3 ac3, .slice A4 an4 ac4, .slice A5 an5 ac5, .slice A6 an6 ac6, .int .i64 u] 68)).drew.heap[w1.heap.size]? = some (.cells ([.string k, .int .i64 kd, .string t, .slice A3 an3 ac3, .slice A4 an4 ac4, .slice A5 an5 ac5, .slice A6 an6 ac6, .int .i64 u] : List Value).toArray 68) from heap_alloc_new w1 _)
  have HCX := Lib.hid (show c ≤ (w1.alloc (.cells #[.string k, .int .i64 kd, .string t, .slice A3 an3 ac3, .slice A4 an4 ac4, .slice A5 an5 ac5, .slice A6 an6 ac6, .int .i64 u] 68)).drew.heap.size from Nat.le_trans hc (Below.size BA.out))
  have HA3 := Lib.hid (fun w2 (hg : (w1.alloc (.cells #[.string k, .int .i64 kd, .string t, .slice A3 an3 ac3, .slice A4 an4 ac4, .slice A5 an5 ac5, .slice A6 an6 ac6, .int .i64 u] 68)).drew.grownBy w2 (Value.slice A n cap).ownBlock) => job_cellC HJ.out HE.out BA.out hg)
  have a3 : (w1.alloc (.cells #[.string k, .int .i64 kd, .string t, .slice A3 an3 ac3, .slice A4 an4 ac4, .slice A5 an5 ac5, .slice A6 an6 ac6, .int .i64 u] 68)).drew.cell? ⟨j, 3, none⟩ = some (.slice A n cap) := (HJ.out.below BA.out).cells.2.2.2.1
  have H1 := Lib.hid (one8 k kd t A3 A4 A5 A6 an3 ac3 an4 ac4 an5 ac5 an6 ac6 u)
  go_region_law (first | (refine step_append_C _ rfl _ _ rfl c _ es rfl HEX.out [.string k, .int .i64 kd, .string t, .slice A3 an3 ac3, .slice A4 an4 ac4, .slice A5 an5 ac5, .slice A6 an6 ac6, .int .i64 u] rfl H1.out _ rfl HBX.out hl HCX.out ?_; intro A' n' cap' w2 hE2 hg2; obtain ⟨hf3, hc3⟩ := HA3.out w2 hg2))
  all_goals (
    have R := Lib.hid (job_endC HJ.out HE.out BA.out hE2 hg2)
    go_end0
    exact ⟨rfl, ⟨A', n', cap', R.out.1, R.out.2.1⟩, R.out.2.2⟩)
end Go.Proofs.YticlacjpgjkhcaaGreatDoor
