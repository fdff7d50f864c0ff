/- Texts joined: G1, G3 -/
import Derived.Test.YticlacjpgjkhcaaGreatDoorQs5
set_option linter.unusedVariables false
set_option linter.unusedSimpArgs false

/- Effects of entries of any kind: their cells behind one another; a job's Put and Take over them. -/
namespace Go.Proofs.YticlacjpgjkhcaaGreatDoor
open Go.ChangeShapes Go.WideShapes Go.ChangeAt Go.RowKit

/-- Effects' cells in a row of the call's own. -/
def EFC (w : World) (c : Nat) (v : Value) (css : List (List Value)) : Prop := w.ownsRow c 68 8 v css.length css.flatten
theorem EFC.nil (w : World) (c : Nat) : EFC w c (.slice none 0 0) [] := World.ownsRow_nil w c 68 8
theorem EFC.kept {w w' : World} {c : Nat} {v : Value} {es : List (List Value)} (h : EFC w c v es) (hb : ∀ g, v.ownBlock = some g → w'.heap[g]? = w.heap[g]?) : EFC w' c v es := by
  unfold EFC World.ownsRow at h ⊢
  obtain ⟨h1, h2⟩ := h
  refine ⟨h1, ?_⟩
  rcases h2 with h2 | ⟨g, cap, cur, hv, hg, hh, r⟩
  · exact .inl h2
  · exact .inr ⟨g, cap, cur, hv, hg, by rw [hb g (by rw [hv]; rfl)]; exact hh, r⟩
theorem EFC.own {w : World} {c : Nat} {v : Value} {es : List (List Value)} (h : EFC w c v es) : ∀ g, v.ownBlock = some g → c ≤ g ∧ ∃ cur, w.heap[g]? = some (.cells cur 68) := by
  intro g hg
  unfold EFC World.ownsRow at h
  obtain ⟨_, ⟨rfl, _⟩ | ⟨g', cap, cur, rfl, h1, h2, _⟩⟩ := h
  · cases hg
  · cases hg
    exact ⟨h1, cur, h2⟩
theorem EFC.below {w w' : World} {c : Nat} {v : Value} {es : List (List Value)} (h : EFC w c v es) (hb : Below w.heap.size w w') : EFC w' c v es :=
  h.kept (fun g hg => hb.block g (by obtain ⟨_, cur, hh⟩ := h.own g hg; exact lt_blk hh))
theorem EFC.mono {w : World} {c d : Nat} {v : Value} {es : List (List Value)} (h : EFC w c v es) (hd : d ≤ c) : EFC w d v es := by
  unfold EFC World.ownsRow at h ⊢
  obtain ⟨h1, h2⟩ := h
  refine ⟨h1, ?_⟩
  rcases h2 with h2 | ⟨g, cap, cur, hv, hg, r⟩
  · exact .inl h2
  · exact .inr ⟨g, cap, cur, hv, by omega, r⟩
theorem EFC.form {w : World} {c : Nat} {A : Option Addr} {n cap : Nat} {es : List (List Value)} (h : EFC w c (.slice A n cap) es) : n = es.length ∧ (es ≠ [] → ∃ g, A = some ⟨g, 0, none⟩ ∧ c ≤ g ∧ g < w.heap.size) := by
  unfold EFC World.ownsRow at h
  obtain ⟨_, ⟨hv, h0⟩ | ⟨g, cap', cur, hv, h1, h2, _⟩⟩ := h
  · cases hv
    exact ⟨h0.symm, fun hne => absurd (List.eq_nil_of_length_eq_zero h0) hne⟩
  · cases hv
    exact ⟨rfl, fun _ => ⟨g, rfl, h1, lt_blk h2⟩⟩
theorem one8 (k : ByteArray) (kd : Int) (t : ByteArray) (A3 A4 A5 A6 : Option Addr) (an3 ac3 an4 ac4 an5 ac5 an6 ac6 : Nat) (u : Int) : ∀ v ∈ ([.string k, .int .i64 kd, .string t, .slice A3 an3 ac3, .slice A4 an4 ac4, .slice A5 an5 ac5, .slice A6 an6 ac6, .int .i64 u] : List Value), v.oneCell' = true := fun v hv => by
  simp at hv
  rcases hv with rfl | rfl | rfl | rfl | rfl | rfl | rfl | rfl <;> rfl
theorem run_append_C (w : World) (ty : TypeId) (c : Nat) (v : Value) (es : List (List Value)) (h : EFC w c v es) (e : List Value) (he8 : e.length = 8) (he1 : ∀ u ∈ e, u.oneCell' = true) (b : Nat) (hb : w.heap[b]? = some (.cells e.toArray 68)) (hl : es.length ≤ 100000) (hc : c ≤ w.heap.size) :
    ∃ A n cap w', (Builtin.append_ #[59, 59] ty #[v, .slice (some ⟨b, 0, none⟩) 1 1]).run Tryz.prog w = .ok (.slice A n cap) w' ∧ EFC w' c (.slice A n cap) (es ++ [e]) ∧ w.grownBy w' v.ownBlock := by
  obtain ⟨i0, hi, hz0, hz1, hz2⟩ := info_parts i60
  have hcell : ∀ (j : Nat) (u : Value), e[j]? = some u → w.cell? ((⟨b, 0, none⟩ : Addr).add j) = some u := fun j u hj => by
    have := cell_of_row w b j _ 68 (0, 0) hb
    unfold Addr.add
    by_cases h0 : j = 0
    · subst h0; simpa [hj] using this
    · simp [h0]; rw [this]; simpa using hj
  obtain ⟨v', w', hrun, hown, hgr, hnil⟩ := run_append_own (P := Tryz.prog) w c 59 ty 68 i0 (.agg #[.string ⟨#[]⟩, .int .i64 0, .string ⟨#[]⟩, .slice none 0 0, .slice none 0 0, .slice none 0 0, .slice none 0 0, .int .i64 0]) 8 144 Tryz.underlying59 hi hz0 hz1 hz2 rfl (by decide) v es.length es.flatten h ⟨b, 0, none⟩ 1 1 e (by rw [he8]) hcell
    he1 (by unfold maxLen; omega) (by omega) hc
  have hE : EFC w' c v' (es ++ [e]) := by
    unfold EFC
    rw [List.length_append, List.flatten_append, show [e].length = 1 from rfl, show [e].flatten = e by simp]
    exact hown
  have hE2 := hE
  unfold EFC World.ownsRow at hE2
  obtain ⟨_, ⟨rfl, _⟩ | ⟨g, cap, cur, rfl, _⟩⟩ := hE2
  · exact ⟨_, _, _, w', hrun, hE, hgr⟩
  · exact ⟨_, _, _, w', hrun, hE, hgr⟩
theorem step_append_C {ops : Array Oper} {o : Oper} {a : Act} {K : Act → World → Prop} {Q : Exit → Act → World → Prop} {X : Prop} (w : World) (hgd : o.guard = none) (s x : Operand) (hop : o.op = Op.call { callee := Callee.builtin Builtin.append, args := #[s, x], argTypes := #[59, 59] })
    (c : Nat) (v : Value) (es : List (List Value)) (hs : a.eval s = v) (h : EFC w c v es) (e : List Value) (he8 : e.length = 8) (he1 : ∀ u ∈ e, u.oneCell' = true) (b : Nat) (hx : a.eval x = .slice (some ⟨b, 0, none⟩) 1 1) (hb : w.heap[b]? = some (.cells e.toArray 68)) (hl : es.length ≤ 100000) (hc : c ≤ w.heap.size)
    (k : ∀ A n cap w', EFC w' c (.slice A n cap) (es ++ [e]) → w.grownBy w' v.ownBlock → K (a.put o.dst (.slice A n cap)) w') :
    if Region.wanted o (yielded ops a.tmps) = true then Oper.wp Tryz.prog o a w K Q else X := by
  have hw : Region.wanted o (yielded ops a.tmps) = true := by simp [Region.wanted, hgd]
  rw [if_pos hw]
  obtain ⟨A, n, cap, w', hr, h1, h3⟩ := run_append_C w o.type c v es h e he8 he1 b hb hl hc
  unfold Oper.wp execOp
  simp only [hop, resolve, invoke, builtin, Sem.run_bind, Sem.run_pure, Result.andThen_ok, List.map_toArray, List.map_cons, List.map_nil, hs, hx, hr]
  exact k A n cap w' h1 h3
theorem wpList_append_C {ops : Array Oper} {rest : List Oper} {o : Oper} {a : Act} {Q : Exit → Act → World → Prop} (w : World) (hgd : o.guard = none) (s x : Operand) (hop : o.op = Op.call { callee := Callee.builtin Builtin.append, args := #[s, x], argTypes := #[59, 59] })
    (c : Nat) (v : Value) (es : List (List Value)) (hs : a.eval s = v) (h : EFC w c v es) (e : List Value) (he8 : e.length = 8) (he1 : ∀ u ∈ e, u.oneCell' = true) (b : Nat) (hx : a.eval x = .slice (some ⟨b, 0, none⟩) 1 1) (hb : w.heap[b]? = some (.cells e.toArray 68)) (hl : es.length ≤ 100000) (hc : c ≤ w.heap.size)
    (k : ∀ A n cap w', EFC w' c (.slice A n cap) (es ++ [e]) → w.grownBy w' v.ownBlock → wpList Tryz.prog ops Q rest (a.put o.dst (.slice A n cap)) w') : wpList Tryz.prog ops Q (o :: rest) a w := by
  obtain ⟨A, n, cap, w', hr, h1, h3⟩ := run_append_C w o.type c v es h e he8 he1 b hb hl hc
  refine wpList_plain hgd fun K hK' => ?_
  unfold Oper.wp
  simp [execOp, hop, resolve, invoke, builtin, hs, hx, hr, Result.andThen]
  exact hK' _ _ (k A n cap w' h1 h3)
theorem EFC.ne_job {w : World} {j bS : Nat} {now : Int} {vA vl : Value} (h : JB w j bS now vA vl) {c : Nat} {v : Value} {es : List (List Value)} (hE : EFC w c v es) : v.ownBlock ≠ some j := by
  intro e
  obtain ⟨_, cur, hh⟩ := hE.own j e
  unfold JB at h
  rw [h] at hh
  simp at hh
/-- What is left when an effect has been appended and laid into the job. -/
theorem job_endC {w w1 w2 : World} {j bS : Nat} {now : Int} {vA vl : Value} {c : Nat} {v' : Value} {es es' : List (List Value)} (hj : JB w j bS now vA vl) (hE : EFC w c vl es) (hb : Below w.heap.size w w1) (h1 : EFC w2 c v' es') (h2 : w1.grownBy w2 vl.ownBlock) :
    JB (w2.setCell ⟨j, 3, none⟩ v') j bS now vA v' ∧ EFC (w2.setCell ⟨j, 3, none⟩ v') c v' es' ∧ Kp w.heap.size (fun i => i ≠ j ∧ vl.ownBlock ≠ some i) w (w2.setCell ⟨j, 3, none⟩ v') := by
  have hj1 := hj.below hb
  have hne := (hE.below hb).ne_job hj1
  have hj2 : JB w2 j bS now vA vl := hj1.kept (h2.block j hj1.cells.2.2.2.2.2 (fun e => hne e.symm))
  refine ⟨hj2.set v', h1.kept (fun g hg => Below.heap_setCell _ _ _ _ (fun e => ?_)), ?_⟩
  · have e2 : g = j := e
    subst e2
    exact h1.ne_job hj2 hg
  · exact ((Kp.of hb).grown h2 (Below.size hb) (fun k hk hkc hS => hS.2 hk)).setCell (p := ⟨j, 3, none⟩) (by simp) v'
theorem job_cellC {w w1 w2 : World} {j bS : Nat} {now : Int} {vA vl : Value} {c : Nat} {es : List (List Value)} (hj : JB w j bS now vA vl) (hE : EFC w c vl es) (hb : Below w.heap.size w w1) (h2 : w1.grownBy w2 vl.ownBlock) :
    w2.frozen? ⟨j, 3, none⟩ = false ∧ w2.cell? ⟨j, 3, none⟩ = some vl := by
  have hj1 := hj.below hb
  have hne := (hE.below hb).ne_job hj1
  have hj2 : JB w2 j bS now vA vl := hj1.kept (h2.block j hj1.cells.2.2.2.2.2 (fun e => hne e.symm))
  exact ⟨hj2.cells.2.2.2.2.1, hj2.cells.2.2.2.1⟩
/-- A job whose effects' cells are told. -/
def JE (w : World) (j bS : Nat) (now : Int) (vA : Value) (c : Nat) (css : List (List Value)) : Prop := ∃ A n cap, JB w j bS now vA (.slice A n cap) ∧ EFC w c (.slice A n cap) css
set_option maxRecDepth 100000 in
set_option maxHeartbeats 4000000 in
theorem TakeC (j bS : Nat) (now : Int) (vA : Value) (A : Option Addr) (n cap : Nat) (es : List (List Value)) (c : Nat) (w : World) (hj : JB w j bS now vA (.slice A n cap)) (hE : EFC w c (.slice A n cap) es) (hc : c ≤ w.heap.size) (hl : es.length ≤ 100000) (k : ByteArray) : Calls Tryz.prog 210 #[.pointer (some ⟨j, 0, none⟩), .string k] w fun e w' => e = .returned (.tuple #[]) ∧ JE w' j bS now vA c (es ++ [[.string k, .int .i64 0, .string ⟨#[]⟩, .slice none 0 0, .slice none 0 0, .slice none 0 0, .slice none 0 0, .int .i64 0]]) ∧ Kp w.heap.size (fun i => i ≠ j ∧ (Value.slice A n cap).ownBlock ≠ some i) w w' := by
  obtain ⟨j0, j1, j2, j3, jf, jz⟩ := hj.cells
  have HJ := Lib.hid hj
  have HE := Lib.hid hE
  clear hj hE
  go_enter Tryz.func210, Tryz.ntmps210
  go_wp2_with (first | (at_builtin; refine wpList_append_C _ rfl _ _ rfl c _ es rfl (HE.out.below alloc_old) [.string k, .int .i64 0, .string ⟨#[]⟩, .slice none 0 0, .slice none 0 0, .slice none 0 0, .slice none 0 0, .int .i64 0] rfl (one8 k 0 ⟨#[]⟩ none none none none 0 0 0 0 0 0 0 0 0) _ rfl (heap_alloc_new _ _) hl (Nat.le_trans hc (by simp)) ?_; intro A' n' cap' w2 hE2 hg2; have R := Lib.hid (job_endC HJ.out HE.out alloc_old hE2 hg2); obtain ⟨hf3, hc3⟩ := job_cellC HJ.out HE.out alloc_old hg2; clear hE2 hg2))
  go_end0
  exact ⟨rfl, ⟨A', n', cap', R.out.1, R.out.2.1⟩, R.out.2.2⟩
set_option maxRecDepth 100000 in
set_option maxHeartbeats 4000000 in
/-- A job's Put of an entry that may be. -/
theorem PutC (j bS : Nat) (now : Int) (vA : Value) (A : Option Addr) (n cap : Nat) (es : List (List Value)) (c : Nat) (w : World) (hj : JB w j bS now vA (.slice A n cap)) (hE : EFC w c (.slice A n cap) es) (hc : c ≤ w.heap.size) (hl : es.length ≤ 100000) (k : ByteArray) (kd : Int) (t : ByteArray) (A3 A4 A5 A6 : Option Addr) (an3 ac3 an4 ac4 an5 ac5 an6 ac6 : Nat) (u : Int) (hM : ∀ X, Below w.heap.size w X → Calls Tryz.prog 51 #[.agg #[.string k, .int .i64 kd, .string t, .slice A3 an3 ac3, .slice A4 an4 ac4, .slice A5 an5 ac5, .slice A6 an6 ac6, .int .i64 u]] X fun e w' => e = .returned (.bool true) ∧ Below X.heap.size X w') : Calls Tryz.prog 212 #[.pointer (some ⟨j, 0, none⟩), .agg #[.string k, .int .i64 kd, .string t, .slice A3 an3 ac3, .slice A4 an4 ac4, .slice A5 an5 ac5, .slice A6 an6 ac6, .int .i64 u]] w fun e w' => e = .returned (.tuple #[]) ∧ JE w' j bS now vA c (es ++ [[.string k, .int .i64 kd, .string t, .slice A3 an3 ac3, .slice A4 an4 ac4, .slice A5 an5 ac5, .slice A6 an6 ac6, .int .i64 u]]) ∧ Kp w.heap.size (fun i => i ≠ j ∧ (Value.slice A n cap).ownBlock ≠ some i) w w' := by
  have MY := Lib.hid hM
  have hp := Lib.hid (heap_alloc_new w (.cells #[.string k, .int .i64 kd, .string t, .slice A3 an3 ac3, .slice A4 an4 ac4, .slice A5 an5 ac5, .slice A6 an6 ac6, .int .i64 u] 66))
  have HJ := Lib.hid hj
  have HE := Lib.hid hE
  clear hj hE hM
  go_enter Tryz.func212, Tryz.ntmps212
  go_wp2_with (first | (go_at_call 51; (with_reducible refine (MY.out _ alloc_old).mono ?_); rintro e w1 ⟨rfl, h1⟩; have B1 := Lib.hid h1; clear h1))
  have BW := Lib.hid (show Below w.heap.size w w1 from alloc_old.trans (B1.out.mono (by simp)))
  obtain ⟨j0, j1, j2, j3, jf, jz⟩ := (HJ.out.below BW.out).cells
  obtain ⟨⟨p0, p1, p2, p3, p4, p5, p6, p7⟩, ⟨pf0, pf1, pf2, pf3, pf4, pf5, pf6, pf7⟩, pz⟩ := cells8 (blk_below hp.out B1.out)
  have BA := Lib.hid (show Below w.heap.size w (w1.alloc (.cells #[.string k, .int .i64 kd, .string t, .slice A3 an3 ac3, .slice A4 an4 ac4, .slice A5 an5 ac5, .slice A6 an6 ac6, .int .i64 u] 68)).drew from (BW.out.trans ((alloc_old (w := w1)).mono (Below.size BW.out))).drew)
  have HEX := Lib.hid (HE.out.below BA.out)
  have HBX := Lib.hid (show (w1.alloc (.cells #[.string k, .int .i64 kd, .string t, .slice A3 an3 ac3, .slice A4 an4 ac4, .slice A5 an5 ac5, .slice A6 an6 ac6, .int .i64 u] 68)).drew.heap[w1.heap.size]? = some (.cells ([.string k, .int .i64 kd, .string t, .slice A3 an3 ac3, .slice A4 an4 ac4, .slice A5 an5 ac5, .slice A6 an6 ac6, .int .i64 u] : List Value).toArray 68) from heap_alloc_new w1 _)
  have HCX := Lib.hid (show c ≤ (w1.alloc (.cells #[.string k, .int .i64 kd, .string t, .slice A3 an3 ac3, .slice A4 an4 ac4, .slice A5 an5 ac5, .slice A6 an6 ac6, .int .i64 u] 68)).drew.heap.size from Nat.le_trans hc (Below.size BA.out))
  have HA3 := Lib.hid (fun w2 (hg : (w1.alloc (.cells #[.string k, .int .i64 kd, .string t, .slice A3 an3 ac3, .slice A4 an4 ac4, .slice A5 an5 ac5, .slice A6 an6 ac6, .int .i64 u] 68)).drew.grownBy w2 (Value.slice A n cap).ownBlock) => job_cellC HJ.out HE.out BA.out hg)
  have a3 : (w1.alloc (.cells #[.string k, .int .i64 kd, .string t, .slice A3 an3 ac3, .slice A4 an4 ac4, .slice A5 an5 ac5, .slice A6 an6 ac6, .int .i64 u] 68)).drew.cell? ⟨j, 3, none⟩ = some (.slice A n cap) := (HJ.out.below BA.out).cells.2.2.2.1
  have H1 := Lib.hid (one8 k kd t A3 A4 A5 A6 an3 ac3 an4 ac4 an5 ac5 an6 ac6 u)
  go_region_law (first | (refine step_append_C _ rfl _ _ rfl c _ es rfl HEX.out [.string k, .int .i64 kd, .string t, .slice A3 an3 ac3, .slice A4 an4 ac4, .slice A5 an5 ac5, .slice A6 an6 ac6, .int .i64 u] rfl H1.out _ rfl HBX.out hl HCX.out ?_; intro A' n' cap' w2 hE2 hg2; obtain ⟨hf3, hc3⟩ := HA3.out w2 hg2))
  all_goals (
    have R := Lib.hid (job_endC HJ.out HE.out BA.out hE2 hg2)
    go_end0
    exact ⟨rfl, ⟨A', n', cap', R.out.1, R.out.2.1⟩, R.out.2.2⟩)
end Go.Proofs.YticlacjpgjkhcaaGreatDoor

/- The space's Put of an entry of any kind. -/
namespace Go.Proofs.YticlacjpgjkhcaaGreatDoor
open Go.ChangeShapes Go.WideShapes Go.ChangeAt Go.RowKit

/-- A block that one of four slices stands in. -/
def Own (a b c d : Value) (g : Nat) : Prop := a.ownBlock = some g ∨ b.ownBlock = some g ∨ c.ownBlock = some g ∨ d.ownBlock = some g
/-- A kind of values: what four slices in memory hold. -/
structure Kd (α : Type) where
  kd : Int
  nz : ¬ kd = 0 ∧ ¬ kd = 1
  V : World → α → Value → Value → Value → Value → Prop
  kept : ∀ {w w' : World} {x : α} {a b c d : Value}, V w x a b c d → (∀ g, Own a b c d g → w'.heap[g]? = w.heap[g]?) → V w' x a b c d
  typ : ∀ {w : World} {x : α} {a b c d : Value} {g : Nat}, V w x a b c d → Own a b c d g → ∃ cs t, w.heap[g]? = some (.cells cs t) ∧ t ≠ 57 ∧ t ≠ 68 ∧ t ≠ 101 ∧ t ≠ 66 ∧ t ≠ 29
theorem Kd.lt {α : Type} (K : Kd α) {w : World} {x : α} {a b c d : Value} {g : Nat} (h : K.V w x a b c d) (hg : Own a b c d g) : g < w.heap.size := by
  obtain ⟨cs, t, h1, _⟩ := K.typ h hg
  exact lt_blk h1
theorem Kd.below {α : Type} (K : Kd α) {w w' : World} {x : α} {a b c d : Value} (h : K.V w x a b c d) (hb : Below w.heap.size w w') : K.V w' x a b c d := K.kept h (fun g hg => hb.block g (K.lt h hg))
theorem Kd.own_ne {α : Type} (K : Kd α) {w : World} {bS bM : Nat} {l : MapT.Ents} {x : α} {a b c d : Value} (h : K.V w x a b c d) (hS : SP w bS bM l) : ∀ g, Own a b c d g → g < w.heap.size ∧ g ≠ bS ∧ g ≠ bM := by
  intro g hg
  obtain ⟨cs, t, h1, ht, _⟩ := K.typ h hg
  obtain ⟨⟨mem, h2⟩, ⟨es, c, h3, _⟩, _⟩ := hS
  refine ⟨lt_blk h1, fun e => ?_, fun e => ?_⟩
  · subst e; rw [h2] at h1; cases h1; exact ht rfl
  · subst e; rw [h3] at h1; cases h1
/-- What the functions of entries do at a kind. -/
structure KdOk {α : Type} (K : Kd α) (ok : ByteArray → α → Prop) where
  sz : ByteArray → α → Int
  may : ∀ (k : ByteArray) (x : α) (A3 A4 A5 A6 : Option Addr) (an3 ac3 an4 ac4 an5 ac5 an6 ac6 : Nat) (w : World), ok k x → K.V w x (.slice A3 an3 ac3) (.slice A4 an4 ac4) (.slice A5 an5 ac5) (.slice A6 an6 ac6) → Calls Tryz.prog 51 #[.agg #[.string k, .int .i64 K.kd, .string ⟨#[]⟩, .slice A3 an3 ac3, .slice A4 an4 ac4, .slice A5 an5 ac5, .slice A6 an6 ac6, .int .i64 0]] w fun e w' => e = .returned (.bool true) ∧ Below w.heap.size w w'
  clone : ∀ (k : ByteArray) (x : α) (A3 A4 A5 A6 : Option Addr) (an3 ac3 an4 ac4 an5 ac5 an6 ac6 : Nat) (w : World), ok k x → K.V w x (.slice A3 an3 ac3) (.slice A4 an4 ac4) (.slice A5 an5 ac5) (.slice A6 an6 ac6) → Calls Tryz.prog 34 #[.agg #[.string k, .int .i64 K.kd, .string ⟨#[]⟩, .slice A3 an3 ac3, .slice A4 an4 ac4, .slice A5 an5 ac5, .slice A6 an6 ac6, .int .i64 0]] w fun e w' => ∃ (Y3 Y4 Y5 Y6 : Option Addr) (yn3 yc3 yn4 yc4 yn5 yc5 yn6 yc6 : Nat), e = .returned (.agg #[.string k, .int .i64 K.kd, .string ⟨#[]⟩, .slice Y3 yn3 yc3, .slice Y4 yn4 yc4, .slice Y5 yn5 yc5, .slice Y6 yn6 yc6, .int .i64 0]) ∧ K.V w' x (.slice Y3 yn3 yc3) (.slice Y4 yn4 yc4) (.slice Y5 yn5 yc5) (.slice Y6 yn6 yc6) ∧ (∀ g, Own (.slice Y3 yn3 yc3) (.slice Y4 yn4 yc4) (.slice Y5 yn5 yc5) (.slice Y6 yn6 yc6) g → w.heap.size ≤ g) ∧ Below w.heap.size w w'
  size : ∀ (k : ByteArray) (x : α) (A3 A4 A5 A6 : Option Addr) (an3 ac3 an4 ac4 an5 ac5 an6 ac6 : Nat) (w : World), ok k x → K.V w x (.slice A3 an3 ac3) (.slice A4 an4 ac4) (.slice A5 an5 ac5) (.slice A6 an6 ac6) → Calls Tryz.prog 50 #[.agg #[.string k, .int .i64 K.kd, .string ⟨#[]⟩, .slice A3 an3 ac3, .slice A4 an4 ac4, .slice A5 an5 ac5, .slice A6 an6 ac6, .int .i64 0]] w fun e w' => e = .returned (.int .i64 (sz k x)) ∧ Below w.heap.size w w'
set_option maxRecDepth 100000 in
set_option maxHeartbeats 8000000 in
theorem Put10_newG {α : Type} (K : Kd α) (ok : ByteArray → α → Prop) (hO : KdOk K ok) (bS bM : Nat) (l : MapT.Ents) (k : ByteArray) (x : α) (A3 A4 A5 A6 : Option Addr) (an3 ac3 an4 ac4 an5 ac5 an6 ac6 : Nat) (hk : ok k x) (w : World) (h : SP w bS bM l) (hf : MapT.find k l = none) (hlen : l.length < 4096) (hV : K.V w x (.slice A3 an3 ac3) (.slice A4 an4 ac4) (.slice A5 an5 ac5) (.slice A6 an6 ac6)) : Calls Tryz.prog 29 #[.pointer (some ⟨bS, 0, none⟩), .agg #[.string k, .int .i64 K.kd, .string ⟨#[]⟩, .slice A3 an3 ac3, .slice A4 an4 ac4, .slice A5 an5 ac5, .slice A6 an6 ac6, .int .i64 0]] w fun e w' => ∃ (Y3 Y4 Y5 Y6 : Option Addr) (yn3 yc3 yn4 yc4 yn5 yc5 yn6 yc6 : Nat), e = .returned (.int .i64 0) ∧ SP w' bS bM (MapT.put k (.agg #[.string k, .int .i64 K.kd, .string ⟨#[]⟩, .slice Y3 yn3 yc3, .slice Y4 yn4 yc4, .slice Y5 yn5 yc5, .slice Y6 yn6 yc6, .int .i64 0]) l) ∧ K.V w' x (.slice Y3 yn3 yc3) (.slice Y4 yn4 yc4) (.slice Y5 yn5 yc5) (.slice Y6 yn6 yc6) ∧ (∀ g, Own (.slice Y3 yn3 yc3) (.slice Y4 yn4 yc4) (.slice Y5 yn5 yc5) (.slice Y6 yn6 yc6) g → w.heap.size ≤ g) ∧ Kp w.heap.size (fun i => i ≠ bS ∧ i ≠ bM) w w' := by
  have MY := hO.may k x A3 A4 A5 A6 an3 ac3 an4 ac4 an5 ac5 an6 ac6 (w.alloc (.cells #[.string k, .int .i64 K.kd, .string ⟨#[]⟩, .slice A3 an3 ac3, .slice A4 an4 ac4, .slice A5 an5 ac5, .slice A6 an6 ac6, .int .i64 0] 66)) hk (K.below hV alloc_old)
  have CL := fun X (hX : K.V X x (.slice A3 an3 ac3) (.slice A4 an4 ac4) (.slice A5 an5 ac5) (.slice A6 an6 ac6)) => hO.clone k x A3 A4 A5 A6 an3 ac3 an4 ac4 an5 ac5 an6 ac6 X hk hX
  have SZ := fun X (hX : K.V X x (.slice A3 an3 ac3) (.slice A4 an4 ac4) (.slice A5 an5 ac5) (.slice A6 an6 ac6)) => hO.size k x A3 A4 A5 A6 an3 ac3 an4 ac4 an5 ac5 an6 ac6 X hk hX
  obtain ⟨kd, hkd⟩ : ∃ kd, K.kd = kd := ⟨_, rfl⟩
  obtain ⟨mz, hmz⟩ : ∃ mz, hO.sz k x = mz := ⟨_, rfl⟩
  simp only [hkd, hmz] at MY CL SZ ⊢
  have MY := Lib.hid MY
  have CL := Lib.hid CL
  have SZ := Lib.hid SZ
  have HTR := Lib.hid hV
  have HAB := Lib.hid (K.own_ne hV h)
  have hlt := Lib.hid h.lt
  have hneP := Lib.hid (show bS ≠ w.heap.size from by have := h.lt; omega)
  have hl1 := hlen
  obtain ⟨⟨mem, hmem⟩, hMB, hne⟩ := h
  have hp := Lib.hid (heap_alloc_new w (.cells #[.string k, .int .i64 kd, .string ⟨#[]⟩, .slice A3 an3 ac3, .slice A4 an4 ac4, .slice A5 an5 ac5, .slice A6 an6 ac6, .int .i64 0] 66))
  have hS1 := Lib.hid (blk_below hmem (alloc_old (o := .cells #[.string k, .int .i64 kd, .string ⟨#[]⟩, .slice A3 an3 ac3, .slice A4 an4 ac4, .slice A5 an5 ac5, .slice A6 an6 ac6, .int .i64 0] 66)))
  have hM1 := Lib.hid (hMB.below (alloc_old (o := .cells #[.string k, .int .i64 kd, .string ⟨#[]⟩, .slice A3 an3 ac3, .slice A4 an4 ac4, .slice A5 an5 ac5, .slice A6 an6 ac6, .int .i64 0] 66)))
  have hr : (Value.tuple #[(MapT.find k l).getD (.agg #[.string ⟨#[]⟩, .int .i64 0, .string ⟨#[]⟩, .slice none 0 0, .slice none 0 0, .slice none 0 0, .slice none 0 0, .int .i64 0]), .bool (MapT.find k l).isSome]) = .tuple #[.agg #[.string ⟨#[]⟩, .int .i64 0, .string ⟨#[]⟩, .slice none 0 0, .slice none 0 0, .slice none 0 0, .slice none 0 0, .int .i64 0], .bool false] := by rw [hf]; rfl
  have HR := Lib.hid hr
  clear hmem hMB hf hr hV hk hkd hmz
  go_enter Tryz.func29, Tryz.ntmps29
  go_wp2_with (first | (go_at_call 51; (with_reducible refine (MY.out).mono ?_); rintro e w1 ⟨rfl, h1⟩; have B1 := Lib.hid h1; clear h1))
  have hS2 := blk_below hS1.out B1.out
  have hp2 := blk_below hp.out B1.out
  have hM2 := hM1.out.below B1.out
  obtain ⟨⟨p0, p1, p2, p3, p4, p5, p6, p7⟩, ⟨pf0, pf1, pf2, pf3, pf4, pf5, pf6, pf7⟩, pz⟩ := cells8 hp2
  have s0 : w1.cell? ⟨bS, 0, none⟩ = some (.map (some bM)) := by simp [World.cell?, hS2]
  have hmk := (hMB_all w1 bM l k _ hM2 HR.out)
  have L1 := hmk w1.drew (Below.refl w1.heap.size w1).drew
  have L2 := hmk (w1.alloc (.cells #[.string ⟨#[]⟩, .int .i64 0, .string ⟨#[]⟩, .slice none 0 0, .slice none 0 0, .slice none 0 0, .slice none 0 0, .int .i64 0] 66)).drew (alloc_old).drew
  have sz := (Array.getElem?_eq_some_iff.1 hS2).1
  have hpz : w.heap.size < w1.heap.size := pz
  have KH := Lib.hid (show ∀ X, Below w1.heap.size w1 X → (X.cell? ⟨bS, 0, none⟩ = some (.map (some bM)) ∧ X.cell? ⟨w.heap.size, 0, none⟩ = some (.string k)) from fun X hb => ⟨(hb.cell (p := ⟨bS, 0, none⟩) sz).trans s0, (hb.cell (p := ⟨w.heap.size, 0, none⟩) hpz).trans p0⟩)
  have K0 := Lib.hid (KH.out w1.drew (Below.refl w1.heap.size w1).drew)
  have K1 := Lib.hid (KH.out (w1.alloc (.cells #[.string ⟨#[]⟩, .int .i64 0, .string ⟨#[]⟩, .slice none 0 0, .slice none 0 0, .slice none 0 0, .slice none 0 0, .int .i64 0] 66)).drew (alloc_old).drew)
  have K2 := Lib.hid (KH.out (w1.alloc (.cells #[.string ⟨#[]⟩, .int .i64 0, .string ⟨#[]⟩, .slice none 0 0, .slice none 0 0, .slice none 0 0, .slice none 0 0, .int .i64 0] 66)).drew (alloc_old).drew)
  clear hmk hM2 hS2 hp2
  go_region_held3 (fun X => X.cell? ⟨bS, 0, none⟩ = some (.map (some bM)) ∧ X.cell? ⟨w.heap.size, 0, none⟩ = some (.string k)) (first | (with_reducible exact K0.out) | (with_reducible exact K1.out) | (with_reducible exact K2.out)) (first | skip)
  all_goals (
    change Exit.then _ _ _ _ (w1.alloc (.cells #[.string ⟨#[]⟩, .int .i64 0, .string ⟨#[]⟩, .slice none 0 0, .slice none 0 0, .slice none 0 0, .slice none 0 0, .int .i64 0] 66)).drew
    have w2b := Lib.hid (show Below w1.heap.size w1 (w1.alloc (.cells #[.string ⟨#[]⟩, .int .i64 0, .string ⟨#[]⟩, .slice none 0 0, .slice none 0 0, .slice none 0 0, .slice none 0 0, .int .i64 0] 66)).drew from alloc_old.drew)
    have w2n := Lib.hid (show (w1.alloc (.cells #[.string ⟨#[]⟩, .int .i64 0, .string ⟨#[]⟩, .slice none 0 0, .slice none 0 0, .slice none 0 0, .slice none 0 0, .int .i64 0] 66)).drew.heap[w1.heap.size]? = some (.cells #[.string ⟨#[]⟩, .int .i64 0, .string ⟨#[]⟩, .slice none 0 0, .slice none 0 0, .slice none 0 0, .slice none 0 0, .int .i64 0] 66) from heap_alloc_new w1 _)
    generalize (w1.alloc (.cells #[.string ⟨#[]⟩, .int .i64 0, .string ⟨#[]⟩, .slice none 0 0, .slice none 0 0, .slice none 0 0, .slice none 0 0, .int .i64 0] 66)).drew = w2 at w2b w2n ⊢
    clear L1 L2 K0 K1 K2 KH s0
    have BW := Lib.hid (show Below w.heap.size w w2 from (alloc_old.trans (B1.out.mono (by simp))).trans (w2b.out.mono (by omega)))
    have Q2 := Lib.hid (show Kp w.heap.size (fun i => i ≠ bS ∧ i ≠ bM) w w2 from .of BW.out)
    have S2 := Lib.hid (blk_below hS1.out (B1.out.trans (w2b.out.mono (Below.size B1.out))))
    have P2 := Lib.hid (blk_below hp.out (B1.out.trans (w2b.out.mono (Below.size B1.out))))
    have M2 := Lib.hid (hM1.out.below (B1.out.trans (w2b.out.mono (Below.size B1.out))))
    have hne1 := Lib.hid (show bS ≠ w1.heap.size from by omega)
    clear hS1 hM1 hp w2b p0 p1 p2 p3 p4 p5 p6 p7 pf0 pf1 pf2 pf3 pf4 pf5 pf6 pf7
    have cM2 := cell53 S2.out
    have LN := MapT.run_len Tryz.underlying55 M2.out
    have il : ¬ (4096 : Int) ≤ (l.length : Int) := by omega
    go_wp2
    have KQ := Lib.hid (show ∀ X, Below w2.heap.size w2 X → (X.cell? ⟨bS, 0, none⟩ = some (.map (some bM)) ∧ X.cell? ⟨w.heap.size, 0, none⟩ = some (.string k) ∧ X.cell? ⟨w.heap.size, 1, none⟩ = some (.int .i64 kd) ∧ X.cell? ⟨w.heap.size, 2, none⟩ = some (.string ⟨#[]⟩) ∧ X.cell? ⟨w.heap.size, 3, none⟩ = some (.slice A3 an3 ac3) ∧ X.cell? ⟨w.heap.size, 4, none⟩ = some (.slice A4 an4 ac4) ∧ X.cell? ⟨w.heap.size, 5, none⟩ = some (.slice A5 an5 ac5) ∧ X.cell? ⟨w.heap.size, 6, none⟩ = some (.slice A6 an6 ac6) ∧ X.cell? ⟨w.heap.size, 7, none⟩ = some (.int .i64 0)) from fun X hb => ⟨cell53 (blk_below S2.out hb), (cells8 (blk_below P2.out hb)).1⟩)
    have KU := Lib.hid (show ∀ X Y, X.grownBy Y (some bM) → Below w2.heap.size w2 X → (Y.cell? ⟨bS, 0, none⟩ = some (.map (some bM)) ∧ Y.cell? ⟨w.heap.size, 0, none⟩ = some (.string k) ∧ Y.cell? ⟨w.heap.size, 1, none⟩ = some (.int .i64 kd) ∧ Y.cell? ⟨w.heap.size, 2, none⟩ = some (.string ⟨#[]⟩) ∧ Y.cell? ⟨w.heap.size, 3, none⟩ = some (.slice A3 an3 ac3) ∧ Y.cell? ⟨w.heap.size, 4, none⟩ = some (.slice A4 an4 ac4) ∧ Y.cell? ⟨w.heap.size, 5, none⟩ = some (.slice A5 an5 ac5) ∧ Y.cell? ⟨w.heap.size, 6, none⟩ = some (.slice A6 an6 ac6) ∧ Y.cell? ⟨w.heap.size, 7, none⟩ = some (.int .i64 0)) from fun X Y hg hb => ⟨cell53 ((grown_block hg (lt_blk (blk_below S2.out hb)) hne).trans (blk_below S2.out hb)), (cells8 ((grown_block hg (lt_blk (blk_below P2.out hb)) (by have := hlt.out; omega)).trans (blk_below P2.out hb))).1⟩)
    have Z8 := Lib.hid (CL.out w2.drew (K.below HTR.out BW.out.drew))
    have K8 := Lib.hid (KQ.out w2.drew (Below.refl _ _).drew)
    go_region_held3 (fun X => X.cell? ⟨bS, 0, none⟩ = some (.map (some bM)) ∧ X.cell? ⟨w.heap.size, 0, none⟩ = some (.string k) ∧ X.cell? ⟨w.heap.size, 1, none⟩ = some (.int .i64 kd) ∧ X.cell? ⟨w.heap.size, 2, none⟩ = some (.string ⟨#[]⟩) ∧ X.cell? ⟨w.heap.size, 3, none⟩ = some (.slice A3 an3 ac3) ∧ X.cell? ⟨w.heap.size, 4, none⟩ = some (.slice A4 an4 ac4) ∧ X.cell? ⟨w.heap.size, 5, none⟩ = some (.slice A5 an5 ac5) ∧ X.cell? ⟨w.heap.size, 6, none⟩ = some (.slice A6 an6 ac6) ∧ X.cell? ⟨w.heap.size, 7, none⟩ = some (.int .i64 0)) (first | (with_reducible exact K8.out) | (with_reducible exact KU.out _ _ (by assumption) (by assumption)) | (with_reducible exact KQ.out _ (by assumption))) (first | (go_at_call 34; (with_reducible refine (Z8.out).mono ?_); rintro e w5 ⟨Y3, Y4, Y5, Y6, yn3, yc3, yn4, yc4, yn5, yc5, yn6, yc6, rfl, hT5, hg5, h5⟩; have B5 : Below w2.heap.size w2 w5 := belT (Below.refl w2.heap.size w2).drew h5; clear h5; obtain ⟨w6, hrun, r1, r2, r3⟩ := MapT.run_update Tryz.underlying55 Tryz.underlying9 (M2.out.below B5) k (.agg #[.string k, .int .i64 kd, .string ⟨#[]⟩, .slice Y3 yn3 yc3, .slice Y4 yn4 yc4, .slice Y5 yn5 yc5, .slice Y6 yn6 yc6, .int .i64 0])))
    all_goals (
      have S6 := Lib.hid ((grown_block r2 (lt_blk (blk_below S2.out B5)) hne).trans (blk_below S2.out B5))
      have P6 := Lib.hid ((grown_block r2 (lt_blk (blk_below P2.out B5)) (show w.heap.size ≠ bM by have := hlt.out; omega)).trans (blk_below P2.out B5))
      have M6 := Lib.hid r1
      have Q6 := Lib.hid ((Q2.out.trans (.of (B5.mono Q2.out.size))).grown r2 (Nat.le_trans Q2.out.size (Below.size B5)) (fun k hk _ hS => hS.2 (Option.some.inj hk).symm))
      have hgw : ∀ g, Own (.slice Y3 yn3 yc3) (.slice Y4 yn4 yc4) (.slice Y5 yn5 yc5) (.slice Y6 yn6 yc6) g → w.heap.size ≤ g := fun g hg => Nat.le_trans (Below.size BW.out) (hg5 g hg)
      have GW := Lib.hid hgw
      have TG6 := Lib.hid (K.kept hT5 (fun g' hg' => grown_block r2 (K.lt hT5 hg') (by have := hlt.out; have := hgw g' hg'; omega)))
      have T6 := Lib.hid (K.kept HTR.out (fun g' hg' => Q6.out.block g' (HAB.out g' hg').1 (HAB.out g' hg').2))
      clear KQ KU Z8 K8 B5 hrun r1 r2 r3 hT5 hg5 hgw
      go_wp2
      obtain ⟨cm6, cf6⟩ := mem53 S6.out
      obtain ⟨⟨g0, g1, g2, g3, g4, g5, g6, g7⟩, _, gz⟩ := cells8 P6.out
      have Z7 := Lib.hid (SZ.out w6.drew (K.kept T6.out (fun _ _ => rfl)))
      go_region_with ((go_at_call 50; (with_reducible refine (Z7.out).mono ?_); rintro e w7 ⟨rfl, h5⟩; have B7 : Below w6.heap.size w6 w7 := belT (Below.refl w6.heap.size w6).drew h5; clear h5; obtain ⟨cm7, cf7⟩ := mem53 (blk_below S6.out B7)))
      all_goals (
        change Exit.then _ _ _ _ (w7.setCell ⟨bS, 1, none⟩ (.int .i64 (IntKind.i64.wrap (mem + mz))))
        have S8 := Lib.hid (set53 (blk_below S6.out B7) (.int .i64 (IntKind.i64.wrap (mem + mz))))
        have P8 := Lib.hid ((Below.heap_setCell w7 ⟨bS, 1, none⟩ (.int .i64 (IntKind.i64.wrap (mem + mz))) w.heap.size (by have := hlt.out; show w.heap.size ≠ bS; omega)).trans (blk_below P6.out B7))
        have M8 := Lib.hid ((M6.out.below B7).kept (Below.heap_setCell w7 ⟨bS, 1, none⟩ (.int .i64 (IntKind.i64.wrap (mem + mz))) bM (Ne.symm hne)))
        have Q8 := Lib.hid (((Q6.out.trans (.of (B7.mono Q6.out.size))).setCell (p := ⟨bS, 1, none⟩) (by simp) (.int .i64 (IntKind.i64.wrap (mem + mz)))))
        have TG8 := Lib.hid (K.kept (K.below TG6.out B7) (fun g' hg' => Below.heap_setCell w7 ⟨bS, 1, none⟩ (.int .i64 (IntKind.i64.wrap (mem + mz))) g' (by have := hlt.out; have := GW.out g' hg'; show g' ≠ bS; omega)))
        clear cm6 cf6 cm7 cf7 g0 g1 g2 g3 g4 g5 g6 g7 gz Z7 B7
        generalize w7.setCell ⟨bS, 1, none⟩ (.int .i64 (IntKind.i64.wrap (mem + mz))) = w8 at S8 P8 M8 Q8 TG8 ⊢
        go_wp2
        go_ret
        exact ⟨Y3, Y4, Y5, Y6, yn3, yc3, yn4, yc4, yn5, yc5, yn6, yc6, by simp, ⟨⟨_, S8.out⟩, M8.out, hne⟩, TG8.out, GW.out, Q8.out⟩)))
end Go.Proofs.YticlacjpgjkhcaaGreatDoor
