/- Texts joined: MapI -/
import Derived.Maps.OwnOps
import Derived.Maps.OwnSet
import Derived.Below
set_option linter.unusedVariables false
set_option linter.unusedSimpArgs false
namespace Go.MapI
open Go.MapKept Go.RowKit
abbrev Ents := List (Int × Value)
def find (k : Int) : Ents → Option Value
 | [] => none
 | (x, v) :: r => if x = k then some v else find k r
def put (k : Int) (u : Value) : Ents → Ents
 | [] => [(k, u)]
 | (x, v) :: r => if x = k then (x, u) :: r else (x, v) :: put k u r
def del (k : Int) : Ents → Ents
 | [] => []
 | (x, v) :: r => if x = k then r else (x, v) :: del k r
def pairs (es : List MapEntry) : List (Value × Value) := es.map fun e => (e.key, e.val)
def vals (l : Ents) : List (Value × Value) := l.map fun p => (.int .i64 p.1, p.2)
def MB (w : World) (b : Nat) (l : Ents) : Prop := ∃ es clock, w.heap[b]? = some (.map es clock) ∧ pairs es.toList = vals l ∧ Stamped es clock
theorem MB.lt {w : World} {b : Nat} {l : Ents} (h : MB w b l) : b < w.heap.size := by
 obtain ⟨es, c, h1, _⟩ := h
 exact (Array.getElem?_eq_some_iff.1 h1).1
theorem MB.kept {w w' : World} {b : Nat} {l : Ents} (h : MB w b l) (hb : w'.heap[b]? = w.heap[b]?) : MB w' b l := by
 obtain ⟨es, c, h1, h2, h3⟩ := h
 exact ⟨es, c, hb.trans h1, h2, h3⟩
theorem MB.below {w w' : World} {b : Nat} {l : Ents} (h : MB w b l) (hb : Below w.heap.size w w') : MB w' b l := h.kept (hb.block b h.lt)
theorem MB.size {w : World} {b : Nat} {l : Ents} (h : MB w b l) : ∃ es clock, w.heap[b]? = some (.map es clock) ∧ es.size = l.length := by
 obtain ⟨es, c, h1, h2, _⟩ := h
 refine ⟨es, c, h1, ?_⟩
 have := congrArg List.length h2
 simpa [pairs, vals] using this
theorem MB.made (w : World) : MB (w.alloc (.map #[] 0)) w.heap.size [] := ⟨#[], 0, by simp [World.alloc, -World.alloc_eq], rfl, stamped_empty 0⟩
theorem findNow_ents (k : Int) : ∀ (es : List MapEntry) (l : Ents) (i : Nat), pairs es = vals l →
  (∃ j e, Instr.findNow (.int .i64) (.int .i64 k) es i = some (some (i + j, e.val)) ∧ es[j]? = some e ∧ e.key = .int .i64 k ∧ find k l = some e.val ∧
   (∀ u, pairs (es.modify j fun e => { e with key := .int .i64 k, val := u }) = vals (put k u l) ∧ pairs (es.eraseIdx j) = vals (del k l))) ∨
  (Instr.findNow (.int .i64) (.int .i64 k) es i = some none ∧ find k l = none ∧ (∀ u c, pairs (es ++ [⟨.int .i64 k, u, c⟩]) = vals (put k u l)) ∧ del k l = l) := by
 intro es
 induction es with
 | nil =>
  intro l i h
  have : l = [] := by cases l with
   | nil => rfl
   | cons a r => simp [pairs, vals] at h
  subst this
  exact .inr ⟨rfl, rfl, fun u c => rfl, rfl⟩
 | cons e r ih =>
  intro l i h
  cases l with
  | nil => simp [pairs, vals] at h
  | cons p q =>
   obtain ⟨x, v⟩ := p
   simp only [pairs, vals, List.map_cons, List.cons.injEq, Prod.mk.injEq] at h
   obtain ⟨⟨h1, h2⟩, h3⟩ := h
   by_cases hx : x = k
   ·subst hx
    have hb : (x == x) = true := by simp
    refine .inl ⟨0, e, ?_, rfl, h1, by simp [find, h2], fun u => ⟨?_, ?_⟩⟩
    ·unfold Instr.findNow
     rw [h1]
     simp [Instr.sameNow, hb]
    ·simp [pairs, vals, put, h3]
    ·simp [pairs, vals, del, h3]
   ·have hb : (k == x) = false := by
     simp
     exact fun e => hx e.symm
    have hs : Instr.findNow (.int .i64) (.int .i64 k) (e :: r) i = Instr.findNow (.int .i64) (.int .i64 k) r (i + 1) := by
     conv => lhs; unfold Instr.findNow
     rw [h1]
     simp [Instr.sameNow, hb]
    rcases ih q (i + 1) h3 with ⟨j, e', g1, g2, g3, g4, g5⟩ | ⟨g1, g2, g3, g4⟩
    ·refine .inl ⟨j + 1, e', ?_, by simpa using g2, g3, by simp [find, hx, g4], fun u => ⟨?_, ?_⟩⟩
     ·rw [hs, g1, show i + 1 + j = i + (j + 1) by omega]
     ·have := (g5 u).1
      simp only [pairs, vals] at this
      simp [pairs, vals, put, hx, h1, h2, this]
     ·have := (g5 u).2
      simp only [pairs, vals] at this
      simp [pairs, vals, del, hx, h1, h2, this]
    ·refine .inr ⟨by rw [hs, g1], by simp [find, hx, g2], fun u c => ?_, by simp [del, hx, g4]⟩
     have := g3 u c
     simp only [pairs, vals] at this
     simp only [pairs, vals, List.cons_append, List.map_cons, put, hx, if_false, this, h1, h2]
section
variable {P : Program} {t key elem : TypeId} {w : World} {b : Nat} {l : Ents}
theorem isKey (k : Int) : IsKey (.int .i64) (.int .i64 k) := by simp [IsKey]
theorem none_key (k : Int) : ∀ (es : List MapEntry) (l : Ents), pairs es = vals l → find k l = none → ∀ x ∈ es, x.key ≠ .int .i64 k := by
 intro es
 induction es with
 | nil => intro l _ _ x hx; cases hx
 | cons e r ih =>
  intro l h hf x hx
  cases l with
  | nil => simp [pairs, vals] at h
  | cons p q =>
   obtain ⟨y, v⟩ := p
   simp only [pairs, vals, List.map_cons, List.cons.injEq, Prod.mk.injEq] at h
   obtain ⟨⟨h1, h2⟩, h3⟩ := h
   unfold find at hf
   by_cases hy : y = k
   ·rw [if_pos hy] at hf; cases hf
   ·rw [if_neg hy] at hf
    rcases List.mem_cons.1 hx with rfl | hx
    ·rw [h1]; intro e9; cases e9; exact hy rfl
    ·exact ih q h3 hf x hx
theorem run_lookup (ht : P.underlying t = some (.map key elem)) (hk : P.underlying key = some (.int .i64)) (h : MB w b l) (k : Int) (ok : Bool) (z : Value) (hz : (zeroValue elem).run P w = .ok z w) :
  (Instr.lookup t (.map (some b)) (.int .i64 k) ok).run P w = .ok (if ok then .tuple #[(find k l).getD z, .bool (find k l).isSome] else (find k l).getD z) w := by
 obtain ⟨es, c, h1, h2, _⟩ := h
 rcases findNow_ents k es.toList l 0 h2 with ⟨j, e, g1, _, _, g2, _⟩ | ⟨g1, g2, _⟩
 ·cases ok <;> simp [Instr.lookup, run_underlying ht, MapKept.run_getObj_map h1, MapKept.run_checkKey hk (isKey k), MapKept.run_findKey hk g1, g2, Result.andThen]
 ·cases ok <;> simp [Instr.lookup, run_underlying ht, MapKept.run_getObj_map h1, MapKept.run_checkKey hk (isKey k), MapKept.run_findKey hk g1, g2, hz, Result.andThen]
theorem run_update (ht : P.underlying t = some (.map key elem)) (hk : P.underlying key = some (.int .i64)) (h : MB w b l) (k : Int) (u : Value) :
  ∃ w', (Instr.mapUpdate t (.map (some b)) (.int .i64 k) u).run P w = .ok () w' ∧ MB w' b (put k u l) ∧ w.grownBy w' (some b) ∧ w'.heap.size = w.heap.size := by
 obtain ⟨es, c, h1, h2, hst⟩ := h
 have hg : ∀ o, w.grownBy { w with heap := w.heap.setIfInBounds b o } (some b) := fun o => ⟨rfl, rfl, rfl, by simp, fun i _ hi => (heap_set h1).2 i (fun e => hi (by rw [e]))⟩
 rcases findNow_ents k es.toList l 0 h2 with ⟨j, e, g1, g2, g3, _, g5⟩ | ⟨g1, g0, g3, _⟩
 ·refine ⟨{ w with heap := w.heap.setIfInBounds b (.map (es.modify j fun e => { e with key := .int .i64 k, val := u }) c) }, ?_, ⟨_, _, (heap_set h1).1, ?_, stamped_modify hst _ _ (fun _ _ => rfl) (fun e9 _ he9 => by have hj : es[j]? = some e := (by rw [← Array.getElem?_toList]; exact g2); rw [hj] at he9; cases he9; exact g3.symm)⟩, hg _, by simp⟩
  ·have hj : es[j]? = some e := by rw [← Array.getElem?_toList]; exact g2
   simp [Instr.mapUpdate, run_underlying ht, MapKept.run_getObj_map h1, MapKept.run_checkKey hk (isKey k), MapKept.run_findKey hk g1, MapKept.run_keyThatStays (isKey k), MapKept.run_setObj_map _ h1, Result.andThen, hj, g3]
  ·rw [Array.toList_modify]; exact (g5 u).1
 ·refine ⟨{ w with heap := w.heap.setIfInBounds b (.map (es.push ⟨.int .i64 k, u, c⟩) (c + 1)) }, ?_, ⟨_, _, (heap_set h1).1, ?_, stamped_push hst (none_key k _ l h2 g0)⟩, hg _, by simp⟩
  ·simp [Instr.mapUpdate, run_underlying ht, MapKept.run_getObj_map h1, MapKept.run_checkKey hk (isKey k), MapKept.run_findKey hk g1, MapKept.run_setObj_map _ h1, Result.andThen]
  ·rw [Array.toList_push]; exact g3 u c
theorem run_delete (ht : P.underlying t = some (.map key elem)) (hk : P.underlying key = some (.int .i64)) (h : MB w b l) (k : Int) (ts : Array TypeId) (h0 : ts[0]? = some t) (ty : TypeId) :
  ∃ w', (Builtin.delete_ ts ty #[.map (some b), .int .i64 k]).run P w = .ok (.tuple #[]) w' ∧ MB w' b (del k l) ∧ w.grownBy w' (some b) ∧ w'.heap.size = w.heap.size := by
 obtain ⟨es, c, h1, h2, hst⟩ := h
 have hg : ∀ o, w.grownBy { w with heap := w.heap.setIfInBounds b o } (some b) := fun o => ⟨rfl, rfl, rfl, by simp, fun i _ hi => (heap_set h1).2 i (fun e => hi (by rw [e]))⟩
 rcases findNow_ents k es.toList l 0 h2 with ⟨j, e, g1, g2, g3, _, g5⟩ | ⟨g1, _, _, g4⟩
 ·have hlt : j < es.size := by have := (List.getElem?_eq_some_iff.1 g2).1; simpa using this
  refine ⟨{ w with heap := w.heap.setIfInBounds b (.map (es.eraseIdxIfInBounds (0 + j)) c) }, ?_, ⟨_, _, (heap_set h1).1, ?_, stamped_erase hst _⟩, hg _, by simp⟩
  ·simp [Builtin.delete_, h0, run_underlying ht, MapKept.run_getObj_map h1, MapKept.run_checkKey hk (isKey k), MapKept.run_findKey hk g1, MapKept.run_setObj_map _ h1, Result.andThen]
  ·rw [Nat.zero_add]
   have : (es.eraseIdxIfInBounds j).toList = es.toList.eraseIdx j := by simp [Array.eraseIdxIfInBounds, hlt]
   rw [this]; exact (g5 (.bool true)).2
 ·refine ⟨{ w with heap := w.heap.setIfInBounds b (.map es c) }, ?_, ⟨_, _, (heap_set h1).1, by rw [g4]; exact h2, hst⟩, hg _, by simp⟩
  ·simp [Builtin.delete_, h0, run_underlying ht, MapKept.run_getObj_map h1, MapKept.run_checkKey hk (isKey k), MapKept.run_findKey hk g1, MapKept.run_setObj_map _ h1, Result.andThen]
theorem run_len (ht : P.underlying t = some (.map key elem)) (h : MB w b l) (ty : TypeId) : (Builtin.len_ #[t] ty #[.map (some b)]).run P w = .ok (.int .i64 l.length) w := by
 obtain ⟨es, c, h1, h2⟩ := h.size
 simp [Builtin.len_, run_underlying ht, MapKept.run_getObj_map h1, h2, Result.andThen, goInt]
end
section
variable {P : Program} {t key elem : TypeId} {ops : Array Oper} {rest : List Oper} {o : Oper} {a : Act} {Q : Exit → Act → World → Prop}
theorem at_update (w : World) (hg : o.guard = none) (m x v : Operand) (hop : o.op = Op.mapUpdate t m x v) (ht : P.underlying t = some (.map key elem)) (hk : P.underlying key = some (.int .i64))
  (b : Nat) (l : Ents) (hm : a.eval m = .map (some b)) (h : MB w b l) (k : Int) (u : Value) (hx : a.eval x = .int .i64 k) (hv : a.eval v = u)
  (hK : ∀ w', MB w' b (put k u l) → w.grownBy w' (some b) → w'.heap.size = w.heap.size → wpList P ops Q rest (a.put o.dst undef) w') : wpList P ops Q (o :: rest) a w := by
 refine wpList_plain hg fun K' hK' => ?_
 obtain ⟨w', hrun, r1, r2, r3⟩ := run_update ht hk h k u
 unfold Oper.wp
 simp [execOp, hop, hm, hx, hv, hrun, Result.andThen]
 exact hK' _ _ (hK w' r1 r2 r3)
theorem at_look (w : World) (hg : o.guard = none) (m x : Operand) (ok : Bool) (hop : o.op = Op.lookup t m x ok) (ht : P.underlying t = some (.map key elem)) (hk : P.underlying key = some (.int .i64))
  (b : Nat) (l : Ents) (hm : a.eval m = .map (some b)) (h : MB w b l) (k : Int) (hx : a.eval x = .int .i64 k) (z : Value) (hz : (zeroValue elem).run P w = .ok z w) (r : Value)
  (hr : (if ok then .tuple #[(find k l).getD z, .bool (find k l).isSome] else (find k l).getD z) = r)
  (hK : wpList P ops Q rest (a.put o.dst r) w) : wpList P ops Q (o :: rest) a w := by
 refine wpList_plain hg fun K' hK' => ?_
 have hrun := run_lookup ht hk h k ok z hz
 rw [hr] at hrun
 unfold Oper.wp
 simp [execOp, hop, hm, hx, hrun, Result.andThen]
 exact hK' _ _ hK
end
end Go.MapI
