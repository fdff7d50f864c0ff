/- Texts joined: HA, MapI, HB, HC, HM -/
import Derived.Test.YtjfejmdnjbekkaaGreatDoorQb11
import Derived.Maps.OwnOps
import Derived.Maps.OwnSet
import Derived.Below
import Derived.Test.YtjfejmdnjbekkaaGreatDoorQb5
set_option linter.unusedVariables false
set_option linter.unusedSimpArgs false

/- Rows of replies and of values, four cells each: reading, append. -/
namespace Go.Proofs.YtjfejmdnjbekkaaGreatDoor
open Go.ChangeShapes Go.WideShapes Go.ChangeAt Go.RowKit

/-- A reply or a value without elements: its kind, its number, its text. -/
abbrev S4 := Int × Int × ByteArray
def c4 (x : S4) : List Value := [.int .i64 x.1, .int .i64 x.2.1, .string x.2.2, .slice none 0 0]
def R4 (e : TypeId) (w : World) (c : Nat) (v : Value) (xs : List S4) : Prop := w.ownsRow c e 4 v xs.length (xs.flatMap c4)
theorem c4_len (x : S4) : (c4 x).length = 4 := rfl
theorem c4_all (xs : List S4) : (xs.flatMap c4).length = xs.length * 4 := by
  induction xs with
  | nil => rfl
  | cons x r ih => rw [List.flatMap_cons, List.length_append, c4_len, ih, List.length_cons]; omega
theorem c4_at (xs : List S4) : ∀ (i j : Nat) (x : S4) (v : Value), xs[i]? = some x → (c4 x)[j]? = some v → (xs.flatMap c4)[i * 4 + j]? = some v := by
  induction xs with
  | nil => intro i j x v h; cases h
  | cons q t ih =>
    intro i j x v h hv
    have hj : j < 4 := by have := (List.getElem?_eq_some_iff.1 hv).1; rw [c4_len] at this; exact this
    rw [List.flatMap_cons]
    cases i with
    | zero =>
      cases h
      rw [List.getElem?_append_left (by rw [c4_len]; omega), Nat.zero_mul, Nat.zero_add]
      exact hv
    | succ i =>
      rw [List.getElem?_append_right (by rw [c4_len]; omega), c4_len, show (i + 1) * 4 + j - 4 = i * 4 + j by omega]
      exact ih i j x v h hv
theorem c4_one (xs : List S4) : ∀ u ∈ xs.flatMap c4, u.oneCell' = true := by
  intro u hu
  obtain ⟨x, _, hx⟩ := List.mem_flatMap.1 hu
  simp [c4] at hx
  rcases hx with rfl | rfl | rfl | rfl <;> rfl
theorem R4.form {e : TypeId} {w : World} {c : Nat} {A : Option Addr} {n C : Nat} {xs : List S4} (h : R4 e w c (.slice A n C) xs) : n = xs.length ∧ (xs ≠ [] → ∃ g, A = some ⟨g, 0, none⟩) ∧ n ≤ C := by
  unfold R4 World.ownsRow at h
  obtain ⟨_, ⟨h1, h0⟩ | ⟨g, cap, cur, h1, _, _, h3, _⟩⟩ := h
  · cases h1
    exact ⟨h0.symm, fun hne => absurd (List.eq_nil_of_length_eq_zero h0) hne, Nat.zero_le _⟩
  · cases h1
    exact ⟨rfl, fun _ => ⟨g, rfl⟩, h3⟩
/-- A row's cells. -/
theorem R4.at_ {e : TypeId} {w : World} {c g n C : Nat} {xs : List S4} (h : R4 e w c (.slice (some ⟨g, 0, none⟩) n C) xs) (i : Nat) (x : S4) (hx : xs[i]? = some x) : w.cell? ⟨g, i * 4, none⟩ = some (.int .i64 x.1) ∧ w.cell? ⟨g, i * 4 + 1, none⟩ = some (.int .i64 x.2.1) ∧ w.cell? ⟨g, i * 4 + 2, none⟩ = some (.string x.2.2) ∧ w.cell? ⟨g, i * 4 + 3, none⟩ = some (.slice none 0 0) := by
  obtain rfl := h.form.1
  exact ⟨row_cell h (i * 4 + 0) _ (c4_at xs i 0 x _ hx rfl), row_cell h (i * 4 + 1) _ (c4_at xs i 1 x _ hx rfl), row_cell h (i * 4 + 2) _ (c4_at xs i 2 x _ hx rfl), row_cell h (i * 4 + 3) _ (c4_at xs i 3 x _ hx rfl)⟩
theorem R4.below {e : TypeId} {w w' : World} {c : Nat} {v : Value} {xs : List S4} (h : R4 e w c v xs) (hb : Below w.heap.size w w') : R4 e w' c v xs := row_below h hb
theorem R4.nil (e : TypeId) (w : World) (c : Nat) : R4 e w c (.slice none 0 0) [] := World.ownsRow_nil _ _ _ _
theorem iPl : (Tryz.prog.info? 27).map (fun i => (i.zero, i.size, i.bytes)) = some (some (.agg #[.int .i64 0, .int .i64 0, .string ⟨#[]⟩, .slice none 0 0]), 4, 56) := by kernel_rfl
/-- Replies are appended to a row of replies. -/
theorem append_R4 {ops : Array Oper} {rest : List Oper} {o : Oper} {a : Act} {Q : Exit → Act → World → Prop} (w : World) (hg : o.guard = none) (s x : Operand) (hop : o.op = Op.call { callee := Callee.builtin Builtin.append, args := #[s, x], argTypes := #[22, 22] })
    (c : Nat) (v : Value) (xs : List S4) (N : Nat) (hN : xs.length = N) (hs : a.eval s = v) (h : R4 24 w c v xs) (y : S4) (b : Nat) (hx : a.eval x = .slice (some ⟨b, 0, none⟩) 1 1) (hb : w.heap[b]? = some (.cells (c4 y).toArray 24)) (hl : N ≤ 100000) (hc : c ≤ w.heap.size)
    (k : ∀ g cap w', R4 24 w' c (.slice (some ⟨g, 0, none⟩) (N + 1) cap) (xs ++ [y]) → Below c w w' → wpList Tryz.prog ops Q rest (a.put o.dst (.slice (some ⟨g, 0, none⟩) (N + 1) cap)) w') : wpList Tryz.prog ops Q (o :: rest) a w := by
  subst hN
  obtain ⟨i0, hi, hz0, hz1, hz2⟩ := info_parts i37
  refine wpList_append_lies w hg s x 22 hop c 24 i0 _ 4 56 Tryz.underlying22 hi hz0 hz1 hz2 rfl (by decide) v xs.length _ hs h ⟨b, 0, none⟩ 1 1 (c4 y) hx (by rw [c4_len]) (news_blk hb) (fun u hu => c4_one [y] u (by simpa using hu)) (by decide) (by unfold maxLen; omega) (by omega) hc _ rfl ?_
  intro g cap w' h1 h2 _ _
  refine k g cap w' ?_ ((Below.refl _ _).grown h2 hc (fun k hk => (row_own h k hk).1))
  unfold R4
  rw [List.length_append, List.flatMap_append, show [y].length = 1 from rfl, show [y].flatMap c4 = c4 y by simp]
  exact h1
/-- Values are appended to a row of values. -/
theorem append_P4 {ops : Array Oper} {rest : List Oper} {o : Oper} {a : Act} {Q : Exit → Act → World → Prop} (w : World) (hg : o.guard = none) (s x : Operand) (hop : o.op = Op.call { callee := Callee.builtin Builtin.append, args := #[s, x], argTypes := #[25, 25] })
    (c : Nat) (v : Value) (xs : List S4) (N : Nat) (hN : xs.length = N) (hs : a.eval s = v) (h : R4 27 w c v xs) (ys : List S4) (M : Nat) (hM : ys.length = M) (hM0 : 0 < M) (b : Nat) (hx : a.eval x = .slice (some ⟨b, 0, none⟩) M M) (hb : w.heap[b]? = some (.cells (ys.flatMap c4).toArray 27)) (hl : N + M ≤ 100000) (hc : c ≤ w.heap.size)
    (k : ∀ g cap w', R4 27 w' c (.slice (some ⟨g, 0, none⟩) (N + M) cap) (xs ++ ys) → Below c w w' → wpList Tryz.prog ops Q rest (a.put o.dst (.slice (some ⟨g, 0, none⟩) (N + M) cap)) w') : wpList Tryz.prog ops Q (o :: rest) a w := by
  subst hN hM
  obtain ⟨i0, hi, hz0, hz1, hz2⟩ := info_parts iPl
  refine wpList_append_lies w hg s x 25 hop c 27 i0 _ 4 56 Tryz.underlying25 hi hz0 hz1 hz2 rfl (by decide) v xs.length _ hs h ⟨b, 0, none⟩ ys.length ys.length (ys.flatMap c4) hx (by rw [c4_all]) (news_blk hb) (c4_one ys) (by omega) (by unfold maxLen; omega) (by omega) hc _ rfl ?_
  intro g cap w' h1 h2 _ _
  refine k g cap w' ?_ ((Below.refl _ _).grown h2 hc (fun k hk => (row_own h k hk).1))
  unfold R4
  rw [List.length_append, List.flatMap_append]
  exact h1
end Go.Proofs.YtjfejmdnjbekkaaGreatDoor

/- A map keyed by whole numbers (int64), with elements of any type: look-up, store, length, by what the map holds. -/
namespace Go.MapI
open Go.MapKept Go.RowKit

/-- What a map holds, oldest entry first. -/
abbrev Ents := List (Int × Value)
def find (k : Int) : Ents → Option Value
  | [] => none
  | (x, v) :: r => if x = k then some v else find k r
def put (k : Int) (u : Value) : Ents → Ents
  | [] => [(k, u)]
  | (x, v) :: r => if x = k then (x, u) :: r else (x, v) :: put k u r
def del (k : Int) : Ents → Ents
  | [] => []
  | (x, v) :: r => if x = k then r else (x, v) :: del k r
def pairs (es : List MapEntry) : List (Value × Value) := es.map fun e => (e.key, e.val)
def vals (l : Ents) : List (Value × Value) := l.map fun p => (.int .i64 p.1, p.2)
/-- Block b is a map that holds these entries. -/
def MB (w : World) (b : Nat) (l : Ents) : Prop := ∃ es clock, w.heap[b]? = some (.map es clock) ∧ pairs es.toList = vals l ∧ Stamped es clock
theorem MB.lt {w : World} {b : Nat} {l : Ents} (h : MB w b l) : b < w.heap.size := by
  obtain ⟨es, c, h1, _⟩ := h
  exact (Array.getElem?_eq_some_iff.1 h1).1
theorem MB.kept {w w' : World} {b : Nat} {l : Ents} (h : MB w b l) (hb : w'.heap[b]? = w.heap[b]?) : MB w' b l := by
  obtain ⟨es, c, h1, h2, h3⟩ := h
  exact ⟨es, c, hb.trans h1, h2, h3⟩
theorem MB.below {w w' : World} {b : Nat} {l : Ents} (h : MB w b l) (hb : Below w.heap.size w w') : MB w' b l := h.kept (hb.block b h.lt)
theorem MB.size {w : World} {b : Nat} {l : Ents} (h : MB w b l) : ∃ es clock, w.heap[b]? = some (.map es clock) ∧ es.size = l.length := by
  obtain ⟨es, c, h1, h2, _⟩ := h
  refine ⟨es, c, h1, ?_⟩
  have := congrArg List.length h2
  simpa [pairs, vals] using this
theorem MB.made (w : World) : MB (w.alloc (.map #[] 0)) w.heap.size [] := ⟨#[], 0, by simp [World.alloc, -World.alloc_eq], rfl, stamped_empty 0⟩
theorem findNow_ents (k : Int) : ∀ (es : List MapEntry) (l : Ents) (i : Nat), pairs es = vals l →
    (∃ j e, Instr.findNow (.int .i64) (.int .i64 k) es i = some (some (i + j, e.val)) ∧ es[j]? = some e ∧ e.key = .int .i64 k ∧ find k l = some e.val ∧
      (∀ u, pairs (es.modify j fun e => { e with key := .int .i64 k, val := u }) = vals (put k u l) ∧ pairs (es.eraseIdx j) = vals (del k l))) ∨
    (Instr.findNow (.int .i64) (.int .i64 k) es i = some none ∧ find k l = none ∧ (∀ u c, pairs (es ++ [⟨.int .i64 k, u, c⟩]) = vals (put k u l)) ∧ del k l = l) := by
  intro es
  induction es with
  | nil =>
    intro l i h
    have : l = [] := by cases l with
      | nil => rfl
      | cons a r => simp [pairs, vals] at h
    subst this
    exact .inr ⟨rfl, rfl, fun u c => rfl, rfl⟩
  | cons e r ih =>
    intro l i h
    cases l with
    | nil => simp [pairs, vals] at h
    | cons p q =>
      obtain ⟨x, v⟩ := p
      simp only [pairs, vals, List.map_cons, List.cons.injEq, Prod.mk.injEq] at h
      obtain ⟨⟨h1, h2⟩, h3⟩ := h
      by_cases hx : x = k
      · subst hx
        have hb : (x == x) = true := by simp
        refine .inl ⟨0, e, ?_, rfl, h1, by simp [find, h2], fun u => ⟨?_, ?_⟩⟩
        · unfold Instr.findNow
          rw [h1]
          simp [Instr.sameNow, hb]
        · simp [pairs, vals, put, h3]
        · simp [pairs, vals, del, h3]
      · have hb : (k == x) = false := by
          simp
          exact fun e => hx e.symm
        have hs : Instr.findNow (.int .i64) (.int .i64 k) (e :: r) i = Instr.findNow (.int .i64) (.int .i64 k) r (i + 1) := by
          conv => lhs; unfold Instr.findNow
          rw [h1]
          simp [Instr.sameNow, hb]
        rcases ih q (i + 1) h3 with ⟨j, e', g1, g2, g3, g4, g5⟩ | ⟨g1, g2, g3, g4⟩
        · refine .inl ⟨j + 1, e', ?_, by simpa using g2, g3, by simp [find, hx, g4], fun u => ⟨?_, ?_⟩⟩
          · rw [hs, g1, show i + 1 + j = i + (j + 1) by omega]
          · have := (g5 u).1
            simp only [pairs, vals] at this
            simp [pairs, vals, put, hx, h1, h2, this]
          · have := (g5 u).2
            simp only [pairs, vals] at this
            simp [pairs, vals, del, hx, h1, h2, this]
        · refine .inr ⟨by rw [hs, g1], by simp [find, hx, g2], fun u c => ?_, by simp [del, hx, g4]⟩
          have := g3 u c
          simp only [pairs, vals] at this
          simp only [pairs, vals, List.cons_append, List.map_cons, put, hx, if_false, this, h1, h2]
section
variable {P : Program} {t key elem : TypeId} {w : World} {b : Nat} {l : Ents}
theorem isKey (k : Int) : IsKey (.int .i64) (.int .i64 k) := by simp [IsKey]
theorem none_key (k : Int) : ∀ (es : List MapEntry) (l : Ents), pairs es = vals l → find k l = none → ∀ x ∈ es, x.key ≠ .int .i64 k := by
  intro es
  induction es with
  | nil => intro l _ _ x hx; cases hx
  | cons e r ih =>
    intro l h hf x hx
    cases l with
    | nil => simp [pairs, vals] at h
    | cons p q =>
      obtain ⟨y, v⟩ := p
      simp only [pairs, vals, List.map_cons, List.cons.injEq, Prod.mk.injEq] at h
      obtain ⟨⟨h1, h2⟩, h3⟩ := h
      unfold find at hf
      by_cases hy : y = k
      · rw [if_pos hy] at hf; cases hf
      · rw [if_neg hy] at hf
        rcases List.mem_cons.1 hx with rfl | hx
        · rw [h1]; intro e9; cases e9; exact hy rfl
        · exact ih q h3 hf x hx
theorem run_lookup (ht : P.underlying t = some (.map key elem)) (hk : P.underlying key = some (.int .i64)) (h : MB w b l) (k : Int) (ok : Bool) (z : Value) (hz : (zeroValue elem).run P w = .ok z w) :
    (Instr.lookup t (.map (some b)) (.int .i64 k) ok).run P w = .ok (if ok then .tuple #[(find k l).getD z, .bool (find k l).isSome] else (find k l).getD z) w := by
  obtain ⟨es, c, h1, h2, _⟩ := h
  rcases findNow_ents k es.toList l 0 h2 with ⟨j, e, g1, _, _, g2, _⟩ | ⟨g1, g2, _⟩
  · cases ok <;> simp [Instr.lookup, run_underlying ht, MapKept.run_getObj_map h1, MapKept.run_checkKey hk (isKey k), MapKept.run_findKey hk g1, g2, Result.andThen]
  · cases ok <;> simp [Instr.lookup, run_underlying ht, MapKept.run_getObj_map h1, MapKept.run_checkKey hk (isKey k), MapKept.run_findKey hk g1, g2, hz, Result.andThen]
theorem run_update (ht : P.underlying t = some (.map key elem)) (hk : P.underlying key = some (.int .i64)) (h : MB w b l) (k : Int) (u : Value) :
    ∃ w', (Instr.mapUpdate t (.map (some b)) (.int .i64 k) u).run P w = .ok () w' ∧ MB w' b (put k u l) ∧ w.grownBy w' (some b) ∧ w'.heap.size = w.heap.size := by
  obtain ⟨es, c, h1, h2, hst⟩ := h
  have hg : ∀ o, w.grownBy { w with heap := w.heap.setIfInBounds b o } (some b) := fun o => ⟨rfl, rfl, rfl, by simp, fun i _ hi => (heap_set h1).2 i (fun e => hi (by rw [e]))⟩
  rcases findNow_ents k es.toList l 0 h2 with ⟨j, e, g1, g2, g3, _, g5⟩ | ⟨g1, g0, g3, _⟩
  · refine ⟨{ w with heap := w.heap.setIfInBounds b (.map (es.modify j fun e => { e with key := .int .i64 k, val := u }) c) }, ?_, ⟨_, _, (heap_set h1).1, ?_, stamped_modify hst _ _ (fun _ _ => rfl) (fun e9 _ he9 => by have hj : es[j]? = some e := (by rw [← Array.getElem?_toList]; exact g2); rw [hj] at he9; cases he9; exact g3.symm)⟩, hg _, by simp⟩
    · have hj : es[j]? = some e := by rw [← Array.getElem?_toList]; exact g2
      simp [Instr.mapUpdate, run_underlying ht, MapKept.run_getObj_map h1, MapKept.run_checkKey hk (isKey k), MapKept.run_findKey hk g1, MapKept.run_keyThatStays (isKey k), MapKept.run_setObj_map _ h1, Result.andThen, hj, g3]
    · rw [Array.toList_modify]; exact (g5 u).1
  · refine ⟨{ w with heap := w.heap.setIfInBounds b (.map (es.push ⟨.int .i64 k, u, c⟩) (c + 1)) }, ?_, ⟨_, _, (heap_set h1).1, ?_, stamped_push hst (none_key k _ l h2 g0)⟩, hg _, by simp⟩
    · simp [Instr.mapUpdate, run_underlying ht, MapKept.run_getObj_map h1, MapKept.run_checkKey hk (isKey k), MapKept.run_findKey hk g1, MapKept.run_setObj_map _ h1, Result.andThen]
    · rw [Array.toList_push]; exact g3 u c
theorem run_delete (ht : P.underlying t = some (.map key elem)) (hk : P.underlying key = some (.int .i64)) (h : MB w b l) (k : Int) (ts : Array TypeId) (h0 : ts[0]? = some t) (ty : TypeId) :
    ∃ w', (Builtin.delete_ ts ty #[.map (some b), .int .i64 k]).run P w = .ok (.tuple #[]) w' ∧ MB w' b (del k l) ∧ w.grownBy w' (some b) ∧ w'.heap.size = w.heap.size := by
  obtain ⟨es, c, h1, h2, hst⟩ := h
  have hg : ∀ o, w.grownBy { w with heap := w.heap.setIfInBounds b o } (some b) := fun o => ⟨rfl, rfl, rfl, by simp, fun i _ hi => (heap_set h1).2 i (fun e => hi (by rw [e]))⟩
  rcases findNow_ents k es.toList l 0 h2 with ⟨j, e, g1, g2, g3, _, g5⟩ | ⟨g1, _, _, g4⟩
  · have hlt : j < es.size := by have := (List.getElem?_eq_some_iff.1 g2).1; simpa using this
    refine ⟨{ w with heap := w.heap.setIfInBounds b (.map (es.eraseIdxIfInBounds (0 + j)) c) }, ?_, ⟨_, _, (heap_set h1).1, ?_, stamped_erase hst _⟩, hg _, by simp⟩
    · simp [Builtin.delete_, h0, run_underlying ht, MapKept.run_getObj_map h1, MapKept.run_checkKey hk (isKey k), MapKept.run_findKey hk g1, MapKept.run_setObj_map _ h1, Result.andThen]
    · rw [Nat.zero_add]
      have : (es.eraseIdxIfInBounds j).toList = es.toList.eraseIdx j := by simp [Array.eraseIdxIfInBounds, hlt]
      rw [this]; exact (g5 (.bool true)).2
  · refine ⟨{ w with heap := w.heap.setIfInBounds b (.map es c) }, ?_, ⟨_, _, (heap_set h1).1, by rw [g4]; exact h2, hst⟩, hg _, by simp⟩
    · simp [Builtin.delete_, h0, run_underlying ht, MapKept.run_getObj_map h1, MapKept.run_checkKey hk (isKey k), MapKept.run_findKey hk g1, MapKept.run_setObj_map _ h1, Result.andThen]
theorem run_len (ht : P.underlying t = some (.map key elem)) (h : MB w b l) (ty : TypeId) : (Builtin.len_ #[t] ty #[.map (some b)]).run P w = .ok (.int .i64 l.length) w := by
  obtain ⟨es, c, h1, h2⟩ := h.size
  simp [Builtin.len_, run_underlying ht, MapKept.run_getObj_map h1, h2, Result.andThen, goInt]
end
section
variable {P : Program} {t key elem : TypeId} {ops : Array Oper} {rest : List Oper} {o : Oper} {a : Act} {Q : Exit → Act → World → Prop}
theorem at_update (w : World) (hg : o.guard = none) (m x v : Operand) (hop : o.op = Op.mapUpdate t m x v) (ht : P.underlying t = some (.map key elem)) (hk : P.underlying key = some (.int .i64))
    (b : Nat) (l : Ents) (hm : a.eval m = .map (some b)) (h : MB w b l) (k : Int) (u : Value) (hx : a.eval x = .int .i64 k) (hv : a.eval v = u)
    (hK : ∀ w', MB w' b (put k u l) → w.grownBy w' (some b) → w'.heap.size = w.heap.size → wpList P ops Q rest (a.put o.dst undef) w') : wpList P ops Q (o :: rest) a w := by
  refine wpList_plain hg fun K' hK' => ?_
  obtain ⟨w', hrun, r1, r2, r3⟩ := run_update ht hk h k u
  unfold Oper.wp
  simp [execOp, hop, hm, hx, hv, hrun, Result.andThen]
  exact hK' _ _ (hK w' r1 r2 r3)
theorem at_look (w : World) (hg : o.guard = none) (m x : Operand) (ok : Bool) (hop : o.op = Op.lookup t m x ok) (ht : P.underlying t = some (.map key elem)) (hk : P.underlying key = some (.int .i64))
    (b : Nat) (l : Ents) (hm : a.eval m = .map (some b)) (h : MB w b l) (k : Int) (hx : a.eval x = .int .i64 k) (z : Value) (hz : (zeroValue elem).run P w = .ok z w) (r : Value)
    (hr : (if ok then .tuple #[(find k l).getD z, .bool (find k l).isSome] else (find k l).getD z) = r)
    (hK : wpList P ops Q rest (a.put o.dst r) w) : wpList P ops Q (o :: rest) a w := by
  refine wpList_plain hg fun K' hK' => ?_
  have hrun := run_lookup ht hk h k ok z hz
  rw [hr] at hrun
  unfold Oper.wp
  simp [execOp, hop, hm, hx, hrun, Result.andThen]
  exact hK' _ _ hK
end
end Go.MapI

/- Replies as values and back, plain: a row of simple replies becomes a table's keys and values in turn. -/
namespace Go.Proofs.YtjfejmdnjbekkaaGreatDoor
open Go.ChangeShapes Go.WideShapes Go.ChangeAt Go.RowKit

/-- A reply that is an int or a text. -/
def okR (x : S4) : Prop := (x.1 = 3 ∧ x.2.2 = ⟨#[]⟩) ∨ (x.1 = 4 ∧ x.2.1 = 0)
/-- A simple reply as a value; a value as a reply. -/
def pv (x : S4) : S4 := if x.1 = 3 then (2, x.2.1, ⟨#[]⟩) else (3, 0, x.2.2)
def rp (y : S4) : S4 := if y.1 = 2 then (3, y.2.1, ⟨#[]⟩) else (4, 0, y.2.2)
theorem rp_pv (x : S4) (h : okR x) : rp (pv x) = x := by
  obtain ⟨k, n, s⟩ := x
  rcases h with ⟨h1, h2⟩ | ⟨h1, h2⟩ <;> (simp only at h1 h2; subst h1 h2; rfl)
/-- A table's row: keys from i + 1 on, and their values. -/
def plsF : Nat → List S4 → List S4
  | _, [] => []
  | i, x :: r => (2, (i : Int) + 1, ⟨#[]⟩) :: pv x :: plsF (i + 1) r
def pls (xs : List S4) : List S4 := plsF 0 xs
theorem plsF_len : ∀ (xs : List S4) (i : Nat), (plsF i xs).length = 2 * xs.length
  | [], _ => rfl
  | x :: r, i => by
    show (plsF (i + 1) r).length + 1 + 1 = 2 * (r.length + 1)
    rw [plsF_len r (i + 1)]
    omega
theorem plsF_snoc (x : S4) : ∀ (xs : List S4) (i : Nat), plsF i (xs ++ [x]) = plsF i xs ++ [(2, ((i + xs.length : Nat) : Int) + 1, ⟨#[]⟩), pv x]
  | [], _ => rfl
  | y :: r, i => by
    show (2, (i : Int) + 1, ⟨#[]⟩) :: pv y :: plsF (i + 1) (r ++ [x]) = _
    rw [plsF_snoc x r (i + 1), show i + 1 + r.length = i + (y :: r).length by rw [List.length_cons]; omega]
    rfl
theorem pls_snoc (xs : List S4) (x : S4) : pls (xs ++ [x]) = pls xs ++ [(2, ((xs.length : Nat) : Int) + 1, ⟨#[]⟩), pv x] := by
  have := plsF_snoc x xs 0
  rwa [Nat.zero_add] at this
theorem plsF_at : ∀ (xs : List S4) (i j : Nat) (x : S4), xs[j]? = some x → (plsF i xs)[2 * j]? = some (2, ((i + j : Nat) : Int) + 1, ⟨#[]⟩) ∧ (plsF i xs)[2 * j + 1]? = some (pv x)
  | [], _, _, _, h => by cases h
  | y :: r, i, 0, x, h => by
    cases h
    exact ⟨rfl, rfl⟩
  | y :: r, i, j + 1, x, h => by
    have ih := plsF_at r (i + 1) j x h
    rw [show i + 1 + j = i + (j + 1) by omega] at ih
    have e : plsF i (y :: r) = (2, (i : Int) + 1, ⟨#[]⟩) :: pv y :: plsF (i + 1) r := rfl
    rw [e, show 2 * (j + 1) = 2 * j + 1 + 1 by omega, List.getElem?_cons_succ, List.getElem?_cons_succ, List.getElem?_cons_succ, List.getElem?_cons_succ]
    exact ih
theorem pls_at (xs : List S4) (j : Nat) (x : S4) (h : xs[j]? = some x) : (pls xs)[2 * j]? = some (2, (j : Int) + 1, ⟨#[]⟩) ∧ (pls xs)[2 * j + 1]? = some (pv x) := by
  have := plsF_at xs 0 j x h
  rwa [Nat.zero_add] at this
/-- The map that Reply makes of a table: what it holds behind i pairs. -/
def entR (xs : List S4) : Nat → MapI.Ents
  | 0 => []
  | i + 1 => MapI.put ((i : Int) + 1) (.agg (c4 (pv ((xs[i]?).getD (0, 0, ⟨#[]⟩)))).toArray) (entR xs i)
theorem find_putI (k q : Int) (u : Value) : ∀ l : MapI.Ents, MapI.find q (MapI.put k u l) = if k = q then some u else MapI.find q l
  | [] => by
    by_cases h : k = q <;> simp [MapI.put, MapI.find, h]
  | (x, v) :: r => by
    have ih := find_putI k q u r
    by_cases h1 : x = k
    · subst h1
      by_cases h : x = q <;> simp [MapI.put, MapI.find, h]
    · by_cases h : k = q
      · subst h
        simp [MapI.put, MapI.find, h1, ih]
      · have e : MapI.put k u ((x, v) :: r) = (x, v) :: MapI.put k u r := if_neg h1
        rw [e, if_neg h]
        by_cases h2 : x = q
        · simp [MapI.find, h2]
        · simp [MapI.find, h2, ih, h]
theorem entR_find (xs : List S4) : ∀ (i q : Nat), MapI.find ((q : Int) + 1) (entR xs i) = if q < i then some (.agg (c4 (pv ((xs[q]?).getD (0, 0, ⟨#[]⟩)))).toArray) else none
  | 0, q => by rw [if_neg (by omega)]; rfl
  | i + 1, q => by
    show MapI.find ((q : Int) + 1) (MapI.put ((i : Int) + 1) _ (entR xs i)) = _
    rw [find_putI, entR_find xs i q]
    by_cases h : i = q
    · subst h
      rw [if_pos rfl, if_pos (by omega)]
    · rw [if_neg (by omega)]
      by_cases h2 : q < i
      · rw [if_pos h2, if_pos (by omega)]
      · rw [if_neg h2, if_neg (by omega)]
end Go.Proofs.YtjfejmdnjbekkaaGreatDoor

/- host.Plain, host.Reply of what has no elements. -/
namespace Go.Proofs.YtjfejmdnjbekkaaGreatDoor
open Go.ChangeShapes Go.WideShapes Go.ChangeAt Go.RowKit

theorem blk2 (w : World) (o1 o2 : Obj) : ((w.alloc o1).alloc o2).heap[w.heap.size + 1]? = some o2 := by
  have h := heap_alloc_new (w.alloc o1) o2
  rwa [World.size_alloc] at h
theorem two_old (w : World) (o1 o2 : Obj) : Below w.heap.size w ((w.alloc o1).alloc o2) := ((Below.refl _ _).alloc (Nat.le_refl _) _).alloc (by rw [World.size_alloc]; omega) _
set_option maxRecDepth 100000 in
set_option maxHeartbeats 4000000 in
theorem htext_any (s : ByteArray) (w : World) : Calls Tryz.prog 17 #[.string s] w fun e w' => e = .returned (.agg #[.int .i64 3, .int .i64 0, .string s, .slice none 0 0]) ∧ Below w.heap.size w w' := by
  go_enter Tryz.func17, Tryz.ntmps17
  go_wp2
  exact bodyPost_ret (v := .agg #[.int .i64 3, .int .i64 0, .string s, .slice none 0 0]) (by simp [results, Tryz.results17, go_sem]) rfl ⟨rfl, (Below.refl _ _).alloc (Nat.le_refl _) _⟩
set_option maxRecDepth 100000 in
set_option maxHeartbeats 4000000 in
theorem hPlain_int (n : Int) (s : ByteArray) (w : World) : Calls Tryz.prog 8 #[.agg #[.int .i64 3, .int .i64 n, .string s, .slice none 0 0]] w fun e w' => e = .returned (.tuple #[.agg #[.int .i64 2, .int .i64 n, .string ⟨#[]⟩, .slice none 0 0], .bool false]) ∧ Below w.heap.size w w' := by
  go_enter Tryz.func8, Tryz.ntmps8
  go_wp2
  obtain ⟨⟨c0, c1, c2, c3⟩, _⟩ := cells4 (blk2 w (.cells #[.int .i64 3, .int .i64 n, .string s, .slice none 0 0] 24) (.cells #[.int .i64 2, .int .i64 n, .string ⟨#[]⟩, .slice none 0 0] 27))
  exact bodyPost_ret (v := .tuple #[.agg #[.int .i64 2, .int .i64 n, .string ⟨#[]⟩, .slice none 0 0], .bool false]) (by simp [results, Tryz.results8, go_sem, c0, c1, c2, c3]) rfl ⟨rfl, two_old w _ _⟩
set_option maxRecDepth 100000 in
set_option maxHeartbeats 4000000 in
theorem hPlain_nil (n : Int) (s : ByteArray) (w : World) : Calls Tryz.prog 8 #[.agg #[.int .i64 5, .int .i64 n, .string s, .slice none 0 0]] w fun e w' => e = .returned (.tuple #[.agg #[.int .i64 0, .int .i64 0, .string ⟨#[]⟩, .slice none 0 0], .bool false]) ∧ Below w.heap.size w w' := by
  go_enter Tryz.func8, Tryz.ntmps8
  go_wp2
  obtain ⟨⟨c0, c1, c2, c3⟩, _⟩ := cells4 (blk2 w (.cells #[.int .i64 5, .int .i64 n, .string s, .slice none 0 0] 24) (.cells #[.int .i64 0, .int .i64 0, .string ⟨#[]⟩, .slice none 0 0] 27))
  exact bodyPost_ret (v := .tuple #[.agg #[.int .i64 0, .int .i64 0, .string ⟨#[]⟩, .slice none 0 0], .bool false]) (by simp [results, Tryz.results8, go_sem, c0, c1, c2, c3]) rfl ⟨rfl, two_old w _ _⟩
set_option maxRecDepth 100000 in
set_option maxHeartbeats 4000000 in
theorem hPlain_bulk (n : Int) (s : ByteArray) (w : World) : Calls Tryz.prog 8 #[.agg #[.int .i64 4, .int .i64 n, .string s, .slice none 0 0]] w fun e w' => e = .returned (.tuple #[.agg #[.int .i64 3, .int .i64 0, .string s, .slice none 0 0], .bool false]) ∧ Below w.heap.size w w' := by
  have TX := Lib.hid (fun X => htext_any s X)
  have b0 := Lib.hid (blk2 w (.cells #[.int .i64 4, .int .i64 n, .string s, .slice none 0 0] 24) (.cells #[.int .i64 0, .int .i64 0, .string ⟨#[]⟩, .slice none 0 0] 27))
  have B0 := Lib.hid (two_old w (.cells #[.int .i64 4, .int .i64 n, .string s, .slice none 0 0] 24) (.cells #[.int .i64 0, .int .i64 0, .string ⟨#[]⟩, .slice none 0 0] 27))
  have h1 := Nat.le_succ w.heap.size
  go_enter Tryz.func8, Tryz.ntmps8
  go_wp2_with (first | (go_at_call 17; (with_reducible refine (TX.out _).mono ?_); rintro e w1 ⟨rfl, h2⟩; have B1 := Lib.hid (B0.out.trans (h2.mono (Below.size B0.out))); obtain ⟨⟨c0, c1, c2, c3⟩, ⟨f0, f1, f2, f3⟩⟩ := cells4 (blk_below b0.out h2); clear h2))
  exact bodyPost_ret (v := .tuple #[.agg #[.int .i64 3, .int .i64 0, .string s, .slice none 0 0], .bool false]) (by simp [results, Tryz.results8, go_sem, c0, c1, c2, c3]) rfl ⟨rfl, ((((B1.out.setCell h1 _).setCell h1 _).setCell h1 _).setCell h1 _)⟩
set_option maxRecDepth 100000 in
set_option maxHeartbeats 4000000 in
theorem hPlain_err {W0 : World} (hT : Tab W0) (n : Int) (hn : I64 n) (s : ByteArray) (w : World) (hi : Below W0.heap.size W0 w) : Calls Tryz.prog 8 #[.agg #[.int .i64 2, .int .i64 n, .string s, .slice none 0 0]] w fun e w' => e = .returned (.tuple #[.agg #[.int .i64 3, .int .i64 0, .string (⟨#[69, 82, 82, 32]⟩ ++ numT n), .slice none 0 0], .bool true]) ∧ Below w.heap.size w w' := by
  have TX := Lib.hid (fun t X => htext_any t X)
  have b0 := Lib.hid (blk2 w (.cells #[.int .i64 2, .int .i64 n, .string s, .slice none 0 0] 24) (.cells #[.int .i64 0, .int .i64 0, .string ⟨#[]⟩, .slice none 0 0] 27))
  have B0 := Lib.hid (two_old w (.cells #[.int .i64 2, .int .i64 n, .string s, .slice none 0 0] 24) (.cells #[.int .i64 0, .int .i64 0, .string ⟨#[]⟩, .slice none 0 0] 27))
  have PR := Lib.hid (fun X (hX : Below w.heap.size w X) => Print79 hT n hn X (hi.trans (hX.mono (Below.size hi))))
  have hz := numT_size n hn
  obtain ⟨t, ht⟩ : ∃ t, numT n = t := ⟨_, rfl⟩
  simp only [ht] at PR hz ⊢
  have q1 : ¬ ((⟨#[69, 82, 82, 32]⟩ : ByteArray).size + t.size > 9223372036854775807) := by
    have : (⟨#[69, 82, 82, 32]⟩ : ByteArray).size = 4 := rfl
    omega
  have h1 := Nat.le_succ w.heap.size
  clear hT hn hi hz ht
  go_enter Tryz.func8, Tryz.ntmps8
  go_wp2_with (first | (go_at_call 18; (with_reducible refine (PR.out _ B0.out).mono ?_); rintro e w1 ⟨rfl, h2⟩; have B1 := Lib.hid (B0.out.trans (h2.mono (Below.size B0.out))); have b1 := Lib.hid (blk_below b0.out h2); clear h2) | (go_at_call 17; (with_reducible refine (TX.out _ _).mono ?_); rintro e w2 ⟨rfl, h2⟩; have B2 := Lib.hid (B1.out.trans (h2.mono (Below.size B1.out))); obtain ⟨⟨c0, c1, c2, c3⟩, ⟨f0, f1, f2, f3⟩⟩ := cells4 (blk_below b1.out h2); clear h2))
  exact bodyPost_ret (v := .tuple #[.agg #[.int .i64 3, .int .i64 0, .string (⟨#[69, 82, 82, 32]⟩ ++ t), .slice none 0 0], .bool true]) (by simp [results, Tryz.results8, go_sem, c0, c1, c2, c3]) rfl ⟨rfl, ((((B2.out.setCell h1 _).setCell h1 _).setCell h1 _).setCell h1 _)⟩
set_option maxRecDepth 100000 in
set_option maxHeartbeats 4000000 in
theorem hReply_int (n : Int) (s : ByteArray) (w : World) : Calls Tryz.prog 12 #[.agg #[.int .i64 2, .int .i64 n, .string s, .slice none 0 0]] w fun e w' => e = .returned (.agg #[.int .i64 3, .int .i64 n, .string ⟨#[]⟩, .slice none 0 0]) ∧ Below w.heap.size w w' := by
  go_enter Tryz.func12, Tryz.ntmps12
  go_wp2
  obtain ⟨⟨c0, c1, c2, c3⟩, _⟩ := cells4 (blk2 w (.cells #[.int .i64 2, .int .i64 n, .string s, .slice none 0 0] 27) (.cells #[.int .i64 3, .int .i64 n, .string ⟨#[]⟩, .slice none 0 0] 24))
  exact bodyPost_ret (v := .agg #[.int .i64 3, .int .i64 n, .string ⟨#[]⟩, .slice none 0 0]) (by simp [results, Tryz.results12, go_sem, c0, c1, c2, c3]) rfl ⟨rfl, two_old w _ _⟩
set_option maxRecDepth 100000 in
set_option maxHeartbeats 4000000 in
theorem hReply_text (n : Int) (s : ByteArray) (w : World) : Calls Tryz.prog 12 #[.agg #[.int .i64 3, .int .i64 n, .string s, .slice none 0 0]] w fun e w' => e = .returned (.agg #[.int .i64 4, .int .i64 0, .string s, .slice none 0 0]) ∧ Below w.heap.size w w' := by
  have TX := Lib.hid (fun X => Bulk67 s X)
  have b0 := Lib.hid (blk2 w (.cells #[.int .i64 3, .int .i64 n, .string s, .slice none 0 0] 27) (.cells #[.int .i64 0, .int .i64 0, .string ⟨#[]⟩, .slice none 0 0] 24))
  have B0 := Lib.hid (two_old w (.cells #[.int .i64 3, .int .i64 n, .string s, .slice none 0 0] 27) (.cells #[.int .i64 0, .int .i64 0, .string ⟨#[]⟩, .slice none 0 0] 24))
  have h1 := Nat.le_succ w.heap.size
  go_enter Tryz.func12, Tryz.ntmps12
  go_wp2_with (first | (go_at_call 20; (with_reducible refine (TX.out _).mono ?_); rintro e w1 ⟨rfl, h2⟩; have B1 := Lib.hid (B0.out.trans (h2.mono (Below.size B0.out))); obtain ⟨⟨c0, c1, c2, c3⟩, ⟨f0, f1, f2, f3⟩⟩ := cells4 (blk_below b0.out h2); clear h2))
  exact bodyPost_ret (v := .agg #[.int .i64 4, .int .i64 0, .string s, .slice none 0 0]) (by simp [results, Tryz.results12, go_sem, c0, c1, c2, c3]) rfl ⟨rfl, ((((B1.out.setCell h1 _).setCell h1 _).setCell h1 _).setCell h1 _)⟩
end Go.Proofs.YtjfejmdnjbekkaaGreatDoor

/- Memory, Mark, effect.takes, effect.May, effect.Apply at an entry of a text. -/
namespace Go.Proofs.YtjfejmdnjbekkaaGreatDoor
open Go.ChangeShapes Go.WideShapes Go.ChangeAt Go.RowKit

theorem sMem_is (bS : Nat) (v : Value) (mem : Int) (w : World) (h : w.heap[bS]? = some (.cells #[v, .int .i64 mem] 57)) : Calls Tryz.prog 40 #[.pointer (some ⟨bS, 0, none⟩)] w fun e w' => e = .returned (.int .i64 mem) ∧ w' = w := by
  obtain ⟨c1, _⟩ := mem53 h
  have hb := lt_blk h
  go_enter Tryz.func40, Tryz.ntmps40
  go_wp2
  go_ret
  exact ⟨rfl, rfl⟩
theorem cellsU {X : World} {b : Nat} {a c : Value} (h : X.heap[b]? = some (.cells #[a, c] 60)) : X.cell? ⟨b, 0, none⟩ = some a ∧ X.cell? ⟨b, 1, none⟩ = some c ∧ X.frozen? ⟨b, 1, none⟩ = false := by
  refine ⟨?_, ?_, ?_⟩ <;> simp [World.cell?, World.frozen?, h]
theorem uMark_is (b : Nat) (v : Value) (w : World) (h : w.heap[b]? = some (.cells #[v, .slice none 0 0] 60)) : Calls Tryz.prog 39 #[.pointer (some ⟨b, 0, none⟩)] w fun e w' => e = .returned (.int .i64 0) ∧ w' = w := by
  obtain ⟨_, c1, _⟩ := cellsU h
  have hb := lt_blk h
  go_enter Tryz.func39, Tryz.ntmps39
  go_wp2
  go_ret
  exact ⟨rfl, rfl⟩
/-- An effect that lays a text. -/
abbrev effV (k t : ByteArray) : Value := .agg #[.string k, .int .i64 1, .string t, .slice none 0 0, .slice none 0 0, .slice none 0 0, .slice none 0 0, .int .i64 0]
theorem takes_no (k t : ByteArray) (w : World) : Calls Tryz.prog 64 #[effV k t] w fun e w' => e = .returned (.bool false) ∧ Below w.heap.size w w' := by
  go_enter Tryz.func64, Tryz.ntmps64
  go_wp2
  go_ret
  exact ⟨by simp, alloc_old⟩
set_option maxRecDepth 100000 in
set_option maxHeartbeats 2000000 in
theorem fMay_yes (k t : ByteArray) (hk1 : 1 ≤ k.size) (hk : k.size ≤ 512) (ht : t.size ≤ 4096) (w : World) : Calls Tryz.prog 63 #[effV k t] w fun e w' => e = .returned (.bool true) ∧ Below w.heap.size w w' := by
  have TK := Lib.hid (fun w => takes_no k t w)
  have MY := Lib.hid (fun w => May15 k t hk1 hk ht 0 (by decide) (by decide) w)
  have z0 := Lib.hid (new_next w (.cells #[.string k, .int .i64 1, .string t, .slice none 0 0, .slice none 0 0, .slice none 0 0, .slice none 0 0, .int .i64 0] 86) (.cells #[.string k, .int .i64 1, .string t, .slice none 0 0, .slice none 0 0, .slice none 0 0, .slice none 0 0, .int .i64 0] 84))
  have A1 := Lib.hid (two_old w (.cells #[.string k, .int .i64 1, .string t, .slice none 0 0, .slice none 0 0, .slice none 0 0, .slice none 0 0, .int .i64 0] 86) (.cells #[.string k, .int .i64 1, .string t, .slice none 0 0, .slice none 0 0, .slice none 0 0, .slice none 0 0, .int .i64 0] 84))
  go_enter Tryz.func63, Tryz.ntmps63
  go_wp2_with (first | (go_at_call 64; (with_reducible refine (TK.out _).mono ?_); rintro e w1 ⟨rfl, h1⟩; have B1 := Lib.hid (A1.out.trans (h1.mono (Below.size A1.out))); obtain ⟨⟨c0, c1, c2, c3, c4, c5, c6, c7⟩, _, cz⟩ := cells8 (blk_below z0.out h1); clear h1) | (go_at_call 70; (with_reducible refine (MY.out _).mono ?_); rintro e w2 ⟨rfl, h2⟩))
  go_ret
  exact ⟨by simp, B1.out.trans (h2.mono (Below.size B1.out))⟩
set_option maxRecDepth 100000 in
set_option maxHeartbeats 2000000 in
theorem Apply_new (bS bM : Nat) (k t : ByteArray) (hk1 : 1 ≤ k.size) (hk : k.size ≤ 512) (ht : t.size ≤ 4096) (mem : Int) (w : World) (hmem : w.heap[bS]? = some (.cells #[.map (some bM), .int .i64 mem] 57)) (h : SP w bS bM []) : Calls Tryz.prog 48 #[.pointer (some ⟨bS, 0, none⟩), effV k t] w fun e w' => e = .returned (.int .i64 0) ∧ (w'.heap[bS]? = some (.cells #[.map (some bM), .int .i64 (IntKind.i64.wrap (mem + (48 + (k.size : Int) + t.size)))] 57) ∧ SP w' bS bM [(k, effV k t)]) ∧ Kp w.heap.size (fun i => i ≠ bS ∧ i ≠ bM) w w' := by
  have TK := Lib.hid (fun w => takes_no k t w)
  have MY := Lib.hid (fun w => fMay_yes k t hk1 hk ht w)
  have z0 := Lib.hid (heap_alloc_new w (.cells #[.string k, .int .i64 1, .string t, .slice none 0 0, .slice none 0 0, .slice none 0 0, .slice none 0 0, .int .i64 0] 86))
  have A1 := Lib.hid (alloc_old (w := w) (o := .cells #[.string k, .int .i64 1, .string t, .slice none 0 0, .slice none 0 0, .slice none 0 0, .slice none 0 0, .int .i64 0] 86))
  have PU := Lib.hid (fun X (hX : Below w.heap.size w X) => Put_mem bS bM [] k t hk1 hk ht 0 (by decide) (by decide) mem X (blk_below hmem hX) (h.below hX) rfl (by simp))
  have hb := lt_blk hmem
  clear hmem h
  go_enter Tryz.func48, Tryz.ntmps48
  go_wp2_with (first | (go_at_call 63; (with_reducible refine (MY.out _).mono ?_); rintro e w1 ⟨rfl, h1⟩; have z1 := Lib.hid (blk_below z0.out h1); have B1 := Lib.hid (A1.out.trans (h1.mono (Below.size A1.out))); clear h1; obtain ⟨⟨c0, c1, c2, c3, c4, c5, c6, c7⟩, _, cz⟩ := cells8 z1.out) | (go_at_call 64; (with_reducible refine (TK.out _).mono ?_); rintro e w2 ⟨rfl, h2⟩; have z2 := Lib.hid (blk_below z1.out h2); have B2 := Lib.hid (B1.out.trans (h2.mono (Below.size B1.out))); clear h2; clear c0 c1 c2 c3 c4 c5 c6 c7 cz; obtain ⟨⟨c0, c1, c2, c3, c4, c5, c6, c7⟩, _, cz⟩ := cells8 z2.out) | (go_at_call 51; (with_reducible refine (PU.out _ B2.out).mono ?_); rintro e w3 ⟨rfl, h3, h4⟩))
  go_ret
  exact ⟨by simp, h3, (Kp.of B2.out).trans (h4.mono (Below.size B2.out) (fun i hi => hi))⟩
end Go.Proofs.YtjfejmdnjbekkaaGreatDoor
