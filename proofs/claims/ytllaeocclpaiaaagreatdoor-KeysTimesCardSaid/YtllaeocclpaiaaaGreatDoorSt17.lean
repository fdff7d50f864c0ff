/- What a call keeps: all blocks below a number that a set holds; effects in memory. -/
import Derived.Test.YtllaeocclpaiaaaGreatDoorSt9
import Derived.Test.YtllaeocclpaiaaaGreatDoorSt10
import Derived.Laws.AppendOwn
import Derived.Laws.OwnMore
namespace Go.Proofs.YtllaeocclpaiaaaGreatDoor
open Go.ChangeShapes Go.WideShapes Go.ChangeAt Go.RowKit

/-- Of the blocks below c nothing has turned but those that S leaves out. -/
structure Kp (c : Nat) (S : Nat → Prop) (w w' : World) : Prop where
  os : w'.os = w.os
  tape : w'.tape = w.tape
  output : w'.output = w.output
  size : w.heap.size ≤ w'.heap.size
  block : ∀ k, k < c → S k → w'.heap[k]? = w.heap[k]?
theorem Kp.refl (c : Nat) (S : Nat → Prop) (w : World) : Kp c S w w := ⟨rfl, rfl, rfl, Nat.le_refl _, fun _ _ _ => rfl⟩
theorem Kp.trans {c : Nat} {S : Nat → Prop} {x y z : World} (h : Kp c S x y) (k : Kp c S y z) : Kp c S x z :=
  ⟨k.os.trans h.os, k.tape.trans h.tape, k.output.trans h.output, Nat.le_trans h.size k.size, fun i hi hb => (k.block i hi hb).trans (h.block i hi hb)⟩
theorem Kp.of {c : Nat} {S : Nat → Prop} {w w' : World} (h : Below c w w') : Kp c S w w' := ⟨h.os, h.tape, h.output, h.size, fun i hi _ => h.block i hi⟩
theorem Kp.below {c n : Nat} {S : Nat → Prop} {w w' : World} (h : Kp c S w w') (hn : ∀ k, k < n → k < c ∧ S k) : Below n w w' := ⟨h.os, h.tape, h.output, h.size, fun i hi => h.block i (hn i hi).1 (hn i hi).2⟩
theorem Kp.mono {c d : Nat} {S T : Nat → Prop} {w w' : World} (h : Kp c S w w') (hd : d ≤ c) (hS : ∀ k, T k → S k) : Kp d T w w' := ⟨h.os, h.tape, h.output, h.size, fun i hi hb => h.block i (by omega) (hS i hb)⟩
theorem Kp.below_after {c n : Nat} {S : Nat → Prop} {w w' w'' : World} (h : Kp c S w w') (k : Below n w' w'') (hn : c ≤ n) : Kp c S w w'' := h.trans (.of (k.mono hn))
theorem Kp.setCell {c : Nat} {S : Nat → Prop} {w w' : World} (h : Kp c S w w') {p : Addr} (hp : ¬ (p.block < c ∧ S p.block)) (v : Value) : Kp c S w (w'.setCell p v) :=
  h.trans ⟨rfl, rfl, rfl, by simp [World.setCell], fun k hk hS => Below.heap_setCell _ _ _ _ (fun e => hp ⟨by omega, by rw [← e]; exact hS⟩)⟩
theorem Kp.alloc {c : Nat} {S : Nat → Prop} {w w' : World} (h : Kp c S w w') (hc : c ≤ w'.heap.size) (o : Obj) : Kp c S w (w'.alloc o) :=
  h.trans ⟨rfl, rfl, rfl, by simp, fun k hk _ => Below.heap_alloc _ _ _ (by omega)⟩
theorem Kp.drew {c : Nat} {S : Nat → Prop} {w w' : World} (h : Kp c S w w') : Kp c S w w'.drew := ⟨h.os, h.tape, h.output, h.size, h.block⟩
theorem Kp.grown {c : Nat} {S : Nat → Prop} {a w w' : World} {row : Option Nat} (h : Kp c S a w) (hg : w.grownBy w' row) (hB : c ≤ w.heap.size) (hr : ∀ k, row = some k → k < c → ¬ S k) : Kp c S a w' :=
  h.trans ⟨hg.os, hg.tape, hg.output, hg.size, fun k hk hS => hg.block k (by omega) (fun e => hr k e.symm hk hS)⟩
theorem Kp.cell {c : Nat} {S : Nat → Prop} {w w' : World} (h : Kp c S w w') {p : Addr} (hp : p.block < c) (hn : S p.block) : w'.cell? p = w.cell? p := World.cell?_of_block (h.block p.block hp hn)
theorem SP.kept {w w' : World} {bS bM : Nat} {l : MapT.Ents} (h : SP w bS bM l) (h1 : w'.heap[bS]? = w.heap[bS]?) (h2 : w'.heap[bM]? = w.heap[bM]?) : SP w' bS bM l := by
  obtain ⟨⟨mem, g1⟩, g2, g3⟩ := h
  exact ⟨⟨mem, h1.trans g1⟩, g2.kept h2, g3⟩
theorem SP.lt {w : World} {bS bM : Nat} {l : MapT.Ents} (h : SP w bS bM l) : bS < w.heap.size ∧ bM < w.heap.size := ⟨h.cell.2, h.2.1.lt⟩
theorem JB.kept {w w' : World} {j bS : Nat} {now : Int} {vA vl : Value} (h : JB w j bS now vA vl) (h1 : w'.heap[j]? = w.heap[j]?) : JB w' j bS now vA vl := h1.trans h
/-- An entry of a text. -/
abbrev entV (k : ByteArray) (kd : Int) (t : ByteArray) (u : Int) : Value := .agg #[.string k, .int .i64 kd, .string t, .slice none 0 0, .slice none 0 0, .slice none 0 0, .slice none 0 0, .int .i64 u]
/-- An entry as it is told: key, kind, text, end. -/
structure Ent where
  k : ByteArray
  kd : Int
  t : ByteArray
  u : Int
def Ent.cells (e : Ent) : List Value := [.string e.k, .int .i64 e.kd, .string e.t, .slice none 0 0, .slice none 0 0, .slice none 0 0, .slice none 0 0, .int .i64 e.u]
def Ent.val (e : Ent) : Value := entV e.k e.kd e.t e.u
/-- Effects in a row of the call's own. -/
def EF (w : World) (c : Nat) (v : Value) (es : List Ent) : Prop := w.ownsRow c 51 8 v es.length (es.flatMap Ent.cells)
theorem EF.nil (w : World) (c : Nat) : EF w c (.slice none 0 0) [] := World.ownsRow_nil w c 51 8
theorem EF.below {w w' : World} {c : Nat} {v : Value} {es : List Ent} (h : EF w c v es) (hb : Below w.heap.size w w') : EF w' c v es := by
  refine World.ownsRow.kept (row := none) h ⟨hb.os, hb.tape, hb.output, hb.size, fun k hk _ => hb.block k hk⟩ ?_
  cases v.ownBlock with
  | none => exact .inl rfl
  | some g => exact .inr (by simp)
theorem EF.kept {w w' : World} {c : Nat} {v : Value} {es : List Ent} (h : EF w c v es) (_hs : w.heap.size ≤ w'.heap.size) (hb : ∀ g, v.ownBlock = some g → w'.heap[g]? = w.heap[g]?) : EF w' c v es := by
  unfold EF World.ownsRow at h ⊢
  obtain ⟨h1, h2⟩ := h
  refine ⟨h1, ?_⟩
  rcases h2 with h2 | ⟨g, cap, cur, hv, hg, hh, r⟩
  · exact .inl h2
  · exact .inr ⟨g, cap, cur, hv, hg, by rw [hb g (by rw [hv]; rfl)]; exact hh, r⟩
theorem EF.mono {w : World} {c d : Nat} {v : Value} {es : List Ent} (h : EF w c v es) (hd : d ≤ c) : EF w d v es := by
  unfold EF World.ownsRow at h ⊢
  obtain ⟨h1, h2⟩ := h
  refine ⟨h1, ?_⟩
  rcases h2 with h2 | ⟨g, cap, cur, hv, hg, r⟩
  · exact .inl h2
  · exact .inr ⟨g, cap, cur, hv, by omega, r⟩
theorem len_cells (es : List Ent) : (es.flatMap Ent.cells).length = es.length * 8 := by
  induction es with
  | nil => rfl
  | cons e r ih => rw [List.flatMap_cons, List.length_append, ih, List.length_cons, show e.cells.length = 8 from rfl]; omega
/-- What effects do to what a space holds. -/
def applyE : List Ent → MapT.Ents → MapT.Ents
  | [], l => l
  | e :: r, l => applyE r (if e.kd = 0 then MapT.del e.k l else MapT.put e.k e.val l)
theorem find_put (k : ByteArray) (v : Value) (q : ByteArray) : ∀ l, MapT.find q (MapT.put k v l) = if k = q then some v else MapT.find q l := by
  intro l
  induction l with
  | nil => simp [MapT.put, MapT.find]
  | cons p r ih =>
    obtain ⟨x, u⟩ := p
    by_cases hx : x = k
    · subst hx
      by_cases hq : x = q
      · subst hq; simp [MapT.put, MapT.find]
      · simp [MapT.put, MapT.find, hq]
    · by_cases hq : x = q
      · subst hq
        have : ¬ k = x := fun e => hx e.symm
        simp [MapT.put, MapT.find, hx, this]
      · simp [MapT.put, MapT.find, hx, hq, ih]
theorem put_same (k : ByteArray) (v : Value) : ∀ l, MapT.find k l = some v → MapT.put k v l = l := by
  intro l h
  induction l with
  | nil => simp [MapT.find] at h
  | cons p r ih =>
    obtain ⟨x, u⟩ := p
    by_cases hx : x = k
    · subst hx
      simp [MapT.find] at h
      simp [MapT.put, h]
    · simp [MapT.find, hx] at h
      simp [MapT.put, hx, ih h]
theorem len_put (k : ByteArray) (v : Value) : ∀ l, (MapT.put k v l).length ≤ l.length + 1 := by
  intro l
  induction l with
  | nil => simp [MapT.put]
  | cons p r ih =>
    obtain ⟨x, u⟩ := p
    by_cases hx : x = k
    · simp [MapT.put, hx]
    · simp [MapT.put, hx]; omega
end Go.Proofs.YtllaeocclpaiaaaGreatDoor
