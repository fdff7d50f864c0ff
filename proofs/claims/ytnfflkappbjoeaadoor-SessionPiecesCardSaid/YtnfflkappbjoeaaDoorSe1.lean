/- Words for a session in memory: its block, the row of bytes that waits, what a call may turn. -/
import Derived.Test.YtnfflkappbjoeaaDoorRe4
import Derived.Test.YtnfflkappbjoeaaDoorReF
import Derived.Deep.AppendSrc
import Derived.ArgAppend
import Derived.Deep.MidRow
import Derived.OneCell
import Derived.Laws.Rows
namespace Go.Proofs.YtnfflkappbjoeaaDoor
open Go.ChangeShapes Go.WideShapes Go.ChangeAt Go.RowKit Go.Resp

/-- A slice of texts. -/
def SSl (w : World) (v : Value) (xs : List ByteArray) : Prop := ∃ A cap, v = .slice A xs.length cap ∧ xs.length ≤ cap ∧ cap ≤ maxLen ∧
  (xs ≠ [] → ∃ blk off, A = some ⟨blk, off, none⟩ ∧ blk < w.heap.size ∧ ∀ i s, xs[i]? = some s → w.cell? ⟨blk, off + i, none⟩ = some (.string s))
theorem SSl.below {w w' : World} {v : Value} {xs : List ByteArray} (h : SSl w v xs) (hb : Below w.heap.size w w') : SSl w' v xs := by
  obtain ⟨A, cap, h1, h2, h3, h4⟩ := h
  refine ⟨A, cap, h1, h2, h3, fun hne => ?_⟩
  obtain ⟨blk, off, h5, h6, h7⟩ := h4 hne
  have := Below.size hb
  exact ⟨blk, off, h5, by omega, fun i s hs => (hb.cell (p := ⟨blk, off + i, none⟩) h6).trans (h7 i s hs)⟩
theorem SSl.of_own {B : Nat} {w : World} {v : Value} {xs : List (List UInt8)} (h : w.ownsRow B 9 1 v xs.length (xs.map strV)) (hm : xs.length ≤ 1024) : SSl w v (xs.map fun l => ⟨l.toArray⟩) := by
  rcases h.2 with ⟨hv, h0⟩ | ⟨g, cap, cur, hv, hB, hh, hn, hc, hs, ht⟩
  · obtain rfl : xs = [] := List.eq_nil_of_length_eq_zero h0
    exact ⟨none, 0, hv, Nat.le_refl _, Nat.zero_le _, fun h => absurd rfl h⟩
  · refine ⟨_, cap, by rw [hv, List.length_map], by rw [List.length_map]; exact hn, hc, fun _ => ⟨g, 0, rfl, (Array.getElem?_eq_some_iff.1 hh).1, fun i s hs => ?_⟩⟩
    rw [List.getElem?_map] at hs
    obtain ⟨c, hc, rfl⟩ := Option.map_eq_some_iff.1 hs
    have := World.ownsRow.cells h (g := g) (by rw [hv]; rfl) i (strV c) (by rw [List.getElem?_map, hc]; rfl)
    refine Eq.trans ?_ this
    unfold Addr.add
    by_cases h0 : i = 0
    · subst h0; simp
    · simp [h0]
theorem BSl.below {w w' : World} {v : Value} {l : List UInt8} (h : BSl w v l) (hb : Below w.heap.size w w') : BSl w' v l := by
  obtain ⟨A, cap, h1, h2, h3, h4⟩ := h
  refine ⟨A, cap, h1, h2, h3, fun hne => ?_⟩
  obtain ⟨blk, off, h5, h6, h7⟩ := h4 hne
  have := Below.size hb
  exact ⟨blk, off, h5, by omega, h7.below hb h6⟩
theorem read_of (w : World) (v : Value) (l : List UInt8) (xs : List (List UInt8)) (p st : Nat) (c : Int) (hc : codeOf st = c) (h : BSl w v l) (hr : readT l = (xs, p, st)) (hm : xs.length ≤ 1024) :
    Calls Tryd.prog 18 #[v] w fun e w' => ∃ v', e = .returned (.tuple #[v', .int .i64 (p : Int), .int .i64 c]) ∧ SSl w' v' (xs.map fun l => ⟨l.toArray⟩) ∧ Below w.heap.size w w' := by
  refine (Read_any w v l h).mono ?_
  rintro e w' ⟨v', ys, q, s2, hr2, rfl, hown, hb⟩
  obtain ⟨rfl, rfl, rfl⟩ : xs = ys ∧ p = q ∧ st = s2 := by
    rw [hr] at hr2; injection hr2 with h1 h2; injection h2 with h2 h3; exact ⟨h1, h2, h3⟩
  subst hc
  exact ⟨v', rfl, SSl.of_own hown hm, hb⟩

/-- Nothing below c has turned but block b. -/
structure But (b c : Nat) (w w' : World) : Prop where
  os : w'.os = w.os
  tape : w'.tape = w.tape
  output : w'.output = w.output
  size : w.heap.size ≤ w'.heap.size
  block : ∀ k, k < c → k ≠ b → w'.heap[k]? = w.heap[k]?
theorem But.refl (b c : Nat) (w : World) : But b c w w := ⟨rfl, rfl, rfl, Nat.le_refl _, fun _ _ _ => rfl⟩
theorem But.trans {b c : Nat} {x y z : World} (h : But b c x y) (k : But b c y z) : But b c x z :=
  ⟨k.os.trans h.os, k.tape.trans h.tape, k.output.trans h.output, Nat.le_trans h.size k.size, fun i hi hb => (k.block i hi hb).trans (h.block i hi hb)⟩
theorem But.of {b c : Nat} {w w' : World} (h : Below c w w') : But b c w w' := ⟨h.os, h.tape, h.output, h.size, fun i hi _ => h.block i hi⟩
theorem But.below {b c : Nat} {w w' : World} (h : But b c w w') (hb : b ≤ c) : Below b w w' := ⟨h.os, h.tape, h.output, h.size, fun i hi => h.block i (by omega) (by omega)⟩
theorem But.mono {b c d : Nat} {w w' : World} (h : But b c w w') (hd : d ≤ c) : But b d w w' := ⟨h.os, h.tape, h.output, h.size, fun i hi hb => h.block i (by omega) hb⟩
theorem But.set_ {b c : Nat} {w w' : World} (h : But b c w w') (i : Nat) (v : Value) : But b c w (w'.setCell ⟨b, i, none⟩ v) :=
  ⟨h.os, h.tape, h.output, by show _ ≤ (w'.heap.modify _ _).size; rw [Array.size_modify]; exact h.size, fun k hk hb => (Below.heap_setCell w' ⟨b, i, none⟩ v k hb).trans (h.block k hk hb)⟩
theorem But.drewN {b c : Nat} {w w' : World} (h : But b c w w') (n : Nat) : But b c w (w'.drewN n) := h.trans ⟨rfl, rfl, rfl, Nat.le_refl _, fun _ _ _ => rfl⟩
theorem But.cell {b c : Nat} {w w' : World} (h : But b c w w') {p : Addr} (hp : p.block < c) (hn : p.block ≠ b) : w'.cell? p = w.cell? p := World.cell?_of_block (h.block p.block hp hn)
/-- A session's block. -/
def Ses (w : World) (b : Nat) (cs : Array Value) : Prop := w.heap[b]? = some (.cells cs 49 (0, 0))
theorem Ses.lt {w : World} {b : Nat} {cs : Array Value} (h : Ses w b cs) : b < w.heap.size := lt_of_block h
theorem Ses.cell {w : World} {b : Nat} {cs : Array Value} (h : Ses w b cs) (i : Nat) : w.cell? ⟨b, i, none⟩ = cs[i]? := cell_of_row w b i cs 49 (0, 0) h
theorem Ses.frozen {w : World} {b : Nat} {cs : Array Value} (h : Ses w b cs) (i : Nat) : w.frozen? ⟨b, i, none⟩ = false := by unfold Ses at h; simp [World.frozen?, h]
theorem Ses.set_ {w : World} {b : Nat} {cs : Array Value} (h : Ses w b cs) (i : Nat) (u : Value) : Ses (w.setCell ⟨b, i, none⟩ u) b (cs.setIfInBounds i u) := by
  unfold Ses at h ⊢
  simp [World.setCell, Array.getElem?_modify, h]
theorem Ses.far {w w' : World} {b : Nat} {cs : Array Value} (h : Ses w b cs) (hb : w'.heap[b]? = w.heap[b]?) : Ses w' b cs := hb.trans h
theorem Ses.below {w w' : World} {b : Nat} {cs : Array Value} (h : Ses w b cs) (hb : Below w.heap.size w w') : Ses w' b cs := h.far (hb.block b h.lt)
/-- The cells of a session, as the walk wants them. -/
theorem Ses.all {w : World} {b : Nat} {c0 c1 c2 c3 c4 c5 c6 c7 c8 : Value} (h : Ses w b #[c0, c1, c2, c3, c4, c5, c6, c7, c8]) :
    w.cell? ⟨b, 0, none⟩ = some c0 ∧ w.cell? ⟨b, 1, none⟩ = some c1 ∧ w.cell? ⟨b, 2, none⟩ = some c2 ∧ w.cell? ⟨b, 3, none⟩ = some c3 ∧ w.cell? ⟨b, 4, none⟩ = some c4 ∧ w.cell? ⟨b, 5, none⟩ = some c5 ∧
    w.frozen? ⟨b, 0, none⟩ = false ∧ w.frozen? ⟨b, 1, none⟩ = false ∧ w.frozen? ⟨b, 2, none⟩ = false ∧ w.frozen? ⟨b, 3, none⟩ = false ∧ w.frozen? ⟨b, 4, none⟩ = false ∧ w.frozen? ⟨b, 5, none⟩ = false :=
  ⟨h.cell 0, h.cell 1, h.cell 2, h.cell 3, h.cell 4, h.cell 5, h.frozen 0, h.frozen 1, h.frozen 2, h.frozen 3, h.frozen 4, h.frozen 5⟩
/-- A row of bytes of the session's own: it may be appended to. -/
def OwnG (c : Nat) (w : World) (v : Value) (l : List UInt8) : Prop :=
  (∃ g off cap, v = .slice (some ⟨g, off, none⟩) l.length cap ∧ c ≤ g ∧ g < w.heap.size ∧ l.length ≤ cap ∧ cap ≤ maxLen ∧ Bytes w g off l ∧
    ∀ j, j < cap → (w.cell? ⟨g, off + j, none⟩).isSome = true ∧ w.frozen? ⟨g, off + j, none⟩ = false) ∨ (l = [] ∧ v = .slice none 0 0)
theorem OwnG.slice {c : Nat} {w : World} {v : Value} {l : List UInt8} (h : OwnG c w v l) : BSl w v l := by
  rcases h with ⟨g, off, cap, rfl, h2, h3, h4, h5, h6, h7⟩ | ⟨rfl, rfl⟩
  · exact ⟨_, _, rfl, h4, h5, fun _ => ⟨g, off, rfl, h3, h6⟩⟩
  · exact ⟨none, 0, rfl, Nat.le_refl _, Nat.zero_le _, fun h => absurd rfl h⟩
theorem OwnG.kept {c : Nat} {w w' : World} {v : Value} {l : List UInt8} (h : OwnG c w v l) (hs : w.heap.size ≤ w'.heap.size) (hb : ∀ k, c ≤ k → k < w.heap.size → w'.heap[k]? = w.heap[k]?) : OwnG c w' v l := by
  rcases h with ⟨g, off, cap, rfl, h2, h3, h4, h5, h6, h7⟩ | h
  · have hk := hb g h2 h3
    have hc : ∀ j, w'.cell? ⟨g, j, none⟩ = w.cell? ⟨g, j, none⟩ := fun j => World.cell?_of_block hk
    refine .inl ⟨g, off, cap, rfl, h2, by omega, h4, h5, fun i x hx => (hc _).trans (h6 i x hx), fun j hj => ⟨by rw [hc]; exact (h7 j hj).1, ?_⟩⟩
    have := (h7 j hj).2
    unfold World.frozen? at this ⊢
    simp only [hk]
    exact this
  · exact .inr h
theorem OwnG.below {c : Nat} {w w' : World} {v : Value} {l : List UInt8} (h : OwnG c w v l) (hb : Below w.heap.size w w') : OwnG c w' v l := h.kept hb.size (fun k _ hk => hb.block k hk)
theorem OwnG.set_ {c : Nat} {w : World} {v : Value} {l : List UInt8} (h : OwnG c w v l) {b : Nat} (hb : b < c) (i : Nat) (u : Value) : OwnG c (w.setCell ⟨b, i, none⟩ u) v l :=
  h.kept (by show _ ≤ (w.heap.modify _ _).size; rw [Array.size_modify]; exact Nat.le_refl _) (fun k hk _ => Below.heap_setCell w ⟨b, i, none⟩ u k (by show k ≠ b; omega))
/-- The row's block holds bytes. -/
def In5 (w : World) (v : Value) : Prop := ∀ g, v.ownBlock = some g → ∃ cs fr, w.heap[g]? = some (.cells cs 5 fr)
/-- Nothing has turned but block b and blocks that hold bytes. -/
def Far (b : Nat) (w w' : World) : Prop := ∀ k, k < w.heap.size → k ≠ b → (∀ cs fr, w.heap[k]? ≠ some (.cells cs 5 fr)) → w'.heap[k]? = w.heap[k]?
theorem Far.refl (b : Nat) (w : World) : Far b w w := fun _ _ _ _ => rfl
theorem Far.trans {b : Nat} {x y z : World} (h : Far b x y) (k : Far b y z) (hs : x.heap.size ≤ y.heap.size) : Far b x z := fun i hi hb ht => by
  have h1 := h i hi hb ht
  rw [← h1] at ht ⊢
  exact k i (by omega) hb ht
theorem Far.of {b : Nat} {w w' : World} (h : Below w.heap.size w w') : Far b w w' := fun k hk _ _ => h.block k hk
theorem Far.but {b : Nat} {w w' : World} (h : But b w.heap.size w w') : Far b w w' := fun k hk hb _ => h.block k hk hb
theorem In5.kept {w w' : World} {v : Value} (h : In5 w v) (hb : ∀ k, k < w.heap.size → w'.heap[k]? = w.heap[k]?) : In5 w' v := fun g hg => by
  obtain ⟨cs, fr, h1⟩ := h g hg
  exact ⟨cs, fr, (hb g (Array.getElem?_eq_some_iff.1 h1).1).trans h1⟩
theorem In5.below {w w' : World} {v : Value} (h : In5 w v) (hb : Below w.heap.size w w') : In5 w' v := h.kept fun k hk => hb.block k hk
theorem In5.set_ {w : World} {v : Value} (h : In5 w v) {b : Nat} {cs : Array Value} (hs : Ses w b cs) (i : Nat) (u : Value) : In5 (w.setCell ⟨b, i, none⟩ u) v := fun g hg => by
  obtain ⟨c2, fr, h1⟩ := h g hg
  have hne : g ≠ b := by
    intro e
    subst e
    unfold Ses at hs
    rw [hs] at h1
    injection h1 with h1
    injection h1 with _ h2 _
    cases h2
  exact ⟨c2, fr, (Below.heap_setCell w ⟨b, i, none⟩ u g hne).trans h1⟩
theorem In5.nil (w : World) : In5 w (.slice none 0 0) := fun g hg => by cases hg
end Go.Proofs.YtnfflkappbjoeaaDoor
