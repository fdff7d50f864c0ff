/- Texts joined: St17, St20, St18 -/
import Derived.Test.YticlacjpgjkhcaaGreatDoorQs4
import Derived.Laws.AppendOwn
import Derived.Laws.OwnMore
import Derived.Deep.RegionLaw
import Derived.OwnWalk
import Derived.StillTailTactics
import Derived.Deep.RegionHeld3
import Derived.Deep.RegionHeldLaw
import Derived.RegionTactic
set_option linter.unusedVariables false
set_option linter.unusedSimpArgs false

/- What a call keeps: all blocks below a number that a set holds; effects in memory. -/
namespace Go.Proofs.YticlacjpgjkhcaaGreatDoor
open Go.ChangeShapes Go.WideShapes Go.ChangeAt Go.RowKit

/-- Of the blocks below c nothing has turned but those that S leaves out. -/
structure Kp (c : Nat) (S : Nat → Prop) (w w' : World) : Prop where
  os : w'.os = w.os
  tape : w'.tape = w.tape
  output : w'.output = w.output
  size : w.heap.size ≤ w'.heap.size
  block : ∀ k, k < c → S k → w'.heap[k]? = w.heap[k]?
theorem Kp.refl (c : Nat) (S : Nat → Prop) (w : World) : Kp c S w w := ⟨rfl, rfl, rfl, Nat.le_refl _, fun _ _ _ => rfl⟩
theorem Kp.trans {c : Nat} {S : Nat → Prop} {x y z : World} (h : Kp c S x y) (k : Kp c S y z) : Kp c S x z :=
  ⟨k.os.trans h.os, k.tape.trans h.tape, k.output.trans h.output, Nat.le_trans h.size k.size, fun i hi hb => (k.block i hi hb).trans (h.block i hi hb)⟩
theorem Kp.of {c : Nat} {S : Nat → Prop} {w w' : World} (h : Below c w w') : Kp c S w w' := ⟨h.os, h.tape, h.output, h.size, fun i hi _ => h.block i hi⟩
theorem Kp.below {c n : Nat} {S : Nat → Prop} {w w' : World} (h : Kp c S w w') (hn : ∀ k, k < n → k < c ∧ S k) : Below n w w' := ⟨h.os, h.tape, h.output, h.size, fun i hi => h.block i (hn i hi).1 (hn i hi).2⟩
theorem Kp.mono {c d : Nat} {S T : Nat → Prop} {w w' : World} (h : Kp c S w w') (hd : d ≤ c) (hS : ∀ k, T k → S k) : Kp d T w w' := ⟨h.os, h.tape, h.output, h.size, fun i hi hb => h.block i (by omega) (hS i hb)⟩
theorem Kp.below_after {c n : Nat} {S : Nat → Prop} {w w' w'' : World} (h : Kp c S w w') (k : Below n w' w'') (hn : c ≤ n) : Kp c S w w'' := h.trans (.of (k.mono hn))
theorem Kp.setCell {c : Nat} {S : Nat → Prop} {w w' : World} (h : Kp c S w w') {p : Addr} (hp : ¬ (p.block < c ∧ S p.block)) (v : Value) : Kp c S w (w'.setCell p v) :=
  h.trans ⟨rfl, rfl, rfl, by simp [World.setCell], fun k hk hS => Below.heap_setCell _ _ _ _ (fun e => hp ⟨by omega, by rw [← e]; exact hS⟩)⟩
theorem Kp.alloc {c : Nat} {S : Nat → Prop} {w w' : World} (h : Kp c S w w') (hc : c ≤ w'.heap.size) (o : Obj) : Kp c S w (w'.alloc o) :=
  h.trans ⟨rfl, rfl, rfl, by simp, fun k hk _ => Below.heap_alloc _ _ _ (by omega)⟩
theorem Kp.drew {c : Nat} {S : Nat → Prop} {w w' : World} (h : Kp c S w w') : Kp c S w w'.drew := ⟨h.os, h.tape, h.output, h.size, h.block⟩
theorem Kp.grown {c : Nat} {S : Nat → Prop} {a w w' : World} {row : Option Nat} (h : Kp c S a w) (hg : w.grownBy w' row) (hB : c ≤ w.heap.size) (hr : ∀ k, row = some k → k < c → ¬ S k) : Kp c S a w' :=
  h.trans ⟨hg.os, hg.tape, hg.output, hg.size, fun k hk hS => hg.block k (by omega) (fun e => hr k e.symm hk hS)⟩
theorem Kp.cell {c : Nat} {S : Nat → Prop} {w w' : World} (h : Kp c S w w') {p : Addr} (hp : p.block < c) (hn : S p.block) : w'.cell? p = w.cell? p := World.cell?_of_block (h.block p.block hp hn)
theorem SP.kept {w w' : World} {bS bM : Nat} {l : MapT.Ents} (h : SP w bS bM l) (h1 : w'.heap[bS]? = w.heap[bS]?) (h2 : w'.heap[bM]? = w.heap[bM]?) : SP w' bS bM l := by
  obtain ⟨⟨mem, g1⟩, g2, g3⟩ := h
  exact ⟨⟨mem, h1.trans g1⟩, g2.kept h2, g3⟩
theorem SP.lt {w : World} {bS bM : Nat} {l : MapT.Ents} (h : SP w bS bM l) : bS < w.heap.size ∧ bM < w.heap.size := ⟨h.cell.2, h.2.1.lt⟩
theorem JB.kept {w w' : World} {j bS : Nat} {now : Int} {vA vl : Value} (h : JB w j bS now vA vl) (h1 : w'.heap[j]? = w.heap[j]?) : JB w' j bS now vA vl := h1.trans h
/-- An entry of a text. -/
abbrev entV (k : ByteArray) (kd : Int) (t : ByteArray) (u : Int) : Value := .agg #[.string k, .int .i64 kd, .string t, .slice none 0 0, .slice none 0 0, .slice none 0 0, .slice none 0 0, .int .i64 u]
/-- An entry as it is told: key, kind, text, end. -/
structure Ent where
  k : ByteArray
  kd : Int
  t : ByteArray
  u : Int
def Ent.cells (e : Ent) : List Value := [.string e.k, .int .i64 e.kd, .string e.t, .slice none 0 0, .slice none 0 0, .slice none 0 0, .slice none 0 0, .int .i64 e.u]
def Ent.val (e : Ent) : Value := entV e.k e.kd e.t e.u
/-- Effects in a row of the call's own. -/
def EF (w : World) (c : Nat) (v : Value) (es : List Ent) : Prop := w.ownsRow c 68 8 v es.length (es.flatMap Ent.cells)
theorem EF.nil (w : World) (c : Nat) : EF w c (.slice none 0 0) [] := World.ownsRow_nil w c 68 8
theorem EF.below {w w' : World} {c : Nat} {v : Value} {es : List Ent} (h : EF w c v es) (hb : Below w.heap.size w w') : EF w' c v es := by
  refine World.ownsRow.kept (row := none) h ⟨hb.os, hb.tape, hb.output, hb.size, fun k hk _ => hb.block k hk⟩ ?_
  cases v.ownBlock with
  | none => exact .inl rfl
  | some g => exact .inr (by simp)
theorem EF.kept {w w' : World} {c : Nat} {v : Value} {es : List Ent} (h : EF w c v es) (_hs : w.heap.size ≤ w'.heap.size) (hb : ∀ g, v.ownBlock = some g → w'.heap[g]? = w.heap[g]?) : EF w' c v es := by
  unfold EF World.ownsRow at h ⊢
  obtain ⟨h1, h2⟩ := h
  refine ⟨h1, ?_⟩
  rcases h2 with h2 | ⟨g, cap, cur, hv, hg, hh, r⟩
  · exact .inl h2
  · exact .inr ⟨g, cap, cur, hv, hg, by rw [hb g (by rw [hv]; rfl)]; exact hh, r⟩
theorem EF.mono {w : World} {c d : Nat} {v : Value} {es : List Ent} (h : EF w c v es) (hd : d ≤ c) : EF w d v es := by
  unfold EF World.ownsRow at h ⊢
  obtain ⟨h1, h2⟩ := h
  refine ⟨h1, ?_⟩
  rcases h2 with h2 | ⟨g, cap, cur, hv, hg, r⟩
  · exact .inl h2
  · exact .inr ⟨g, cap, cur, hv, by omega, r⟩
theorem len_cells (es : List Ent) : (es.flatMap Ent.cells).length = es.length * 8 := by
  induction es with
  | nil => rfl
  | cons e r ih => rw [List.flatMap_cons, List.length_append, ih, List.length_cons, show e.cells.length = 8 from rfl]; omega
/-- What effects do to what a space holds. -/
def applyE : List Ent → MapT.Ents → MapT.Ents
  | [], l => l
  | e :: r, l => applyE r (if e.kd = 0 then MapT.del e.k l else MapT.put e.k e.val l)
theorem find_put (k : ByteArray) (v : Value) (q : ByteArray) : ∀ l, MapT.find q (MapT.put k v l) = if k = q then some v else MapT.find q l := by
  intro l
  induction l with
  | nil => simp [MapT.put, MapT.find]
  | cons p r ih =>
    obtain ⟨x, u⟩ := p
    by_cases hx : x = k
    · subst hx
      by_cases hq : x = q
      · subst hq; simp [MapT.put, MapT.find]
      · simp [MapT.put, MapT.find, hq]
    · by_cases hq : x = q
      · subst hq
        have : ¬ k = x := fun e => hx e.symm
        simp [MapT.put, MapT.find, hx, this]
      · simp [MapT.put, MapT.find, hx, hq, ih]
theorem put_same (k : ByteArray) (v : Value) : ∀ l, MapT.find k l = some v → MapT.put k v l = l := by
  intro l h
  induction l with
  | nil => simp [MapT.find] at h
  | cons p r ih =>
    obtain ⟨x, u⟩ := p
    by_cases hx : x = k
    · subst hx
      simp [MapT.find] at h
      simp [MapT.put, h]
    · simp [MapT.find, hx] at h
      simp [MapT.put, hx, ih h]
theorem len_put (k : ByteArray) (v : Value) : ∀ l, (MapT.put k v l).length ≤ l.length + 1 := by
  intro l
  induction l with
  | nil => simp [MapT.put]
  | cons p r ih =>
    obtain ⟨x, u⟩ := p
    by_cases hx : x = k
    · simp [MapT.put, hx]
    · simp [MapT.put, hx]; omega
end Go.Proofs.YticlacjpgjkhcaaGreatDoor

/- A job's effects: an entry is put, a key is taken. -/
namespace Go.Proofs.YticlacjpgjkhcaaGreatDoor
open Go.ChangeShapes Go.WideShapes Go.ChangeAt Go.RowKit

theorem i60 : (Tryz.prog.info? 68).map (fun i => (i.zero, i.size, i.bytes)) = some (some (.agg #[.string ⟨#[]⟩, .int .i64 0, .string ⟨#[]⟩, .slice none 0 0, .slice none 0 0, .slice none 0 0, .slice none 0 0, .int .i64 0]), 8, 144) := by kernel_rfl
theorem run_append_E (w : World) (ty : TypeId) (c : Nat) (v : Value) (es : List Ent) (h : EF w c v es) (e : Ent) (b : Nat) (hb : w.heap[b]? = some (.cells e.cells.toArray 68)) (hl : es.length ≤ 100000) (hc : c ≤ w.heap.size) :
    ∃ A n cap w', (Builtin.append_ #[59, 59] ty #[v, .slice (some ⟨b, 0, none⟩) 1 1]).run Tryz.prog w = .ok (.slice A n cap) w' ∧ EF w' c (.slice A n cap) (es ++ [e]) ∧ w.grownBy w' v.ownBlock := by
  obtain ⟨i0, hi, hz0, hz1, hz2⟩ := info_parts i60
  have hcell : ∀ (j : Nat) (u : Value), e.cells[j]? = some u → w.cell? ((⟨b, 0, none⟩ : Addr).add j) = some u := fun j u hj => by
    have := cell_of_row w b j _ 68 (0, 0) hb
    unfold Addr.add
    by_cases h0 : j = 0
    · subst h0; simpa [hj] using this
    · simp [h0]; rw [this]; simpa using hj
  obtain ⟨v', w', hrun, hown, hgr, hnil⟩ := run_append_own (P := Tryz.prog) w c 59 ty 68 i0 (.agg #[.string ⟨#[]⟩, .int .i64 0, .string ⟨#[]⟩, .slice none 0 0, .slice none 0 0, .slice none 0 0, .slice none 0 0, .int .i64 0]) 8 144 Tryz.underlying59 hi hz0 hz1 hz2 rfl (by decide) v es.length (es.flatMap Ent.cells) h ⟨b, 0, none⟩ 1 1 e.cells rfl hcell
    (fun u hu => by simp [Ent.cells] at hu; rcases hu with rfl | rfl | rfl | rfl | rfl | rfl <;> rfl) (by unfold maxLen; omega) (by omega) hc
  have hE : EF w' c v' (es ++ [e]) := by
    unfold EF
    rw [List.length_append, List.flatMap_append, show [e].length = 1 from rfl, show [e].flatMap Ent.cells = e.cells by simp]
    exact hown
  have hE2 := hE
  unfold EF World.ownsRow at hE2
  obtain ⟨_, ⟨rfl, _⟩ | ⟨g, cap, cur, rfl, _⟩⟩ := hE2
  · exact ⟨_, _, _, w', hrun, hE, hgr⟩
  · exact ⟨_, _, _, w', hrun, hE, hgr⟩
theorem step_append_E {ops : Array Oper} {o : Oper} {a : Act} {K : Act → World → Prop} {Q : Exit → Act → World → Prop} {X : Prop} (w : World) (hgd : o.guard = none) (s x : Operand) (hop : o.op = Op.call { callee := Callee.builtin Builtin.append, args := #[s, x], argTypes := #[59, 59] })
    (c : Nat) (v : Value) (es : List Ent) (hs : a.eval s = v) (h : EF w c v es) (e : Ent) (b : Nat) (hx : a.eval x = .slice (some ⟨b, 0, none⟩) 1 1) (hb : w.heap[b]? = some (.cells e.cells.toArray 68)) (hl : es.length ≤ 100000) (hc : c ≤ w.heap.size)
    (k : ∀ A n cap w', EF w' c (.slice A n cap) (es ++ [e]) → w.grownBy w' v.ownBlock → K (a.put o.dst (.slice A n cap)) w') :
    if Region.wanted o (yielded ops a.tmps) = true then Oper.wp Tryz.prog o a w K Q else X := by
  have hw : Region.wanted o (yielded ops a.tmps) = true := by simp [Region.wanted, hgd]
  rw [if_pos hw]
  obtain ⟨A, n, cap, w', hr, h1, h3⟩ := run_append_E w o.type c v es h e b hb hl hc
  unfold Oper.wp execOp
  simp only [hop, resolve, invoke, builtin, Sem.run_bind, Sem.run_pure, Result.andThen_ok, List.map_toArray, List.map_cons, List.map_nil, hs, hx, hr]
  exact k A n cap w' h1 h3
theorem wpList_append_E {ops : Array Oper} {rest : List Oper} {o : Oper} {a : Act} {Q : Exit → Act → World → Prop} (w : World) (hgd : o.guard = none) (s x : Operand) (hop : o.op = Op.call { callee := Callee.builtin Builtin.append, args := #[s, x], argTypes := #[59, 59] })
    (c : Nat) (v : Value) (es : List Ent) (hs : a.eval s = v) (h : EF w c v es) (e : Ent) (b : Nat) (hx : a.eval x = .slice (some ⟨b, 0, none⟩) 1 1) (hb : w.heap[b]? = some (.cells e.cells.toArray 68)) (hl : es.length ≤ 100000) (hc : c ≤ w.heap.size)
    (k : ∀ A n cap w', EF w' c (.slice A n cap) (es ++ [e]) → w.grownBy w' v.ownBlock → wpList Tryz.prog ops Q rest (a.put o.dst (.slice A n cap)) w') : wpList Tryz.prog ops Q (o :: rest) a w := by
  obtain ⟨A, n, cap, w', hr, h1, h3⟩ := run_append_E w o.type c v es h e b hb hl hc
  refine wpList_plain hgd fun K hK' => ?_
  unfold Oper.wp
  simp [execOp, hop, resolve, invoke, builtin, hs, hx, hr, Result.andThen]
  exact hK' _ _ (k A n cap w' h1 h3)
theorem EF.own {w : World} {c : Nat} {v : Value} {es : List Ent} (h : EF w c v es) : ∀ g, v.ownBlock = some g → c ≤ g ∧ ∃ cur, w.heap[g]? = some (.cells cur 68) := by
  intro g hg
  unfold EF World.ownsRow at h
  obtain ⟨_, ⟨rfl, _⟩ | ⟨g', cap, cur, rfl, h1, h2, _⟩⟩ := h
  · cases hg
  · cases hg
    exact ⟨h1, cur, h2⟩
theorem JB.set {w : World} {j bS : Nat} {now : Int} {vA vl : Value} (h : JB w j bS now vA vl) (v : Value) : JB (w.setCell ⟨j, 3, none⟩ v) j bS now vA v := by
  unfold JB at h ⊢
  simp [World.setCell, Array.getElem?_modify, h]
theorem EF.ne_job {w : World} {j bS : Nat} {now : Int} {vA vl : Value} (h : JB w j bS now vA vl) {c : Nat} {v : Value} {es : List Ent} (hE : EF w c v es) : v.ownBlock ≠ some j := by
  intro e
  obtain ⟨_, cur, hh⟩ := hE.own j e
  unfold JB at h
  rw [h] at hh
  simp at hh
/-- What is left when an effect has been appended and laid into the job. -/
theorem job_end {w w1 w2 : World} {j bS : Nat} {now : Int} {vA vl : Value} {c : Nat} {v' : Value} {es es' : List Ent} (hj : JB w j bS now vA vl) (hE : EF w c vl es) (hb : Below w.heap.size w w1) (hc : c ≤ w.heap.size) (h1 : EF w2 c v' es') (h2 : w1.grownBy w2 vl.ownBlock) :
    JB (w2.setCell ⟨j, 3, none⟩ v') j bS now vA v' ∧ EF (w2.setCell ⟨j, 3, none⟩ v') c v' es' ∧ Kp c (fun i => i ≠ j) w (w2.setCell ⟨j, 3, none⟩ v') := by
  have hj1 := hj.below hb
  have hne := (hE.below hb).ne_job hj1
  have hj2 : JB w2 j bS now vA vl := hj1.kept (h2.block j hj1.cells.2.2.2.2.2 (fun e => hne e.symm))
  refine ⟨hj2.set v', h1.kept (by simp [World.setCell]) (fun g hg => Below.heap_setCell _ _ _ _ (fun e => ?_)), ?_⟩
  · have e2 : g = j := e
    subst e2
    exact h1.ne_job hj2 hg
  · refine ((Kp.of (hb.mono hc)).grown h2 (Nat.le_trans hc (Below.size hb)) (fun k hk hkc => ?_)).setCell (p := ⟨j, 3, none⟩) (by simp) v'
    have := (hE.own k hk).1
    omega
theorem job_cell {w w1 w2 : World} {j bS : Nat} {now : Int} {vA vl : Value} {c : Nat} {es : List Ent} (hj : JB w j bS now vA vl) (hE : EF w c vl es) (hb : Below w.heap.size w w1) (h2 : w1.grownBy w2 vl.ownBlock) :
    w2.frozen? ⟨j, 3, none⟩ = false ∧ w2.cell? ⟨j, 3, none⟩ = some vl := by
  have hj1 := hj.below hb
  have hne := (hE.below hb).ne_job hj1
  have hj2 : JB w2 j bS now vA vl := hj1.kept (h2.block j hj1.cells.2.2.2.2.2 (fun e => hne e.symm))
  exact ⟨hj2.cells.2.2.2.2.1, hj2.cells.2.2.2.1⟩

set_option maxRecDepth 100000 in
set_option maxHeartbeats 4000000 in
theorem Take76 (j bS : Nat) (now : Int) (vA : Value) (A : Option Addr) (n cap : Nat) (es : List Ent) (c : Nat) (w : World) (hj : JB w j bS now vA (.slice A n cap)) (hE : EF w c (.slice A n cap) es) (hc : c ≤ w.heap.size) (hl : es.length ≤ 100000) (k : ByteArray) : Calls Tryz.prog 210 #[.pointer (some ⟨j, 0, none⟩), .string k] w fun e w' => e = .returned (.tuple #[]) ∧ (∃ A' n' cap', JB w' j bS now vA (.slice A' n' cap') ∧ EF w' c (.slice A' n' cap') (es ++ [⟨k, 0, ⟨#[]⟩, 0⟩])) ∧ Kp c (fun i => i ≠ j) w w' := by
  obtain ⟨j0, j1, j2, j3, jf, jz⟩ := hj.cells
  have HJ := Lib.hid hj
  have HE := Lib.hid hE
  clear hj hE
  go_enter Tryz.func210, Tryz.ntmps210
  go_wp2_with (first | (at_builtin; refine wpList_append_E _ rfl _ _ rfl c _ es rfl (HE.out.below alloc_old) ⟨k, 0, ⟨#[]⟩, 0⟩ _ rfl (heap_alloc_new _ _) hl (Nat.le_trans hc (by simp)) ?_; intro A' n' cap' w2 hE2 hg2; have R := Lib.hid (job_end HJ.out HE.out alloc_old hc hE2 hg2); obtain ⟨hf3, hc3⟩ := job_cell HJ.out HE.out alloc_old hg2; clear hE2 hg2))
  go_end0
  exact ⟨rfl, ⟨A', n', cap', R.out.1, R.out.2.1⟩, R.out.2.2⟩
set_option maxRecDepth 100000 in
set_option maxHeartbeats 4000000 in
theorem Put72 (j bS : Nat) (now : Int) (vA : Value) (A : Option Addr) (n cap : Nat) (es : List Ent) (c : Nat) (w : World) (hj : JB w j bS now vA (.slice A n cap)) (hE : EF w c (.slice A n cap) es) (hc : c ≤ w.heap.size) (hl : es.length ≤ 100000) (k t : ByteArray) (hk1 : 1 ≤ k.size) (hk : k.size ≤ 512) (ht : t.size ≤ 4096) (u : Int) (hu0 : 0 ≤ u) (hu1 : u ≤ 1125899906842624) : Calls Tryz.prog 212 #[.pointer (some ⟨j, 0, none⟩), .agg #[.string k, .int .i64 1, .string t, .slice none 0 0, .slice none 0 0, .slice none 0 0, .slice none 0 0, .int .i64 u]] w fun e w' => e = .returned (.tuple #[]) ∧ (∃ A' n' cap', JB w' j bS now vA (.slice A' n' cap') ∧ EF w' c (.slice A' n' cap') (es ++ [⟨k, 1, t, u⟩])) ∧ Kp c (fun i => i ≠ j) w w' := by
  have MY := Lib.hid (fun w => May15 k t hk1 hk ht u hu0 hu1 w)
  have hp := Lib.hid (heap_alloc_new w (.cells #[.string k, .int .i64 1, .string t, .slice none 0 0, .slice none 0 0, .slice none 0 0, .slice none 0 0, .int .i64 u] 66))
  have HJ := Lib.hid hj
  have HE := Lib.hid hE
  clear hj hE
  go_enter Tryz.func212, Tryz.ntmps212
  go_wp2_with (first | (go_at_call 51; (with_reducible refine (MY.out _).mono ?_); rintro e w1 ⟨rfl, h1⟩; have B1 := Lib.hid h1; clear h1))
  have BW := Lib.hid (show Below w.heap.size w w1 from alloc_old.trans (B1.out.mono (by simp)))
  obtain ⟨j0, j1, j2, j3, jf, jz⟩ := (HJ.out.below BW.out).cells
  obtain ⟨⟨p0, p1, p2, p3, p4, p5, p6, p7⟩, ⟨pf0, pf1, pf2, pf3, pf4, pf5, pf6, pf7⟩, pz⟩ := cells8 (blk_below hp.out B1.out)
  have BA := Lib.hid (show Below w.heap.size w (w1.alloc (.cells #[.string k, .int .i64 1, .string t, .slice none 0 0, .slice none 0 0, .slice none 0 0, .slice none 0 0, .int .i64 u] 68)).drew from (BW.out.trans ((alloc_old (w := w1)).mono (Below.size BW.out))).drew)
  have HEX := Lib.hid (HE.out.below BA.out)
  have HBX := Lib.hid (show (w1.alloc (.cells #[.string k, .int .i64 1, .string t, .slice none 0 0, .slice none 0 0, .slice none 0 0, .slice none 0 0, .int .i64 u] 68)).drew.heap[w1.heap.size]? = some (.cells (Ent.cells ⟨k, 1, t, u⟩).toArray 68) from heap_alloc_new w1 _)
  have HCX := Lib.hid (show c ≤ (w1.alloc (.cells #[.string k, .int .i64 1, .string t, .slice none 0 0, .slice none 0 0, .slice none 0 0, .slice none 0 0, .int .i64 u] 68)).drew.heap.size from Nat.le_trans hc (Below.size BA.out))
  have HA3 := Lib.hid (fun w2 (hg : (w1.alloc (.cells #[.string k, .int .i64 1, .string t, .slice none 0 0, .slice none 0 0, .slice none 0 0, .slice none 0 0, .int .i64 u] 68)).drew.grownBy w2 (Value.slice A n cap).ownBlock) => job_cell HJ.out HE.out BA.out hg)
  have a3 : (w1.alloc (.cells #[.string k, .int .i64 1, .string t, .slice none 0 0, .slice none 0 0, .slice none 0 0, .slice none 0 0, .int .i64 u] 68)).drew.cell? ⟨j, 3, none⟩ = some (.slice A n cap) := (HJ.out.below BA.out).cells.2.2.2.1
  go_region_law (first | (refine step_append_E _ rfl _ _ rfl c _ es rfl HEX.out ⟨k, 1, t, u⟩ _ rfl HBX.out hl HCX.out ?_; intro A' n' cap' w2 hE2 hg2; obtain ⟨hf3, hc3⟩ := HA3.out w2 hg2))
  all_goals (
    have R := Lib.hid (job_end HJ.out HE.out BA.out hc hE2 hg2)
    go_end0
    exact ⟨rfl, ⟨A', n', cap', R.out.1, R.out.2.1⟩, R.out.2.2⟩)
end Go.Proofs.YticlacjpgjkhcaaGreatDoor

/- The space: an entry is put. -/
namespace Go.Proofs.YticlacjpgjkhcaaGreatDoor
open Go.ChangeShapes Go.WideShapes Go.ChangeAt Go.RowKit

theorem lt_blk {X : World} {b : Nat} {o : Obj} (h : X.heap[b]? = some o) : b < X.heap.size := (Array.getElem?_eq_some_iff.1 h).1
theorem grown_block {X Y : World} {m i : Nat} (h : X.grownBy Y (some m)) (hi : i < X.heap.size) (hn : i ≠ m) : Y.heap[i]? = X.heap[i]? := h.block i hi (fun e => hn (Option.some.inj e))
theorem mem53 {X : World} {b : Nat} {a c : Value} (h : X.heap[b]? = some (.cells #[a, c] 57)) : X.cell? ⟨b, 1, none⟩ = some c ∧ X.frozen? ⟨b, 1, none⟩ = false := by
  constructor <;> simp [World.cell?, World.frozen?, h]
theorem cell53 {X : World} {b : Nat} {a c : Value} (h : X.heap[b]? = some (.cells #[a, c] 57)) : X.cell? ⟨b, 0, none⟩ = some a := by simp [World.cell?, h]
theorem set53 {X : World} {b : Nat} {a c : Value} (h : X.heap[b]? = some (.cells #[a, c] 57)) (v : Value) : (X.setCell ⟨b, 1, none⟩ v).heap[b]? = some (.cells #[a, v] 57) := by simp [World.setCell, Array.getElem?_modify, h]
/-- What a space says of its memory. -/
def memI (b : Nat) (X : World) : Int := match X.cell? ⟨b, 1, none⟩ with
  | some (.int _ m) => m
  | _ => 0
theorem memI_is {X : World} {b : Nat} {a : Value} {m : Int} (h : X.heap[b]? = some (.cells #[a, .int .i64 m] 57)) : X.cell? ⟨b, 1, none⟩ = some (.int .i64 (memI b X)) := by
  unfold memI
  rw [(mem53 h).1]
theorem hMB_all (w1 : World) (bM : Nat) (l : MapT.Ents) (k : ByteArray) (r : Value) (h : MapT.MB w1 bM l) (hr : (Value.tuple #[(MapT.find k l).getD (.agg #[.string ⟨#[]⟩, .int .i64 0, .string ⟨#[]⟩, .slice none 0 0, .slice none 0 0, .slice none 0 0, .slice none 0 0, .int .i64 0]), .bool (MapT.find k l).isSome]) = r) (X : World) (hb : Below w1.heap.size w1 X) : (Instr.lookup 55 (.map (some bM)) (.string k) true).run Tryz.prog X = .ok r X := by
  have := MapT.run_lookup (ok := true) Tryz.underlying55 Tryz.underlying9 (h.below hb) k (z := .agg #[.string ⟨#[]⟩, .int .i64 0, .string ⟨#[]⟩, .slice none 0 0, .slice none 0 0, .slice none 0 0, .slice none 0 0, .int .i64 0]) (zero33 X)
  rw [this, ← hr]
  rfl

set_option maxRecDepth 100000 in
set_option maxHeartbeats 8000000 in
theorem Put10_new (bS bM : Nat) (l : MapT.Ents) (k t : ByteArray) (hk1 : 1 ≤ k.size) (hk : k.size ≤ 512) (ht : t.size ≤ 4096) (u : Int) (hu0 : 0 ≤ u) (hu1 : u ≤ 1125899906842624) (w : World) (h : SP w bS bM l) (hf : MapT.find k l = none) (hlen : l.length < 4096) : Calls Tryz.prog 29 #[.pointer (some ⟨bS, 0, none⟩), .agg #[.string k, .int .i64 1, .string t, .slice none 0 0, .slice none 0 0, .slice none 0 0, .slice none 0 0, .int .i64 u]] w fun e w' => e = .returned (.int .i64 0) ∧ SP w' bS bM (MapT.put k (.agg #[.string k, .int .i64 1, .string t, .slice none 0 0, .slice none 0 0, .slice none 0 0, .slice none 0 0, .int .i64 u]) l) ∧ Kp w.heap.size (fun i => i ≠ bS ∧ i ≠ bM) w w' := by
  have MY := Lib.hid (fun w => May15 k t hk1 hk ht u hu0 hu1 w)
  have CL := Lib.hid (fun w => clone17 k 1 t u w)
  have SZ := Lib.hid (fun w => size16 k t (by omega) (by omega) u w)
  have hlt := Lib.hid h.lt
  have hneP := Lib.hid (show bS ≠ w.heap.size from by have := h.lt; omega)
  have hl1 := hlen
  obtain ⟨⟨mem, hmem⟩, hMB, hne⟩ := h
  have hp := Lib.hid (heap_alloc_new w (.cells #[.string k, .int .i64 1, .string t, .slice none 0 0, .slice none 0 0, .slice none 0 0, .slice none 0 0, .int .i64 u] 66))
  have hS1 := Lib.hid (blk_below hmem (alloc_old (o := .cells #[.string k, .int .i64 1, .string t, .slice none 0 0, .slice none 0 0, .slice none 0 0, .slice none 0 0, .int .i64 u] 66)))
  have hM1 := Lib.hid (hMB.below (alloc_old (o := .cells #[.string k, .int .i64 1, .string t, .slice none 0 0, .slice none 0 0, .slice none 0 0, .slice none 0 0, .int .i64 u] 66)))
  have hr : (Value.tuple #[(MapT.find k l).getD (.agg #[.string ⟨#[]⟩, .int .i64 0, .string ⟨#[]⟩, .slice none 0 0, .slice none 0 0, .slice none 0 0, .slice none 0 0, .int .i64 0]), .bool (MapT.find k l).isSome]) = .tuple #[.agg #[.string ⟨#[]⟩, .int .i64 0, .string ⟨#[]⟩, .slice none 0 0, .slice none 0 0, .slice none 0 0, .slice none 0 0, .int .i64 0], .bool false] := by rw [hf]; rfl
  have HR := Lib.hid hr
  clear hmem hMB hf hr
  go_enter Tryz.func29, Tryz.ntmps29
  go_wp2_with (first | (go_at_call 51; (with_reducible refine (MY.out _).mono ?_); rintro e w1 ⟨rfl, h1⟩; have B1 := Lib.hid h1; clear h1))
  have hS2 := blk_below hS1.out B1.out
  have hp2 := blk_below hp.out B1.out
  have hM2 := hM1.out.below B1.out
  obtain ⟨⟨p0, p1, p2, p3, p4, p5, p6, p7⟩, ⟨pf0, pf1, pf2, pf3, pf4, pf5, pf6, pf7⟩, pz⟩ := cells8 hp2
  have s0 : w1.cell? ⟨bS, 0, none⟩ = some (.map (some bM)) := by simp [World.cell?, hS2]
  have hmk := (hMB_all w1 bM l k _ hM2 HR.out)
  have L1 := hmk w1.drew (Below.refl w1.heap.size w1).drew
  have L2 := hmk (w1.alloc (.cells #[.string ⟨#[]⟩, .int .i64 0, .string ⟨#[]⟩, .slice none 0 0, .slice none 0 0, .slice none 0 0, .slice none 0 0, .int .i64 0] 66)).drew (alloc_old).drew
  have sz := (Array.getElem?_eq_some_iff.1 hS2).1
  have hpz : w.heap.size < w1.heap.size := pz
  have KH := Lib.hid (show ∀ X, Below w1.heap.size w1 X → (X.cell? ⟨bS, 0, none⟩ = some (.map (some bM)) ∧ X.cell? ⟨w.heap.size, 0, none⟩ = some (.string k)) from fun X hb => ⟨(hb.cell (p := ⟨bS, 0, none⟩) sz).trans s0, (hb.cell (p := ⟨w.heap.size, 0, none⟩) hpz).trans p0⟩)
  have K0 := Lib.hid (KH.out w1.drew (Below.refl w1.heap.size w1).drew)
  have K1 := Lib.hid (KH.out (w1.alloc (.cells #[.string ⟨#[]⟩, .int .i64 0, .string ⟨#[]⟩, .slice none 0 0, .slice none 0 0, .slice none 0 0, .slice none 0 0, .int .i64 0] 66)).drew (alloc_old).drew)
  have K2 := Lib.hid (KH.out (w1.alloc (.cells #[.string ⟨#[]⟩, .int .i64 0, .string ⟨#[]⟩, .slice none 0 0, .slice none 0 0, .slice none 0 0, .slice none 0 0, .int .i64 0] 66)).drew (alloc_old).drew)
  clear hmk hM2 hS2 hp2
  go_region_held3 (fun X => X.cell? ⟨bS, 0, none⟩ = some (.map (some bM)) ∧ X.cell? ⟨w.heap.size, 0, none⟩ = some (.string k)) (first | (with_reducible exact K0.out) | (with_reducible exact K1.out) | (with_reducible exact K2.out)) (first | skip)
  all_goals (
    change Exit.then _ _ _ _ (w1.alloc (.cells #[.string ⟨#[]⟩, .int .i64 0, .string ⟨#[]⟩, .slice none 0 0, .slice none 0 0, .slice none 0 0, .slice none 0 0, .int .i64 0] 66)).drew
    have w2b := Lib.hid (show Below w1.heap.size w1 (w1.alloc (.cells #[.string ⟨#[]⟩, .int .i64 0, .string ⟨#[]⟩, .slice none 0 0, .slice none 0 0, .slice none 0 0, .slice none 0 0, .int .i64 0] 66)).drew from alloc_old.drew)
    have w2n := Lib.hid (show (w1.alloc (.cells #[.string ⟨#[]⟩, .int .i64 0, .string ⟨#[]⟩, .slice none 0 0, .slice none 0 0, .slice none 0 0, .slice none 0 0, .int .i64 0] 66)).drew.heap[w1.heap.size]? = some (.cells #[.string ⟨#[]⟩, .int .i64 0, .string ⟨#[]⟩, .slice none 0 0, .slice none 0 0, .slice none 0 0, .slice none 0 0, .int .i64 0] 66) from heap_alloc_new w1 _)
    generalize (w1.alloc (.cells #[.string ⟨#[]⟩, .int .i64 0, .string ⟨#[]⟩, .slice none 0 0, .slice none 0 0, .slice none 0 0, .slice none 0 0, .int .i64 0] 66)).drew = w2 at w2b w2n ⊢
    clear L1 L2 K0 K1 K2 KH s0
    have BW := Lib.hid (show Below w.heap.size w w2 from (alloc_old.trans (B1.out.mono (by simp))).trans (w2b.out.mono (by omega)))
    have Q2 := Lib.hid (show Kp w.heap.size (fun i => i ≠ bS ∧ i ≠ bM) w w2 from .of BW.out)
    have S2 := Lib.hid (blk_below hS1.out (B1.out.trans (w2b.out.mono (Below.size B1.out))))
    have P2 := Lib.hid (blk_below hp.out (B1.out.trans (w2b.out.mono (Below.size B1.out))))
    have M2 := Lib.hid (hM1.out.below (B1.out.trans (w2b.out.mono (Below.size B1.out))))
    have hne1 := Lib.hid (show bS ≠ w1.heap.size from by omega)
    clear hS1 hM1 hp w2b p0 p1 p2 p3 p4 p5 p6 p7 pf0 pf1 pf2 pf3 pf4 pf5 pf6 pf7
    have cM2 := cell53 S2.out
    have LN := MapT.run_len Tryz.underlying55 M2.out
    have il : ¬ (4096 : Int) ≤ (l.length : Int) := by omega
    go_wp2
    have KQ := Lib.hid (show ∀ X, Below w2.heap.size w2 X → (X.cell? ⟨bS, 0, none⟩ = some (.map (some bM)) ∧ X.cell? ⟨w.heap.size, 0, none⟩ = some (.string k) ∧ X.cell? ⟨w.heap.size, 1, none⟩ = some (.int .i64 1) ∧ X.cell? ⟨w.heap.size, 2, none⟩ = some (.string t) ∧ X.cell? ⟨w.heap.size, 3, none⟩ = some (.slice none 0 0) ∧ X.cell? ⟨w.heap.size, 4, none⟩ = some (.slice none 0 0) ∧ X.cell? ⟨w.heap.size, 5, none⟩ = some (.slice none 0 0) ∧ X.cell? ⟨w.heap.size, 6, none⟩ = some (.slice none 0 0) ∧ X.cell? ⟨w.heap.size, 7, none⟩ = some (.int .i64 u)) from fun X hb => ⟨cell53 (blk_below S2.out hb), (cells8 (blk_below P2.out hb)).1⟩)
    have KU := Lib.hid (show ∀ X Y, X.grownBy Y (some bM) → Below w2.heap.size w2 X → (Y.cell? ⟨bS, 0, none⟩ = some (.map (some bM)) ∧ Y.cell? ⟨w.heap.size, 0, none⟩ = some (.string k) ∧ Y.cell? ⟨w.heap.size, 1, none⟩ = some (.int .i64 1) ∧ Y.cell? ⟨w.heap.size, 2, none⟩ = some (.string t) ∧ Y.cell? ⟨w.heap.size, 3, none⟩ = some (.slice none 0 0) ∧ Y.cell? ⟨w.heap.size, 4, none⟩ = some (.slice none 0 0) ∧ Y.cell? ⟨w.heap.size, 5, none⟩ = some (.slice none 0 0) ∧ Y.cell? ⟨w.heap.size, 6, none⟩ = some (.slice none 0 0) ∧ Y.cell? ⟨w.heap.size, 7, none⟩ = some (.int .i64 u)) from fun X Y hg hb => ⟨cell53 ((grown_block hg (lt_blk (blk_below S2.out hb)) hne).trans (blk_below S2.out hb)), (cells8 ((grown_block hg (lt_blk (blk_below P2.out hb)) (by have := hlt.out; omega)).trans (blk_below P2.out hb))).1⟩)
    have Z8 := Lib.hid (CL.out w2.drew)
    have K8 := Lib.hid (KQ.out w2.drew (Below.refl _ _).drew)
    go_region_held3 (fun X => X.cell? ⟨bS, 0, none⟩ = some (.map (some bM)) ∧ X.cell? ⟨w.heap.size, 0, none⟩ = some (.string k) ∧ X.cell? ⟨w.heap.size, 1, none⟩ = some (.int .i64 1) ∧ X.cell? ⟨w.heap.size, 2, none⟩ = some (.string t) ∧ X.cell? ⟨w.heap.size, 3, none⟩ = some (.slice none 0 0) ∧ X.cell? ⟨w.heap.size, 4, none⟩ = some (.slice none 0 0) ∧ X.cell? ⟨w.heap.size, 5, none⟩ = some (.slice none 0 0) ∧ X.cell? ⟨w.heap.size, 6, none⟩ = some (.slice none 0 0) ∧ X.cell? ⟨w.heap.size, 7, none⟩ = some (.int .i64 u)) (first | (with_reducible exact K8.out) | (with_reducible exact KU.out _ _ (by assumption) (by assumption)) | (with_reducible exact KQ.out _ (by assumption))) (first | (go_at_call 34; (with_reducible refine (Z8.out).mono ?_); rintro e w5 ⟨rfl, h5⟩; have B5 : Below w2.heap.size w2 w5 := belT (Below.refl w2.heap.size w2).drew h5; clear h5; obtain ⟨w6, hrun, r1, r2, r3⟩ := MapT.run_update Tryz.underlying55 Tryz.underlying9 (M2.out.below B5) k (.agg #[.string k, .int .i64 1, .string t, .slice none 0 0, .slice none 0 0, .slice none 0 0, .slice none 0 0, .int .i64 u])))
    all_goals (
      have S6 := Lib.hid ((grown_block r2 (lt_blk (blk_below S2.out B5)) hne).trans (blk_below S2.out B5))
      have P6 := Lib.hid ((grown_block r2 (lt_blk (blk_below P2.out B5)) (show w.heap.size ≠ bM by have := hlt.out; omega)).trans (blk_below P2.out B5))
      have M6 := Lib.hid r1
      have Q6 := Lib.hid ((Q2.out.trans (.of (B5.mono Q2.out.size))).grown r2 (Nat.le_trans Q2.out.size (Below.size B5)) (fun k hk _ hS => hS.2 (Option.some.inj hk).symm))
      clear KQ KU Z8 K8 B5 hrun r1 r2 r3
      go_wp2
      obtain ⟨cm6, cf6⟩ := mem53 S6.out
      obtain ⟨⟨g0, g1, g2, g3, g4, g5, g6, g7⟩, _, gz⟩ := cells8 P6.out
      have Z7 := Lib.hid (SZ.out w6.drew)
      go_region_with ((go_at_call 50; (with_reducible refine (Z7.out).mono ?_); rintro e w7 ⟨rfl, h5⟩; have B7 : Below w6.heap.size w6 w7 := belT (Below.refl w6.heap.size w6).drew h5; clear h5; obtain ⟨cm7, cf7⟩ := mem53 (blk_below S6.out B7)))
      all_goals (
        change Exit.then _ _ _ _ (w7.setCell ⟨bS, 1, none⟩ (.int .i64 (IntKind.i64.wrap (mem + (48 + (k.size : Int) + t.size)))))
        have S8 := Lib.hid (set53 (blk_below S6.out B7) (.int .i64 (IntKind.i64.wrap (mem + (48 + (k.size : Int) + t.size)))))
        have P8 := Lib.hid ((Below.heap_setCell w7 ⟨bS, 1, none⟩ (.int .i64 (IntKind.i64.wrap (mem + (48 + (k.size : Int) + t.size)))) w.heap.size (by have := hlt.out; show w.heap.size ≠ bS; omega)).trans (blk_below P6.out B7))
        have M8 := Lib.hid ((M6.out.below B7).kept (Below.heap_setCell w7 ⟨bS, 1, none⟩ (.int .i64 (IntKind.i64.wrap (mem + (48 + (k.size : Int) + t.size)))) bM (Ne.symm hne)))
        have Q8 := Lib.hid (((Q6.out.trans (.of (B7.mono Q6.out.size))).setCell (p := ⟨bS, 1, none⟩) (by simp) (.int .i64 (IntKind.i64.wrap (mem + (48 + (k.size : Int) + t.size))))))
        clear cm6 cf6 cm7 cf7 g0 g1 g2 g3 g4 g5 g6 g7 gz Z7 B7
        generalize w7.setCell ⟨bS, 1, none⟩ (.int .i64 (IntKind.i64.wrap (mem + (48 + (k.size : Int) + t.size)))) = w8 at S8 P8 M8 Q8 ⊢
        go_wp2
        go_ret
        exact ⟨by simp, ⟨⟨_, S8.out⟩, M8.out, hne⟩, Q8.out⟩)))
end Go.Proofs.YticlacjpgjkhcaaGreatDoor
