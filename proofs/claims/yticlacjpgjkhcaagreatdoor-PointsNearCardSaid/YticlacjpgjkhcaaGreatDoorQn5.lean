/- Texts joined: St17, St20, St21, St22 -/
import Derived.Test.YticlacjpgjkhcaaGreatDoorQn4
import Derived.Laws.AppendOwn
import Derived.Laws.OwnMore
import Derived.Deep.RegionLaw
import Derived.OwnWalk

/- What a call keeps: all blocks below a number that a set holds; effects in memory. -/
namespace Go.Proofs.YticlacjpgjkhcaaGreatDoor
open Go.ChangeShapes Go.WideShapes Go.ChangeAt Go.RowKit

/-- Of the blocks below c nothing has turned but those that S leaves out. -/
structure Kp (c : Nat) (S : Nat → Prop) (w w' : World) : Prop where
  os : w'.os = w.os
  tape : w'.tape = w.tape
  output : w'.output = w.output
  size : w.heap.size ≤ w'.heap.size
  block : ∀ k, k < c → S k → w'.heap[k]? = w.heap[k]?
theorem Kp.refl (c : Nat) (S : Nat → Prop) (w : World) : Kp c S w w := ⟨rfl, rfl, rfl, Nat.le_refl _, fun _ _ _ => rfl⟩
theorem Kp.trans {c : Nat} {S : Nat → Prop} {x y z : World} (h : Kp c S x y) (k : Kp c S y z) : Kp c S x z :=
  ⟨k.os.trans h.os, k.tape.trans h.tape, k.output.trans h.output, Nat.le_trans h.size k.size, fun i hi hb => (k.block i hi hb).trans (h.block i hi hb)⟩
theorem Kp.of {c : Nat} {S : Nat → Prop} {w w' : World} (h : Below c w w') : Kp c S w w' := ⟨h.os, h.tape, h.output, h.size, fun i hi _ => h.block i hi⟩
theorem Kp.below {c n : Nat} {S : Nat → Prop} {w w' : World} (h : Kp c S w w') (hn : ∀ k, k < n → k < c ∧ S k) : Below n w w' := ⟨h.os, h.tape, h.output, h.size, fun i hi => h.block i (hn i hi).1 (hn i hi).2⟩
theorem Kp.mono {c d : Nat} {S T : Nat → Prop} {w w' : World} (h : Kp c S w w') (hd : d ≤ c) (hS : ∀ k, T k → S k) : Kp d T w w' := ⟨h.os, h.tape, h.output, h.size, fun i hi hb => h.block i (by omega) (hS i hb)⟩
theorem Kp.below_after {c n : Nat} {S : Nat → Prop} {w w' w'' : World} (h : Kp c S w w') (k : Below n w' w'') (hn : c ≤ n) : Kp c S w w'' := h.trans (.of (k.mono hn))
theorem Kp.setCell {c : Nat} {S : Nat → Prop} {w w' : World} (h : Kp c S w w') {p : Addr} (hp : ¬ (p.block < c ∧ S p.block)) (v : Value) : Kp c S w (w'.setCell p v) :=
  h.trans ⟨rfl, rfl, rfl, by simp [World.setCell], fun k hk hS => Below.heap_setCell _ _ _ _ (fun e => hp ⟨by omega, by rw [← e]; exact hS⟩)⟩
theorem Kp.alloc {c : Nat} {S : Nat → Prop} {w w' : World} (h : Kp c S w w') (hc : c ≤ w'.heap.size) (o : Obj) : Kp c S w (w'.alloc o) :=
  h.trans ⟨rfl, rfl, rfl, by simp, fun k hk _ => Below.heap_alloc _ _ _ (by omega)⟩
theorem Kp.drew {c : Nat} {S : Nat → Prop} {w w' : World} (h : Kp c S w w') : Kp c S w w'.drew := ⟨h.os, h.tape, h.output, h.size, h.block⟩
theorem Kp.grown {c : Nat} {S : Nat → Prop} {a w w' : World} {row : Option Nat} (h : Kp c S a w) (hg : w.grownBy w' row) (hB : c ≤ w.heap.size) (hr : ∀ k, row = some k → k < c → ¬ S k) : Kp c S a w' :=
  h.trans ⟨hg.os, hg.tape, hg.output, hg.size, fun k hk hS => hg.block k (by omega) (fun e => hr k e.symm hk hS)⟩
theorem Kp.cell {c : Nat} {S : Nat → Prop} {w w' : World} (h : Kp c S w w') {p : Addr} (hp : p.block < c) (hn : S p.block) : w'.cell? p = w.cell? p := World.cell?_of_block (h.block p.block hp hn)
theorem SP.kept {w w' : World} {bS bM : Nat} {l : MapT.Ents} (h : SP w bS bM l) (h1 : w'.heap[bS]? = w.heap[bS]?) (h2 : w'.heap[bM]? = w.heap[bM]?) : SP w' bS bM l := by
  obtain ⟨⟨mem, g1⟩, g2, g3⟩ := h
  exact ⟨⟨mem, h1.trans g1⟩, g2.kept h2, g3⟩
theorem SP.lt {w : World} {bS bM : Nat} {l : MapT.Ents} (h : SP w bS bM l) : bS < w.heap.size ∧ bM < w.heap.size := ⟨h.cell.2, h.2.1.lt⟩
theorem JB.kept {w w' : World} {j bS : Nat} {now : Int} {vA vl : Value} (h : JB w j bS now vA vl) (h1 : w'.heap[j]? = w.heap[j]?) : JB w' j bS now vA vl := h1.trans h
/-- An entry of a text. -/
abbrev entV (k : ByteArray) (kd : Int) (t : ByteArray) (u : Int) : Value := .agg #[.string k, .int .i64 kd, .string t, .slice none 0 0, .slice none 0 0, .slice none 0 0, .slice none 0 0, .int .i64 u]
/-- An entry as it is told: key, kind, text, end. -/
structure Ent where
  k : ByteArray
  kd : Int
  t : ByteArray
  u : Int
def Ent.cells (e : Ent) : List Value := [.string e.k, .int .i64 e.kd, .string e.t, .slice none 0 0, .slice none 0 0, .slice none 0 0, .slice none 0 0, .int .i64 e.u]
def Ent.val (e : Ent) : Value := entV e.k e.kd e.t e.u
/-- Effects in a row of the call's own. -/
def EF (w : World) (c : Nat) (v : Value) (es : List Ent) : Prop := w.ownsRow c 68 8 v es.length (es.flatMap Ent.cells)
theorem EF.nil (w : World) (c : Nat) : EF w c (.slice none 0 0) [] := World.ownsRow_nil w c 68 8
theorem EF.below {w w' : World} {c : Nat} {v : Value} {es : List Ent} (h : EF w c v es) (hb : Below w.heap.size w w') : EF w' c v es := by
  refine World.ownsRow.kept (row := none) h ⟨hb.os, hb.tape, hb.output, hb.size, fun k hk _ => hb.block k hk⟩ ?_
  cases v.ownBlock with
  | none => exact .inl rfl
  | some g => exact .inr (by simp)
theorem EF.kept {w w' : World} {c : Nat} {v : Value} {es : List Ent} (h : EF w c v es) (_hs : w.heap.size ≤ w'.heap.size) (hb : ∀ g, v.ownBlock = some g → w'.heap[g]? = w.heap[g]?) : EF w' c v es := by
  unfold EF World.ownsRow at h ⊢
  obtain ⟨h1, h2⟩ := h
  refine ⟨h1, ?_⟩
  rcases h2 with h2 | ⟨g, cap, cur, hv, hg, hh, r⟩
  · exact .inl h2
  · exact .inr ⟨g, cap, cur, hv, hg, by rw [hb g (by rw [hv]; rfl)]; exact hh, r⟩
theorem EF.mono {w : World} {c d : Nat} {v : Value} {es : List Ent} (h : EF w c v es) (hd : d ≤ c) : EF w d v es := by
  unfold EF World.ownsRow at h ⊢
  obtain ⟨h1, h2⟩ := h
  refine ⟨h1, ?_⟩
  rcases h2 with h2 | ⟨g, cap, cur, hv, hg, r⟩
  · exact .inl h2
  · exact .inr ⟨g, cap, cur, hv, by omega, r⟩
theorem len_cells (es : List Ent) : (es.flatMap Ent.cells).length = es.length * 8 := by
  induction es with
  | nil => rfl
  | cons e r ih => rw [List.flatMap_cons, List.length_append, ih, List.length_cons, show e.cells.length = 8 from rfl]; omega
/-- What effects do to what a space holds. -/
def applyE : List Ent → MapT.Ents → MapT.Ents
  | [], l => l
  | e :: r, l => applyE r (if e.kd = 0 then MapT.del e.k l else MapT.put e.k e.val l)
theorem find_put (k : ByteArray) (v : Value) (q : ByteArray) : ∀ l, MapT.find q (MapT.put k v l) = if k = q then some v else MapT.find q l := by
  intro l
  induction l with
  | nil => simp [MapT.put, MapT.find]
  | cons p r ih =>
    obtain ⟨x, u⟩ := p
    by_cases hx : x = k
    · subst hx
      by_cases hq : x = q
      · subst hq; simp [MapT.put, MapT.find]
      · simp [MapT.put, MapT.find, hq]
    · by_cases hq : x = q
      · subst hq
        have : ¬ k = x := fun e => hx e.symm
        simp [MapT.put, MapT.find, hx, this]
      · simp [MapT.put, MapT.find, hx, hq, ih]
theorem put_same (k : ByteArray) (v : Value) : ∀ l, MapT.find k l = some v → MapT.put k v l = l := by
  intro l h
  induction l with
  | nil => simp [MapT.find] at h
  | cons p r ih =>
    obtain ⟨x, u⟩ := p
    by_cases hx : x = k
    · subst hx
      simp [MapT.find] at h
      simp [MapT.put, h]
    · simp [MapT.find, hx] at h
      simp [MapT.put, hx, ih h]
theorem len_put (k : ByteArray) (v : Value) : ∀ l, (MapT.put k v l).length ≤ l.length + 1 := by
  intro l
  induction l with
  | nil => simp [MapT.put]
  | cons p r ih =>
    obtain ⟨x, u⟩ := p
    by_cases hx : x = k
    · simp [MapT.put, hx]
    · simp [MapT.put, hx]; omega
end Go.Proofs.YticlacjpgjkhcaaGreatDoor

/- A job's effects: an entry is put, a key is taken. -/
namespace Go.Proofs.YticlacjpgjkhcaaGreatDoor
open Go.ChangeShapes Go.WideShapes Go.ChangeAt Go.RowKit

theorem i60 : (Tryz.prog.info? 68).map (fun i => (i.zero, i.size, i.bytes)) = some (some (.agg #[.string ⟨#[]⟩, .int .i64 0, .string ⟨#[]⟩, .slice none 0 0, .slice none 0 0, .slice none 0 0, .slice none 0 0, .int .i64 0]), 8, 144) := by kernel_rfl
theorem run_append_E (w : World) (ty : TypeId) (c : Nat) (v : Value) (es : List Ent) (h : EF w c v es) (e : Ent) (b : Nat) (hb : w.heap[b]? = some (.cells e.cells.toArray 68)) (hl : es.length ≤ 100000) (hc : c ≤ w.heap.size) :
    ∃ A n cap w', (Builtin.append_ #[59, 59] ty #[v, .slice (some ⟨b, 0, none⟩) 1 1]).run Tryz.prog w = .ok (.slice A n cap) w' ∧ EF w' c (.slice A n cap) (es ++ [e]) ∧ w.grownBy w' v.ownBlock := by
  obtain ⟨i0, hi, hz0, hz1, hz2⟩ := info_parts i60
  have hcell : ∀ (j : Nat) (u : Value), e.cells[j]? = some u → w.cell? ((⟨b, 0, none⟩ : Addr).add j) = some u := fun j u hj => by
    have := cell_of_row w b j _ 68 (0, 0) hb
    unfold Addr.add
    by_cases h0 : j = 0
    · subst h0; simpa [hj] using this
    · simp [h0]; rw [this]; simpa using hj
  obtain ⟨v', w', hrun, hown, hgr, hnil⟩ := run_append_own (P := Tryz.prog) w c 59 ty 68 i0 (.agg #[.string ⟨#[]⟩, .int .i64 0, .string ⟨#[]⟩, .slice none 0 0, .slice none 0 0, .slice none 0 0, .slice none 0 0, .int .i64 0]) 8 144 Tryz.underlying59 hi hz0 hz1 hz2 rfl (by decide) v es.length (es.flatMap Ent.cells) h ⟨b, 0, none⟩ 1 1 e.cells rfl hcell
    (fun u hu => by simp [Ent.cells] at hu; rcases hu with rfl | rfl | rfl | rfl | rfl | rfl <;> rfl) (by unfold maxLen; omega) (by omega) hc
  have hE : EF w' c v' (es ++ [e]) := by
    unfold EF
    rw [List.length_append, List.flatMap_append, show [e].length = 1 from rfl, show [e].flatMap Ent.cells = e.cells by simp]
    exact hown
  have hE2 := hE
  unfold EF World.ownsRow at hE2
  obtain ⟨_, ⟨rfl, _⟩ | ⟨g, cap, cur, rfl, _⟩⟩ := hE2
  · exact ⟨_, _, _, w', hrun, hE, hgr⟩
  · exact ⟨_, _, _, w', hrun, hE, hgr⟩
theorem step_append_E {ops : Array Oper} {o : Oper} {a : Act} {K : Act → World → Prop} {Q : Exit → Act → World → Prop} {X : Prop} (w : World) (hgd : o.guard = none) (s x : Operand) (hop : o.op = Op.call { callee := Callee.builtin Builtin.append, args := #[s, x], argTypes := #[59, 59] })
    (c : Nat) (v : Value) (es : List Ent) (hs : a.eval s = v) (h : EF w c v es) (e : Ent) (b : Nat) (hx : a.eval x = .slice (some ⟨b, 0, none⟩) 1 1) (hb : w.heap[b]? = some (.cells e.cells.toArray 68)) (hl : es.length ≤ 100000) (hc : c ≤ w.heap.size)
    (k : ∀ A n cap w', EF w' c (.slice A n cap) (es ++ [e]) → w.grownBy w' v.ownBlock → K (a.put o.dst (.slice A n cap)) w') :
    if Region.wanted o (yielded ops a.tmps) = true then Oper.wp Tryz.prog o a w K Q else X := by
  have hw : Region.wanted o (yielded ops a.tmps) = true := by simp [Region.wanted, hgd]
  rw [if_pos hw]
  obtain ⟨A, n, cap, w', hr, h1, h3⟩ := run_append_E w o.type c v es h e b hb hl hc
  unfold Oper.wp execOp
  simp only [hop, resolve, invoke, builtin, Sem.run_bind, Sem.run_pure, Result.andThen_ok, List.map_toArray, List.map_cons, List.map_nil, hs, hx, hr]
  exact k A n cap w' h1 h3
theorem wpList_append_E {ops : Array Oper} {rest : List Oper} {o : Oper} {a : Act} {Q : Exit → Act → World → Prop} (w : World) (hgd : o.guard = none) (s x : Operand) (hop : o.op = Op.call { callee := Callee.builtin Builtin.append, args := #[s, x], argTypes := #[59, 59] })
    (c : Nat) (v : Value) (es : List Ent) (hs : a.eval s = v) (h : EF w c v es) (e : Ent) (b : Nat) (hx : a.eval x = .slice (some ⟨b, 0, none⟩) 1 1) (hb : w.heap[b]? = some (.cells e.cells.toArray 68)) (hl : es.length ≤ 100000) (hc : c ≤ w.heap.size)
    (k : ∀ A n cap w', EF w' c (.slice A n cap) (es ++ [e]) → w.grownBy w' v.ownBlock → wpList Tryz.prog ops Q rest (a.put o.dst (.slice A n cap)) w') : wpList Tryz.prog ops Q (o :: rest) a w := by
  obtain ⟨A, n, cap, w', hr, h1, h3⟩ := run_append_E w o.type c v es h e b hb hl hc
  refine wpList_plain hgd fun K hK' => ?_
  unfold Oper.wp
  simp [execOp, hop, resolve, invoke, builtin, hs, hx, hr, Result.andThen]
  exact hK' _ _ (k A n cap w' h1 h3)
theorem EF.own {w : World} {c : Nat} {v : Value} {es : List Ent} (h : EF w c v es) : ∀ g, v.ownBlock = some g → c ≤ g ∧ ∃ cur, w.heap[g]? = some (.cells cur 68) := by
  intro g hg
  unfold EF World.ownsRow at h
  obtain ⟨_, ⟨rfl, _⟩ | ⟨g', cap, cur, rfl, h1, h2, _⟩⟩ := h
  · cases hg
  · cases hg
    exact ⟨h1, cur, h2⟩
theorem JB.set {w : World} {j bS : Nat} {now : Int} {vA vl : Value} (h : JB w j bS now vA vl) (v : Value) : JB (w.setCell ⟨j, 3, none⟩ v) j bS now vA v := by
  unfold JB at h ⊢
  simp [World.setCell, Array.getElem?_modify, h]
theorem EF.ne_job {w : World} {j bS : Nat} {now : Int} {vA vl : Value} (h : JB w j bS now vA vl) {c : Nat} {v : Value} {es : List Ent} (hE : EF w c v es) : v.ownBlock ≠ some j := by
  intro e
  obtain ⟨_, cur, hh⟩ := hE.own j e
  unfold JB at h
  rw [h] at hh
  simp at hh
/-- What is left when an effect has been appended and laid into the job. -/
theorem job_end {w w1 w2 : World} {j bS : Nat} {now : Int} {vA vl : Value} {c : Nat} {v' : Value} {es es' : List Ent} (hj : JB w j bS now vA vl) (hE : EF w c vl es) (hb : Below w.heap.size w w1) (hc : c ≤ w.heap.size) (h1 : EF w2 c v' es') (h2 : w1.grownBy w2 vl.ownBlock) :
    JB (w2.setCell ⟨j, 3, none⟩ v') j bS now vA v' ∧ EF (w2.setCell ⟨j, 3, none⟩ v') c v' es' ∧ Kp c (fun i => i ≠ j) w (w2.setCell ⟨j, 3, none⟩ v') := by
  have hj1 := hj.below hb
  have hne := (hE.below hb).ne_job hj1
  have hj2 : JB w2 j bS now vA vl := hj1.kept (h2.block j hj1.cells.2.2.2.2.2 (fun e => hne e.symm))
  refine ⟨hj2.set v', h1.kept (by simp [World.setCell]) (fun g hg => Below.heap_setCell _ _ _ _ (fun e => ?_)), ?_⟩
  · have e2 : g = j := e
    subst e2
    exact h1.ne_job hj2 hg
  · refine ((Kp.of (hb.mono hc)).grown h2 (Nat.le_trans hc (Below.size hb)) (fun k hk hkc => ?_)).setCell (p := ⟨j, 3, none⟩) (by simp) v'
    have := (hE.own k hk).1
    omega
theorem job_cell {w w1 w2 : World} {j bS : Nat} {now : Int} {vA vl : Value} {c : Nat} {es : List Ent} (hj : JB w j bS now vA vl) (hE : EF w c vl es) (hb : Below w.heap.size w w1) (h2 : w1.grownBy w2 vl.ownBlock) :
    w2.frozen? ⟨j, 3, none⟩ = false ∧ w2.cell? ⟨j, 3, none⟩ = some vl := by
  have hj1 := hj.below hb
  have hne := (hE.below hb).ne_job hj1
  have hj2 : JB w2 j bS now vA vl := hj1.kept (h2.block j hj1.cells.2.2.2.2.2 (fun e => hne e.symm))
  exact ⟨hj2.cells.2.2.2.2.1, hj2.cells.2.2.2.1⟩

set_option maxRecDepth 100000 in
set_option maxHeartbeats 4000000 in
theorem Take76 (j bS : Nat) (now : Int) (vA : Value) (A : Option Addr) (n cap : Nat) (es : List Ent) (c : Nat) (w : World) (hj : JB w j bS now vA (.slice A n cap)) (hE : EF w c (.slice A n cap) es) (hc : c ≤ w.heap.size) (hl : es.length ≤ 100000) (k : ByteArray) : Calls Tryz.prog 210 #[.pointer (some ⟨j, 0, none⟩), .string k] w fun e w' => e = .returned (.tuple #[]) ∧ (∃ A' n' cap', JB w' j bS now vA (.slice A' n' cap') ∧ EF w' c (.slice A' n' cap') (es ++ [⟨k, 0, ⟨#[]⟩, 0⟩])) ∧ Kp c (fun i => i ≠ j) w w' := by
  obtain ⟨j0, j1, j2, j3, jf, jz⟩ := hj.cells
  have HJ := Lib.hid hj
  have HE := Lib.hid hE
  clear hj hE
  go_enter Tryz.func210, Tryz.ntmps210
  go_wp2_with (first | (at_builtin; refine wpList_append_E _ rfl _ _ rfl c _ es rfl (HE.out.below alloc_old) ⟨k, 0, ⟨#[]⟩, 0⟩ _ rfl (heap_alloc_new _ _) hl (Nat.le_trans hc (by simp)) ?_; intro A' n' cap' w2 hE2 hg2; have R := Lib.hid (job_end HJ.out HE.out alloc_old hc hE2 hg2); obtain ⟨hf3, hc3⟩ := job_cell HJ.out HE.out alloc_old hg2; clear hE2 hg2))
  go_end0
  exact ⟨rfl, ⟨A', n', cap', R.out.1, R.out.2.1⟩, R.out.2.2⟩
set_option maxRecDepth 100000 in
set_option maxHeartbeats 4000000 in
theorem Put72 (j bS : Nat) (now : Int) (vA : Value) (A : Option Addr) (n cap : Nat) (es : List Ent) (c : Nat) (w : World) (hj : JB w j bS now vA (.slice A n cap)) (hE : EF w c (.slice A n cap) es) (hc : c ≤ w.heap.size) (hl : es.length ≤ 100000) (k t : ByteArray) (hk1 : 1 ≤ k.size) (hk : k.size ≤ 512) (ht : t.size ≤ 4096) (u : Int) (hu0 : 0 ≤ u) (hu1 : u ≤ 1125899906842624) : Calls Tryz.prog 212 #[.pointer (some ⟨j, 0, none⟩), .agg #[.string k, .int .i64 1, .string t, .slice none 0 0, .slice none 0 0, .slice none 0 0, .slice none 0 0, .int .i64 u]] w fun e w' => e = .returned (.tuple #[]) ∧ (∃ A' n' cap', JB w' j bS now vA (.slice A' n' cap') ∧ EF w' c (.slice A' n' cap') (es ++ [⟨k, 1, t, u⟩])) ∧ Kp c (fun i => i ≠ j) w w' := by
  have MY := Lib.hid (fun w => May15 k t hk1 hk ht u hu0 hu1 w)
  have hp := Lib.hid (heap_alloc_new w (.cells #[.string k, .int .i64 1, .string t, .slice none 0 0, .slice none 0 0, .slice none 0 0, .slice none 0 0, .int .i64 u] 66))
  have HJ := Lib.hid hj
  have HE := Lib.hid hE
  clear hj hE
  go_enter Tryz.func212, Tryz.ntmps212
  go_wp2_with (first | (go_at_call 51; (with_reducible refine (MY.out _).mono ?_); rintro e w1 ⟨rfl, h1⟩; have B1 := Lib.hid h1; clear h1))
  have BW := Lib.hid (show Below w.heap.size w w1 from alloc_old.trans (B1.out.mono (by simp)))
  obtain ⟨j0, j1, j2, j3, jf, jz⟩ := (HJ.out.below BW.out).cells
  obtain ⟨⟨p0, p1, p2, p3, p4, p5, p6, p7⟩, ⟨pf0, pf1, pf2, pf3, pf4, pf5, pf6, pf7⟩, pz⟩ := cells8 (blk_below hp.out B1.out)
  have BA := Lib.hid (show Below w.heap.size w (w1.alloc (.cells #[.string k, .int .i64 1, .string t, .slice none 0 0, .slice none 0 0, .slice none 0 0, .slice none 0 0, .int .i64 u] 68)).drew from (BW.out.trans ((alloc_old (w := w1)).mono (Below.size BW.out))).drew)
  have HEX := Lib.hid (HE.out.below BA.out)
  have HBX := Lib.hid (show (w1.alloc (.cells #[.string k, .int .i64 1, .string t, .slice none 0 0, .slice none 0 0, .slice none 0 0, .slice none 0 0, .int .i64 u] 68)).drew.heap[w1.heap.size]? = some (.cells (Ent.cells ⟨k, 1, t, u⟩).toArray 68) from heap_alloc_new w1 _)
  have HCX := Lib.hid (show c ≤ (w1.alloc (.cells #[.string k, .int .i64 1, .string t, .slice none 0 0, .slice none 0 0, .slice none 0 0, .slice none 0 0, .int .i64 u] 68)).drew.heap.size from Nat.le_trans hc (Below.size BA.out))
  have HA3 := Lib.hid (fun w2 (hg : (w1.alloc (.cells #[.string k, .int .i64 1, .string t, .slice none 0 0, .slice none 0 0, .slice none 0 0, .slice none 0 0, .int .i64 u] 68)).drew.grownBy w2 (Value.slice A n cap).ownBlock) => job_cell HJ.out HE.out BA.out hg)
  have a3 : (w1.alloc (.cells #[.string k, .int .i64 1, .string t, .slice none 0 0, .slice none 0 0, .slice none 0 0, .slice none 0 0, .int .i64 u] 68)).drew.cell? ⟨j, 3, none⟩ = some (.slice A n cap) := (HJ.out.below BA.out).cells.2.2.2.1
  go_region_law (first | (refine step_append_E _ rfl _ _ rfl c _ es rfl HEX.out ⟨k, 1, t, u⟩ _ rfl HBX.out hl HCX.out ?_; intro A' n' cap' w2 hE2 hg2; obtain ⟨hf3, hc3⟩ := HA3.out w2 hg2))
  all_goals (
    have R := Lib.hid (job_end HJ.out HE.out BA.out hc hE2 hg2)
    go_end0
    exact ⟨rfl, ⟨A', n', cap', R.out.1, R.out.2.1⟩, R.out.2.2⟩)
end Go.Proofs.YticlacjpgjkhcaaGreatDoor

/- Two values are the same: at values of texts. -/
namespace Go.Proofs.YticlacjpgjkhcaaGreatDoor
open Go.ChangeShapes Go.WideShapes Go.ChangeAt Go.RowKit

theorem new_next (w : World) (o1 o2 : Obj) : ((w.alloc o1).alloc o2).heap[w.heap.size + 1]? = some o2 := by
  have := heap_alloc_new (w.alloc o1) o2
  rw [World.size_alloc] at this
  exact this
theorem bytes_ne {t s : ByteArray} (h : t ≠ s) : ¬ t.toList = s.toList := by
  rw [ByteArray.toList_eq, ByteArray.toList_eq]
  exact fun e => h (bytes_inj e)
theorem Eq101 (w : World) : Calls Tryz.prog 232 #[.slice none 0 0, .slice none 0 0] w fun e w' => e = .returned (.bool true) ∧ Below w.heap.size w w' := by
  go_enter Tryz.func232, Tryz.ntmps232
  go_wp2
  refine wp_loop_once ?_
  go_wp2
  go_ret
  exact ⟨rfl, Below.refl _ _⟩
theorem Eq102 (w : World) : Calls Tryz.prog 233 #[.slice none 0 0, .slice none 0 0] w fun e w' => e = .returned (.bool true) ∧ Below w.heap.size w w' := by
  go_enter Tryz.func233, Tryz.ntmps233
  go_wp2
  refine wp_loop_once ?_
  go_wp2
  go_ret
  exact ⟨rfl, Below.refl _ _⟩
theorem Eq103 (w : World) : Calls Tryz.prog 234 #[.slice none 0 0, .slice none 0 0] w fun e w' => e = .returned (.bool true) ∧ Below w.heap.size w w' := by
  go_enter Tryz.func234, Tryz.ntmps234
  go_wp2
  refine wp_loop_once ?_
  go_wp2
  go_ret
  exact ⟨rfl, Below.refl _ _⟩
theorem Eq99 (f : Value) (w : World) : Calls Tryz.prog 230 #[.slice none 0 0, .slice none 0 0, f] w fun e w' => e = .returned (.bool true) ∧ Below w.heap.size w w' := by
  go_enter Tryz.func230, Tryz.ntmps230
  go_wp2
  refine wp_loop_once ?_
  go_wp2
  go_ret
  exact ⟨rfl, Below.refl _ _⟩
set_option maxRecDepth 100000 in
set_option maxHeartbeats 4000000 in
theorem Same_yes (t : ByteArray) (w : World) : Calls Tryz.prog 211 #[.agg #[.int .i64 1, .string t, .slice none 0 0, .slice none 0 0, .slice none 0 0, .slice none 0 0], .agg #[.int .i64 1, .string t, .slice none 0 0, .slice none 0 0, .slice none 0 0, .slice none 0 0]] w fun e w' => e = .returned (.bool true) ∧ Below w.heap.size w w' := by
  have hmf : ∀ (fn : Fn) (first cap : Array Value) (w : World), (Instr.makeFunc fn first cap).run Tryz.prog w = .ok (.func fn first cap) w := fun _ _ _ _ => rfl
  have hsf : ∀ (a : Addr) (f : Fn) (x y : Array Value) (w : World) (m : Mode), (store a (.func f x y) m).run Tryz.prog w = stored Tryz.prog w a (.func f x y) m := fun a f x y w m => run_store Tryz.prog w a _ m rfl
  have q1 := Lib.hid (fun w => Eq101 w)
  have q2 := Lib.hid (fun w => Eq102 w)
  have q3 := Lib.hid (fun w => Eq103 w)
  have q4 := Lib.hid (fun f w => Eq99 f w)
  have C1 := Lib.hid (fun w1 (hb : Below ((((w.alloc (.cells #[.int .i64 1, .string t, .slice none 0 0, .slice none 0 0, .slice none 0 0, .slice none 0 0] 64)).alloc (.cells #[.int .i64 1, .string t, .slice none 0 0, .slice none 0 0, .slice none 0 0, .slice none 0 0] 64)).alloc (.cells #[.func (.func 228) #[] #[]] 256))).heap.size ((((w.alloc (.cells #[.int .i64 1, .string t, .slice none 0 0, .slice none 0 0, .slice none 0 0, .slice none 0 0] 64)).alloc (.cells #[.int .i64 1, .string t, .slice none 0 0, .slice none 0 0, .slice none 0 0, .slice none 0 0] 64)).alloc (.cells #[.func (.func 228) #[] #[]] 256))) w1) => cells6 (blk_below (show ((((w.alloc (.cells #[.int .i64 1, .string t, .slice none 0 0, .slice none 0 0, .slice none 0 0, .slice none 0 0] 64)).alloc (.cells #[.int .i64 1, .string t, .slice none 0 0, .slice none 0 0, .slice none 0 0, .slice none 0 0] 64)).alloc (.cells #[.func (.func 228) #[] #[]] 256))).heap[w.heap.size]? = some (.cells #[.int .i64 1, .string t, .slice none 0 0, .slice none 0 0, .slice none 0 0, .slice none 0 0] 64) from blk_below (blk_below (heap_alloc_new w _) alloc_old) alloc_old) hb))
  have C2 := Lib.hid (fun w1 (hb : Below ((((w.alloc (.cells #[.int .i64 1, .string t, .slice none 0 0, .slice none 0 0, .slice none 0 0, .slice none 0 0] 64)).alloc (.cells #[.int .i64 1, .string t, .slice none 0 0, .slice none 0 0, .slice none 0 0, .slice none 0 0] 64)).alloc (.cells #[.func (.func 228) #[] #[]] 256))).heap.size ((((w.alloc (.cells #[.int .i64 1, .string t, .slice none 0 0, .slice none 0 0, .slice none 0 0, .slice none 0 0] 64)).alloc (.cells #[.int .i64 1, .string t, .slice none 0 0, .slice none 0 0, .slice none 0 0, .slice none 0 0] 64)).alloc (.cells #[.func (.func 228) #[] #[]] 256))) w1) => cells6 (blk_below (show ((((w.alloc (.cells #[.int .i64 1, .string t, .slice none 0 0, .slice none 0 0, .slice none 0 0, .slice none 0 0] 64)).alloc (.cells #[.int .i64 1, .string t, .slice none 0 0, .slice none 0 0, .slice none 0 0, .slice none 0 0] 64)).alloc (.cells #[.func (.func 228) #[] #[]] 256))).heap[w.heap.size + 1]? = some (.cells #[.int .i64 1, .string t, .slice none 0 0, .slice none 0 0, .slice none 0 0, .slice none 0 0] 64) from blk_below (new_next w _ _) alloc_old) hb))
  have BA := Lib.hid (show Below w.heap.size w ((((w.alloc (.cells #[.int .i64 1, .string t, .slice none 0 0, .slice none 0 0, .slice none 0 0, .slice none 0 0] 64)).alloc (.cells #[.int .i64 1, .string t, .slice none 0 0, .slice none 0 0, .slice none 0 0, .slice none 0 0] 64)).alloc (.cells #[.func (.func 228) #[] #[]] 256))) from (alloc_old.trans (alloc_old.mono (by simp))).trans (alloc_old.mono (by simp; omega)))
  go_enter Tryz.func211, Tryz.ntmps211
  go_wp2_with (first | (go_at_call 230; (with_reducible refine (q4.out _ _).mono ?_); rintro e w1 ⟨rfl, h1⟩; have B1 := Lib.hid h1; clear h1; refine Hid.out ?_))
  refine Lib.hid ?_
  have B2 := Lib.hid (BA.out.trans (B1.out.mono (Below.size BA.out)))
  obtain ⟨⟨a0, a1, a2, a3, a4, a5⟩, _⟩ := C1.out _ B1.out
  obtain ⟨⟨b0, b1, b2, b3, b4, b5⟩, _⟩ := C2.out _ B1.out
  have D := Lib.hid (show ∀ X, Below w1.heap.size w1 X → X.cell? ⟨w.heap.size, 3, none⟩ = some (.slice none 0 0) ∧ X.cell? ⟨w.heap.size, 4, none⟩ = some (.slice none 0 0) ∧ X.cell? ⟨w.heap.size + 1, 3, none⟩ = some (.slice none 0 0) ∧ X.cell? ⟨w.heap.size + 1, 4, none⟩ = some (.slice none 0 0) from fun X hb =>
    have x1 := (C1.out _ (belT B1.out hb)).1
    have x2 := (C2.out _ (belT B1.out hb)).1
    ⟨x1.2.2.2.1, x1.2.2.2.2.1, x2.2.2.2.1, x2.2.2.2.2.1⟩)
  go_wp2_with (first | (go_at_call 232; (with_reducible refine (q1.out _).mono ?_); rintro e w2 ⟨rfl, h1⟩; have B3 := Lib.hid h1; clear h1; obtain ⟨x1, x2, x3, x4⟩ := D.out _ B3.out) | (go_at_call 233; (with_reducible refine (q2.out _).mono ?_); rintro e w3 ⟨rfl, h1⟩; have B4 := Lib.hid (belT B3.out h1); clear h1; obtain ⟨y1, y2, y3, y4⟩ := D.out _ B4.out) | (go_at_call 234; (with_reducible refine (q3.out _).mono ?_); rintro e w4 ⟨rfl, h1⟩; have B5 := Lib.hid (belT B4.out h1); clear h1))
  go_ret
  exact ⟨by simp, belT B2.out B5.out⟩
set_option maxRecDepth 100000 in
set_option maxHeartbeats 4000000 in
theorem Same_no (t s : ByteArray) (hn : t ≠ s) (w : World) : Calls Tryz.prog 211 #[.agg #[.int .i64 1, .string t, .slice none 0 0, .slice none 0 0, .slice none 0 0, .slice none 0 0], .agg #[.int .i64 1, .string s, .slice none 0 0, .slice none 0 0, .slice none 0 0, .slice none 0 0]] w fun e w' => e = .returned (.bool false) ∧ Below w.heap.size w w' := by
  have hmf : ∀ (fn : Fn) (first cap : Array Value) (w : World), (Instr.makeFunc fn first cap).run Tryz.prog w = .ok (.func fn first cap) w := fun _ _ _ _ => rfl
  have hsf : ∀ (a : Addr) (f : Fn) (x y : Array Value) (w : World) (m : Mode), (store a (.func f x y) m).run Tryz.prog w = stored Tryz.prog w a (.func f x y) m := fun a f x y w m => run_store Tryz.prog w a _ m rfl
  have q1 := Lib.hid (fun w => Eq101 w)
  have q2 := Lib.hid (fun w => Eq102 w)
  have q3 := Lib.hid (fun w => Eq103 w)
  have q4 := Lib.hid (fun f w => Eq99 f w)
  have hq := bytes_ne hn
  have C1 := Lib.hid (fun w1 (hb : Below ((((w.alloc (.cells #[.int .i64 1, .string t, .slice none 0 0, .slice none 0 0, .slice none 0 0, .slice none 0 0] 64)).alloc (.cells #[.int .i64 1, .string s, .slice none 0 0, .slice none 0 0, .slice none 0 0, .slice none 0 0] 64)).alloc (.cells #[.func (.func 228) #[] #[]] 256))).heap.size ((((w.alloc (.cells #[.int .i64 1, .string t, .slice none 0 0, .slice none 0 0, .slice none 0 0, .slice none 0 0] 64)).alloc (.cells #[.int .i64 1, .string s, .slice none 0 0, .slice none 0 0, .slice none 0 0, .slice none 0 0] 64)).alloc (.cells #[.func (.func 228) #[] #[]] 256))) w1) => cells6 (blk_below (show ((((w.alloc (.cells #[.int .i64 1, .string t, .slice none 0 0, .slice none 0 0, .slice none 0 0, .slice none 0 0] 64)).alloc (.cells #[.int .i64 1, .string s, .slice none 0 0, .slice none 0 0, .slice none 0 0, .slice none 0 0] 64)).alloc (.cells #[.func (.func 228) #[] #[]] 256))).heap[w.heap.size]? = some (.cells #[.int .i64 1, .string t, .slice none 0 0, .slice none 0 0, .slice none 0 0, .slice none 0 0] 64) from blk_below (blk_below (heap_alloc_new w _) alloc_old) alloc_old) hb))
  have C2 := Lib.hid (fun w1 (hb : Below ((((w.alloc (.cells #[.int .i64 1, .string t, .slice none 0 0, .slice none 0 0, .slice none 0 0, .slice none 0 0] 64)).alloc (.cells #[.int .i64 1, .string s, .slice none 0 0, .slice none 0 0, .slice none 0 0, .slice none 0 0] 64)).alloc (.cells #[.func (.func 228) #[] #[]] 256))).heap.size ((((w.alloc (.cells #[.int .i64 1, .string t, .slice none 0 0, .slice none 0 0, .slice none 0 0, .slice none 0 0] 64)).alloc (.cells #[.int .i64 1, .string s, .slice none 0 0, .slice none 0 0, .slice none 0 0, .slice none 0 0] 64)).alloc (.cells #[.func (.func 228) #[] #[]] 256))) w1) => cells6 (blk_below (show ((((w.alloc (.cells #[.int .i64 1, .string t, .slice none 0 0, .slice none 0 0, .slice none 0 0, .slice none 0 0] 64)).alloc (.cells #[.int .i64 1, .string s, .slice none 0 0, .slice none 0 0, .slice none 0 0, .slice none 0 0] 64)).alloc (.cells #[.func (.func 228) #[] #[]] 256))).heap[w.heap.size + 1]? = some (.cells #[.int .i64 1, .string s, .slice none 0 0, .slice none 0 0, .slice none 0 0, .slice none 0 0] 64) from blk_below (new_next w _ _) alloc_old) hb))
  have BA := Lib.hid (show Below w.heap.size w ((((w.alloc (.cells #[.int .i64 1, .string t, .slice none 0 0, .slice none 0 0, .slice none 0 0, .slice none 0 0] 64)).alloc (.cells #[.int .i64 1, .string s, .slice none 0 0, .slice none 0 0, .slice none 0 0, .slice none 0 0] 64)).alloc (.cells #[.func (.func 228) #[] #[]] 256))) from (alloc_old.trans (alloc_old.mono (by simp))).trans (alloc_old.mono (by simp; omega)))
  go_enter Tryz.func211, Tryz.ntmps211
  go_wp2_with (first | (go_at_call 230; (with_reducible refine (q4.out _ _).mono ?_); rintro e w1 ⟨rfl, h1⟩; have B1 := Lib.hid h1; clear h1; refine Hid.out ?_))
  refine Lib.hid ?_
  have B2 := Lib.hid (BA.out.trans (B1.out.mono (Below.size BA.out)))
  obtain ⟨⟨a0, a1, a2, a3, a4, a5⟩, _⟩ := C1.out _ B1.out
  obtain ⟨⟨b0, b1, b2, b3, b4, b5⟩, _⟩ := C2.out _ B1.out
  have D := Lib.hid (show ∀ X, Below w1.heap.size w1 X → X.cell? ⟨w.heap.size, 3, none⟩ = some (.slice none 0 0) ∧ X.cell? ⟨w.heap.size, 4, none⟩ = some (.slice none 0 0) ∧ X.cell? ⟨w.heap.size + 1, 3, none⟩ = some (.slice none 0 0) ∧ X.cell? ⟨w.heap.size + 1, 4, none⟩ = some (.slice none 0 0) from fun X hb =>
    have x1 := (C1.out _ (belT B1.out hb)).1
    have x2 := (C2.out _ (belT B1.out hb)).1
    ⟨x1.2.2.2.1, x1.2.2.2.2.1, x2.2.2.2.1, x2.2.2.2.2.1⟩)
  clear D
  go_wp2
  go_ret
  exact ⟨by simp, B2.out⟩
end Go.Proofs.YticlacjpgjkhcaaGreatDoor

/- A job's Turn: an entry that was turned is put, what was not turned has no effect. -/
namespace Go.Proofs.YticlacjpgjkhcaaGreatDoor
open Go.ChangeShapes Go.WideShapes Go.ChangeAt Go.RowKit

set_option maxRecDepth 100000 in
set_option maxHeartbeats 4000000 in
theorem Turn_new (j bS bM : Nat) (l : MapT.Ents) (now : Int) (vA : Value) (A : Option Addr) (n cap : Nat) (es : List Ent) (c : Nat) (w : World) (hS : SP w bS bM l) (hj : JB w j bS now vA (.slice A n cap)) (hE : EF w c (.slice A n cap) es) (hc : c ≤ w.heap.size) (hl : es.length ≤ 100000) (k t : ByteArray) (hk1 : 1 ≤ k.size) (hk : k.size ≤ 512) (ht : t.size ≤ 4096) (u : Int) (hu0 : 0 ≤ u) (hu1 : u ≤ 1125899906842624) (hf : MapT.find k l = none) : Calls Tryz.prog 161 #[.pointer (some ⟨j, 0, none⟩), .agg #[.string k, .int .i64 1, .string t, .slice none 0 0, .slice none 0 0, .slice none 0 0, .slice none 0 0, .int .i64 u]] w fun e w' => e = .returned (.tuple #[]) ∧ (∃ A' n' cap', JB w' j bS now vA (.slice A' n' cap') ∧ EF w' c (.slice A' n' cap') (es ++ [⟨k, 1, t, u⟩])) ∧ Kp c (fun i => i ≠ j) w w' := by
  have bx := Lib.hid (alloc_old (w := w) (o := .cells #[.string k, .int .i64 1, .string t, .slice none 0 0, .slice none 0 0, .slice none 0 0, .slice none 0 0, .int .i64 u] 66))
  have hp := Lib.hid (heap_alloc_new w (.cells #[.string k, .int .i64 1, .string t, .slice none 0 0, .slice none 0 0, .slice none 0 0, .slice none 0 0, .int .i64 u] 66))
  have G := Lib.hid (JGet_no bS bM j l k now vA (.slice A n cap) hf _ (hS.below (alloc_old (w := w) (o := .cells #[.string k, .int .i64 1, .string t, .slice none 0 0, .slice none 0 0, .slice none 0 0, .slice none 0 0, .int .i64 u] 66))) (hj.below (alloc_old (w := w) (o := .cells #[.string k, .int .i64 1, .string t, .slice none 0 0, .slice none 0 0, .slice none 0 0, .slice none 0 0, .int .i64 u] 66))))
  have PP := Lib.hid (fun X (hb : Below w.heap.size w X) => Put72 j bS now vA A n cap es c X (hj.below hb) (hE.below hb) (Nat.le_trans hc (Below.size hb)) hl k t hk1 hk ht u hu0 hu1)
  clear hS hE hj hf
  go_enter Tryz.func161, Tryz.ntmps161
  go_wp2_with (first | (go_at_call 181; (with_reducible refine (G.out).mono ?_); rintro e w1 ⟨rfl, h1⟩; have B1 := Lib.hid h1; clear h1; refine Hid.out ?_))
  refine Lib.hid ?_
  have BW := Lib.hid (bx.out.trans (B1.out.mono (Below.size bx.out)))
  have BX := Lib.hid (show Below w.heap.size w (w1.alloc (.cells #[.string k, .int .i64 0, .string ⟨#[]⟩, .slice none 0 0, .slice none 0 0, .slice none 0 0, .slice none 0 0, .int .i64 0] 66)) from BW.out.trans (alloc_old.mono (Below.size BW.out)))
  obtain ⟨⟨p0, p1, p2, p3, p4, p5, p6, p7⟩, _, pz⟩ := cells8 (blk_below hp.out B1.out)
  have pz2 : w.heap.size < w1.heap.size := pz
  go_wp2_with (first | (go_at_call 212; (with_reducible refine (PP.out _ BX.out).mono ?_); rintro e w3 ⟨rfl, hR, hK⟩))
  go_end0
  exact ⟨rfl, hR, (Kp.of (BX.out.mono hc)).trans hK⟩
set_option maxRecDepth 100000 in
set_option maxHeartbeats 4000000 in
theorem Turn_diff (j bS bM : Nat) (l : MapT.Ents) (now : Int) (vA : Value) (A : Option Addr) (n cap : Nat) (es : List Ent) (c : Nat) (w : World) (hS : SP w bS bM l) (hj : JB w j bS now vA (.slice A n cap)) (hE : EF w c (.slice A n cap) es) (hc : c ≤ w.heap.size) (hl : es.length ≤ 100000) (k t : ByteArray) (hk1 : 1 ≤ k.size) (hk : k.size ≤ 512) (ht : t.size ≤ 4096) (u : Int) (hu0 : 0 ≤ u) (hu1 : u ≤ 1125899906842624) (t0 : ByteArray) (hn : t0 ≠ t) (hf : MapT.find k l = some (.agg #[.string k, .int .i64 1, .string t0, .slice none 0 0, .slice none 0 0, .slice none 0 0, .slice none 0 0, .int .i64 u])) (hv : Lives u now) : Calls Tryz.prog 161 #[.pointer (some ⟨j, 0, none⟩), .agg #[.string k, .int .i64 1, .string t, .slice none 0 0, .slice none 0 0, .slice none 0 0, .slice none 0 0, .int .i64 u]] w fun e w' => e = .returned (.tuple #[]) ∧ (∃ A' n' cap', JB w' j bS now vA (.slice A' n' cap') ∧ EF w' c (.slice A' n' cap') (es ++ [⟨k, 1, t, u⟩])) ∧ Kp c (fun i => i ≠ j) w w' := by
  have bx := Lib.hid (alloc_old (w := w) (o := .cells #[.string k, .int .i64 1, .string t, .slice none 0 0, .slice none 0 0, .slice none 0 0, .slice none 0 0, .int .i64 u] 66))
  have hp := Lib.hid (heap_alloc_new w (.cells #[.string k, .int .i64 1, .string t, .slice none 0 0, .slice none 0 0, .slice none 0 0, .slice none 0 0, .int .i64 u] 66))
  have G := Lib.hid (JGet_yes bS bM j l k now vA (.slice A n cap) t0 u 1 hf hv _ (hS.below (alloc_old (w := w) (o := .cells #[.string k, .int .i64 1, .string t, .slice none 0 0, .slice none 0 0, .slice none 0 0, .slice none 0 0, .int .i64 u] 66))) (hj.below (alloc_old (w := w) (o := .cells #[.string k, .int .i64 1, .string t, .slice none 0 0, .slice none 0 0, .slice none 0 0, .slice none 0 0, .int .i64 u] 66))))
  have PP := Lib.hid (fun X (hb : Below w.heap.size w X) => Put72 j bS now vA A n cap es c X (hj.below hb) (hE.below hb) (Nat.le_trans hc (Below.size hb)) hl k t hk1 hk ht u hu0 hu1)
  have SM := Lib.hid (fun w => Same_no t0 t hn w)
  clear hS hE hj hf
  go_enter Tryz.func161, Tryz.ntmps161
  go_wp2_with (first | (go_at_call 181; (with_reducible refine (G.out).mono ?_); rintro e w1 ⟨rfl, h1⟩; have B1 := Lib.hid h1; clear h1; refine Hid.out ?_))
  refine Lib.hid ?_
  have BW := Lib.hid (bx.out.trans (B1.out.mono (Below.size bx.out)))
  have BX := Lib.hid (show Below w.heap.size w (w1.alloc (.cells #[.string k, .int .i64 1, .string t0, .slice none 0 0, .slice none 0 0, .slice none 0 0, .slice none 0 0, .int .i64 u] 66)) from BW.out.trans (alloc_old.mono (Below.size BW.out)))
  obtain ⟨⟨p0, p1, p2, p3, p4, p5, p6, p7⟩, _, pz⟩ := cells8 (blk_below hp.out B1.out)
  have pz2 : w.heap.size < w1.heap.size := pz
  go_wp2_with (first | (go_at_call 211; (with_reducible refine (SM.out _).mono ?_); rintro e w2 ⟨rfl, h2⟩; have B2 := Lib.hid (belT BX.out h2); obtain ⟨⟨r0, r1, r2, r3, r4, r5, r6, r7⟩, _, rz⟩ := cells8 (blk_below (blk_below hp.out B1.out) (belA (Below.refl w1.heap.size w1) h2)); clear h2) | (go_at_call 212; (with_reducible refine (PP.out _ B2.out).mono ?_); rintro e w3 ⟨rfl, hR, hK⟩))
  go_end0
  exact ⟨rfl, hR, (Kp.of (B2.out.mono hc)).trans hK⟩
set_option maxRecDepth 100000 in
set_option maxHeartbeats 4000000 in
theorem Turn_same (j bS bM : Nat) (l : MapT.Ents) (now : Int) (vA : Value) (A : Option Addr) (n cap : Nat) (w : World) (hS : SP w bS bM l) (hj : JB w j bS now vA (.slice A n cap)) (k t : ByteArray) (u : Int) (hf : MapT.find k l = some (.agg #[.string k, .int .i64 1, .string t, .slice none 0 0, .slice none 0 0, .slice none 0 0, .slice none 0 0, .int .i64 u])) (hv : Lives u now) : Calls Tryz.prog 161 #[.pointer (some ⟨j, 0, none⟩), .agg #[.string k, .int .i64 1, .string t, .slice none 0 0, .slice none 0 0, .slice none 0 0, .slice none 0 0, .int .i64 u]] w fun e w' => e = .returned (.tuple #[]) ∧ Below w.heap.size w w' := by
  have bx := Lib.hid (alloc_old (w := w) (o := .cells #[.string k, .int .i64 1, .string t, .slice none 0 0, .slice none 0 0, .slice none 0 0, .slice none 0 0, .int .i64 u] 66))
  have hp := Lib.hid (heap_alloc_new w (.cells #[.string k, .int .i64 1, .string t, .slice none 0 0, .slice none 0 0, .slice none 0 0, .slice none 0 0, .int .i64 u] 66))
  have G := Lib.hid (JGet_yes bS bM j l k now vA (.slice A n cap) t u 1 hf hv _ (hS.below (alloc_old (w := w) (o := .cells #[.string k, .int .i64 1, .string t, .slice none 0 0, .slice none 0 0, .slice none 0 0, .slice none 0 0, .int .i64 u] 66))) (hj.below (alloc_old (w := w) (o := .cells #[.string k, .int .i64 1, .string t, .slice none 0 0, .slice none 0 0, .slice none 0 0, .slice none 0 0, .int .i64 u] 66))))
  have SM := Lib.hid (fun w => Same_yes t w)
  clear hS hj hf
  go_enter Tryz.func161, Tryz.ntmps161
  go_wp2_with (first | (go_at_call 181; (with_reducible refine (G.out).mono ?_); rintro e w1 ⟨rfl, h1⟩; have B1 := Lib.hid h1; clear h1; refine Hid.out ?_))
  refine Lib.hid ?_
  have BW := Lib.hid (bx.out.trans (B1.out.mono (Below.size bx.out)))
  have BX := Lib.hid (show Below w.heap.size w (w1.alloc (.cells #[.string k, .int .i64 1, .string t, .slice none 0 0, .slice none 0 0, .slice none 0 0, .slice none 0 0, .int .i64 u] 66)) from BW.out.trans (alloc_old.mono (Below.size BW.out)))
  obtain ⟨⟨p0, p1, p2, p3, p4, p5, p6, p7⟩, _, pz⟩ := cells8 (blk_below hp.out B1.out)
  have pz2 : w.heap.size < w1.heap.size := pz
  go_wp2_with (first | (go_at_call 211; (with_reducible refine (SM.out _).mono ?_); rintro e w2 ⟨rfl, h2⟩; have B2 := Lib.hid (belT BX.out h2); clear h2))
  go_end0
  exact ⟨rfl, B2.out⟩
set_option maxRecDepth 100000 in
set_option maxHeartbeats 4000000 in
theorem Turn_until (j bS bM : Nat) (l : MapT.Ents) (now : Int) (vA : Value) (A : Option Addr) (n cap : Nat) (es : List Ent) (c : Nat) (w : World) (hS : SP w bS bM l) (hj : JB w j bS now vA (.slice A n cap)) (hE : EF w c (.slice A n cap) es) (hc : c ≤ w.heap.size) (hl : es.length ≤ 100000) (k t : ByteArray) (hk1 : 1 ≤ k.size) (hk : k.size ≤ 512) (ht : t.size ≤ 4096) (u : Int) (hu0 : 0 ≤ u) (hu1 : u ≤ 1125899906842624) (u0 : Int) (hn : u0 ≠ u) (hf : MapT.find k l = some (.agg #[.string k, .int .i64 1, .string t, .slice none 0 0, .slice none 0 0, .slice none 0 0, .slice none 0 0, .int .i64 u0])) (hv : Lives u0 now) : Calls Tryz.prog 161 #[.pointer (some ⟨j, 0, none⟩), .agg #[.string k, .int .i64 1, .string t, .slice none 0 0, .slice none 0 0, .slice none 0 0, .slice none 0 0, .int .i64 u]] w fun e w' => e = .returned (.tuple #[]) ∧ (∃ A' n' cap', JB w' j bS now vA (.slice A' n' cap') ∧ EF w' c (.slice A' n' cap') (es ++ [⟨k, 1, t, u⟩])) ∧ Kp c (fun i => i ≠ j) w w' := by
  have bx := Lib.hid (alloc_old (w := w) (o := .cells #[.string k, .int .i64 1, .string t, .slice none 0 0, .slice none 0 0, .slice none 0 0, .slice none 0 0, .int .i64 u] 66))
  have hp := Lib.hid (heap_alloc_new w (.cells #[.string k, .int .i64 1, .string t, .slice none 0 0, .slice none 0 0, .slice none 0 0, .slice none 0 0, .int .i64 u] 66))
  have G := Lib.hid (JGet_yes bS bM j l k now vA (.slice A n cap) t u0 1 hf hv _ (hS.below (alloc_old (w := w) (o := .cells #[.string k, .int .i64 1, .string t, .slice none 0 0, .slice none 0 0, .slice none 0 0, .slice none 0 0, .int .i64 u] 66))) (hj.below (alloc_old (w := w) (o := .cells #[.string k, .int .i64 1, .string t, .slice none 0 0, .slice none 0 0, .slice none 0 0, .slice none 0 0, .int .i64 u] 66))))
  have PP := Lib.hid (fun X (hb : Below w.heap.size w X) => Put72 j bS now vA A n cap es c X (hj.below hb) (hE.below hb) (Nat.le_trans hc (Below.size hb)) hl k t hk1 hk ht u hu0 hu1)
  have gu : (u0 == u) = false := by rw [beq_eq_false_iff_ne]; exact hn
  clear hS hE hj hf
  go_enter Tryz.func161, Tryz.ntmps161
  go_wp2_with (first | (go_at_call 181; (with_reducible refine (G.out).mono ?_); rintro e w1 ⟨rfl, h1⟩; have B1 := Lib.hid h1; clear h1; refine Hid.out ?_))
  refine Lib.hid ?_
  have BW := Lib.hid (bx.out.trans (B1.out.mono (Below.size bx.out)))
  have BX := Lib.hid (show Below w.heap.size w (w1.alloc (.cells #[.string k, .int .i64 1, .string t, .slice none 0 0, .slice none 0 0, .slice none 0 0, .slice none 0 0, .int .i64 u0] 66)) from BW.out.trans (alloc_old.mono (Below.size BW.out)))
  obtain ⟨⟨p0, p1, p2, p3, p4, p5, p6, p7⟩, _, pz⟩ := cells8 (blk_below hp.out B1.out)
  have pz2 : w.heap.size < w1.heap.size := pz
  go_wp2_with (first | (go_at_call 212; (with_reducible refine (PP.out _ BX.out).mono ?_); rintro e w3 ⟨rfl, hR, hK⟩))
  go_end0
  exact ⟨rfl, hR, (Kp.of (BX.out.mono hc)).trans hK⟩
end Go.Proofs.YticlacjpgjkhcaaGreatDoor
