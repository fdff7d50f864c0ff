/- A job's effects: an entry is put, a key is taken. -/
import Derived.Test.YtllaeocclpaiaaaGreatDoorSt17
import Derived.Deep.RegionLaw
import Derived.OwnWalk
namespace Go.Proofs.YtllaeocclpaiaaaGreatDoor
open Go.ChangeShapes Go.WideShapes Go.ChangeAt Go.RowKit

theorem i60 : (Tryz.prog.info? 51).map (fun i => (i.zero, i.size, i.bytes)) = some (some (.agg #[.string ⟨#[]⟩, .int .i64 0, .string ⟨#[]⟩, .slice none 0 0, .slice none 0 0, .slice none 0 0, .slice none 0 0, .int .i64 0]), 8, 144) := by kernel_rfl
theorem run_append_E (w : World) (ty : TypeId) (c : Nat) (v : Value) (es : List Ent) (h : EF w c v es) (e : Ent) (b : Nat) (hb : w.heap[b]? = some (.cells e.cells.toArray 51)) (hl : es.length ≤ 100000) (hc : c ≤ w.heap.size) :
    ∃ A n cap w', (Builtin.append_ #[39, 39] ty #[v, .slice (some ⟨b, 0, none⟩) 1 1]).run Tryz.prog w = .ok (.slice A n cap) w' ∧ EF w' c (.slice A n cap) (es ++ [e]) ∧ w.grownBy w' v.ownBlock := by
  obtain ⟨i0, hi, hz0, hz1, hz2⟩ := info_parts i60
  have hcell : ∀ (j : Nat) (u : Value), e.cells[j]? = some u → w.cell? ((⟨b, 0, none⟩ : Addr).add j) = some u := fun j u hj => by
    have := cell_of_row w b j _ 51 (0, 0) hb
    unfold Addr.add
    by_cases h0 : j = 0
    · subst h0; simpa [hj] using this
    · simp [h0]; rw [this]; simpa using hj
  obtain ⟨v', w', hrun, hown, hgr, hnil⟩ := run_append_own (P := Tryz.prog) w c 39 ty 51 i0 (.agg #[.string ⟨#[]⟩, .int .i64 0, .string ⟨#[]⟩, .slice none 0 0, .slice none 0 0, .slice none 0 0, .slice none 0 0, .int .i64 0]) 8 144 Tryz.underlying39 hi hz0 hz1 hz2 rfl (by decide) v es.length (es.flatMap Ent.cells) h ⟨b, 0, none⟩ 1 1 e.cells rfl hcell
    (fun u hu => by simp [Ent.cells] at hu; rcases hu with rfl | rfl | rfl | rfl | rfl | rfl <;> rfl) (by unfold maxLen; omega) (by omega) hc
  have hE : EF w' c v' (es ++ [e]) := by
    unfold EF
    rw [List.length_append, List.flatMap_append, show [e].length = 1 from rfl, show [e].flatMap Ent.cells = e.cells by simp]
    exact hown
  have hE2 := hE
  unfold EF World.ownsRow at hE2
  obtain ⟨_, ⟨rfl, _⟩ | ⟨g, cap, cur, rfl, _⟩⟩ := hE2
  · exact ⟨_, _, _, w', hrun, hE, hgr⟩
  · exact ⟨_, _, _, w', hrun, hE, hgr⟩
theorem step_append_E {ops : Array Oper} {o : Oper} {a : Act} {K : Act → World → Prop} {Q : Exit → Act → World → Prop} {X : Prop} (w : World) (hgd : o.guard = none) (s x : Operand) (hop : o.op = Op.call { callee := Callee.builtin Builtin.append, args := #[s, x], argTypes := #[39, 39] })
    (c : Nat) (v : Value) (es : List Ent) (hs : a.eval s = v) (h : EF w c v es) (e : Ent) (b : Nat) (hx : a.eval x = .slice (some ⟨b, 0, none⟩) 1 1) (hb : w.heap[b]? = some (.cells e.cells.toArray 51)) (hl : es.length ≤ 100000) (hc : c ≤ w.heap.size)
    (k : ∀ A n cap w', EF w' c (.slice A n cap) (es ++ [e]) → w.grownBy w' v.ownBlock → K (a.put o.dst (.slice A n cap)) w') :
    if Region.wanted o (yielded ops a.tmps) = true then Oper.wp Tryz.prog o a w K Q else X := by
  have hw : Region.wanted o (yielded ops a.tmps) = true := by simp [Region.wanted, hgd]
  rw [if_pos hw]
  obtain ⟨A, n, cap, w', hr, h1, h3⟩ := run_append_E w o.type c v es h e b hb hl hc
  unfold Oper.wp execOp
  simp only [hop, resolve, invoke, builtin, Sem.run_bind, Sem.run_pure, Result.andThen_ok, List.map_toArray, List.map_cons, List.map_nil, hs, hx, hr]
  exact k A n cap w' h1 h3
theorem wpList_append_E {ops : Array Oper} {rest : List Oper} {o : Oper} {a : Act} {Q : Exit → Act → World → Prop} (w : World) (hgd : o.guard = none) (s x : Operand) (hop : o.op = Op.call { callee := Callee.builtin Builtin.append, args := #[s, x], argTypes := #[39, 39] })
    (c : Nat) (v : Value) (es : List Ent) (hs : a.eval s = v) (h : EF w c v es) (e : Ent) (b : Nat) (hx : a.eval x = .slice (some ⟨b, 0, none⟩) 1 1) (hb : w.heap[b]? = some (.cells e.cells.toArray 51)) (hl : es.length ≤ 100000) (hc : c ≤ w.heap.size)
    (k : ∀ A n cap w', EF w' c (.slice A n cap) (es ++ [e]) → w.grownBy w' v.ownBlock → wpList Tryz.prog ops Q rest (a.put o.dst (.slice A n cap)) w') : wpList Tryz.prog ops Q (o :: rest) a w := by
  obtain ⟨A, n, cap, w', hr, h1, h3⟩ := run_append_E w o.type c v es h e b hb hl hc
  refine wpList_plain hgd fun K hK' => ?_
  unfold Oper.wp
  simp [execOp, hop, resolve, invoke, builtin, hs, hx, hr, Result.andThen]
  exact hK' _ _ (k A n cap w' h1 h3)
theorem EF.own {w : World} {c : Nat} {v : Value} {es : List Ent} (h : EF w c v es) : ∀ g, v.ownBlock = some g → c ≤ g ∧ ∃ cur, w.heap[g]? = some (.cells cur 51) := by
  intro g hg
  unfold EF World.ownsRow at h
  obtain ⟨_, ⟨rfl, _⟩ | ⟨g', cap, cur, rfl, h1, h2, _⟩⟩ := h
  · cases hg
  · cases hg
    exact ⟨h1, cur, h2⟩
theorem JB.set {w : World} {j bS : Nat} {now : Int} {vA vl : Value} (h : JB w j bS now vA vl) (v : Value) : JB (w.setCell ⟨j, 3, none⟩ v) j bS now vA v := by
  unfold JB at h ⊢
  simp [World.setCell, Array.getElem?_modify, h]
theorem EF.ne_job {w : World} {j bS : Nat} {now : Int} {vA vl : Value} (h : JB w j bS now vA vl) {c : Nat} {v : Value} {es : List Ent} (hE : EF w c v es) : v.ownBlock ≠ some j := by
  intro e
  obtain ⟨_, cur, hh⟩ := hE.own j e
  unfold JB at h
  rw [h] at hh
  simp at hh
/-- What is left when an effect has been appended and laid into the job. -/
theorem job_end {w w1 w2 : World} {j bS : Nat} {now : Int} {vA vl : Value} {c : Nat} {v' : Value} {es es' : List Ent} (hj : JB w j bS now vA vl) (hE : EF w c vl es) (hb : Below w.heap.size w w1) (hc : c ≤ w.heap.size) (h1 : EF w2 c v' es') (h2 : w1.grownBy w2 vl.ownBlock) :
    JB (w2.setCell ⟨j, 3, none⟩ v') j bS now vA v' ∧ EF (w2.setCell ⟨j, 3, none⟩ v') c v' es' ∧ Kp c (fun i => i ≠ j) w (w2.setCell ⟨j, 3, none⟩ v') := by
  have hj1 := hj.below hb
  have hne := (hE.below hb).ne_job hj1
  have hj2 : JB w2 j bS now vA vl := hj1.kept (h2.block j hj1.cells.2.2.2.2.2 (fun e => hne e.symm))
  refine ⟨hj2.set v', h1.kept (by simp [World.setCell]) (fun g hg => Below.heap_setCell _ _ _ _ (fun e => ?_)), ?_⟩
  · have e2 : g = j := e
    subst e2
    exact h1.ne_job hj2 hg
  · refine ((Kp.of (hb.mono hc)).grown h2 (Nat.le_trans hc (Below.size hb)) (fun k hk hkc => ?_)).setCell (p := ⟨j, 3, none⟩) (by simp) v'
    have := (hE.own k hk).1
    omega
theorem job_cell {w w1 w2 : World} {j bS : Nat} {now : Int} {vA vl : Value} {c : Nat} {es : List Ent} (hj : JB w j bS now vA vl) (hE : EF w c vl es) (hb : Below w.heap.size w w1) (h2 : w1.grownBy w2 vl.ownBlock) :
    w2.frozen? ⟨j, 3, none⟩ = false ∧ w2.cell? ⟨j, 3, none⟩ = some vl := by
  have hj1 := hj.below hb
  have hne := (hE.below hb).ne_job hj1
  have hj2 : JB w2 j bS now vA vl := hj1.kept (h2.block j hj1.cells.2.2.2.2.2 (fun e => hne e.symm))
  exact ⟨hj2.cells.2.2.2.2.1, hj2.cells.2.2.2.1⟩

set_option maxRecDepth 100000 in
set_option maxHeartbeats 4000000 in
theorem Take76 (j bS : Nat) (now : Int) (vA : Value) (A : Option Addr) (n cap : Nat) (es : List Ent) (c : Nat) (w : World) (hj : JB w j bS now vA (.slice A n cap)) (hE : EF w c (.slice A n cap) es) (hc : c ≤ w.heap.size) (hl : es.length ≤ 100000) (k : ByteArray) : Calls Tryz.prog 45 #[.pointer (some ⟨j, 0, none⟩), .string k] w fun e w' => e = .returned (.tuple #[]) ∧ (∃ A' n' cap', JB w' j bS now vA (.slice A' n' cap') ∧ EF w' c (.slice A' n' cap') (es ++ [⟨k, 0, ⟨#[]⟩, 0⟩])) ∧ Kp c (fun i => i ≠ j) w w' := by
  obtain ⟨j0, j1, j2, j3, jf, jz⟩ := hj.cells
  have HJ := Lib.hid hj
  have HE := Lib.hid hE
  clear hj hE
  go_enter Tryz.func45, Tryz.ntmps45
  go_wp2_with (first | (at_builtin; refine wpList_append_E _ rfl _ _ rfl c _ es rfl (HE.out.below alloc_old) ⟨k, 0, ⟨#[]⟩, 0⟩ _ rfl (heap_alloc_new _ _) hl (Nat.le_trans hc (by simp)) ?_; intro A' n' cap' w2 hE2 hg2; have R := Lib.hid (job_end HJ.out HE.out alloc_old hc hE2 hg2); obtain ⟨hf3, hc3⟩ := job_cell HJ.out HE.out alloc_old hg2; clear hE2 hg2))
  go_end0
  exact ⟨rfl, ⟨A', n', cap', R.out.1, R.out.2.1⟩, R.out.2.2⟩
set_option maxRecDepth 100000 in
set_option maxHeartbeats 4000000 in
theorem Put72 (j bS : Nat) (now : Int) (vA : Value) (A : Option Addr) (n cap : Nat) (es : List Ent) (c : Nat) (w : World) (hj : JB w j bS now vA (.slice A n cap)) (hE : EF w c (.slice A n cap) es) (hc : c ≤ w.heap.size) (hl : es.length ≤ 100000) (k t : ByteArray) (hk1 : 1 ≤ k.size) (hk : k.size ≤ 512) (ht : t.size ≤ 4096) (u : Int) (hu0 : 0 ≤ u) (hu1 : u ≤ 1125899906842624) : Calls Tryz.prog 79 #[.pointer (some ⟨j, 0, none⟩), .agg #[.string k, .int .i64 1, .string t, .slice none 0 0, .slice none 0 0, .slice none 0 0, .slice none 0 0, .int .i64 u]] w fun e w' => e = .returned (.tuple #[]) ∧ (∃ A' n' cap', JB w' j bS now vA (.slice A' n' cap') ∧ EF w' c (.slice A' n' cap') (es ++ [⟨k, 1, t, u⟩])) ∧ Kp c (fun i => i ≠ j) w w' := by
  have MY := Lib.hid (fun w => May15 k t hk1 hk ht u hu0 hu1 w)
  have hp := Lib.hid (heap_alloc_new w (.cells #[.string k, .int .i64 1, .string t, .slice none 0 0, .slice none 0 0, .slice none 0 0, .slice none 0 0, .int .i64 u] 33))
  have HJ := Lib.hid hj
  have HE := Lib.hid hE
  clear hj hE
  go_enter Tryz.func79, Tryz.ntmps79
  go_wp2_with (first | (go_at_call 10; (with_reducible refine (MY.out _).mono ?_); rintro e w1 ⟨rfl, h1⟩; have B1 := Lib.hid h1; clear h1))
  have BW := Lib.hid (show Below w.heap.size w w1 from alloc_old.trans (B1.out.mono (by simp)))
  obtain ⟨j0, j1, j2, j3, jf, jz⟩ := (HJ.out.below BW.out).cells
  obtain ⟨⟨p0, p1, p2, p3, p4, p5, p6, p7⟩, ⟨pf0, pf1, pf2, pf3, pf4, pf5, pf6, pf7⟩, pz⟩ := cells8 (blk_below hp.out B1.out)
  have BA := Lib.hid (show Below w.heap.size w (w1.alloc (.cells #[.string k, .int .i64 1, .string t, .slice none 0 0, .slice none 0 0, .slice none 0 0, .slice none 0 0, .int .i64 u] 51)).drew from (BW.out.trans ((alloc_old (w := w1)).mono (Below.size BW.out))).drew)
  have HEX := Lib.hid (HE.out.below BA.out)
  have HBX := Lib.hid (show (w1.alloc (.cells #[.string k, .int .i64 1, .string t, .slice none 0 0, .slice none 0 0, .slice none 0 0, .slice none 0 0, .int .i64 u] 51)).drew.heap[w1.heap.size]? = some (.cells (Ent.cells ⟨k, 1, t, u⟩).toArray 51) from heap_alloc_new w1 _)
  have HCX := Lib.hid (show c ≤ (w1.alloc (.cells #[.string k, .int .i64 1, .string t, .slice none 0 0, .slice none 0 0, .slice none 0 0, .slice none 0 0, .int .i64 u] 51)).drew.heap.size from Nat.le_trans hc (Below.size BA.out))
  have HA3 := Lib.hid (fun w2 (hg : (w1.alloc (.cells #[.string k, .int .i64 1, .string t, .slice none 0 0, .slice none 0 0, .slice none 0 0, .slice none 0 0, .int .i64 u] 51)).drew.grownBy w2 (Value.slice A n cap).ownBlock) => job_cell HJ.out HE.out BA.out hg)
  have a3 : (w1.alloc (.cells #[.string k, .int .i64 1, .string t, .slice none 0 0, .slice none 0 0, .slice none 0 0, .slice none 0 0, .int .i64 u] 51)).drew.cell? ⟨j, 3, none⟩ = some (.slice A n cap) := (HJ.out.below BA.out).cells.2.2.2.1
  go_region_law (first | (refine step_append_E _ rfl _ _ rfl c _ es rfl HEX.out ⟨k, 1, t, u⟩ _ rfl HBX.out hl HCX.out ?_; intro A' n' cap' w2 hE2 hg2; obtain ⟨hf3, hc3⟩ := HA3.out w2 hg2))
  all_goals (
    have R := Lib.hid (job_end HJ.out HE.out BA.out hc hE2 hg2)
    go_end0
    exact ⟨rfl, ⟨A', n', cap', R.out.1, R.out.2.1⟩, R.out.2.2⟩)
end Go.Proofs.YtllaeocclpaiaaaGreatDoor
