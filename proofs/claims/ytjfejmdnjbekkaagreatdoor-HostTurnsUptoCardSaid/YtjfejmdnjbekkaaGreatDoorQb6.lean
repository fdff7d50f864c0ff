/- Texts joined: St20, St21, St22, St23 -/
import Derived.Test.YtjfejmdnjbekkaaGreatDoorQb5
import Derived.Deep.RegionLaw
import Derived.OwnWalk
import Derived.Defers
import Derived.Recover
import Derived.Laws.Pointers
set_option linter.unusedVariables false
set_option linter.unusedSimpArgs false

/- A job's effects: an entry is put, a key is taken. -/
namespace Go.Proofs.YtjfejmdnjbekkaaGreatDoor
open Go.ChangeShapes Go.WideShapes Go.ChangeAt Go.RowKit

theorem i60 : (Tryz.prog.info? 86).map (fun i => (i.zero, i.size, i.bytes)) = some (some (.agg #[.string ⟨#[]⟩, .int .i64 0, .string ⟨#[]⟩, .slice none 0 0, .slice none 0 0, .slice none 0 0, .slice none 0 0, .int .i64 0]), 8, 144) := by kernel_rfl
theorem run_append_E (w : World) (ty : TypeId) (c : Nat) (v : Value) (es : List Ent) (h : EF w c v es) (e : Ent) (b : Nat) (hb : w.heap[b]? = some (.cells e.cells.toArray 86)) (hl : es.length ≤ 100000) (hc : c ≤ w.heap.size) :
    ∃ A n cap w', (Builtin.append_ #[74, 74] ty #[v, .slice (some ⟨b, 0, none⟩) 1 1]).run Tryz.prog w = .ok (.slice A n cap) w' ∧ EF w' c (.slice A n cap) (es ++ [e]) ∧ w.grownBy w' v.ownBlock := by
  obtain ⟨i0, hi, hz0, hz1, hz2⟩ := info_parts i60
  have hcell : ∀ (j : Nat) (u : Value), e.cells[j]? = some u → w.cell? ((⟨b, 0, none⟩ : Addr).add j) = some u := fun j u hj => by
    have := cell_of_row w b j _ 86 (0, 0) hb
    unfold Addr.add
    by_cases h0 : j = 0
    · subst h0; simpa [hj] using this
    · simp [h0]; rw [this]; simpa using hj
  obtain ⟨v', w', hrun, hown, hgr, hnil⟩ := run_append_own (P := Tryz.prog) w c 74 ty 86 i0 (.agg #[.string ⟨#[]⟩, .int .i64 0, .string ⟨#[]⟩, .slice none 0 0, .slice none 0 0, .slice none 0 0, .slice none 0 0, .int .i64 0]) 8 144 Tryz.underlying74 hi hz0 hz1 hz2 rfl (by decide) v es.length (es.flatMap Ent.cells) h ⟨b, 0, none⟩ 1 1 e.cells rfl hcell
    (fun u hu => by simp [Ent.cells] at hu; rcases hu with rfl | rfl | rfl | rfl | rfl | rfl <;> rfl) (by unfold maxLen; omega) (by omega) hc
  have hE : EF w' c v' (es ++ [e]) := by
    unfold EF
    rw [List.length_append, List.flatMap_append, show [e].length = 1 from rfl, show [e].flatMap Ent.cells = e.cells by simp]
    exact hown
  have hE2 := hE
  unfold EF World.ownsRow at hE2
  obtain ⟨_, ⟨rfl, _⟩ | ⟨g, cap, cur, rfl, _⟩⟩ := hE2
  · exact ⟨_, _, _, w', hrun, hE, hgr⟩
  · exact ⟨_, _, _, w', hrun, hE, hgr⟩
theorem step_append_E {ops : Array Oper} {o : Oper} {a : Act} {K : Act → World → Prop} {Q : Exit → Act → World → Prop} {X : Prop} (w : World) (hgd : o.guard = none) (s x : Operand) (hop : o.op = Op.call { callee := Callee.builtin Builtin.append, args := #[s, x], argTypes := #[74, 74] })
    (c : Nat) (v : Value) (es : List Ent) (hs : a.eval s = v) (h : EF w c v es) (e : Ent) (b : Nat) (hx : a.eval x = .slice (some ⟨b, 0, none⟩) 1 1) (hb : w.heap[b]? = some (.cells e.cells.toArray 86)) (hl : es.length ≤ 100000) (hc : c ≤ w.heap.size)
    (k : ∀ A n cap w', EF w' c (.slice A n cap) (es ++ [e]) → w.grownBy w' v.ownBlock → K (a.put o.dst (.slice A n cap)) w') :
    if Region.wanted o (yielded ops a.tmps) = true then Oper.wp Tryz.prog o a w K Q else X := by
  have hw : Region.wanted o (yielded ops a.tmps) = true := by simp [Region.wanted, hgd]
  rw [if_pos hw]
  obtain ⟨A, n, cap, w', hr, h1, h3⟩ := run_append_E w o.type c v es h e b hb hl hc
  unfold Oper.wp execOp
  simp only [hop, resolve, invoke, builtin, Sem.run_bind, Sem.run_pure, Result.andThen_ok, List.map_toArray, List.map_cons, List.map_nil, hs, hx, hr]
  exact k A n cap w' h1 h3
theorem wpList_append_E {ops : Array Oper} {rest : List Oper} {o : Oper} {a : Act} {Q : Exit → Act → World → Prop} (w : World) (hgd : o.guard = none) (s x : Operand) (hop : o.op = Op.call { callee := Callee.builtin Builtin.append, args := #[s, x], argTypes := #[74, 74] })
    (c : Nat) (v : Value) (es : List Ent) (hs : a.eval s = v) (h : EF w c v es) (e : Ent) (b : Nat) (hx : a.eval x = .slice (some ⟨b, 0, none⟩) 1 1) (hb : w.heap[b]? = some (.cells e.cells.toArray 86)) (hl : es.length ≤ 100000) (hc : c ≤ w.heap.size)
    (k : ∀ A n cap w', EF w' c (.slice A n cap) (es ++ [e]) → w.grownBy w' v.ownBlock → wpList Tryz.prog ops Q rest (a.put o.dst (.slice A n cap)) w') : wpList Tryz.prog ops Q (o :: rest) a w := by
  obtain ⟨A, n, cap, w', hr, h1, h3⟩ := run_append_E w o.type c v es h e b hb hl hc
  refine wpList_plain hgd fun K hK' => ?_
  unfold Oper.wp
  simp [execOp, hop, resolve, invoke, builtin, hs, hx, hr, Result.andThen]
  exact hK' _ _ (k A n cap w' h1 h3)
theorem EF.own {w : World} {c : Nat} {v : Value} {es : List Ent} (h : EF w c v es) : ∀ g, v.ownBlock = some g → c ≤ g ∧ ∃ cur, w.heap[g]? = some (.cells cur 86) := by
  intro g hg
  unfold EF World.ownsRow at h
  obtain ⟨_, ⟨rfl, _⟩ | ⟨g', cap, cur, rfl, h1, h2, _⟩⟩ := h
  · cases hg
  · cases hg
    exact ⟨h1, cur, h2⟩
theorem JB.set {w : World} {j bS : Nat} {now : Int} {vA vl : Value} (h : JB w j bS now vA vl) (v : Value) : JB (w.setCell ⟨j, 3, none⟩ v) j bS now vA v := by
  unfold JB at h ⊢
  simp [World.setCell, Array.getElem?_modify, h]
theorem EF.ne_job {w : World} {j bS : Nat} {now : Int} {vA vl : Value} (h : JB w j bS now vA vl) {c : Nat} {v : Value} {es : List Ent} (hE : EF w c v es) : v.ownBlock ≠ some j := by
  intro e
  obtain ⟨_, cur, hh⟩ := hE.own j e
  unfold JB at h
  rw [h] at hh
  simp at hh
/-- What is left when an effect has been appended and laid into the job. -/
theorem job_end {w w1 w2 : World} {j bS : Nat} {now : Int} {vA vl : Value} {c : Nat} {v' : Value} {es es' : List Ent} (hj : JB w j bS now vA vl) (hE : EF w c vl es) (hb : Below w.heap.size w w1) (hc : c ≤ w.heap.size) (h1 : EF w2 c v' es') (h2 : w1.grownBy w2 vl.ownBlock) :
    JB (w2.setCell ⟨j, 3, none⟩ v') j bS now vA v' ∧ EF (w2.setCell ⟨j, 3, none⟩ v') c v' es' ∧ Kp c (fun i => i ≠ j) w (w2.setCell ⟨j, 3, none⟩ v') := by
  have hj1 := hj.below hb
  have hne := (hE.below hb).ne_job hj1
  have hj2 : JB w2 j bS now vA vl := hj1.kept (h2.block j hj1.cells.2.2.2.2.2 (fun e => hne e.symm))
  refine ⟨hj2.set v', h1.kept (by simp [World.setCell]) (fun g hg => Below.heap_setCell _ _ _ _ (fun e => ?_)), ?_⟩
  · have e2 : g = j := e
    subst e2
    exact h1.ne_job hj2 hg
  · refine ((Kp.of (hb.mono hc)).grown h2 (Nat.le_trans hc (Below.size hb)) (fun k hk hkc => ?_)).setCell (p := ⟨j, 3, none⟩) (by simp) v'
    have := (hE.own k hk).1
    omega
theorem job_cell {w w1 w2 : World} {j bS : Nat} {now : Int} {vA vl : Value} {c : Nat} {es : List Ent} (hj : JB w j bS now vA vl) (hE : EF w c vl es) (hb : Below w.heap.size w w1) (h2 : w1.grownBy w2 vl.ownBlock) :
    w2.frozen? ⟨j, 3, none⟩ = false ∧ w2.cell? ⟨j, 3, none⟩ = some vl := by
  have hj1 := hj.below hb
  have hne := (hE.below hb).ne_job hj1
  have hj2 : JB w2 j bS now vA vl := hj1.kept (h2.block j hj1.cells.2.2.2.2.2 (fun e => hne e.symm))
  exact ⟨hj2.cells.2.2.2.2.1, hj2.cells.2.2.2.1⟩

set_option maxRecDepth 100000 in
set_option maxHeartbeats 4000000 in
theorem Take76 (j bS : Nat) (now : Int) (vA : Value) (A : Option Addr) (n cap : Nat) (es : List Ent) (c : Nat) (w : World) (hj : JB w j bS now vA (.slice A n cap)) (hE : EF w c (.slice A n cap) es) (hc : c ≤ w.heap.size) (hl : es.length ≤ 100000) (k : ByteArray) : Calls Tryz.prog 183 #[.pointer (some ⟨j, 0, none⟩), .string k] w fun e w' => e = .returned (.tuple #[]) ∧ (∃ A' n' cap', JB w' j bS now vA (.slice A' n' cap') ∧ EF w' c (.slice A' n' cap') (es ++ [⟨k, 0, ⟨#[]⟩, 0⟩])) ∧ Kp c (fun i => i ≠ j) w w' := by
  obtain ⟨j0, j1, j2, j3, jf, jz⟩ := hj.cells
  have HJ := Lib.hid hj
  have HE := Lib.hid hE
  clear hj hE
  go_enter Tryz.func183, Tryz.ntmps183
  go_wp2_with (first | (at_builtin; refine wpList_append_E _ rfl _ _ rfl c _ es rfl (HE.out.below alloc_old) ⟨k, 0, ⟨#[]⟩, 0⟩ _ rfl (heap_alloc_new _ _) hl (Nat.le_trans hc (by simp)) ?_; intro A' n' cap' w2 hE2 hg2; have R := Lib.hid (job_end HJ.out HE.out alloc_old hc hE2 hg2); obtain ⟨hf3, hc3⟩ := job_cell HJ.out HE.out alloc_old hg2; clear hE2 hg2))
  go_end0
  exact ⟨rfl, ⟨A', n', cap', R.out.1, R.out.2.1⟩, R.out.2.2⟩
set_option maxRecDepth 100000 in
set_option maxHeartbeats 4000000 in
theorem Put72 (j bS : Nat) (now : Int) (vA : Value) (A : Option Addr) (n cap : Nat) (es : List Ent) (c : Nat) (w : World) (hj : JB w j bS now vA (.slice A n cap)) (hE : EF w c (.slice A n cap) es) (hc : c ≤ w.heap.size) (hl : es.length ≤ 100000) (k t : ByteArray) (hk1 : 1 ≤ k.size) (hk : k.size ≤ 512) (ht : t.size ≤ 4096) (u : Int) (hu0 : 0 ≤ u) (hu1 : u ≤ 1125899906842624) : Calls Tryz.prog 195 #[.pointer (some ⟨j, 0, none⟩), .agg #[.string k, .int .i64 1, .string t, .slice none 0 0, .slice none 0 0, .slice none 0 0, .slice none 0 0, .int .i64 u]] w fun e w' => e = .returned (.tuple #[]) ∧ (∃ A' n' cap', JB w' j bS now vA (.slice A' n' cap') ∧ EF w' c (.slice A' n' cap') (es ++ [⟨k, 1, t, u⟩])) ∧ Kp c (fun i => i ≠ j) w w' := by
  have MY := Lib.hid (fun w => May15 k t hk1 hk ht u hu0 hu1 w)
  have hp := Lib.hid (heap_alloc_new w (.cells #[.string k, .int .i64 1, .string t, .slice none 0 0, .slice none 0 0, .slice none 0 0, .slice none 0 0, .int .i64 u] 84))
  have HJ := Lib.hid hj
  have HE := Lib.hid hE
  clear hj hE
  go_enter Tryz.func195, Tryz.ntmps195
  go_wp2_with (first | (go_at_call 70; (with_reducible refine (MY.out _).mono ?_); rintro e w1 ⟨rfl, h1⟩; have B1 := Lib.hid h1; clear h1))
  have BW := Lib.hid (show Below w.heap.size w w1 from alloc_old.trans (B1.out.mono (by simp)))
  obtain ⟨j0, j1, j2, j3, jf, jz⟩ := (HJ.out.below BW.out).cells
  obtain ⟨⟨p0, p1, p2, p3, p4, p5, p6, p7⟩, ⟨pf0, pf1, pf2, pf3, pf4, pf5, pf6, pf7⟩, pz⟩ := cells8 (blk_below hp.out B1.out)
  have BA := Lib.hid (show Below w.heap.size w (w1.alloc (.cells #[.string k, .int .i64 1, .string t, .slice none 0 0, .slice none 0 0, .slice none 0 0, .slice none 0 0, .int .i64 u] 86)).drew from (BW.out.trans ((alloc_old (w := w1)).mono (Below.size BW.out))).drew)
  have HEX := Lib.hid (HE.out.below BA.out)
  have HBX := Lib.hid (show (w1.alloc (.cells #[.string k, .int .i64 1, .string t, .slice none 0 0, .slice none 0 0, .slice none 0 0, .slice none 0 0, .int .i64 u] 86)).drew.heap[w1.heap.size]? = some (.cells (Ent.cells ⟨k, 1, t, u⟩).toArray 86) from heap_alloc_new w1 _)
  have HCX := Lib.hid (show c ≤ (w1.alloc (.cells #[.string k, .int .i64 1, .string t, .slice none 0 0, .slice none 0 0, .slice none 0 0, .slice none 0 0, .int .i64 u] 86)).drew.heap.size from Nat.le_trans hc (Below.size BA.out))
  have HA3 := Lib.hid (fun w2 (hg : (w1.alloc (.cells #[.string k, .int .i64 1, .string t, .slice none 0 0, .slice none 0 0, .slice none 0 0, .slice none 0 0, .int .i64 u] 86)).drew.grownBy w2 (Value.slice A n cap).ownBlock) => job_cell HJ.out HE.out BA.out hg)
  have a3 : (w1.alloc (.cells #[.string k, .int .i64 1, .string t, .slice none 0 0, .slice none 0 0, .slice none 0 0, .slice none 0 0, .int .i64 u] 86)).drew.cell? ⟨j, 3, none⟩ = some (.slice A n cap) := (HJ.out.below BA.out).cells.2.2.2.1
  go_region_law (first | (refine step_append_E _ rfl _ _ rfl c _ es rfl HEX.out ⟨k, 1, t, u⟩ _ rfl HBX.out hl HCX.out ?_; intro A' n' cap' w2 hE2 hg2; obtain ⟨hf3, hc3⟩ := HA3.out w2 hg2))
  all_goals (
    have R := Lib.hid (job_end HJ.out HE.out BA.out hc hE2 hg2)
    go_end0
    exact ⟨rfl, ⟨A', n', cap', R.out.1, R.out.2.1⟩, R.out.2.2⟩)
end Go.Proofs.YtjfejmdnjbekkaaGreatDoor

/- Two values are the same: at values of texts. -/
namespace Go.Proofs.YtjfejmdnjbekkaaGreatDoor
open Go.ChangeShapes Go.WideShapes Go.ChangeAt Go.RowKit

theorem new_next (w : World) (o1 o2 : Obj) : ((w.alloc o1).alloc o2).heap[w.heap.size + 1]? = some o2 := by
  have := heap_alloc_new (w.alloc o1) o2
  rw [World.size_alloc] at this
  exact this
theorem bytes_ne {t s : ByteArray} (h : t ≠ s) : ¬ t.toList = s.toList := by
  rw [ByteArray.toList_eq, ByteArray.toList_eq]
  exact fun e => h (bytes_inj e)
theorem Eq101 (w : World) : Calls Tryz.prog 247 #[.slice none 0 0, .slice none 0 0] w fun e w' => e = .returned (.bool true) ∧ Below w.heap.size w w' := by
  go_enter Tryz.func247, Tryz.ntmps247
  go_wp2
  refine wp_loop_once ?_
  go_wp2
  go_ret
  exact ⟨rfl, Below.refl _ _⟩
theorem Eq102 (w : World) : Calls Tryz.prog 248 #[.slice none 0 0, .slice none 0 0] w fun e w' => e = .returned (.bool true) ∧ Below w.heap.size w w' := by
  go_enter Tryz.func248, Tryz.ntmps248
  go_wp2
  refine wp_loop_once ?_
  go_wp2
  go_ret
  exact ⟨rfl, Below.refl _ _⟩
theorem Eq103 (w : World) : Calls Tryz.prog 249 #[.slice none 0 0, .slice none 0 0] w fun e w' => e = .returned (.bool true) ∧ Below w.heap.size w w' := by
  go_enter Tryz.func249, Tryz.ntmps249
  go_wp2
  refine wp_loop_once ?_
  go_wp2
  go_ret
  exact ⟨rfl, Below.refl _ _⟩
theorem Eq99 (f : Value) (w : World) : Calls Tryz.prog 245 #[.slice none 0 0, .slice none 0 0, f] w fun e w' => e = .returned (.bool true) ∧ Below w.heap.size w w' := by
  go_enter Tryz.func245, Tryz.ntmps245
  go_wp2
  refine wp_loop_once ?_
  go_wp2
  go_ret
  exact ⟨rfl, Below.refl _ _⟩
set_option maxRecDepth 100000 in
set_option maxHeartbeats 4000000 in
theorem Same_yes (t : ByteArray) (w : World) : Calls Tryz.prog 176 #[.agg #[.int .i64 1, .string t, .slice none 0 0, .slice none 0 0, .slice none 0 0, .slice none 0 0], .agg #[.int .i64 1, .string t, .slice none 0 0, .slice none 0 0, .slice none 0 0, .slice none 0 0]] w fun e w' => e = .returned (.bool true) ∧ Below w.heap.size w w' := by
  have hmf : ∀ (fn : Fn) (first cap : Array Value) (w : World), (Instr.makeFunc fn first cap).run Tryz.prog w = .ok (.func fn first cap) w := fun _ _ _ _ => rfl
  have hsf : ∀ (a : Addr) (f : Fn) (x y : Array Value) (w : World) (m : Mode), (store a (.func f x y) m).run Tryz.prog w = stored Tryz.prog w a (.func f x y) m := fun a f x y w m => run_store Tryz.prog w a _ m rfl
  have q1 := Lib.hid (fun w => Eq101 w)
  have q2 := Lib.hid (fun w => Eq102 w)
  have q3 := Lib.hid (fun w => Eq103 w)
  have q4 := Lib.hid (fun f w => Eq99 f w)
  have C1 := Lib.hid (fun w1 (hb : Below ((((w.alloc (.cells #[.int .i64 1, .string t, .slice none 0 0, .slice none 0 0, .slice none 0 0, .slice none 0 0] 82)).alloc (.cells #[.int .i64 1, .string t, .slice none 0 0, .slice none 0 0, .slice none 0 0, .slice none 0 0] 82)).alloc (.cells #[.func (.func 243) #[] #[]] 231))).heap.size ((((w.alloc (.cells #[.int .i64 1, .string t, .slice none 0 0, .slice none 0 0, .slice none 0 0, .slice none 0 0] 82)).alloc (.cells #[.int .i64 1, .string t, .slice none 0 0, .slice none 0 0, .slice none 0 0, .slice none 0 0] 82)).alloc (.cells #[.func (.func 243) #[] #[]] 231))) w1) => cells6 (blk_below (show ((((w.alloc (.cells #[.int .i64 1, .string t, .slice none 0 0, .slice none 0 0, .slice none 0 0, .slice none 0 0] 82)).alloc (.cells #[.int .i64 1, .string t, .slice none 0 0, .slice none 0 0, .slice none 0 0, .slice none 0 0] 82)).alloc (.cells #[.func (.func 243) #[] #[]] 231))).heap[w.heap.size]? = some (.cells #[.int .i64 1, .string t, .slice none 0 0, .slice none 0 0, .slice none 0 0, .slice none 0 0] 82) from blk_below (blk_below (heap_alloc_new w _) alloc_old) alloc_old) hb))
  have C2 := Lib.hid (fun w1 (hb : Below ((((w.alloc (.cells #[.int .i64 1, .string t, .slice none 0 0, .slice none 0 0, .slice none 0 0, .slice none 0 0] 82)).alloc (.cells #[.int .i64 1, .string t, .slice none 0 0, .slice none 0 0, .slice none 0 0, .slice none 0 0] 82)).alloc (.cells #[.func (.func 243) #[] #[]] 231))).heap.size ((((w.alloc (.cells #[.int .i64 1, .string t, .slice none 0 0, .slice none 0 0, .slice none 0 0, .slice none 0 0] 82)).alloc (.cells #[.int .i64 1, .string t, .slice none 0 0, .slice none 0 0, .slice none 0 0, .slice none 0 0] 82)).alloc (.cells #[.func (.func 243) #[] #[]] 231))) w1) => cells6 (blk_below (show ((((w.alloc (.cells #[.int .i64 1, .string t, .slice none 0 0, .slice none 0 0, .slice none 0 0, .slice none 0 0] 82)).alloc (.cells #[.int .i64 1, .string t, .slice none 0 0, .slice none 0 0, .slice none 0 0, .slice none 0 0] 82)).alloc (.cells #[.func (.func 243) #[] #[]] 231))).heap[w.heap.size + 1]? = some (.cells #[.int .i64 1, .string t, .slice none 0 0, .slice none 0 0, .slice none 0 0, .slice none 0 0] 82) from blk_below (new_next w _ _) alloc_old) hb))
  have BA := Lib.hid (show Below w.heap.size w ((((w.alloc (.cells #[.int .i64 1, .string t, .slice none 0 0, .slice none 0 0, .slice none 0 0, .slice none 0 0] 82)).alloc (.cells #[.int .i64 1, .string t, .slice none 0 0, .slice none 0 0, .slice none 0 0, .slice none 0 0] 82)).alloc (.cells #[.func (.func 243) #[] #[]] 231))) from (alloc_old.trans (alloc_old.mono (by simp))).trans (alloc_old.mono (by simp; omega)))
  go_enter Tryz.func176, Tryz.ntmps176
  go_wp2_with (first | (go_at_call 245; (with_reducible refine (q4.out _ _).mono ?_); rintro e w1 ⟨rfl, h1⟩; have B1 := Lib.hid h1; clear h1; refine Hid.out ?_))
  refine Lib.hid ?_
  have B2 := Lib.hid (BA.out.trans (B1.out.mono (Below.size BA.out)))
  obtain ⟨⟨a0, a1, a2, a3, a4, a5⟩, _⟩ := C1.out _ B1.out
  obtain ⟨⟨b0, b1, b2, b3, b4, b5⟩, _⟩ := C2.out _ B1.out
  have D := Lib.hid (show ∀ X, Below w1.heap.size w1 X → X.cell? ⟨w.heap.size, 3, none⟩ = some (.slice none 0 0) ∧ X.cell? ⟨w.heap.size, 4, none⟩ = some (.slice none 0 0) ∧ X.cell? ⟨w.heap.size + 1, 3, none⟩ = some (.slice none 0 0) ∧ X.cell? ⟨w.heap.size + 1, 4, none⟩ = some (.slice none 0 0) from fun X hb =>
    have x1 := (C1.out _ (belT B1.out hb)).1
    have x2 := (C2.out _ (belT B1.out hb)).1
    ⟨x1.2.2.2.1, x1.2.2.2.2.1, x2.2.2.2.1, x2.2.2.2.2.1⟩)
  go_wp2_with (first | (go_at_call 247; (with_reducible refine (q1.out _).mono ?_); rintro e w2 ⟨rfl, h1⟩; have B3 := Lib.hid h1; clear h1; obtain ⟨x1, x2, x3, x4⟩ := D.out _ B3.out) | (go_at_call 248; (with_reducible refine (q2.out _).mono ?_); rintro e w3 ⟨rfl, h1⟩; have B4 := Lib.hid (belT B3.out h1); clear h1; obtain ⟨y1, y2, y3, y4⟩ := D.out _ B4.out) | (go_at_call 249; (with_reducible refine (q3.out _).mono ?_); rintro e w4 ⟨rfl, h1⟩; have B5 := Lib.hid (belT B4.out h1); clear h1))
  go_ret
  exact ⟨by simp, belT B2.out B5.out⟩
set_option maxRecDepth 100000 in
set_option maxHeartbeats 4000000 in
theorem Same_no (t s : ByteArray) (hn : t ≠ s) (w : World) : Calls Tryz.prog 176 #[.agg #[.int .i64 1, .string t, .slice none 0 0, .slice none 0 0, .slice none 0 0, .slice none 0 0], .agg #[.int .i64 1, .string s, .slice none 0 0, .slice none 0 0, .slice none 0 0, .slice none 0 0]] w fun e w' => e = .returned (.bool false) ∧ Below w.heap.size w w' := by
  have hmf : ∀ (fn : Fn) (first cap : Array Value) (w : World), (Instr.makeFunc fn first cap).run Tryz.prog w = .ok (.func fn first cap) w := fun _ _ _ _ => rfl
  have hsf : ∀ (a : Addr) (f : Fn) (x y : Array Value) (w : World) (m : Mode), (store a (.func f x y) m).run Tryz.prog w = stored Tryz.prog w a (.func f x y) m := fun a f x y w m => run_store Tryz.prog w a _ m rfl
  have q1 := Lib.hid (fun w => Eq101 w)
  have q2 := Lib.hid (fun w => Eq102 w)
  have q3 := Lib.hid (fun w => Eq103 w)
  have q4 := Lib.hid (fun f w => Eq99 f w)
  have hq := bytes_ne hn
  have C1 := Lib.hid (fun w1 (hb : Below ((((w.alloc (.cells #[.int .i64 1, .string t, .slice none 0 0, .slice none 0 0, .slice none 0 0, .slice none 0 0] 82)).alloc (.cells #[.int .i64 1, .string s, .slice none 0 0, .slice none 0 0, .slice none 0 0, .slice none 0 0] 82)).alloc (.cells #[.func (.func 243) #[] #[]] 231))).heap.size ((((w.alloc (.cells #[.int .i64 1, .string t, .slice none 0 0, .slice none 0 0, .slice none 0 0, .slice none 0 0] 82)).alloc (.cells #[.int .i64 1, .string s, .slice none 0 0, .slice none 0 0, .slice none 0 0, .slice none 0 0] 82)).alloc (.cells #[.func (.func 243) #[] #[]] 231))) w1) => cells6 (blk_below (show ((((w.alloc (.cells #[.int .i64 1, .string t, .slice none 0 0, .slice none 0 0, .slice none 0 0, .slice none 0 0] 82)).alloc (.cells #[.int .i64 1, .string s, .slice none 0 0, .slice none 0 0, .slice none 0 0, .slice none 0 0] 82)).alloc (.cells #[.func (.func 243) #[] #[]] 231))).heap[w.heap.size]? = some (.cells #[.int .i64 1, .string t, .slice none 0 0, .slice none 0 0, .slice none 0 0, .slice none 0 0] 82) from blk_below (blk_below (heap_alloc_new w _) alloc_old) alloc_old) hb))
  have C2 := Lib.hid (fun w1 (hb : Below ((((w.alloc (.cells #[.int .i64 1, .string t, .slice none 0 0, .slice none 0 0, .slice none 0 0, .slice none 0 0] 82)).alloc (.cells #[.int .i64 1, .string s, .slice none 0 0, .slice none 0 0, .slice none 0 0, .slice none 0 0] 82)).alloc (.cells #[.func (.func 243) #[] #[]] 231))).heap.size ((((w.alloc (.cells #[.int .i64 1, .string t, .slice none 0 0, .slice none 0 0, .slice none 0 0, .slice none 0 0] 82)).alloc (.cells #[.int .i64 1, .string s, .slice none 0 0, .slice none 0 0, .slice none 0 0, .slice none 0 0] 82)).alloc (.cells #[.func (.func 243) #[] #[]] 231))) w1) => cells6 (blk_below (show ((((w.alloc (.cells #[.int .i64 1, .string t, .slice none 0 0, .slice none 0 0, .slice none 0 0, .slice none 0 0] 82)).alloc (.cells #[.int .i64 1, .string s, .slice none 0 0, .slice none 0 0, .slice none 0 0, .slice none 0 0] 82)).alloc (.cells #[.func (.func 243) #[] #[]] 231))).heap[w.heap.size + 1]? = some (.cells #[.int .i64 1, .string s, .slice none 0 0, .slice none 0 0, .slice none 0 0, .slice none 0 0] 82) from blk_below (new_next w _ _) alloc_old) hb))
  have BA := Lib.hid (show Below w.heap.size w ((((w.alloc (.cells #[.int .i64 1, .string t, .slice none 0 0, .slice none 0 0, .slice none 0 0, .slice none 0 0] 82)).alloc (.cells #[.int .i64 1, .string s, .slice none 0 0, .slice none 0 0, .slice none 0 0, .slice none 0 0] 82)).alloc (.cells #[.func (.func 243) #[] #[]] 231))) from (alloc_old.trans (alloc_old.mono (by simp))).trans (alloc_old.mono (by simp; omega)))
  go_enter Tryz.func176, Tryz.ntmps176
  go_wp2_with (first | (go_at_call 245; (with_reducible refine (q4.out _ _).mono ?_); rintro e w1 ⟨rfl, h1⟩; have B1 := Lib.hid h1; clear h1; refine Hid.out ?_))
  refine Lib.hid ?_
  have B2 := Lib.hid (BA.out.trans (B1.out.mono (Below.size BA.out)))
  obtain ⟨⟨a0, a1, a2, a3, a4, a5⟩, _⟩ := C1.out _ B1.out
  obtain ⟨⟨b0, b1, b2, b3, b4, b5⟩, _⟩ := C2.out _ B1.out
  have D := Lib.hid (show ∀ X, Below w1.heap.size w1 X → X.cell? ⟨w.heap.size, 3, none⟩ = some (.slice none 0 0) ∧ X.cell? ⟨w.heap.size, 4, none⟩ = some (.slice none 0 0) ∧ X.cell? ⟨w.heap.size + 1, 3, none⟩ = some (.slice none 0 0) ∧ X.cell? ⟨w.heap.size + 1, 4, none⟩ = some (.slice none 0 0) from fun X hb =>
    have x1 := (C1.out _ (belT B1.out hb)).1
    have x2 := (C2.out _ (belT B1.out hb)).1
    ⟨x1.2.2.2.1, x1.2.2.2.2.1, x2.2.2.2.1, x2.2.2.2.2.1⟩)
  clear D
  go_wp2
  go_ret
  exact ⟨by simp, B2.out⟩
end Go.Proofs.YtjfejmdnjbekkaaGreatDoor

/- A job's Turn: an entry that was turned is put, what was not turned has no effect. -/
namespace Go.Proofs.YtjfejmdnjbekkaaGreatDoor
open Go.ChangeShapes Go.WideShapes Go.ChangeAt Go.RowKit

set_option maxRecDepth 100000 in
set_option maxHeartbeats 4000000 in
theorem Turn_new (j bS bM : Nat) (l : MapT.Ents) (now : Int) (vA : Value) (A : Option Addr) (n cap : Nat) (es : List Ent) (c : Nat) (w : World) (hS : SP w bS bM l) (hj : JB w j bS now vA (.slice A n cap)) (hE : EF w c (.slice A n cap) es) (hc : c ≤ w.heap.size) (hl : es.length ≤ 100000) (k t : ByteArray) (hk1 : 1 ≤ k.size) (hk : k.size ≤ 512) (ht : t.size ≤ 4096) (u : Int) (hu0 : 0 ≤ u) (hu1 : u ≤ 1125899906842624) (hf : MapT.find k l = none) : Calls Tryz.prog 190 #[.pointer (some ⟨j, 0, none⟩), .agg #[.string k, .int .i64 1, .string t, .slice none 0 0, .slice none 0 0, .slice none 0 0, .slice none 0 0, .int .i64 u]] w fun e w' => e = .returned (.tuple #[]) ∧ (∃ A' n' cap', JB w' j bS now vA (.slice A' n' cap') ∧ EF w' c (.slice A' n' cap') (es ++ [⟨k, 1, t, u⟩])) ∧ Kp c (fun i => i ≠ j) w w' := by
  have bx := Lib.hid (alloc_old (w := w) (o := .cells #[.string k, .int .i64 1, .string t, .slice none 0 0, .slice none 0 0, .slice none 0 0, .slice none 0 0, .int .i64 u] 84))
  have hp := Lib.hid (heap_alloc_new w (.cells #[.string k, .int .i64 1, .string t, .slice none 0 0, .slice none 0 0, .slice none 0 0, .slice none 0 0, .int .i64 u] 84))
  have G := Lib.hid (JGet_no bS bM j l k now vA (.slice A n cap) hf _ (hS.below (alloc_old (w := w) (o := .cells #[.string k, .int .i64 1, .string t, .slice none 0 0, .slice none 0 0, .slice none 0 0, .slice none 0 0, .int .i64 u] 84))) (hj.below (alloc_old (w := w) (o := .cells #[.string k, .int .i64 1, .string t, .slice none 0 0, .slice none 0 0, .slice none 0 0, .slice none 0 0, .int .i64 u] 84))))
  have PP := Lib.hid (fun X (hb : Below w.heap.size w X) => Put72 j bS now vA A n cap es c X (hj.below hb) (hE.below hb) (Nat.le_trans hc (Below.size hb)) hl k t hk1 hk ht u hu0 hu1)
  clear hS hE hj hf
  go_enter Tryz.func190, Tryz.ntmps190
  go_wp2_with (first | (go_at_call 182; (with_reducible refine (G.out).mono ?_); rintro e w1 ⟨rfl, h1⟩; have B1 := Lib.hid h1; clear h1; refine Hid.out ?_))
  refine Lib.hid ?_
  have BW := Lib.hid (bx.out.trans (B1.out.mono (Below.size bx.out)))
  have BX := Lib.hid (show Below w.heap.size w (w1.alloc (.cells #[.string k, .int .i64 0, .string ⟨#[]⟩, .slice none 0 0, .slice none 0 0, .slice none 0 0, .slice none 0 0, .int .i64 0] 84)) from BW.out.trans (alloc_old.mono (Below.size BW.out)))
  obtain ⟨⟨p0, p1, p2, p3, p4, p5, p6, p7⟩, _, pz⟩ := cells8 (blk_below hp.out B1.out)
  have pz2 : w.heap.size < w1.heap.size := pz
  go_wp2_with (first | (go_at_call 195; (with_reducible refine (PP.out _ BX.out).mono ?_); rintro e w3 ⟨rfl, hR, hK⟩))
  go_end0
  exact ⟨rfl, hR, (Kp.of (BX.out.mono hc)).trans hK⟩
set_option maxRecDepth 100000 in
set_option maxHeartbeats 4000000 in
theorem Turn_diff (j bS bM : Nat) (l : MapT.Ents) (now : Int) (vA : Value) (A : Option Addr) (n cap : Nat) (es : List Ent) (c : Nat) (w : World) (hS : SP w bS bM l) (hj : JB w j bS now vA (.slice A n cap)) (hE : EF w c (.slice A n cap) es) (hc : c ≤ w.heap.size) (hl : es.length ≤ 100000) (k t : ByteArray) (hk1 : 1 ≤ k.size) (hk : k.size ≤ 512) (ht : t.size ≤ 4096) (u : Int) (hu0 : 0 ≤ u) (hu1 : u ≤ 1125899906842624) (t0 : ByteArray) (hn : t0 ≠ t) (hf : MapT.find k l = some (.agg #[.string k, .int .i64 1, .string t0, .slice none 0 0, .slice none 0 0, .slice none 0 0, .slice none 0 0, .int .i64 u])) (hv : Lives u now) : Calls Tryz.prog 190 #[.pointer (some ⟨j, 0, none⟩), .agg #[.string k, .int .i64 1, .string t, .slice none 0 0, .slice none 0 0, .slice none 0 0, .slice none 0 0, .int .i64 u]] w fun e w' => e = .returned (.tuple #[]) ∧ (∃ A' n' cap', JB w' j bS now vA (.slice A' n' cap') ∧ EF w' c (.slice A' n' cap') (es ++ [⟨k, 1, t, u⟩])) ∧ Kp c (fun i => i ≠ j) w w' := by
  have bx := Lib.hid (alloc_old (w := w) (o := .cells #[.string k, .int .i64 1, .string t, .slice none 0 0, .slice none 0 0, .slice none 0 0, .slice none 0 0, .int .i64 u] 84))
  have hp := Lib.hid (heap_alloc_new w (.cells #[.string k, .int .i64 1, .string t, .slice none 0 0, .slice none 0 0, .slice none 0 0, .slice none 0 0, .int .i64 u] 84))
  have G := Lib.hid (JGet_yes bS bM j l k now vA (.slice A n cap) t0 u 1 hf hv _ (hS.below (alloc_old (w := w) (o := .cells #[.string k, .int .i64 1, .string t, .slice none 0 0, .slice none 0 0, .slice none 0 0, .slice none 0 0, .int .i64 u] 84))) (hj.below (alloc_old (w := w) (o := .cells #[.string k, .int .i64 1, .string t, .slice none 0 0, .slice none 0 0, .slice none 0 0, .slice none 0 0, .int .i64 u] 84))))
  have PP := Lib.hid (fun X (hb : Below w.heap.size w X) => Put72 j bS now vA A n cap es c X (hj.below hb) (hE.below hb) (Nat.le_trans hc (Below.size hb)) hl k t hk1 hk ht u hu0 hu1)
  have SM := Lib.hid (fun w => Same_no t0 t hn w)
  clear hS hE hj hf
  go_enter Tryz.func190, Tryz.ntmps190
  go_wp2_with (first | (go_at_call 182; (with_reducible refine (G.out).mono ?_); rintro e w1 ⟨rfl, h1⟩; have B1 := Lib.hid h1; clear h1; refine Hid.out ?_))
  refine Lib.hid ?_
  have BW := Lib.hid (bx.out.trans (B1.out.mono (Below.size bx.out)))
  have BX := Lib.hid (show Below w.heap.size w (w1.alloc (.cells #[.string k, .int .i64 1, .string t0, .slice none 0 0, .slice none 0 0, .slice none 0 0, .slice none 0 0, .int .i64 u] 84)) from BW.out.trans (alloc_old.mono (Below.size BW.out)))
  obtain ⟨⟨p0, p1, p2, p3, p4, p5, p6, p7⟩, _, pz⟩ := cells8 (blk_below hp.out B1.out)
  have pz2 : w.heap.size < w1.heap.size := pz
  go_wp2_with (first | (go_at_call 176; (with_reducible refine (SM.out _).mono ?_); rintro e w2 ⟨rfl, h2⟩; have B2 := Lib.hid (belT BX.out h2); obtain ⟨⟨r0, r1, r2, r3, r4, r5, r6, r7⟩, _, rz⟩ := cells8 (blk_below (blk_below hp.out B1.out) (belA (Below.refl w1.heap.size w1) h2)); clear h2) | (go_at_call 195; (with_reducible refine (PP.out _ B2.out).mono ?_); rintro e w3 ⟨rfl, hR, hK⟩))
  go_end0
  exact ⟨rfl, hR, (Kp.of (B2.out.mono hc)).trans hK⟩
set_option maxRecDepth 100000 in
set_option maxHeartbeats 4000000 in
theorem Turn_same (j bS bM : Nat) (l : MapT.Ents) (now : Int) (vA : Value) (A : Option Addr) (n cap : Nat) (w : World) (hS : SP w bS bM l) (hj : JB w j bS now vA (.slice A n cap)) (k t : ByteArray) (u : Int) (hf : MapT.find k l = some (.agg #[.string k, .int .i64 1, .string t, .slice none 0 0, .slice none 0 0, .slice none 0 0, .slice none 0 0, .int .i64 u])) (hv : Lives u now) : Calls Tryz.prog 190 #[.pointer (some ⟨j, 0, none⟩), .agg #[.string k, .int .i64 1, .string t, .slice none 0 0, .slice none 0 0, .slice none 0 0, .slice none 0 0, .int .i64 u]] w fun e w' => e = .returned (.tuple #[]) ∧ Below w.heap.size w w' := by
  have bx := Lib.hid (alloc_old (w := w) (o := .cells #[.string k, .int .i64 1, .string t, .slice none 0 0, .slice none 0 0, .slice none 0 0, .slice none 0 0, .int .i64 u] 84))
  have hp := Lib.hid (heap_alloc_new w (.cells #[.string k, .int .i64 1, .string t, .slice none 0 0, .slice none 0 0, .slice none 0 0, .slice none 0 0, .int .i64 u] 84))
  have G := Lib.hid (JGet_yes bS bM j l k now vA (.slice A n cap) t u 1 hf hv _ (hS.below (alloc_old (w := w) (o := .cells #[.string k, .int .i64 1, .string t, .slice none 0 0, .slice none 0 0, .slice none 0 0, .slice none 0 0, .int .i64 u] 84))) (hj.below (alloc_old (w := w) (o := .cells #[.string k, .int .i64 1, .string t, .slice none 0 0, .slice none 0 0, .slice none 0 0, .slice none 0 0, .int .i64 u] 84))))
  have SM := Lib.hid (fun w => Same_yes t w)
  clear hS hj hf
  go_enter Tryz.func190, Tryz.ntmps190
  go_wp2_with (first | (go_at_call 182; (with_reducible refine (G.out).mono ?_); rintro e w1 ⟨rfl, h1⟩; have B1 := Lib.hid h1; clear h1; refine Hid.out ?_))
  refine Lib.hid ?_
  have BW := Lib.hid (bx.out.trans (B1.out.mono (Below.size bx.out)))
  have BX := Lib.hid (show Below w.heap.size w (w1.alloc (.cells #[.string k, .int .i64 1, .string t, .slice none 0 0, .slice none 0 0, .slice none 0 0, .slice none 0 0, .int .i64 u] 84)) from BW.out.trans (alloc_old.mono (Below.size BW.out)))
  obtain ⟨⟨p0, p1, p2, p3, p4, p5, p6, p7⟩, _, pz⟩ := cells8 (blk_below hp.out B1.out)
  have pz2 : w.heap.size < w1.heap.size := pz
  go_wp2_with (first | (go_at_call 176; (with_reducible refine (SM.out _).mono ?_); rintro e w2 ⟨rfl, h2⟩; have B2 := Lib.hid (belT BX.out h2); clear h2))
  go_end0
  exact ⟨rfl, B2.out⟩
set_option maxRecDepth 100000 in
set_option maxHeartbeats 4000000 in
theorem Turn_until (j bS bM : Nat) (l : MapT.Ents) (now : Int) (vA : Value) (A : Option Addr) (n cap : Nat) (es : List Ent) (c : Nat) (w : World) (hS : SP w bS bM l) (hj : JB w j bS now vA (.slice A n cap)) (hE : EF w c (.slice A n cap) es) (hc : c ≤ w.heap.size) (hl : es.length ≤ 100000) (k t : ByteArray) (hk1 : 1 ≤ k.size) (hk : k.size ≤ 512) (ht : t.size ≤ 4096) (u : Int) (hu0 : 0 ≤ u) (hu1 : u ≤ 1125899906842624) (u0 : Int) (hn : u0 ≠ u) (hf : MapT.find k l = some (.agg #[.string k, .int .i64 1, .string t, .slice none 0 0, .slice none 0 0, .slice none 0 0, .slice none 0 0, .int .i64 u0])) (hv : Lives u0 now) : Calls Tryz.prog 190 #[.pointer (some ⟨j, 0, none⟩), .agg #[.string k, .int .i64 1, .string t, .slice none 0 0, .slice none 0 0, .slice none 0 0, .slice none 0 0, .int .i64 u]] w fun e w' => e = .returned (.tuple #[]) ∧ (∃ A' n' cap', JB w' j bS now vA (.slice A' n' cap') ∧ EF w' c (.slice A' n' cap') (es ++ [⟨k, 1, t, u⟩])) ∧ Kp c (fun i => i ≠ j) w w' := by
  have bx := Lib.hid (alloc_old (w := w) (o := .cells #[.string k, .int .i64 1, .string t, .slice none 0 0, .slice none 0 0, .slice none 0 0, .slice none 0 0, .int .i64 u] 84))
  have hp := Lib.hid (heap_alloc_new w (.cells #[.string k, .int .i64 1, .string t, .slice none 0 0, .slice none 0 0, .slice none 0 0, .slice none 0 0, .int .i64 u] 84))
  have G := Lib.hid (JGet_yes bS bM j l k now vA (.slice A n cap) t u0 1 hf hv _ (hS.below (alloc_old (w := w) (o := .cells #[.string k, .int .i64 1, .string t, .slice none 0 0, .slice none 0 0, .slice none 0 0, .slice none 0 0, .int .i64 u] 84))) (hj.below (alloc_old (w := w) (o := .cells #[.string k, .int .i64 1, .string t, .slice none 0 0, .slice none 0 0, .slice none 0 0, .slice none 0 0, .int .i64 u] 84))))
  have PP := Lib.hid (fun X (hb : Below w.heap.size w X) => Put72 j bS now vA A n cap es c X (hj.below hb) (hE.below hb) (Nat.le_trans hc (Below.size hb)) hl k t hk1 hk ht u hu0 hu1)
  have gu : (u0 == u) = false := by rw [beq_eq_false_iff_ne]; exact hn
  clear hS hE hj hf
  go_enter Tryz.func190, Tryz.ntmps190
  go_wp2_with (first | (go_at_call 182; (with_reducible refine (G.out).mono ?_); rintro e w1 ⟨rfl, h1⟩; have B1 := Lib.hid h1; clear h1; refine Hid.out ?_))
  refine Lib.hid ?_
  have BW := Lib.hid (bx.out.trans (B1.out.mono (Below.size bx.out)))
  have BX := Lib.hid (show Below w.heap.size w (w1.alloc (.cells #[.string k, .int .i64 1, .string t, .slice none 0 0, .slice none 0 0, .slice none 0 0, .slice none 0 0, .int .i64 u0] 84)) from BW.out.trans (alloc_old.mono (Below.size BW.out)))
  obtain ⟨⟨p0, p1, p2, p3, p4, p5, p6, p7⟩, _, pz⟩ := cells8 (blk_below hp.out B1.out)
  have pz2 : w.heap.size < w1.heap.size := pz
  go_wp2_with (first | (go_at_call 195; (with_reducible refine (PP.out _ BX.out).mono ?_); rintro e w3 ⟨rfl, hR, hK⟩))
  go_end0
  exact ⟨rfl, hR, (Kp.of (BX.out.mono hc)).trans hK⟩
end Go.Proofs.YtjfejmdnjbekkaaGreatDoor

/- What a command that is refused becomes: the deferred closure. -/
namespace Go.Proofs.YtjfejmdnjbekkaaGreatDoor
open Go.ChangeShapes Go.WideShapes Go.ChangeAt Go.RowKit

set_option maxRecDepth 100000 in
set_option maxHeartbeats 1000000 in
theorem catch_idle (p8 p9 p10 : Addr) (w : World) :
    CallsD Tryz.prog 181 #[.pointer (some p8), .pointer (some p9), .pointer (some p10)] .returning w fun e u' w' => e = .returned (.tuple #[]) ∧ u' = .returning ∧ Below w.heap.size w w' := by
  have hT : ∀ w, (Instr.typeAssert .nilIface 20 162 true).run Tryz.prog w = .ok (.tuple #[.agg #[.int .i64 0], .bool false]) w := fun w => by kernel_rfl
  refine callsD_of_wpS Tryz.func181 rfl fun c₀ cs hu => ?_
  change Code.wpS _ _ _ { tmps := #[.pointer (some p8), .pointer (some p9), .pointer (some p10), undef, undef, undef, undef, undef, undef, undef, undef, undef, undef, undef], defers := [] } _ _
  apply wpS_seq
  apply wpS_region
  simp [wpOpsS, go_sem, recoverD, hu, Exit.thenS, hT]
  refine wpS_of_wp ?_
  go_wp2
  refine ⟨rfl, .returning, ?_, _, results_none rfl _ _ _, rfl, rfl, alloc_old⟩
  rw [← hu]
theorem cells4 {X : World} {b : Nat} {a0 a1 a2 a3 : Value} {t : TypeId} (h : X.heap[b]? = some (.cells #[a0, a1, a2, a3] t)) :
    (X.cell? ⟨b, 0, none⟩ = some a0 ∧ X.cell? ⟨b, 1, none⟩ = some a1 ∧ X.cell? ⟨b, 2, none⟩ = some a2 ∧ X.cell? ⟨b, 3, none⟩ = some a3) ∧
    (X.frozen? ⟨b, 0, none⟩ = false ∧ X.frozen? ⟨b, 1, none⟩ = false ∧ X.frozen? ⟨b, 2, none⟩ = false ∧ X.frozen? ⟨b, 3, none⟩ = false) := by
  refine ⟨⟨?_, ?_, ?_, ?_⟩, ⟨?_, ?_, ?_, ?_⟩⟩ <;> simp [World.cell?, World.frozen?, h]
theorem set4 {X : World} {b : Nat} {a0 a1 a2 a3 : Value} {t : TypeId} (h : X.heap[b]? = some (.cells #[a0, a1, a2, a3] t)) (v0 v1 v2 v3 : Value) : ((((X.setCell ⟨b, 0, none⟩ v0).setCell ⟨b, 1, none⟩ v1).setCell ⟨b, 2, none⟩ v2).setCell ⟨b, 3, none⟩ v3).heap[b]? = some (.cells #[v0, v1, v2, v3] t) := by
  simp [World.setCell, Array.getElem?_modify, h]
theorem far4 {X : World} {b i : Nat} (v0 v1 v2 v3 : Value) (hi : i ≠ b) : ((((X.setCell ⟨b, 0, none⟩ v0).setCell ⟨b, 1, none⟩ v1).setCell ⟨b, 2, none⟩ v2).setCell ⟨b, 3, none⟩ v3).heap[i]? = X.heap[i]? :=
  (Below.heap_setCell _ ⟨b, 3, none⟩ _ _ hi).trans ((Below.heap_setCell _ ⟨b, 2, none⟩ _ _ hi).trans ((Below.heap_setCell _ ⟨b, 1, none⟩ _ _ hi).trans (Below.heap_setCell _ ⟨b, 0, none⟩ _ _ hi)))
theorem set1 {X : World} {b : Nat} {a0 : Value} {t : TypeId} (h : X.heap[b]? = some (.cells #[a0] t)) (v0 : Value) : (X.setCell ⟨b, 0, none⟩ v0).heap[b]? = some (.cells #[v0] t) := by
  simp [World.setCell, Array.getElem?_modify, h]
theorem cells1 {X : World} {b : Nat} {a0 : Value} {t : TypeId} (h : X.heap[b]? = some (.cells #[a0] t)) : X.cell? ⟨b, 0, none⟩ = some a0 ∧ X.frozen? ⟨b, 0, none⟩ = false := by
  refine ⟨?_, ?_⟩ <;> simp [World.cell?, World.frozen?, h]
set_option maxRecDepth 100000 in
set_option maxHeartbeats 1000000 in
theorem catch_fail (b8 b9 b10 : Nat) (hd : b8 ≠ b9 ∧ b8 ≠ b10 ∧ b9 ≠ b10) (c0 c1 c2 c3 c4 c5 : Value) (n : Int) (older : List PanicEntry) (w : World) (h8 : w.heap[b8]? = some (.cells #[c0, c1, c2, c3] 24)) (h9 : w.heap[b9]? = some (.cells #[c4] 74)) (h10 : w.heap[b10]? = some (.cells #[c5] 4)) :
    CallsD Tryz.prog 181 #[.pointer (some ⟨b8, 0, none⟩), .pointer (some ⟨b9, 0, none⟩), .pointer (some ⟨b10, 0, none⟩)] (.panicking ({ v := .iface 162 (.agg #[.int .i64 n]), recovered := false } :: older)) w fun e u' w' => e = .returned (.tuple #[]) ∧ u' = .panicking ({ v := .iface 162 (.agg #[.int .i64 n]), recovered := true } :: older) ∧ w'.heap[b8]? = some (.cells #[.int .i64 2, .int .i64 n, .string ⟨#[]⟩, .slice none 0 0] 24) ∧ w'.heap[b9]? = some (.cells #[.slice none 0 0] 74) ∧ w'.heap[b10]? = some (.cells #[.bool true] 4) ∧ Kp w.heap.size (fun i => i ≠ b8 ∧ i ≠ b9 ∧ i ≠ b10) w w' := by
  have hT : ∀ w, (Instr.typeAssert (.iface 162 (.agg #[.int .i64 n])) 20 162 true).run Tryz.prog w = .ok (.tuple #[.agg #[.int .i64 n], .bool true]) w := fun w => by kernel_rfl
  have H8 := Lib.hid h8
  have H9 := Lib.hid h9
  have H10 := Lib.hid h10
  clear h8 h9 h10
  obtain ⟨hd1, hd2, hd3⟩ := hd
  refine callsD_of_wpS Tryz.func181 rfl fun c₀ cs hu => ?_
  change Code.wpS _ _ _ { tmps := #[.pointer (some ⟨b8, 0, none⟩), .pointer (some ⟨b9, 0, none⟩), .pointer (some ⟨b10, 0, none⟩), undef, undef, undef, undef, undef, undef, undef, undef, undef, undef, undef], defers := [] } _ _
  apply wpS_seq
  apply wpS_region
  simp [wpOpsS, go_sem, recoverD, hu, Exit.thenS, hT]
  refine wpS_of_wp ?_
  have Er := Lib.hid (fun w => Err64 n w)
  have hx0 : (w.alloc (.cells #[.int .i64 n] 162)).cell? ⟨w.heap.size, 0, none⟩ = some (.int .i64 n) := by simp
  have AO := Lib.hid (alloc_old (w := w) (o := .cells #[.int .i64 n] 162))
  go_wp2_with (first | (go_at_call 29; (with_reducible refine (Er.out _).mono ?_); rintro e w1 ⟨rfl, h1⟩; have B1 := Lib.hid (AO.out.trans (h1.mono (Below.size AO.out))); clear h1; have k8 := cells4 (blk_below H8.out B1.out); have k9 := cells1 (blk_below H9.out B1.out); have k10 := cells1 (blk_below H10.out B1.out); obtain ⟨⟨a0, a1, a2, a3⟩, ⟨f0, f1, f2, f3⟩⟩ := k8; obtain ⟨g0, g1⟩ := k9; obtain ⟨l0, l1⟩ := k10))
  refine ⟨rfl, _, rfl, _, results_none rfl _ _ _, rfl, rfl, ?_, ?_, ?_, ?_⟩
  · exact (Below.heap_setCell _ ⟨b10, 0, none⟩ _ _ hd2).trans ((Below.heap_setCell _ ⟨b9, 0, none⟩ _ _ hd1).trans (set4 (blk_below H8.out B1.out) _ _ _ _))
  · exact (Below.heap_setCell _ ⟨b10, 0, none⟩ _ _ hd3).trans (set1 ((far4 _ _ _ _ (Ne.symm hd1)).trans (blk_below H9.out B1.out)) _)
  · exact set1 ((Below.heap_setCell _ ⟨b9, 0, none⟩ _ _ (Ne.symm hd3)).trans ((far4 _ _ _ _ (Ne.symm hd2)).trans (blk_below H10.out B1.out))) _
  · exact ((((((Kp.of B1.out).setCell (p := ⟨b8, 0, none⟩) (by simp) _).setCell (p := ⟨b8, 1, none⟩) (by simp) _).setCell (p := ⟨b8, 2, none⟩) (by simp) _).setCell (p := ⟨b8, 3, none⟩) (by simp) _).setCell (p := ⟨b9, 0, none⟩) (by simp) _).setCell (p := ⟨b10, 0, none⟩) (by simp) _
end Go.Proofs.YtjfejmdnjbekkaaGreatDoor
