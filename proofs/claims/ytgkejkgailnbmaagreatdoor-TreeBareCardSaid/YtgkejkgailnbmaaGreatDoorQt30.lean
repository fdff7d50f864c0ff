/- Texts joined: SD -/
import Derived.Test.YtgkejkgailnbmaaGreatDoorQt28
import Derived.Test.YtgkejkgailnbmaaGreatDoorQt29
set_option linter.unusedVariables false
set_option linter.unusedSimpArgs false
namespace Go
section
variable {P : Program} {md : Region.Mode} {ops : Array Oper} {Q : Exit → Act → World → Prop}
theorem count_set {listed : Array Bool} {i : Nat} (h : listed.getD i true = false) : (listed.setIfInBounds i true).toList.count false + 1 = listed.toList.count false := by
 have hi : i < listed.size := by
  rcases Nat.lt_or_ge i listed.size with h1 | h1
  ·exact h1
  ·rw [Array.getD_eq_getD_getElem?, Array.getElem?_eq_none h1] at h
   cases h
 have hv : listed.toList[i]'(by simpa using hi) = false := by
  rw [Array.getD_eq_getD_getElem?, Array.getElem?_eq_getElem hi] at h
  simpa using h
 rw [Array.toList_setIfInBounds]
 have := List.count_set (a := true) (b := false) (l := listed.toList) (i := i) (by simpa using hi)
 rw [hv] at this
 simp only [BEq.rfl, if_true, beq_iff_eq, Bool.true_eq_false, if_false, Nat.add_zero] at this
 have hp : 0 < listed.toList.count false := List.count_pos_iff.2 (by rw [← hv]; exact List.getElem_mem _)
 omega
theorem wpAny_inv (I : Array Bool → Act → World → Prop) (acyc : ∀ (i : Nat) (o : Oper), ops[i]? = some o → ∀ e ∈ o.after, e.on < i)
  (hstep : ∀ (listed : Array Bool) (a : Act) (w : World) (i : Nat), I listed a w → i ∈ Region.ready md ops listed → wpOp P ops Q i (fun a' w' => I (listed.setIfInBounds i true) a' w') a w)
  (hend : ∀ (listed : Array Bool) (a : Act) (w : World), listed.size = ops.size → (∀ i, i < ops.size → listed.getD i true = true) → I listed a w → Q .normal a w) :
  ∀ (fuel : Nat) (listed : Array Bool) (a : Act) (w : World), listed.toList.count false ≤ fuel → listed.size = ops.size → I listed a w → wpAny P md ops Q fuel listed a w := by
 have done : ∀ (listed : Array Bool), listed.size = ops.size → Region.ready md ops listed = [] → ∀ i, i < ops.size → listed.getD i true = true := by
  intro listed hs h i
  induction i using Nat.strongRecOn with
  | ind i ih =>
   intro hi
   cases hb : listed.getD i true with
   | true => rfl
   | false =>
    have : i ∈ Region.ready md ops listed := mem_ready.2 ⟨hb, ops[i], Array.getElem?_eq_getElem hi, fun e he _ => by
     have h1 := acyc i _ (Array.getElem?_eq_getElem hi) e he
     have h2 := ih e.on h1 (by omega)
     have h3 : e.on < listed.size := by omega
     rw [Array.getD_eq_getD_getElem?, Array.getElem?_eq_getElem h3] at h2 ⊢
     exact h2⟩
    rw [h] at this
    cases this
 intro fuel
 induction fuel with
 | zero =>
  intro listed a w hf hs hI
  have hall : ∀ i, listed.getD i true = true := fun i => by
   cases hb : listed.getD i true with
   | true => rfl
   | false => have := count_set hb; omega
  refine ⟨?_, hend listed a w hs (fun i _ => hall i) hI⟩
  rw [List.eq_nil_iff_forall_not_mem]
  intro i hi
  have := (mem_ready.1 hi).1
  rw [hall i] at this
  cases this
 | succ fuel ih =>
  intro listed a w hf hs hI
  refine ⟨fun h => hend listed a w hs (done listed hs h) hI, fun i hi => ?_⟩
  have := count_set (mem_ready.1 hi).1
  exact wpOp_mono (fun a' w' h => ih _ a' w' (by omega) (by simpa using hs) h) (hstep listed a w i hI hi)
theorem acyc_of {ops : Array Oper} (h : ops.toList.zipIdx.all (fun p => p.1.after.toList.all (fun e => decide (e.on < p.2))) = true) : ∀ (i : Nat) (o : Oper), ops[i]? = some o → ∀ e ∈ o.after, e.on < i := by
 intro i o ho e he
 have h1 := List.all_eq_true.1 h (o, i) (List.mem_zipIdx_iff_getElem?.2 (by simpa using ho))
 have h2 := List.all_eq_true.1 h1 e (by simpa using he)
 exact of_decide_eq_true h2
end
end Go
namespace Go.Proofs.YtgkejkgailnbmaaGreatDoor
open Lib (hid)
open Go.ChangeShapes Go.WideShapes Go.ChangeAt Go.RowKit TP
set_option maxRecDepth 100000 in
theorem pr81 (s : ByteArray) (w : World) : Calls Tryz.prog 81 #[.string s] w fun e w' => (∃ f x y, e = .returned (.func f x y)) ∧ Below w.heap.size w w' := by
 have A := hid (alloc_old (w := w) (o := .cells #[.string s] 9))
 go_enter Tryz.func81, Tryz.ntmps81
 go_wp2
 go_ret
 exact ⟨⟨_, _, _, rfl⟩, A.out⟩
set_option maxRecDepth 100000 in
theorem pr83 (s : ByteArray) (w : World) : Calls Tryz.prog 83 #[.string s] w fun e w' => (∃ f x y, e = .returned (.func f x y)) ∧ Below w.heap.size w w' := by
 have A := hid (alloc_old (w := w) (o := .cells #[.string s] 9))
 go_enter Tryz.func83, Tryz.ntmps83
 go_wp2
 go_ret
 exact ⟨⟨_, _, _, rfl⟩, A.out⟩
set_option maxRecDepth 100000 in
theorem pr85 (s : ByteArray) (w : World) : Calls Tryz.prog 85 #[.string s] w fun e w' => (∃ f x y, e = .returned (.func f x y)) ∧ Below w.heap.size w w' := by
 have A := hid (alloc_old (w := w) (o := .cells #[.string s] 9))
 go_enter Tryz.func85, Tryz.ntmps85
 go_wp2
 go_ret
 exact ⟨⟨_, _, _, rfl⟩, A.out⟩
abbrev mk23 (f : Nat → Value) : Act := { tmps := #[f 0, f 1, f 2, f 3, f 4, f 5, f 6, f 7, f 8, f 9, f 10, f 11, f 12, f 13, f 14, f 15, f 16, f 17, f 18, f 19, f 20, f 21, f 22], defers := [] }
def upd (f : Nat → Value) (d : Nat) (v : Value) : Nat → Value := fun k => if k = d then v else f k
def pk : Nat → Value → Prop
 | 0, v => v = .func (.func 85) #[] #[]
 | 1, v => v = .func (.func 83) #[] #[]
 | 2, v => v = .func (.func 81) #[] #[]
 | _, v => ∃ g x y, v = .func g x y
def pconds : List (Nat × Nat × Nat) := [(1, 5, 0), (4, 7, 0), (7, 9, 0), (17, 11, 1), (20, 13, 1), (23, 15, 1), (28, 18, 2), (31, 20, 2), (2, 6, 3), (5, 8, 3), (8, 10, 3), (18, 12, 3), (21, 14, 3), (24, 16, 3), (29, 19, 3), (32, 21, 3), (26, 17, 3)]
theorem pconds_op : ∀ p ∈ pconds, ∀ q ∈ pconds, p.1 = q.1 → p = q := by decide
theorem pconds_slot : ∀ p ∈ pconds, ∀ q ∈ pconds, p.2.1 = q.2.1 → p = q := by decide
theorem pconds_far : ∀ p ∈ pconds, (p.1 ≠ 0 ∧ p.1 ≠ 10 ∧ p.1 ≠ 34 ∧ p.1 ≠ 35) ∧ (p.2.1 ≠ 0 ∧ p.2.1 ≠ 1 ∧ p.2.1 ≠ 2 ∧ p.2.1 ≠ 3 ∧ p.2.1 ≠ 4 ∧ p.2.1 ≠ 22) := by decide
theorem got {listed : Array Bool} {i j : Nat} (h : (listed.setIfInBounds i true).getD j false = true) : j = i ∨ listed.getD j false = true := by
 by_cases e : j = i
 ·exact .inl e
 ·refine .inr ?_
  rw [Array.getD_eq_getD_getElem?, Array.getElem?_setIfInBounds_ne (fun e2 => e e2.symm)] at h
  rw [Array.getD_eq_getD_getElem?]
  exact h
structure PF (W0 : World) (b1 : Nat) (listed : Array Bool) (f : Nat → Value) (w : World) : Prop where
 f1 : f 1 = .pointer (some ⟨b1, 0, none⟩)
 f2 : f 2 = .func (.func 83) #[] #[]
 f3 : f 3 = .func (.func 85) #[] #[]
 c1 : W0.heap[b1]? = some (.cells #[.func (.func 81) #[] #[]] 117)
 bel : Below W0.heap.size W0 w
 map : listed.getD 0 false = true → ∃ mb, f 4 = .map (some mb) ∧ W0.heap.size ≤ mb ∧ ∃ l, MapI.MB w mb l ∧ (listed.getD 10 false = true → MapI.find 4 l = some (.func (.func 87) #[] #[]))
 conds : ∀ p ∈ pconds, listed.getD p.1 false = true → pk p.2.2 (f p.2.1)
 m34 : listed.getD 34 false = true → listed.getD 0 false = true ∧ f 22 = f 4
 m35 : listed.getD 35 false = true → listed.getD 34 false = true ∧ f 0 = f 22
 only : listed.getD 10 false = true → listed.getD 0 false = true
section
variable {W0 : World} {b1 : Nat} {listed : Array Bool} {f : Nat → Value} {w w' : World}
theorem PF.get (h : PF W0 b1 listed f w) (i d c : Nat) (hm : (i, d, c) ∈ pconds) (hl : listed.getD i false = true) : pk c (f d) := h.conds (i, d, c) hm hl
theorem PF.cell (h : PF W0 b1 listed f w) : w.cell? ⟨b1, 0, none⟩ = some (.func (.func 81) #[] #[]) := (cells1 (blk_below h.c1 h.bel)).1
theorem keepT {i j : Nat} {listed : Array Bool} (h : listed.getD j false = true) : (listed.setIfInBounds i true).getD j false = true := by
 rw [Array.getD_eq_getD_getElem?] at h ⊢
 rw [Array.getElem?_setIfInBounds]
 split
 ·rename_i e
  subst e
  split
  ·rfl
  ·rename_i h2
   rw [Array.getElem?_eq_none (by omega)] at h
   exact h
 ·exact h
theorem PF.val (h : PF W0 b1 listed f w) (hw : Below w.heap.size w w') (i d c : Nat) (hm : (i, d, c) ∈ pconds) {v : Value} (hv : pk c v) : PF W0 b1 (listed.setIfInBounds i true) (upd f d v) w' := by
 obtain ⟨⟨i0, i10, i34, i35⟩, d0, d1, d2, d3, d4, d22⟩ := pconds_far _ hm
 simp only at i0 i10 i34 i35 d0 d1 d2 d3 d4 d22
 have u : ∀ k, k ≠ d → upd f d v k = f k := fun k hk => if_neg hk
 refine ⟨by rw [u 1 (Ne.symm d1)]; exact h.f1, by rw [u 2 (Ne.symm d2)]; exact h.f2, by rw [u 3 (Ne.symm d3)]; exact h.f3, h.c1, h.bel.trans (hw.mono (Below.size h.bel)), fun hl => ?_, fun p hp hl => ?_, fun hl => ?_, fun hl => ?_, fun hl => ?_⟩
 ·rcases got hl with e | hl
  ·exact absurd e.symm i0
  ·obtain ⟨mb, h1, h2, l, h3, h4⟩ := h.map hl
   refine ⟨mb, by rw [u 4 (Ne.symm d4)]; exact h1, h2, l, h3.below hw, fun hl => ?_⟩
   rcases got hl with e | hl
   ·exact absurd e.symm i10
   ·exact h4 hl
 ·by_cases e : p.1 = i
  ·have := pconds_op p hp _ hm e
   subst this
   show pk c (upd f d v d)
   unfold upd
   rw [if_pos rfl]
   exact hv
  ·rcases got hl with e2 | hl
   ·exact absurd e2 e
   ·rw [u p.2.1 (fun e2 => e (by rw [pconds_slot p hp _ hm e2]))]
    exact h.conds p hp hl
 ·rcases got hl with e | hl
  ·exact absurd e.symm i34
  ·obtain ⟨h1, h2⟩ := h.m34 hl
   exact ⟨keepT h1, by rw [u 22 (Ne.symm d22), u 4 (Ne.symm d4)]; exact h2⟩
 ·rcases got hl with e | hl
  ·exact absurd e.symm i35
  ·obtain ⟨h1, h2⟩ := h.m35 hl
   exact ⟨keepT h1, by rw [u 0 (Ne.symm d0), u 22 (Ne.symm d22)]; exact h2⟩
 ·rcases got hl with e | hl
  ·exact absurd e.symm i10
  ·exact keepT (h.only hl)
theorem PF.make (h : PF W0 b1 listed f w) (hl0 : listed.getD 0 true = false) : PF W0 b1 (listed.setIfInBounds 0 true) (upd f 4 (.map (some w.heap.size))) (w.alloc (.map #[] 0)) := by
 have u : ∀ k, k ≠ 4 → upd f 4 (.map (some w.heap.size)) k = f k := fun k hk => if_neg hk
 have n0 : ¬ listed.getD 0 false = true := by
  intro e
  rw [Array.getD_eq_getD_getElem?] at e hl0
  cases h9 : listed[0]? with
  | none => rw [h9] at e; cases e
  | some x => rw [h9] at e hl0; exact absurd (e.symm.trans hl0) (by decide)
 refine ⟨by rw [u 1 (by decide)]; exact h.f1, by rw [u 2 (by decide)]; exact h.f2, by rw [u 3 (by decide)]; exact h.f3, h.c1, h.bel.trans (alloc_old.mono (Below.size h.bel)), fun _ => ⟨w.heap.size, rfl, Below.size h.bel, [], MapI.MB.made w, fun hl => ?_⟩, fun p hp hl => ?_, fun hl => ?_, fun hl => ?_, fun hl => ?_⟩
 ·rcases got hl with e | hl
  ·cases e
  ·exact absurd (h.only hl) n0
 ·obtain ⟨⟨i0, _⟩, _, _, _, _, d4, _⟩ := pconds_far p hp
  rcases got hl with e | hl
  ·exact absurd e i0
  ·rw [u p.2.1 d4]
   exact h.conds p hp hl
 ·rcases got hl with e | hl
  ·cases e
  ·exact absurd (h.m34 hl).1 n0
 ·rcases got hl with e | hl
  ·cases e
  ·exact absurd (h.m34 (h.m35 hl).1).1 n0
 ·rcases got hl with e | hl
  ·cases e
  ·exact absurd (h.only hl) n0
theorem grownBel (h : Below W0.heap.size W0 w) {mb : Nat} (hmb : W0.heap.size ≤ mb) (hg : w.grownBy w' (some mb)) : Below W0.heap.size W0 w' :=
 h.trans ⟨hg.os, hg.tape, hg.output, hg.size, fun i hi => hg.block i (Nat.lt_of_lt_of_le hi (Below.size h)) (fun e => by have := Option.some.inj e; omega)⟩
theorem MapI.find_put_ne {k x : Int} (u : Value) (hk : x ≠ k) : ∀ l : MapI.Ents, MapI.find x (MapI.put k u l) = MapI.find x l
 | [] => by simp [MapI.put, MapI.find, Ne.symm hk]
 | (y, v) :: r => by
  unfold MapI.put
  split
  ·rename_i e
   subst e
   simp [MapI.find, Ne.symm hk]
  ·unfold MapI.find
   split
   ·rfl
   ·exact MapI.find_put_ne u hk r
theorem MapI.find_put_eq (k : Int) (u : Value) : ∀ l : MapI.Ents, MapI.find k (MapI.put k u l) = some u
 | [] => by simp [MapI.put, MapI.find]
 | (y, v) :: r => by
  unfold MapI.put
  split
  ·rename_i e
   subst e
   simp [MapI.find]
  ·rename_i e
   unfold MapI.find
   rw [if_neg e]
   exact MapI.find_put_eq k u r
theorem PF.ins (h : PF W0 b1 listed f w) (i : Nat) (hi : i ≠ 0 ∧ i ≠ 10 ∧ i ≠ 34 ∧ i ≠ 35) (hp : ∀ p ∈ pconds, p.1 ≠ i) (d0 : listed.getD 0 false = true) {mb : Nat} (h4 : f 4 = .map (some mb)) (hmb : W0.heap.size ≤ mb) {l : MapI.Ents} (hM : MapI.MB w mb l) (hl4 : listed.getD 10 false = true → MapI.find 4 l = some (.func (.func 87) #[] #[])) (k : Int) (hk : (4 : Int) ≠ k) {u : Value} (hM1 : MapI.MB w' mb (MapI.put k u l)) (hg : w.grownBy w' (some mb)) : PF W0 b1 (listed.setIfInBounds i true) f w' := by
 refine ⟨h.f1, h.f2, h.f3, h.c1, grownBel h.bel hmb hg, fun _ => ⟨mb, h4, hmb, _, hM1, fun hl => ?_⟩, fun p hp2 hl => ?_, fun hl => ?_, fun hl => ?_, fun hl => ?_⟩
 ·rw [MapI.find_put_ne _ hk]
  rcases got hl with e | hl
  ·exact absurd e.symm hi.2.1
  ·exact hl4 hl
 ·rcases got hl with e | hl
  ·exact absurd e (hp p hp2)
  ·exact h.conds p hp2 hl
 ·rcases got hl with e | hl
  ·exact absurd e.symm hi.2.2.1
  ·exact ⟨keepT (h.m34 hl).1, (h.m34 hl).2⟩
 ·rcases got hl with e | hl
  ·exact absurd e.symm hi.2.2.2
  ·exact ⟨keepT (h.m35 hl).1, (h.m35 hl).2⟩
 ·exact keepT d0
theorem PF.ins4 (h : PF W0 b1 listed f w) (d0 : listed.getD 0 false = true) {mb : Nat} (h4 : f 4 = .map (some mb)) (hmb : W0.heap.size ≤ mb) {l : MapI.Ents} (hM1 : MapI.MB w' mb (MapI.put 4 (.func (.func 87) #[] #[]) l)) (hg : w.grownBy w' (some mb)) : PF W0 b1 (listed.setIfInBounds 10 true) f w' := by
 refine ⟨h.f1, h.f2, h.f3, h.c1, grownBel h.bel hmb hg, fun _ => ⟨mb, h4, hmb, _, hM1, fun _ => MapI.find_put_eq _ _ _⟩, fun p hp2 hl => ?_, fun hl => ?_, fun hl => ?_, fun hl => ?_⟩
 ·rcases got hl with e | hl
  ·exact absurd e (pconds_far p hp2).1.2.1
  ·exact h.conds p hp2 hl
 ·rcases got hl with e | hl
  ·cases e
  ·exact ⟨keepT (h.m34 hl).1, (h.m34 hl).2⟩
 ·rcases got hl with e | hl
  ·cases e
  ·exact ⟨keepT (h.m35 hl).1, (h.m35 hl).2⟩
 ·exact keepT d0
theorem PF.mv34 (h : PF W0 b1 listed f w) (d0 : listed.getD 0 false = true) : PF W0 b1 (listed.setIfInBounds 34 true) (upd f 22 (f 4)) w := by
 have u : ∀ k, k ≠ 22 → upd f 22 (f 4) k = f k := fun k hk => if_neg hk
 refine ⟨h.f1, h.f2, h.f3, h.c1, h.bel, fun _ => ?_, fun p hp2 hl => ?_, fun hl => ⟨keepT d0, rfl⟩, fun hl => ?_, fun hl => keepT d0⟩
 ·obtain ⟨mb, h1, h2, l, h3, h4⟩ := h.map d0
  refine ⟨mb, h1, h2, l, h3, fun hl => ?_⟩
  rcases got hl with e | hl
  ·cases e
  ·exact h4 hl
 ·rcases got hl with e | hl
  ·exact absurd e (pconds_far p hp2).1.2.2.1
  ·rw [u p.2.1 (pconds_far p hp2).2.2.2.2.2.2]
   exact h.conds p hp2 hl
 ·rcases got hl with e | hl
  ·cases e
  ·exact ⟨keepT (h.m35 hl).1, by rw [u 0 (by decide)]; show f 0 = f 4; rw [(h.m35 hl).2, (h.m34 (h.m35 hl).1).2]⟩
theorem PF.mv35 (h : PF W0 b1 listed f w) (d1 : listed.getD 34 false = true) : PF W0 b1 (listed.setIfInBounds 35 true) (upd f 0 (f 22)) w := by
 have u : ∀ k, k ≠ 0 → upd f 0 (f 22) k = f k := fun k hk => if_neg hk
 refine ⟨h.f1, h.f2, h.f3, h.c1, h.bel, fun _ => ?_, fun p hp2 hl => ?_, fun hl => ⟨keepT (h.m34 d1).1, (h.m34 d1).2⟩, fun hl => ⟨keepT d1, rfl⟩, fun hl => keepT (h.m34 d1).1⟩
 ·obtain ⟨mb, h1, h2, l, h3, h4⟩ := h.map (h.m34 d1).1
  refine ⟨mb, h1, h2, l, h3, fun hl => ?_⟩
  rcases got hl with e | hl
  ·cases e
  ·exact h4 hl
 ·rcases got hl with e | hl
  ·exact absurd e (pconds_far p hp2).1.2.2.2
  ·rw [u p.2.1 (pconds_far p hp2).2.1]
   exact h.conds p hp2 hl
end
theorem ins_op {ops : Array Oper} {i : Nat} {o : Oper} {K : Act → World → Prop} {Q : Exit → Act → World → Prop} {a : Act} {w : World} {t key elem : TypeId} {m x v : Operand} (ho : ops[i]? = some o) (hop : o.op = Op.insert t m x v) (hg : o.guard = none) (hd : o.dst = none) (ht : Tryz.prog.underlying t = some (.map key elem)) (hk : Tryz.prog.underlying key = some (.int .i64)) (b : Nat) (l : MapI.Ents) (hm : a.eval m = .map (some b)) (h : MapI.MB w b l) (k : Int) (u : Value) (hv : a.eval v = u) (hK : ∀ w', MapI.MB w' b (MapI.put k u l) → w.grownBy w' (some b) → K a w') (hx : a.eval x = .int .i64 k := by rfl) : wpOp Tryz.prog ops Q i K a w := by
 refine wpOp_step ho (fun K' hK' => ?_)
 rw [if_pos (by simp [Region.wanted, hg])]
 obtain ⟨w', hrun, r1, r2, _⟩ := MapI.run_update ht hk h k u
 unfold Oper.wp
 simp [execOp, hop, hm, hx, hv, hrun, Result.andThen]
 refine hK' _ _ ?_
 rw [show a.put o.dst undef = a from by rw [hd]; rfl]
 exact hK w' r1 r2
set_option maxRecDepth 100000 in
set_option maxHeartbeats 16000000 in
theorem printers_is (w : World) : Calls Tryz.prog 76 #[] w fun e w' => ∃ b l, e = .returned (.map (some b)) ∧ MapI.MB w' b l ∧ MapI.find 4 l = some (.func (.func 87) #[] #[]) ∧ Below w.heap.size w w' := by
 have A := hid (alloc_old (w := w) (o := .cells #[.func (.func 81) #[] #[]] 117))
 have r := hid (heap_alloc_new w (.cells #[.func (.func 81) #[] #[]] 117))
 have hst := fun (a : Addr) (m : _) (w : World) => run_store Tryz.prog w a (.func (.func 81) #[] #[]) m rfl
 go_enter Tryz.func76, Tryz.ntmps76
 go_wp2
 clear hst
 refine wp_region_any (by kernel_rfl) ?_
 refine wpAny_inv (fun listed a X => ∃ f, a = mk23 f ∧ PF (w.alloc (.cells #[.func (.func 81) #[] #[]] 117)) w.heap.size listed f X) ?_ ?_ ?_ _ _ _ _ ?_ ?_ ?_
 ·exact acyc_of (by kernel_rfl)
 ·rintro listed a X i ⟨f, rfl, hP⟩ hi
  obtain ⟨hl, o, ho, hall⟩ := mem_ready.1 hi
  have hi36 : i < 36 := (Array.getElem?_eq_some_iff.1 ho).1
  generalize X = w at hP ⊢
  obtain rfl | rfl | rfl | rfl | rfl | rfl | rfl | rfl | rfl | rfl | rfl | rfl | rfl | rfl | rfl | rfl | rfl | rfl | rfl | rfl | rfl | rfl | rfl | rfl | rfl | rfl | rfl | rfl | rfl | rfl | rfl | rfl | rfl | rfl | rfl | rfl : i = 0 ∨ i = 1 ∨ i = 2 ∨ i = 3 ∨ i = 4 ∨ i = 5 ∨ i = 6 ∨ i = 7 ∨ i = 8 ∨ i = 9 ∨ i = 10 ∨ i = 11 ∨ i = 12 ∨ i = 13 ∨ i = 14 ∨ i = 15 ∨ i = 16 ∨ i = 17 ∨ i = 18 ∨ i = 19 ∨ i = 20 ∨ i = 21 ∨ i = 22 ∨ i = 23 ∨ i = 24 ∨ i = 25 ∨ i = 26 ∨ i = 27 ∨ i = 28 ∨ i = 29 ∨ i = 30 ∨ i = 31 ∨ i = 32 ∨ i = 33 ∨ i = 34 ∨ i = 35 := by omega
  all_goals cases ho
  ·refine wpOp_step rfl (fun K hK => ?_)
   go_simp
   exact hK _ _ ⟨_, rfl, hP.make hl⟩
  ·refine wpOp_step rfl (fun K hK => ?_)
   go_simp
   exact hK _ _ ⟨_, rfl, hP.val (Below.refl _ _) 1 5 0 (by decide) hP.f3⟩
  ·have d1 := hall ⟨1, .data⟩ (by simp) rfl
   have hs : f 5 = .func (.func 85) #[] #[] := hP.get 1 5 0 (by decide) d1
   refine wpOp_step rfl (fun K hK => ?_)
   go_simp
   go_at_call 85
   refine (pr85 ⟨#[110, 105, 108]⟩ w).mono ?_
   rintro e w1 ⟨⟨g, x, y, rfl⟩, hb⟩
   exact hK _ _ ⟨_, by rw [← hs]; rfl, hP.val hb 2 6 3 (by decide) ⟨g, x, y, rfl⟩⟩
  ·have d0 := hall ⟨0, .data⟩ (by simp) rfl
   have d1 := hall ⟨2, .data⟩ (by simp) rfl
   obtain ⟨g, x, y, hs⟩ : ∃ g x y, f 6 = .func g x y := hP.get 2 6 3 (by decide) d1
   obtain ⟨mb, h4, hmb, l, hM, hl4⟩ := hP.map d0
   refine ins_op rfl rfl rfl rfl Tryz.underlying110 Tryz.underlying3 mb l (show (mk23 f).eval (.tmp 4) = _ from h4) hM 1 (.func g x y) (show (mk23 f).eval _ = _ from hs) ?_
   intro w1 hM1 hg1
   exact ⟨_, rfl, hP.ins 3 (by decide) (by decide) d0 h4 hmb hM hl4 1 (by decide) hM1 hg1⟩
  ·refine wpOp_step rfl (fun K hK => ?_)
   go_simp
   exact hK _ _ ⟨_, rfl, hP.val (Below.refl _ _) 4 7 0 (by decide) hP.f3⟩
  ·have d1 := hall ⟨4, .data⟩ (by simp) rfl
   have hs : f 7 = .func (.func 85) #[] #[] := hP.get 4 7 0 (by decide) d1
   refine wpOp_step rfl (fun K hK => ?_)
   go_simp
   go_at_call 85
   refine (pr85 ⟨#[116, 114, 117, 101]⟩ w).mono ?_
   rintro e w1 ⟨⟨g, x, y, rfl⟩, hb⟩
   exact hK _ _ ⟨_, by rw [← hs]; rfl, hP.val hb 5 8 3 (by decide) ⟨g, x, y, rfl⟩⟩
  ·have d0 := hall ⟨0, .data⟩ (by simp) rfl
   have d1 := hall ⟨5, .data⟩ (by simp) rfl
   obtain ⟨g, x, y, hs⟩ : ∃ g x y, f 8 = .func g x y := hP.get 5 8 3 (by decide) d1
   obtain ⟨mb, h4, hmb, l, hM, hl4⟩ := hP.map d0
   refine ins_op rfl rfl rfl rfl Tryz.underlying110 Tryz.underlying3 mb l (show (mk23 f).eval (.tmp 4) = _ from h4) hM 2 (.func g x y) (show (mk23 f).eval _ = _ from hs) ?_
   intro w1 hM1 hg1
   exact ⟨_, rfl, hP.ins 6 (by decide) (by decide) d0 h4 hmb hM hl4 2 (by decide) hM1 hg1⟩
  ·refine wpOp_step rfl (fun K hK => ?_)
   go_simp
   exact hK _ _ ⟨_, rfl, hP.val (Below.refl _ _) 7 9 0 (by decide) hP.f3⟩
  ·have d1 := hall ⟨7, .data⟩ (by simp) rfl
   have hs : f 9 = .func (.func 85) #[] #[] := hP.get 7 9 0 (by decide) d1
   refine wpOp_step rfl (fun K hK => ?_)
   go_simp
   go_at_call 85
   refine (pr85 ⟨#[102, 97, 108, 115, 101]⟩ w).mono ?_
   rintro e w1 ⟨⟨g, x, y, rfl⟩, hb⟩
   exact hK _ _ ⟨_, by rw [← hs]; rfl, hP.val hb 8 10 3 (by decide) ⟨g, x, y, rfl⟩⟩
  ·have d0 := hall ⟨0, .data⟩ (by simp) rfl
   have d1 := hall ⟨8, .data⟩ (by simp) rfl
   obtain ⟨g, x, y, hs⟩ : ∃ g x y, f 10 = .func g x y := hP.get 8 10 3 (by decide) d1
   obtain ⟨mb, h4, hmb, l, hM, hl4⟩ := hP.map d0
   refine ins_op rfl rfl rfl rfl Tryz.underlying110 Tryz.underlying3 mb l (show (mk23 f).eval (.tmp 4) = _ from h4) hM 3 (.func g x y) (show (mk23 f).eval _ = _ from hs) ?_
   intro w1 hM1 hg1
   exact ⟨_, rfl, hP.ins 9 (by decide) (by decide) d0 h4 hmb hM hl4 3 (by decide) hM1 hg1⟩
  ·have d0 := hall ⟨0, .data⟩ (by simp) rfl
   obtain ⟨mb, h4, hmb, l, hM, hl4⟩ := hP.map d0
   refine ins_op rfl rfl rfl rfl Tryz.underlying110 Tryz.underlying3 mb l (show (mk23 f).eval (.tmp 4) = _ from h4) hM 4 (.func (.func 87) #[] #[]) (show (mk23 f).eval _ = _ from rfl) ?_
   intro w1 hM1 hg1
   exact ⟨_, rfl, hP.ins4 d0 h4 hmb hM1 hg1⟩
  ·have d0 := hall ⟨0, .data⟩ (by simp) rfl
   obtain ⟨mb, h4, hmb, l, hM, hl4⟩ := hP.map d0
   refine ins_op rfl rfl rfl rfl Tryz.underlying110 Tryz.underlying3 mb l (show (mk23 f).eval (.tmp 4) = _ from h4) hM 5 (.func (.func 89) #[] #[]) (show (mk23 f).eval _ = _ from rfl) ?_
   intro w1 hM1 hg1
   exact ⟨_, rfl, hP.ins 11 (by decide) (by decide) d0 h4 hmb hM hl4 5 (by decide) hM1 hg1⟩
  ·have d0 := hall ⟨0, .data⟩ (by simp) rfl
   obtain ⟨mb, h4, hmb, l, hM, hl4⟩ := hP.map d0
   refine ins_op rfl rfl rfl rfl Tryz.underlying110 Tryz.underlying3 mb l (show (mk23 f).eval (.tmp 4) = _ from h4) hM 6 (.func (.func 91) #[] #[]) (show (mk23 f).eval _ = _ from rfl) ?_
   intro w1 hM1 hg1
   exact ⟨_, rfl, hP.ins 12 (by decide) (by decide) d0 h4 hmb hM hl4 6 (by decide) hM1 hg1⟩
  ·have d0 := hall ⟨0, .data⟩ (by simp) rfl
   obtain ⟨mb, h4, hmb, l, hM, hl4⟩ := hP.map d0
   refine ins_op rfl rfl rfl rfl Tryz.underlying110 Tryz.underlying3 mb l (show (mk23 f).eval (.tmp 4) = _ from h4) hM 7 (.func (.func 92) #[] #[]) (show (mk23 f).eval _ = _ from rfl) ?_
   intro w1 hM1 hg1
   exact ⟨_, rfl, hP.ins 13 (by decide) (by decide) d0 h4 hmb hM hl4 7 (by decide) hM1 hg1⟩
  ·have d0 := hall ⟨0, .data⟩ (by simp) rfl
   obtain ⟨mb, h4, hmb, l, hM, hl4⟩ := hP.map d0
   refine ins_op rfl rfl rfl rfl Tryz.underlying110 Tryz.underlying3 mb l (show (mk23 f).eval (.tmp 4) = _ from h4) hM 8 (.func (.func 93) #[] #[]) (show (mk23 f).eval _ = _ from rfl) ?_
   intro w1 hM1 hg1
   exact ⟨_, rfl, hP.ins 14 (by decide) (by decide) d0 h4 hmb hM hl4 8 (by decide) hM1 hg1⟩
  ·have d0 := hall ⟨0, .data⟩ (by simp) rfl
   obtain ⟨mb, h4, hmb, l, hM, hl4⟩ := hP.map d0
   refine ins_op rfl rfl rfl rfl Tryz.underlying110 Tryz.underlying3 mb l (show (mk23 f).eval (.tmp 4) = _ from h4) hM 9 (.func (.func 95) #[] #[]) (show (mk23 f).eval _ = _ from rfl) ?_
   intro w1 hM1 hg1
   exact ⟨_, rfl, hP.ins 15 (by decide) (by decide) d0 h4 hmb hM hl4 9 (by decide) hM1 hg1⟩
  ·have d0 := hall ⟨0, .data⟩ (by simp) rfl
   obtain ⟨mb, h4, hmb, l, hM, hl4⟩ := hP.map d0
   refine ins_op rfl rfl rfl rfl Tryz.underlying110 Tryz.underlying3 mb l (show (mk23 f).eval (.tmp 4) = _ from h4) hM 10 (.func (.func 97) #[] #[]) (show (mk23 f).eval _ = _ from rfl) ?_
   intro w1 hM1 hg1
   exact ⟨_, rfl, hP.ins 16 (by decide) (by decide) d0 h4 hmb hM hl4 10 (by decide) hM1 hg1⟩
  ·refine wpOp_step rfl (fun K hK => ?_)
   go_simp
   exact hK _ _ ⟨_, rfl, hP.val (Below.refl _ _) 17 11 1 (by decide) hP.f2⟩
  ·have d1 := hall ⟨17, .data⟩ (by simp) rfl
   have hs : f 11 = .func (.func 83) #[] #[] := hP.get 17 11 1 (by decide) d1
   refine wpOp_step rfl (fun K hK => ?_)
   go_simp
   go_at_call 83
   refine (pr83 ⟨#[110, 111, 116]⟩ w).mono ?_
   rintro e w1 ⟨⟨g, x, y, rfl⟩, hb⟩
   exact hK _ _ ⟨_, by rw [← hs]; rfl, hP.val hb 18 12 3 (by decide) ⟨g, x, y, rfl⟩⟩
  ·have d0 := hall ⟨0, .data⟩ (by simp) rfl
   have d1 := hall ⟨18, .data⟩ (by simp) rfl
   obtain ⟨g, x, y, hs⟩ : ∃ g x y, f 12 = .func g x y := hP.get 18 12 3 (by decide) d1
   obtain ⟨mb, h4, hmb, l, hM, hl4⟩ := hP.map d0
   refine ins_op rfl rfl rfl rfl Tryz.underlying110 Tryz.underlying3 mb l (show (mk23 f).eval (.tmp 4) = _ from h4) hM 11 (.func g x y) (show (mk23 f).eval _ = _ from hs) ?_
   intro w1 hM1 hg1
   exact ⟨_, rfl, hP.ins 19 (by decide) (by decide) d0 h4 hmb hM hl4 11 (by decide) hM1 hg1⟩
  ·refine wpOp_step rfl (fun K hK => ?_)
   go_simp
   exact hK _ _ ⟨_, rfl, hP.val (Below.refl _ _) 20 13 1 (by decide) hP.f2⟩
  ·have d1 := hall ⟨20, .data⟩ (by simp) rfl
   have hs : f 13 = .func (.func 83) #[] #[] := hP.get 20 13 1 (by decide) d1
   refine wpOp_step rfl (fun K hK => ?_)
   go_simp
   go_at_call 83
   refine (pr83 ⟨#[45]⟩ w).mono ?_
   rintro e w1 ⟨⟨g, x, y, rfl⟩, hb⟩
   exact hK _ _ ⟨_, by rw [← hs]; rfl, hP.val hb 21 14 3 (by decide) ⟨g, x, y, rfl⟩⟩
  ·have d0 := hall ⟨0, .data⟩ (by simp) rfl
   have d1 := hall ⟨21, .data⟩ (by simp) rfl
   obtain ⟨g, x, y, hs⟩ : ∃ g x y, f 14 = .func g x y := hP.get 21 14 3 (by decide) d1
   obtain ⟨mb, h4, hmb, l, hM, hl4⟩ := hP.map d0
   refine ins_op rfl rfl rfl rfl Tryz.underlying110 Tryz.underlying3 mb l (show (mk23 f).eval (.tmp 4) = _ from h4) hM 12 (.func g x y) (show (mk23 f).eval _ = _ from hs) ?_
   intro w1 hM1 hg1
   exact ⟨_, rfl, hP.ins 22 (by decide) (by decide) d0 h4 hmb hM hl4 12 (by decide) hM1 hg1⟩
  ·refine wpOp_step rfl (fun K hK => ?_)
   go_simp
   exact hK _ _ ⟨_, rfl, hP.val (Below.refl _ _) 23 15 1 (by decide) hP.f2⟩
  ·have d1 := hall ⟨23, .data⟩ (by simp) rfl
   have hs : f 15 = .func (.func 83) #[] #[] := hP.get 23 15 1 (by decide) d1
   refine wpOp_step rfl (fun K hK => ?_)
   go_simp
   go_at_call 83
   refine (pr83 ⟨#[35]⟩ w).mono ?_
   rintro e w1 ⟨⟨g, x, y, rfl⟩, hb⟩
   exact hK _ _ ⟨_, by rw [← hs]; rfl, hP.val hb 24 16 3 (by decide) ⟨g, x, y, rfl⟩⟩
  ·have d0 := hall ⟨0, .data⟩ (by simp) rfl
   have d1 := hall ⟨24, .data⟩ (by simp) rfl
   obtain ⟨g, x, y, hs⟩ : ∃ g x y, f 16 = .func g x y := hP.get 24 16 3 (by decide) d1
   obtain ⟨mb, h4, hmb, l, hM, hl4⟩ := hP.map d0
   refine ins_op rfl rfl rfl rfl Tryz.underlying110 Tryz.underlying3 mb l (show (mk23 f).eval (.tmp 4) = _ from h4) hM 13 (.func g x y) (show (mk23 f).eval _ = _ from hs) ?_
   intro w1 hM1 hg1
   exact ⟨_, rfl, hP.ins 25 (by decide) (by decide) d0 h4 hmb hM hl4 13 (by decide) hM1 hg1⟩
  ·refine wpOp_step rfl (fun K hK => ?_)
   go_simp
   exact hK _ _ ⟨_, rfl, hP.val (Below.refl _ _) 26 17 3 (by decide) ⟨_, _, _, rfl⟩⟩
  ·have d0 := hall ⟨0, .data⟩ (by simp) rfl
   have d1 := hall ⟨26, .data⟩ (by simp) rfl
   obtain ⟨g, x, y, hs⟩ : ∃ g x y, f 17 = .func g x y := hP.get 26 17 3 (by decide) d1
   obtain ⟨mb, h4, hmb, l, hM, hl4⟩ := hP.map d0
   refine ins_op rfl rfl rfl rfl Tryz.underlying110 Tryz.underlying3 mb l (show (mk23 f).eval (.tmp 4) = _ from h4) hM 14 (.func g x y) (show (mk23 f).eval _ = _ from hs) ?_
   intro w1 hM1 hg1
   exact ⟨_, rfl, hP.ins 27 (by decide) (by decide) d0 h4 hmb hM hl4 14 (by decide) hM1 hg1⟩
  ·have hc1 := hP.cell
   have hf1 := hP.f1
   refine wpOp_step rfl (fun K hK => ?_)
   go_simp
   exact hK _ _ ⟨_, by rw [← hf1]; rfl, hP.val (Below.refl _ _) 28 18 2 (by decide) rfl⟩
  ·have d1 := hall ⟨28, .data⟩ (by simp) rfl
   have hs : f 18 = .func (.func 81) #[] #[] := hP.get 28 18 2 (by decide) d1
   refine wpOp_step rfl (fun K hK => ?_)
   go_simp
   go_at_call 81
   refine (pr81 ⟨#[97, 110, 100]⟩ w).mono ?_
   rintro e w1 ⟨⟨g, x, y, rfl⟩, hb⟩
   exact hK _ _ ⟨_, by rw [← hs]; rfl, hP.val hb 29 19 3 (by decide) ⟨g, x, y, rfl⟩⟩
  ·have d0 := hall ⟨0, .data⟩ (by simp) rfl
   have d1 := hall ⟨29, .data⟩ (by simp) rfl
   obtain ⟨g, x, y, hs⟩ : ∃ g x y, f 19 = .func g x y := hP.get 29 19 3 (by decide) d1
   obtain ⟨mb, h4, hmb, l, hM, hl4⟩ := hP.map d0
   refine ins_op rfl rfl rfl rfl Tryz.underlying110 Tryz.underlying3 mb l (show (mk23 f).eval (.tmp 4) = _ from h4) hM 15 (.func g x y) (show (mk23 f).eval _ = _ from hs) ?_
   intro w1 hM1 hg1
   exact ⟨_, rfl, hP.ins 30 (by decide) (by decide) d0 h4 hmb hM hl4 15 (by decide) hM1 hg1⟩
  ·have hc1 := hP.cell
   have hf1 := hP.f1
   refine wpOp_step rfl (fun K hK => ?_)
   go_simp
   exact hK _ _ ⟨_, by rw [← hf1]; rfl, hP.val (Below.refl _ _) 31 20 2 (by decide) rfl⟩
  ·have d1 := hall ⟨31, .data⟩ (by simp) rfl
   have hs : f 20 = .func (.func 81) #[] #[] := hP.get 31 20 2 (by decide) d1
   refine wpOp_step rfl (fun K hK => ?_)
   go_simp
   go_at_call 81
   refine (pr81 ⟨#[111, 114]⟩ w).mono ?_
   rintro e w1 ⟨⟨g, x, y, rfl⟩, hb⟩
   exact hK _ _ ⟨_, by rw [← hs]; rfl, hP.val hb 32 21 3 (by decide) ⟨g, x, y, rfl⟩⟩
  ·have d0 := hall ⟨0, .data⟩ (by simp) rfl
   have d1 := hall ⟨32, .data⟩ (by simp) rfl
   obtain ⟨g, x, y, hs⟩ : ∃ g x y, f 21 = .func g x y := hP.get 32 21 3 (by decide) d1
   obtain ⟨mb, h4, hmb, l, hM, hl4⟩ := hP.map d0
   refine ins_op rfl rfl rfl rfl Tryz.underlying110 Tryz.underlying3 mb l (show (mk23 f).eval (.tmp 4) = _ from h4) hM 16 (.func g x y) (show (mk23 f).eval _ = _ from hs) ?_
   intro w1 hM1 hg1
   exact ⟨_, rfl, hP.ins 33 (by decide) (by decide) d0 h4 hmb hM hl4 16 (by decide) hM1 hg1⟩
  ·have d0 := hall ⟨0, .data⟩ (by simp) rfl
   refine wpOp_step rfl (fun K hK => ?_)
   go_simp
   exact hK _ _ ⟨_, rfl, hP.mv34 d0⟩
  ·have d1 := hall ⟨34, .data⟩ (by simp) rfl
   refine wpOp_step rfl (fun K hK => ?_)
   go_simp
   exact hK _ _ ⟨_, rfl, hP.mv35 d1⟩
 ·rintro listed a X hsz hall ⟨f, rfl, hP⟩
  have gt : ∀ i, i < 36 → listed.getD i false = true := fun i hi => by
   have h := hall i hi
   rw [Array.getD_eq_getD_getElem?] at h ⊢
   cases h9 : listed[i]? with
   | none =>
    have h8 : i < listed.size := by rw [hsz]; exact hi
    rw [Array.getElem?_eq_getElem h8] at h9
    cases h9
   | some x => rw [h9] at h; exact h
  obtain ⟨mb, h4, _, l, hM, hl⟩ := hP.map (gt 0 (by decide))
  have h0 : f 0 = .map (some mb) := by rw [(hP.m35 (gt 35 (by decide))).2, (hP.m34 (gt 34 (by decide))).2]; exact h4
  have HR := hid (show ∃ b l, Ending.returned (f 0) = .returned (.map (some b)) ∧ MapI.MB X b l ∧ MapI.find 4 l = some (.func (.func 87) #[] #[]) ∧ Below w.heap.size w X from ⟨mb, l, by rw [h0], hM, hl (gt 10 (by decide)), A.out.trans (hP.bel.mono (Below.size A.out))⟩)
  clear hP hM hl h4 hall gt
  go_wp2
  exact bodyPost_ret (v := f 0) (by simp [results, Tryz.results76, go_sem]) rfl HR.out
 ·simp
 ·simp
 ·refine ⟨fun k => if k = 1 then .pointer (some ⟨w.heap.size, 0, none⟩) else if k = 2 then .func (.func 83) #[] #[] else if k = 3 then .func (.func 85) #[] #[] else if k = 0 then .map none else undef, rfl, ?_⟩
  have no : ∀ i, ¬ (Array.replicate 36 false).getD i false = true := fun i e => by
   rw [Array.getD_eq_getD_getElem?, Array.getElem?_replicate] at e
   split at e <;> cases e
  exact ⟨rfl, rfl, rfl, r.out, (Below.refl _ _).drew, fun h => absurd h (no _), fun p _ h => absurd h (no _), fun h => absurd h (no _), fun h => absurd h (no _), fun h => absurd h (no _)⟩
end Go.Proofs.YtgkejkgailnbmaaGreatDoor
