/- Texts joined: P1, P2 -/
import Derived.Test.YtgkejkgailnbmaaGreatDoorQt2
import Derived.Deep.RegionWith
import Derived.BigRegion
import Derived.Deep.RegionHeldLaw
set_option linter.unusedVariables false
set_option linter.unusedSimpArgs false
namespace Go.Proofs.YtgkejkgailnbmaaGreatDoor
open Lib (hid)
open Go.ChangeShapes Go.WideShapes Go.ChangeAt Go.RowKit TP
structure Env where
 p : Nat
 g : Nat
 cap : Nat
 ts : List Tk
 pl : Nat → Int
structure Env.Ok (E : Env) : Prop where
 ends : TP.Ends E.ts
 len : E.ts.length ≤ 20000
 ne : E.g ≠ E.p
def PS (E : Env) (w : World) (s : St) : Prop :=
 (∃ ea, w.heap[E.p]? = some (.cells #[.slice (some ⟨E.g, 0, none⟩) E.ts.length E.cap, .int .i64 s.i, .int .i64 s.c, .int .i64 ea] 45)) ∧ E.g < w.heap.size ∧
 ∀ j t, E.ts[j]? = some t → w.cell? ⟨E.g, j * 4, none⟩ = some (.int .i64 t.kind) ∧ w.cell? ⟨E.g, j * 4 + 1, none⟩ = some (.string t.text) ∧ w.cell? ⟨E.g, j * 4 + 2, none⟩ = some (.int .i64 t.n) ∧ w.cell? ⟨E.g, j * 4 + 3, none⟩ = some (.int .i64 (E.pl j))
abbrev KpP (E : Env) (w w' : World) : Prop := Kp w.heap.size (fun i => i ≠ E.p) w w'
theorem PS.lt {E : Env} {w : World} {s : St} (h : PS E w s) : E.p < w.heap.size := by
 obtain ⟨⟨_, h⟩, _⟩ := h
 exact lt_blk h
theorem PS.kept {E : Env} {w w' : World} {s : St} (h : PS E w s) (hp : w'.heap[E.p]? = w.heap[E.p]?) (hg : w'.heap[E.g]? = w.heap[E.g]?) (hs : w.heap.size ≤ w'.heap.size) : PS E w' s := by
 obtain ⟨⟨ea, h1⟩, h2, h3⟩ := h
 refine ⟨⟨ea, hp.trans h1⟩, Nat.lt_of_lt_of_le h2 hs, fun j t hj => ?_⟩
 obtain ⟨a, b, c, d⟩ := h3 j t hj
 exact ⟨(World.cell?_of_block (a := ⟨E.g, j * 4, none⟩) hg).trans a, (World.cell?_of_block (a := ⟨E.g, j * 4 + 1, none⟩) hg).trans b, (World.cell?_of_block (a := ⟨E.g, j * 4 + 2, none⟩) hg).trans c, (World.cell?_of_block (a := ⟨E.g, j * 4 + 3, none⟩) hg).trans d⟩
theorem PS.drew {E : Env} {w : World} {s : St} (h : PS E w s) : PS E w.drew s := h.kept rfl rfl (Nat.le_refl _)
theorem PS.drewN {E : Env} {w : World} {s : St} (h : PS E w s) (n : Nat) : PS E (w.drewN n) s := h.kept rfl rfl (Nat.le_refl _)
theorem PS.below {E : Env} {w w' : World} {s : St} (h : PS E w s) (hb : Below w.heap.size w w') : PS E w' s :=
 h.kept (hb.block _ h.lt) (hb.block _ h.2.1) (Below.size hb)
theorem PS.tok {E : Env} {w : World} {s : St} (h : PS E w s) (hi : s.i < E.ts.length) : w.cell? ⟨E.g, s.i * 4, none⟩ = some (.int .i64 (tk E.ts s).kind) ∧ w.cell? ⟨E.g, s.i * 4 + 1, none⟩ = some (.string (tk E.ts s).text) ∧ w.cell? ⟨E.g, s.i * 4 + 2, none⟩ = some (.int .i64 (tk E.ts s).n) ∧ w.cell? ⟨E.g, s.i * 4 + 3, none⟩ = some (.int .i64 (E.pl s.i)) :=
 h.2.2 s.i _ (by unfold tk; rw [List.getD_eq_getElem?_getD, List.getElem?_eq_getElem hi]; rfl)
theorem PS.cells {E : Env} {w : World} {s : St} (h : PS E w s) : ∃ ea, w.cell? ⟨E.p, 0, none⟩ = some (.slice (some ⟨E.g, 0, none⟩) E.ts.length E.cap) ∧ w.cell? ⟨E.p, 1, none⟩ = some (.int .i64 s.i) ∧ w.cell? ⟨E.p, 2, none⟩ = some (.int .i64 s.c) ∧ w.cell? ⟨E.p, 3, none⟩ = some (.int .i64 ea) ∧ w.frozen? ⟨E.p, 1, none⟩ = false ∧ w.frozen? ⟨E.p, 2, none⟩ = false ∧ w.frozen? ⟨E.p, 3, none⟩ = false ∧ w.frozen? ⟨E.p, 0, none⟩ = false := by
 obtain ⟨⟨ea, h1⟩, _⟩ := h
 obtain ⟨⟨c0, c1, c2, c3⟩, ⟨f0, f1, f2, f3⟩⟩ := cells4 h1
 exact ⟨ea, c0, c1, c2, c3, f1, f2, f3, f0⟩
theorem PS.setI {E : Env} (hE : E.Ok) {w : World} {s : St} (h : PS E w s) (i : Nat) : PS E (w.setCell ⟨E.p, 1, none⟩ (.int .i64 i)) ⟨i, s.c⟩ := by
 obtain ⟨⟨ea, h1⟩, h2, h3⟩ := h
 refine ⟨⟨ea, by simp [World.setCell, Array.getElem?_modify, h1]⟩, by rw [World.size_setCell]; exact h2, fun j t hj => ?_⟩
 have hg : (w.setCell ⟨E.p, 1, none⟩ (.int .i64 i)).heap[E.g]? = w.heap[E.g]? := Below.heap_setCell _ ⟨E.p, 1, none⟩ _ _ hE.ne
 obtain ⟨a, b, c, d⟩ := h3 j t hj
 exact ⟨(World.cell?_of_block (a := ⟨E.g, j * 4, none⟩) hg).trans a, (World.cell?_of_block (a := ⟨E.g, j * 4 + 1, none⟩) hg).trans b, (World.cell?_of_block (a := ⟨E.g, j * 4 + 2, none⟩) hg).trans c, (World.cell?_of_block (a := ⟨E.g, j * 4 + 3, none⟩) hg).trans d⟩
theorem PS.setC {E : Env} (hE : E.Ok) {w : World} {s : St} (h : PS E w s) (c ea : Int) : PS E ((w.setCell ⟨E.p, 2, none⟩ (.int .i64 c)).setCell ⟨E.p, 3, none⟩ (.int .i64 ea)) ⟨s.i, c⟩ := by
 obtain ⟨⟨ea', h1⟩, h2, h3⟩ := h
 refine ⟨⟨ea, by simp [World.setCell, Array.getElem?_modify, h1]⟩, by rw [World.size_setCell, World.size_setCell]; exact h2, fun j t hj => ?_⟩
 have hg : ((w.setCell ⟨E.p, 2, none⟩ (.int .i64 c)).setCell ⟨E.p, 3, none⟩ (.int .i64 ea)).heap[E.g]? = w.heap[E.g]? := (Below.heap_setCell _ ⟨E.p, 3, none⟩ _ _ hE.ne).trans (Below.heap_setCell _ ⟨E.p, 2, none⟩ _ _ hE.ne)
 obtain ⟨a, b, c, d⟩ := h3 j t hj
 exact ⟨(World.cell?_of_block (a := ⟨E.g, j * 4, none⟩) hg).trans a, (World.cell?_of_block (a := ⟨E.g, j * 4 + 1, none⟩) hg).trans b, (World.cell?_of_block (a := ⟨E.g, j * 4 + 2, none⟩) hg).trans c, (World.cell?_of_block (a := ⟨E.g, j * 4 + 3, none⟩) hg).trans d⟩
theorem KpP.set {E : Env} {w w' : World} (h : KpP E w w') (k : Nat) (v : Value) : KpP E w (w'.setCell ⟨E.p, k, none⟩ v) := Kp.setCell h (by simp) v
set_option maxRecDepth 100000 in
set_option maxHeartbeats 4000000 in
theorem fail_is (E : Env) (hE : E.Ok) (s : St) (hi : s.i < E.ts.length) (code : Int) (w : World) (h : PS E w s) : Calls Tryz.prog 18 #[.pointer (some ⟨E.p, 0, none⟩), .int .i64 code] w fun e w' => e = .returned (.tuple #[]) ∧ PS E w' (TP.fail code s) ∧ KpP E w w' := by
 obtain ⟨ea, c0, c1, c2, c3, f1, f2, f3, _⟩ := h.cells
 obtain ⟨t0, t1, t2, t3⟩ := h.tok hi
 have HP := hid h
 have hlt := h.lt
 have i1 : (s.i : Int) < (E.ts.length : Int) := by omega
 have ne1 := hE.ne
 have ne2 := Ne.symm hE.ne
 by_cases h0 : s.c = 0
 ·have e1 : TP.fail code s = ⟨s.i, code⟩ := if_pos h0
  rw [e1]
  rw [h0] at c2
  clear h e1
  go_enter Tryz.func18, Tryz.ntmps18
  go_wp2
  go_region
  go_end0
  exact ⟨rfl, (HP.out.setC hE code _).drew, (KpP.set (KpP.set (Kp.refl _ _ _) 2 _) 3 _).drew⟩
 ·have e1 : TP.fail code s = s := if_neg h0
  rw [e1]
  clear h e1
  go_enter Tryz.func18, Tryz.ntmps18
  go_wp2
  go_end0
  exact ⟨rfl, HP.out, Kp.refl _ _ _⟩
theorem ba_ne {a b : ByteArray} (h : ¬ a = b) : ¬ a.toList = b.toList := by
 obtain ⟨a⟩ := a
 obtain ⟨b⟩ := b
 rw [ByteArray.toList_mk, ByteArray.toList_mk]
 intro e
 exact h (by rw [Array.toList_inj.1 e])
theorem txt_ne {a b : ByteArray} (h : ¬ a = b) : ¬ a.toList = b.toList ∧ decide (a.toList = b.toList) = false ∧ (a.toList == b.toList) = false := ⟨ba_ne h, decide_eq_false (ba_ne h), beq_eq_false_iff_ne.2 (ba_ne h)⟩
set_option maxRecDepth 100000 in
set_option maxHeartbeats 4000000 in
theorem is_is (E : Env) (hE : E.Ok) (s : St) (hi : s.i < E.ts.length) (x : ByteArray) (w : World) (h : PS E w s) : Calls Tryz.prog 49 #[.pointer (some ⟨E.p, 0, none⟩), .string x] w fun e w' => e = .returned (.bool (isT E.ts x s)) ∧ Below w.heap.size w w' := by
 obtain ⟨ea, c0, c1, c2, c3, f1, f2, f3, _⟩ := h.cells
 obtain ⟨t0, t1, t2, t3⟩ := h.tok hi
 have HP := hid h
 have i1 : (s.i : Int) < (E.ts.length : Int) := by omega
 have ne1 := hE.ne
 have hlp := h.lt
 have hlg := h.2.1
 clear h
 unfold isT
 generalize tk E.ts s = t at t0 t1 t2 t3 ⊢
 obtain ⟨kd, tx, nn⟩ := t
 simp only at t0 t1 t2 ⊢
 have AT := hid (alloc_old (w := w) (o := .cells #[.int .i64 kd, .string tx, .int .i64 nn, .int .i64 (E.pl s.i)] 48))
 have aT := hid (heap_alloc_new w (.cells #[.int .i64 kd, .string tx, .int .i64 nn, .int .i64 (E.pl s.i)] 48))
 go_enter Tryz.func49, Tryz.ntmps49
 go_wp2
 go_region
 have PX := hid ((HP.out.below AT.out).drew)
 have BX := hid (show Below w.heap.size w (w.alloc (.cells #[.int .i64 kd, .string tx, .int .i64 nn, .int .i64 (E.pl s.i)] 48)).drew from AT.out.drew)
 have tX : (w.alloc (.cells #[.int .i64 kd, .string tx, .int .i64 nn, .int .i64 (E.pl s.i)] 48)).drew.heap[w.heap.size]? = some (.cells #[.int .i64 kd, .string tx, .int .i64 nn, .int .i64 (E.pl s.i)] 48) := aT.out
 clear c0 c1 c2 c3 f1 f2 f3 t0 t1 t2 t3 AT aT HP
 generalize (w.alloc (.cells #[.int .i64 kd, .string tx, .int .i64 nn, .int .i64 (E.pl s.i)] 48)).drew = X at PX BX tX ⊢
 obtain ⟨_, _, _, c2, _⟩ := PX.out.cells
 obtain ⟨⟨a0, a1, a2, a3⟩, _⟩ := cells4 tX
 clear tX
 by_cases h0 : s.c = 0
 ·rw [h0] at c2
  by_cases k1 : kd = 1
  ·subst k1
   by_cases hx : tx = x
   ·subst hx
    go_wp2
    go_ret
    exact ⟨by simp [h0], BX.out⟩
   ·obtain ⟨hx1, hx2, hx3⟩ := txt_ne hx
    go_wp2
    go_ret
    exact ⟨by simp [h0, hx, hx1], BX.out⟩
  ·by_cases k5 : kd = 5
   ·subst k5
    by_cases hx : tx = x
    ·subst hx
     go_wp2
     go_ret
     exact ⟨by simp [h0], BX.out⟩
    ·obtain ⟨hx1, hx2, hx3⟩ := txt_ne hx
     go_wp2
     go_ret
     exact ⟨by simp [h0, hx, hx1], BX.out⟩
   ·go_wp2
    go_ret
    exact ⟨by simp [h0, k1, k5], BX.out⟩
 ·go_wp2
  go_ret
  exact ⟨by simp [h0], BX.out⟩
end Go.Proofs.YtgkejkgailnbmaaGreatDoor
namespace Go.Proofs.YtgkejkgailnbmaaGreatDoor
open Lib (hid)
open Go.ChangeShapes Go.WideShapes Go.ChangeAt Go.RowKit TP
theorem PS.adv1 {E : Env} (hE : E.Ok) {w : World} {s : St} (h : PS E w s) : PS E (w.setCell ⟨E.p, 1, none⟩ (.int .i64 ((s.i : Int) + 1))) (adv s) := by
 have := h.setI hE (s.i + 1)
 have e : ((s.i + 1 : Nat) : Int) = (s.i : Int) + 1 := by omega
 rw [e] at this
 exact this
theorem wrapI (i : Nat) (h : i ≤ 20000) : IntKind.i64.wrap ((i : Int) + 1) = (i : Int) + 1 ∧ wrap64 ((i : Int) + 1) = (i : Int) + 1 := by
 rw [IntKind.wrap_i64]
 unfold wrap64
 constructor <;> omega
set_option maxRecDepth 100000 in
set_option maxHeartbeats 4000000 in
theorem opt_is (E : Env) (hE : E.Ok) (s : St) (hi : s.i < E.ts.length) (x : ByteArray) (w : World) (h : PS E w s) : Calls Tryz.prog 48 #[.pointer (some ⟨E.p, 0, none⟩), .string x] w fun e w' => e = .returned (.bool (isT E.ts x s)) ∧ PS E w' (optS E.ts x s) ∧ KpP E w w' := by
 have IS := hid (is_is E hE s hi x w h)
 have HP := hid h
 have HE := hid hE
 have hb := hid (show s.i ≤ 20000 from by have := hE.len; omega)
 unfold optS
 clear h hE hi
 cases hx : isT E.ts x s with
 | true =>
  rw [hx] at IS
  go_enter Tryz.func48, Tryz.ntmps48
  go_wp2_with (first | (go_at_call 49; (with_reducible refine (IS.out).mono ?_); rintro e w1 ⟨rfl, h1⟩; have B1 := hid h1; have P1 := hid (HP.out.below h1); obtain ⟨_, c0, c1, c2, c3, f1, f2, f3, _⟩ := (HP.out.below h1).cells; obtain ⟨w1a, w1b⟩ := wrapI s.i hb.out; clear h1))
  go_ret
  exact ⟨by simp, P1.out.adv1 HE.out, Kp.setCell (Kp.of B1.out) (by simp) _⟩
 | false =>
  rw [hx] at IS
  go_enter Tryz.func48, Tryz.ntmps48
  go_wp2_with (first | (go_at_call 49; (with_reducible refine (IS.out).mono ?_); rintro e w1 ⟨rfl, h1⟩; have B1 := hid h1; have P1 := hid (HP.out.below h1); clear h1))
  go_ret
  exact ⟨by simp, P1.out, Kp.of B1.out⟩
set_option maxRecDepth 100000 in
set_option maxHeartbeats 4000000 in
theorem take_is (E : Env) (hE : E.Ok) (s : St) (hi : s.i < E.ts.length) (x : ByteArray) (w : World) (h : PS E w s) : Calls Tryz.prog 71 #[.pointer (some ⟨E.p, 0, none⟩), .string x] w fun e w' => e = .returned (.tuple #[]) ∧ PS E w' (TP.take E.ts x s) ∧ KpP E w w' := by
 have OP := hid (opt_is E hE s hi x w h)
 have FA := hid (fun X (hX : PS E X s) => fail_is E hE s hi 14 X hX)
 unfold TP.take
 unfold optS at OP
 clear h hE hi
 cases hx : isT E.ts x s with
 | true =>
  simp only [hx, if_true] at OP
  go_enter Tryz.func71, Tryz.ntmps71
  go_wp2_with (first | (go_at_call 48; (with_reducible refine (OP.out).mono ?_); rintro e w1 ⟨rfl, h1, h2⟩))
  go_end0
  exact ⟨rfl, h1, h2⟩
 | false =>
  simp only [hx, Bool.false_eq_true, if_false] at OP
  go_enter Tryz.func71, Tryz.ntmps71
  go_wp2_with (first | (go_at_call 48; (with_reducible refine (OP.out).mono ?_); rintro e w1 ⟨rfl, h1, h2⟩; have F1 := hid (FA.out w1 h1); have K1 := hid h2; clear h1 h2) | (go_at_call 18; (with_reducible refine (F1.out).mono ?_); rintro e w2 ⟨rfl, h3, h4⟩))
  go_end0
  exact ⟨rfl, h3, K1.out.trans (h4.mono K1.out.size (fun _ hk => hk))⟩
set_option maxRecDepth 100000 in
set_option maxHeartbeats 4000000 in
theorem deep_is (E : Env) (hE : E.Ok) (s : St) (hi : s.i < E.ts.length) (d : Int) (w : World) (h : PS E w s) : Calls Tryz.prog 45 #[.pointer (some ⟨E.p, 0, none⟩), .int .i64 d] w fun e w' => e = .returned (.tuple #[]) ∧ PS E w' (if d > 100 then TP.fail 8 s else s) ∧ KpP E w w' := by
 have FA := hid (fail_is E hE s hi 8 w h)
 have HP := hid h
 clear h hE hi
 by_cases hd : (100 : Int) < d
 ·rw [if_pos hd]
  go_enter Tryz.func45, Tryz.ntmps45
  go_wp2_with (first | (go_at_call 18; (with_reducible refine (FA.out).mono ?_); rintro e w2 ⟨rfl, h3, h4⟩))
  go_end0
  exact ⟨rfl, h3, h4⟩
 ·rw [if_neg hd]
  go_enter Tryz.func45, Tryz.ntmps45
  go_wp2
  go_end0
  exact ⟨rfl, HP.out, Kp.refl _ _ _⟩
set_option maxRecDepth 100000 in
set_option maxHeartbeats 4000000 in
theorem full_is (E : Env) (hE : E.Ok) (s : St) (hi : s.i < E.ts.length) (n m : Nat) (w : World) (h : PS E w s) : Calls Tryz.prog 80 #[.pointer (some ⟨E.p, 0, none⟩), .int .i64 n, .int .i64 m] w fun e w' => e = .returned (.tuple #[]) ∧ PS E w' (TP.full n m s) ∧ KpP E w w' := by
 have FA := hid (fail_is E hE s hi 8 w h)
 have HP := hid h
 unfold TP.full
 clear h hE hi
 by_cases hd : n ≥ m
 ·rw [if_pos hd]
  have hd' : (m : Int) ≤ (n : Int) := by omega
  go_enter Tryz.func80, Tryz.ntmps80
  go_wp2_with (first | (go_at_call 18; (with_reducible refine (FA.out).mono ?_); rintro e w2 ⟨rfl, h3, h4⟩))
  go_end0
  exact ⟨rfl, h3, h4⟩
 ·rw [if_neg hd]
  have hd' : ¬ (m : Int) ≤ (n : Int) := by omega
  go_enter Tryz.func80, Tryz.ntmps80
  go_wp2
  go_end0
  exact ⟨rfl, HP.out, Kp.refl _ _ _⟩
set_option maxRecDepth 100000 in
set_option maxHeartbeats 4000000 in
theorem place_is (E : Env) (s : St) (hi : s.i < E.ts.length) (w : World) (h : PS E w s) : Calls Tryz.prog 47 #[.pointer (some ⟨E.p, 0, none⟩)] w fun e w' => e = .returned (.int .i64 (E.pl s.i)) ∧ PS E w' s ∧ Below w.heap.size w w' := by
 obtain ⟨ea, c0, c1, c2, c3, f1, f2, f3, _⟩ := h.cells
 obtain ⟨t0, t1, t2, t3⟩ := h.tok hi
 have HP := hid h
 have i1 : (s.i : Int) < (E.ts.length : Int) := by omega
 clear h
 go_enter Tryz.func47, Tryz.ntmps47
 go_wp2
 go_quiet (fail)
 go_wp2
 go_ret
 exact ⟨rfl, HP.out.drewN _, below_drewN (Below.refl _ _) _⟩
set_option maxRecDepth 100000 in
set_option maxHeartbeats 4000000 in
theorem name_is (E : Env) (hE : E.Ok) (s : St) (hi : s.i < E.ts.length) (w : World) (h : PS E w s) : Calls Tryz.prog 69 #[.pointer (some ⟨E.p, 0, none⟩)] w fun e w' => e = .returned (.string (TP.name E.ts s).1) ∧ PS E w' (TP.name E.ts s).2 ∧ KpP E w w' := by
 obtain ⟨ea, c0, c1, c2, c3, f1, f2, f3, _⟩ := h.cells
 obtain ⟨t0, t1, t2, t3⟩ := h.tok hi
 have HP := hid h
 have HE := hid hE
 have FA := hid (fun X (hX : PS E X s) => fail_is E hE s hi 14 X hX)
 have hb := hid (show s.i ≤ 20000 from by have := hE.len; omega)
 have i1 : (s.i : Int) < (E.ts.length : Int) := by omega
 have HI := hid hi
 by_cases h0 : s.c = 0
 ·rw [h0] at c2
  by_cases hk : (tk E.ts s).kind = 2
  ·have e0 : TP.nameS0 E.ts s = s := if_neg (fun e => e.2 hk)
   have e1 : TP.name E.ts s = ((tk E.ts s).text, adv s) := by unfold TP.name; rw [e0, if_pos h0]
   rw [e1]
   rw [hk] at t0
   clear h hE e0 e1
   go_enter Tryz.func69, Tryz.ntmps69
   go_wp2
   go_quiet (fail)
   have PX := hid (HP.out.drewN nq)
   have BX := hid (show Below w.heap.size w (w.drewN nq) from below_drewN (Below.refl _ _) nq)
   clear c0 c1 c2 c3 f1 f2 f3 t0 t1 t2 t3
   generalize w.drewN nq = X at PX BX ⊢
   obtain ⟨_, c0, c1, c2, c3, f1, f2, f3, _⟩ := PX.out.cells
   rw [h0] at c2
   obtain ⟨w1a, w1b⟩ := wrapI s.i hb.out
   go_wp2
   have PY := hid (PX.out.adv1 HE.out)
   have KY := hid (show KpP E w (X.setCell ⟨E.p, 1, none⟩ (.int .i64 ((s.i : Int) + 1))) from Kp.setCell (Kp.of BX.out) (by simp) _)
   have TX := (HP.out.tok HI.out).2.1
   have tY := hid (show (X.setCell ⟨E.p, 1, none⟩ (.int .i64 ((s.i : Int) + 1))).cell? ⟨E.g, s.i * 4 + 1, none⟩ = some (.string (tk E.ts s).text) from
    ((World.cell?_of_block (a := ⟨E.g, s.i * 4 + 1, none⟩) (Below.heap_setCell X ⟨E.p, 1, none⟩ _ _ HE.out.ne)).trans (PX.out.tok HI.out).2.1))
   generalize X.setCell ⟨E.p, 1, none⟩ (.int .i64 ((s.i : Int) + 1)) = Y at PY KY tY ⊢
   clear c0 c1 c2 c3 f1 f2 f3 TX
   obtain ⟨_, d0, d1, d2, d3, g1, g2, g3, _⟩ := PY.out.cells
   have d1' : Y.cell? ⟨E.p, 1, none⟩ = some (.int .i64 ((s.i : Int) + 1)) := d1
   have ty := tY.out
   have ws : IntKind.i64.wrap ((s.i : Int) + 1 - 1) = (s.i : Int) ∧ wrap64 ((s.i : Int) + 1 - 1) = (s.i : Int) := by
    have := hb.out
    rw [IntKind.wrap_i64]
    unfold wrap64
    constructor <;> omega
   obtain ⟨ws1, ws2⟩ := ws
   have wz : IntKind.i64.wrap (s.i : Int) = (s.i : Int) ∧ wrap64 (s.i : Int) = (s.i : Int) := by
    have := hb.out
    rw [IntKind.wrap_i64]
    unfold wrap64
    constructor <;> omega
   obtain ⟨wz1, wz2⟩ := wz
   clear d1
   go_quiet (fail)
   go_wp2
   go_ret
   exact ⟨rfl, PY.out.drewN _, KY.out.trans (.of ((below_drewN (Below.refl _ _) _).mono KY.out.size))⟩
  ·have e0 : TP.nameS0 E.ts s = TP.fail 14 s := if_pos ⟨h0, hk⟩
   have e2 : (TP.fail 14 s).c = 14 := by unfold TP.fail; rw [if_pos h0]
   have e1 : TP.name E.ts s = (⟨#[]⟩, TP.fail 14 s) := by unfold TP.name; rw [e0, if_neg (by rw [e2]; decide)]
   rw [e1]
   clear h hE e0 e1
   go_enter Tryz.func69, Tryz.ntmps69
   go_wp2
   go_quiet (fail)
   have PX := hid (HP.out.drewN nq)
   have FX := hid (FA.out _ PX.out)
   have BX := hid (show Below w.heap.size w (w.drewN nq) from below_drewN (Below.refl _ _) nq)
   clear c0 c1 c2 c3 f1 f2 f3 t0 t1 t2 t3
   generalize w.drewN nq = X at PX BX FX ⊢
   have E2 := hid e2
   clear e2
   go_wp2_with (first | (go_at_call 18; (with_reducible refine (FX.out).mono ?_); rintro e x1 ⟨rfl, h1, h2⟩; have P1 := hid h1; have K1 := hid h2; obtain ⟨_, c0, c1, c2, c3, f1, f2, f3, _⟩ := h1.cells; rw [E2.out] at c2; clear h1 h2))
   go_ret
   exact ⟨rfl, P1.out, (Kp.of BX.out).trans (K1.out.mono (Below.size BX.out) (fun _ hk => hk))⟩
 ·have e0 : TP.nameS0 E.ts s = s := if_neg (fun e => h0 e.1)
  have e1 : TP.name E.ts s = (⟨#[]⟩, s) := by unfold TP.name; rw [e0, if_neg h0]
  rw [e1]
  clear h hE e0 e1
  go_enter Tryz.func69, Tryz.ntmps69
  go_wp2
  go_quiet (fail)
  have PX := hid (HP.out.drewN nq)
  have BX := hid (show Below w.heap.size w (w.drewN nq) from below_drewN (Below.refl _ _) nq)
  clear c0 c1 c2 c3 f1 f2 f3 t0 t1 t2 t3
  generalize w.drewN nq = X at PX BX ⊢
  obtain ⟨_, c0, c1, c2, c3, f1, f2, f3, _⟩ := PX.out.cells
  go_wp2
  go_ret
  exact ⟨rfl, PX.out, Kp.of BX.out⟩
end Go.Proofs.YtgkejkgailnbmaaGreatDoor
