/- Texts joined: P5, P6 -/
import Derived.Test.YtgkejkgailnbmaaGreatDoorQt5
import Derived.Deep.RegionHeldLaw
set_option linter.unusedVariables false
set_option linter.unusedSimpArgs false
namespace Go.Proofs.YtgkejkgailnbmaaGreatDoor
open Lib (hid)
open Go.ChangeShapes Go.WideShapes Go.ChangeAt Go.RowKit TP
set_option maxRecDepth 100000 in
set_option maxHeartbeats 8000000 in
theorem level3_is (E : Env) (hE : E.Ok) (d : Int) (F : St → R) (hL : ExC E 78 #[.int .i64 d] F) : ExC E 68 #[.int .i64 3, .int .i64 d] (pass F) := by
 intro s w hi h
 have A1 := hid (alloc_old (w := w) (o := .cells #[.int .i64 0, .int .i64 0, .int .i64 0, .string ⟨#[]⟩, .int .i64 0, .slice none 0 0, .slice none 0 0] 38))
 have r1 := hid (heap_alloc_new w (.cells #[.int .i64 0, .int .i64 0, .int .i64 0, .string ⟨#[]⟩, .int .i64 0, .slice none 0 0, .slice none 0 0] 38))
 have hlp := hid (And.intro h.lt h.2.1)
 by_cases h0 : s.c = 0
 ·have e0 : pass F s = F s := if_neg (fun e => e h0)
  rw [e0]
  have h0' := h0
  have PA := hid (h.below A1.out)
  have LV := hid (hL s _ hi PA.out)
  obtain ⟨_, _, _, c2, _⟩ := PA.out.cells
  rw [h0'] at c2
  clear h hE hL e0 h0
  show Calls _ _ #[.pointer (some ⟨E.p, 0, none⟩), .int .i64 3, .int .i64 d] _ _
  go_enter Tryz.func68, Tryz.ntmps68
  go_wp2_with (first | (go_at_call 78; refine Hid.out ?_))
  refine hid ?_
  refine (LV.out).mono ?_
  rintro e w2 ⟨v, rfl, ⟨k, a, n, x, op, l, f, vl, vf, ht, rfl, h3, h4⟩, h5, h6⟩
  obtain ⟨Al, nl, cl, rfl⟩ := h3.form
  obtain ⟨Af, nf, cf, rfl⟩ := h4.form
  have hz : (w.alloc (.cells #[.int .i64 0, .int .i64 0, .int .i64 0, .string ⟨#[]⟩, .int .i64 0, .slice none 0 0, .slice none 0 0] 38)).heap.size = w.heap.size + 1 := World.size_alloc _ _
  have hl := hlp.out
  have KW := hid (show KpP E w w2 from (Kp.of A1.out).trans (h6.mono (by omega) (fun _ hk => hk)))
  have r2 := (h6.block w.heap.size (by omega) (by omega)).trans r1.out
  have XX := hid (show XR w2 (fun i => w.heap.size + 1 ≤ i) _ _ from XR.keep ⟨k, a, n, x, op, l, f, _, _, ht, rfl, h3, h4⟩ (fun _ _ _ => rfl) (Nat.le_refl _) (fun i (hi : (w.alloc (.cells #[.int .i64 0, .int .i64 0, .int .i64 0, .string ⟨#[]⟩, .int .i64 0, .slice none 0 0, .slice none 0 0] 38)).heap.size ≤ i) _ => by omega))
  have PX := hid h5
  obtain ⟨⟨c0, c1, c2, c3, c4, c5, c6⟩, ⟨f0, f1, f2, f3, f4, f5, f6⟩⟩ := cells7 r2
  clear h3 h4 h5 h6 r2 hz LV
  go_wp2
  have EN := X_end XX.out PX.out hl.1 hl.2 KW.out
  refine bodyPost_ret (v := .agg #[.int .i64 k, .int .i64 a, .int .i64 n, .string x, .int .i64 op, .slice Al nl cl, .slice Af nf cf]) (by simp [results, Tryz.results68, go_sem, c0, c1, c2, c3, c4, c5, c6]) rfl ?_
  exact ⟨_, rfl, EN⟩
 ·skip
  have e0 : pass F s = (T0, s) := if_pos h0
  rw [e0]
  have PA := hid (h.below A1.out)
  obtain ⟨_, _, _, c2, _⟩ := PA.out.cells
  obtain ⟨⟨a0, a1, a2, a3, a4, a5, a6⟩, ⟨f0, f1, f2, f3, f4, f5, f6⟩⟩ := cells7 r1.out
  clear h hE hL e0
  show Calls _ _ #[.pointer (some ⟨E.p, 0, none⟩), .int .i64 3, .int .i64 d] _ _
  go_enter Tryz.func68, Tryz.ntmps68
  go_wp2
  refine bodyPost_ret (v := .agg #[.int .i64 0, .int .i64 0, .int .i64 0, .string ⟨#[]⟩, .int .i64 0, .slice none 0 0, .slice none 0 0]) (by simp [results, Tryz.results68, go_sem, a0, a1, a2, a3, a4, a5, a6]) rfl ?_
  exact ⟨_, rfl, XR.zero E _ _, PA.out, Kp.of A1.out⟩
set_option maxRecDepth 100000 in
set_option maxHeartbeats 8000000 in
theorem level6_is (E : Env) (hE : E.Ok) (d : Int) (F : St → R) (hL : ExC E 79 #[.int .i64 d] F) : ExC E 68 #[.int .i64 6, .int .i64 d] (pass F) := by
 intro s w hi h
 have A1 := hid (alloc_old (w := w) (o := .cells #[.int .i64 0, .int .i64 0, .int .i64 0, .string ⟨#[]⟩, .int .i64 0, .slice none 0 0, .slice none 0 0] 38))
 have r1 := hid (heap_alloc_new w (.cells #[.int .i64 0, .int .i64 0, .int .i64 0, .string ⟨#[]⟩, .int .i64 0, .slice none 0 0, .slice none 0 0] 38))
 have hlp := hid (And.intro h.lt h.2.1)
 by_cases h0 : s.c = 0
 ·have e0 : pass F s = F s := if_neg (fun e => e h0)
  rw [e0]
  have h0' := h0
  have PA := hid (h.below A1.out)
  have LV := hid (hL s _ hi PA.out)
  obtain ⟨_, _, _, c2, _⟩ := PA.out.cells
  rw [h0'] at c2
  clear h hE hL e0 h0
  show Calls _ _ #[.pointer (some ⟨E.p, 0, none⟩), .int .i64 6, .int .i64 d] _ _
  go_enter Tryz.func68, Tryz.ntmps68
  go_wp2_with (first | (go_at_call 79; refine Hid.out ?_))
  refine hid ?_
  refine (LV.out).mono ?_
  rintro e w2 ⟨v, rfl, ⟨k, a, n, x, op, l, f, vl, vf, ht, rfl, h3, h4⟩, h5, h6⟩
  obtain ⟨Al, nl, cl, rfl⟩ := h3.form
  obtain ⟨Af, nf, cf, rfl⟩ := h4.form
  have hz : (w.alloc (.cells #[.int .i64 0, .int .i64 0, .int .i64 0, .string ⟨#[]⟩, .int .i64 0, .slice none 0 0, .slice none 0 0] 38)).heap.size = w.heap.size + 1 := World.size_alloc _ _
  have hl := hlp.out
  have KW := hid (show KpP E w w2 from (Kp.of A1.out).trans (h6.mono (by omega) (fun _ hk => hk)))
  have r2 := (h6.block w.heap.size (by omega) (by omega)).trans r1.out
  have XX := hid (show XR w2 (fun i => w.heap.size + 1 ≤ i) _ _ from XR.keep ⟨k, a, n, x, op, l, f, _, _, ht, rfl, h3, h4⟩ (fun _ _ _ => rfl) (Nat.le_refl _) (fun i (hi : (w.alloc (.cells #[.int .i64 0, .int .i64 0, .int .i64 0, .string ⟨#[]⟩, .int .i64 0, .slice none 0 0, .slice none 0 0] 38)).heap.size ≤ i) _ => by omega))
  have PX := hid h5
  obtain ⟨⟨c0, c1, c2, c3, c4, c5, c6⟩, ⟨f0, f1, f2, f3, f4, f5, f6⟩⟩ := cells7 r2
  clear h3 h4 h5 h6 r2 hz LV
  go_wp2
  have EN := X_end XX.out PX.out hl.1 hl.2 KW.out
  refine bodyPost_ret (v := .agg #[.int .i64 k, .int .i64 a, .int .i64 n, .string x, .int .i64 op, .slice Al nl cl, .slice Af nf cf]) (by simp [results, Tryz.results68, go_sem, c0, c1, c2, c3, c4, c5, c6]) rfl ?_
  exact ⟨_, rfl, EN⟩
 ·skip
  have e0 : pass F s = (T0, s) := if_pos h0
  rw [e0]
  have PA := hid (h.below A1.out)
  obtain ⟨_, _, _, c2, _⟩ := PA.out.cells
  obtain ⟨⟨a0, a1, a2, a3, a4, a5, a6⟩, ⟨f0, f1, f2, f3, f4, f5, f6⟩⟩ := cells7 r1.out
  clear h hE hL e0
  show Calls _ _ #[.pointer (some ⟨E.p, 0, none⟩), .int .i64 6, .int .i64 d] _ _
  go_enter Tryz.func68, Tryz.ntmps68
  go_wp2
  refine bodyPost_ret (v := .agg #[.int .i64 0, .int .i64 0, .int .i64 0, .string ⟨#[]⟩, .int .i64 0, .slice none 0 0, .slice none 0 0]) (by simp [results, Tryz.results68, go_sem, a0, a1, a2, a3, a4, a5, a6]) rfl ?_
  exact ⟨_, rfl, XR.zero E _ _, PA.out, Kp.of A1.out⟩
end Go.Proofs.YtgkejkgailnbmaaGreatDoor
namespace Go.Proofs.YtgkejkgailnbmaaGreatDoor
open Lib (hid)
open Go.ChangeShapes Go.WideShapes Go.ChangeAt Go.RowKit TP
def allocs (w : World) : List Obj → World
 | [] => w
 | o :: r => allocs (w.alloc o) r
theorem allocs_below : ∀ (os : List Obj) (w : World), Below w.heap.size w (allocs w os)
 | [], _ => Below.refl _ _
 | o :: r, w => alloc_old.trans ((allocs_below r (w.alloc o)).mono (by rw [World.size_alloc]; omega))
theorem allocs_at : ∀ (os : List Obj) (w : World) (k : Nat) (o : Obj), os[k]? = some o → (allocs w os).heap[w.heap.size + k]? = some o
 | [], _, _, _, h => by cases h
 | o :: r, w, 0, x, h => by
  cases h
  exact blk_below (heap_alloc_new w o) (allocs_below r (w.alloc o))
 | o :: r, w, k + 1, x, h => by
  have := allocs_at r (w.alloc o) k x h
  rw [World.size_alloc] at this
  rw [show w.heap.size + (k + 1) = w.heap.size + 1 + k by omega]
  exact this
def posOf (E : Env) (w : World) : Nat := match w.cell? ⟨E.p, 1, none⟩ with
 | some (.int _ i) => i.toNat
 | _ => 0
theorem PS.pos {E : Env} {w : World} {s : St} (h : PS E w s) : posOf E w = s.i := by
 obtain ⟨_, _, c1, _⟩ := h.cells
 unfold posOf
 rw [c1]
 exact Int.toNat_natCast _
theorem Kp.cut {c d : Nat} {S T : Nat → Prop} {w w' : World} (h : Kp c S w w') (hd : d ≤ c) (hS : ∀ k, k < d → T k → S k) : Kp d T w w' := ⟨h.os, h.tape, h.output, h.size, fun i hi hb => h.block i (by omega) (hS i hi hb)⟩
theorem agg7 {x0 x1 x2 y0 y1 y2 x4 y4 : Int} {x3 y3 : ByteArray} {x5 x6 y5 y6 : Value} (h : Value.agg #[.int .i64 x0, .int .i64 x1, .int .i64 x2, .string x3, .int .i64 x4, x5, x6] = .agg #[.int .i64 y0, .int .i64 y1, .int .i64 y2, .string y3, .int .i64 y4, y5, y6]) : x0 = y0 ∧ x1 = y1 ∧ x2 = y2 ∧ x3 = y3 ∧ x4 = y4 ∧ x5 = y5 ∧ x6 = y6 := by
 simp only [Value.agg.injEq, Array.mk.injEq, List.cons.injEq, Value.int.injEq, Value.string.injEq, and_true, true_and] at h
 exact h
theorem XR.two {E : Env} {w : World} {F : Nat → Prop} {kind code : Int} {i b : Nat} {t u : T} {v0 v1 v2 v4 k' a' n' op' : Int} {v3 x' : ByteArray} {s5 s6 c5 c6 : Value} (hb : F b)
  (hL : w.heap[b]? = some (.cells #[.int .i64 v0, .int .i64 v1, .int .i64 v2, .string v3, .int .i64 v4, s5, s6, .int .i64 k', .int .i64 a', .int .i64 n', .string x', .int .i64 op', c5, c6] 38))
  (h1 : XR w F (t.map E.gl) (.agg #[.int .i64 v0, .int .i64 v1, .int .i64 v2, .string v3, .int .i64 v4, s5, s6])) (h2 : XR w F (u.map E.gl) (.agg #[.int .i64 k', .int .i64 a', .int .i64 n', .string x', .int .i64 op', c5, c6])) :
  XR w F ((T.ex kind (i : Int) 0 ⟨#[]⟩ code (T.of [t, u]) .nil).map E.gl) (.agg #[.int .i64 kind, .int .i64 (E.pl i), .int .i64 0, .string ⟨#[]⟩, .int .i64 code, .slice (some ⟨b, 0, none⟩) 2 2, .slice none 0 0]) := by
 obtain ⟨k2, a2x, n2, s2, op2, l2, f2, vl2, vf2, e1, e2, sl1, sl2⟩ := h1
 obtain ⟨rfl, rfl, rfl, rfl, rfl, rfl, rfl⟩ := agg7 e2
 obtain ⟨k3, a3x, n3, s3, op3, l3, f3, vl3, vf3, g1, g2, sl3, sl4⟩ := h2
 obtain ⟨rfl, rfl, rfl, rfl, rfl, rfl, rfl⟩ := agg7 g2
 refine ⟨kind, E.pl i, 0, ⟨#[]⟩, code, .cons (t.map E.gl) (.cons (u.map E.gl) .nil), .nil, _, _, ?_, rfl, ?_, .inl ⟨rfl, rfl⟩⟩
 ·rw [← E.gl_nat]
  rfl
 ·refine SL.lit (e := 38) (by intro e; cases e) rfl (by decide) hb hL ?_
  rw [e1, g1]
  exact EC_ex.2 ⟨_, _, _, rfl, sl1, sl2, EC_ex.2 ⟨_, _, [], rfl, sl3, sl4, EC_nil.2 rfl⟩⟩
def LI (E : Env) (F : St → R) (n : Nat) (R0 : R) (c b9 : Nat) (z wr : World) : Prop :=
 ∃ fu t st v0 v1 v2 v3 v4 Al nl cl Af nf cf, E.ts.length + 1 ≤ fu + st.i ∧ binLoop E.ts F n fu t st = R0 ∧ st.i < E.ts.length ∧ PS E wr st ∧ wr.heap[b9]? = some (.cells #[.int .i64 v0, .int .i64 v1, .int .i64 v2, .string v3, .int .i64 v4, .slice Al nl cl, .slice Af nf cf] 38) ∧ XR wr (fun i => c ≤ i ∧ i ≠ b9) (t.map E.gl) (.agg #[.int .i64 v0, .int .i64 v1, .int .i64 v2, .string v3, .int .i64 v4, .slice Al nl cl, .slice Af nf cf]) ∧ Kp z.heap.size (fun i => i ≠ E.p ∧ i ≠ b9) z wr
theorem which_le (ts : List Tk) (l : List ByteArray) (s : St) : which ts l s ≤ l.length := List.findIdx_le_length
theorem which_none {ts : List Tk} {l : List ByteArray} {s : St} (h : ∀ (j : Nat) (x : ByteArray), l[j]? = some x → isT ts x s = false) : which ts l s = l.length := by
 unfold which
 rw [List.findIdx_eq_length]
 intro x hx
 obtain ⟨j, hj⟩ := List.mem_iff_getElem?.1 hx
 exact h j x hj
theorem which_some {ts : List Tk} {l : List ByteArray} {s : St} {k : Nat} {x : ByteArray} (hk : l[k]? = some x) (h : isT ts x s = true) (h0 : ∀ (j : Nat) (y : ByteArray), j < k → l[j]? = some y → isT ts y s = false) : which ts l s = k := by
 obtain ⟨hl, e⟩ := List.getElem?_eq_some_iff.1 hk
 subst e
 exact (List.findIdx_eq hl).2 ⟨h, fun j hj => h0 j _ hj (List.getElem?_eq_getElem (Nat.lt_trans hj hl))⟩
end Go.Proofs.YtgkejkgailnbmaaGreatDoor
