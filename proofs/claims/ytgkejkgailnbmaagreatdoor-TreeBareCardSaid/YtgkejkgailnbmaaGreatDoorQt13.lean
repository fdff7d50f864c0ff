/- Texts joined: P8, P9, F3 -/
import Derived.Test.YtgkejkgailnbmaaGreatDoorQt12
import Derived.Test.YtgkejkgailnbmaaGreatDoorQt7
import Derived.Test.YtgkejkgailnbmaaGreatDoorQt8
import Derived.Test.YtgkejkgailnbmaaGreatDoorQt9
import Derived.Test.YtgkejkgailnbmaaGreatDoorQt10
import Derived.Test.YtgkejkgailnbmaaGreatDoorQt11
import Derived.Test.YtgkejkgailnbmaaGreatDoorQt5
set_option linter.unusedVariables false
set_option linter.unusedSimpArgs false
namespace Go.Proofs.YtgkejkgailnbmaaGreatDoor
open Lib (hid)
open Go.ChangeShapes Go.WideShapes Go.ChangeAt Go.RowKit TP
def joinS (ts : List Tk) (G : St → R) (jn : Option (St → R)) (s : St) : R :=
 if isT ts (B [46, 46]) (G s).2 then
  match jn with
  | none => ((G s).1, TP.fail 8 (adv (G s).2))
  | some j => (.ex 14 (G s).2.i 0 ⟨#[]⟩ 6 (T.of [(G s).1, (j (adv (G s).2)).1]) .nil, (j (adv (G s).2)).2)
 else G s
theorem two_end {E : Env} {w X : World} {s : St} {t u : T} {i : Nat} {kind code v0 v1 v2 v4 k' a' n' op' : Int} {v3 x' : ByteArray} {s5 s6 c5 c6 : Value} (h1 : XR X (fun i => w.heap.size + 1 ≤ i) (t.map E.gl) (.agg #[.int .i64 v0, .int .i64 v1, .int .i64 v2, .string v3, .int .i64 v4, s5, s6])) (h2 : XR X (fun i => w.heap.size + 1 ≤ i) (u.map E.gl) (.agg #[.int .i64 k', .int .i64 a', .int .i64 n', .string x', .int .i64 op', c5, c6])) (hP : PS E X s) (hpw : E.p < w.heap.size) (hgw : E.g < w.heap.size) (hr : w.heap.size < X.heap.size) (hK : KpP E w X) (Y : World)
  (hY : Y = ((((((((X.alloc (.cells #[.int .i64 v0, .int .i64 v1, .int .i64 v2, .string v3, .int .i64 v4, s5, s6, .int .i64 k', .int .i64 a', .int .i64 n', .string x', .int .i64 op', c5, c6] 38)).setCell ⟨w.heap.size, 0, none⟩ (.int .i64 kind)).setCell ⟨w.heap.size, 1, none⟩ (.int .i64 (E.pl i))).setCell ⟨w.heap.size, 2, none⟩ (.int .i64 0)).setCell ⟨w.heap.size, 3, none⟩ (.string ⟨#[]⟩)).setCell ⟨w.heap.size, 4, none⟩ (.int .i64 code)).setCell ⟨w.heap.size, 5, none⟩ (.slice (some ⟨X.heap.size, 0, none⟩) 2 2)).setCell ⟨w.heap.size, 6, none⟩ (.slice none 0 0))) :
  XR Y (fun i => w.heap.size ≤ i) ((T.ex kind (i : Int) 0 ⟨#[]⟩ code (T.of [t, u]) .nil).map E.gl) (.agg #[.int .i64 kind, .int .i64 (E.pl i), .int .i64 0, .string ⟨#[]⟩, .int .i64 code, .slice (some ⟨X.heap.size, 0, none⟩) 2 2, .slice none 0 0]) ∧ PS E Y s ∧ KpP E w Y := by
 have AL := alloc_old (w := X) (o := .cells #[.int .i64 v0, .int .i64 v1, .int .i64 v2, .string v3, .int .i64 v4, s5, s6, .int .i64 k', .int .i64 a', .int .i64 n', .string x', .int .i64 op', c5, c6] 38)
 have nL := heap_alloc_new X (.cells #[.int .i64 v0, .int .i64 v1, .int .i64 v2, .string v3, .int .i64 v4, s5, s6, .int .i64 k', .int .i64 a', .int .i64 n', .string x', .int .i64 op', c5, c6] 38)
 have g1 : XR _ (fun i => w.heap.size + 1 ≤ i) _ _ := h1.keep (fun j _ hl => AL.block j hl) (Below.size AL) (fun j hj _ => hj)
 have g2 : XR _ (fun i => w.heap.size + 1 ≤ i) _ _ := h2.keep (fun j _ hl => AL.block j hl) (Below.size AL) (fun j hj _ => hj)
 have hP2 := hP.below AL
 have hK2 := hK.trans (.of (AL.mono (by omega)))
 have sz := Below.size AL
 generalize X.alloc (.cells #[.int .i64 v0, .int .i64 v1, .int .i64 v2, .string v3, .int .i64 v4, s5, s6, .int .i64 k', .int .i64 a', .int .i64 n', .string x', .int .i64 op', c5, c6] 38) = Z at hY nL g1 g2 hP2 hK2 sz
 have XT := XR.two (E := E) (kind := kind) (code := code) (i := i) (F := fun i => w.heap.size + 1 ≤ i) (show w.heap.size + 1 ≤ X.heap.size by omega) nL g1 g2
 subst hY
 exact X_end XT hP2 hpw hgw hK2
theorem join_eq (ts : List Tk) (un : St → R) (jn : Option (St → R)) (s : St) : TP.join ts un jn s = joinS ts (bin ts (bin ts (pass un) 5) 4) jn s := rfl
set_option maxRecDepth 100000 in
set_option maxHeartbeats 8000000 in
theorem join_is (E : Env) (hE : E.Ok) (d : Int) (hd : 0 ≤ d ∧ d ≤ 100) (G : St → R) (hG : TP.Good E.ts G) (hL : ExC E 68 #[.int .i64 4, .int .i64 d] G) (jn : Option (St → R)) (hJ : ∀ u, jn = some u → d + 1 ≤ 100 ∧ ExC E 78 #[.int .i64 (d + 1)] u) (hN : jn = none → d = 100) : ExC E 78 #[.int .i64 d] (joinS E.ts G jn) := by
 intro s w hi h
 have A1 := hid (alloc_old (w := w) (o := .cells #[.int .i64 0, .int .i64 0, .int .i64 0, .string ⟨#[]⟩, .int .i64 0, .slice none 0 0, .slice none 0 0] 38))
 have r1 := hid (heap_alloc_new w (.cells #[.int .i64 0, .int .i64 0, .int .i64 0, .string ⟨#[]⟩, .int .i64 0, .slice none 0 0, .slice none 0 0] 38))
 have hlp := hid (And.intro h.lt h.2.1)
 have hG2 := hid (hG s hi).2.1
 have LV := hid (hL s _ hi (h.below A1.out))
 cases hb : isT E.ts (B [46, 46]) (G s).2 with
 | false =>
  have e0 : joinS E.ts G jn s = G s := by unfold joinS; rw [hb]; rfl
  rw [e0]
  have OP := hid (fun X (hX : PS E X (G s).2) => opt_no E hE (G s).2 hG2.out (B [46, 46]) hb X hX)
  clear e0 hb
  clear h hE hG hL hi hJ hN
  show Calls _ _ #[.pointer (some ⟨E.p, 0, none⟩), .int .i64 d] _ _
  go_enter Tryz.func78, Tryz.ntmps78
  go_wp2_with (first | (go_at_call 68; refine Hid.out ?_))
  refine hid ?_
  refine (LV.out).mono ?_
  rintro e x1 ⟨v, rfl, ⟨k, a, n, x, op, l, f, vl, vf, ht, rfl, h3, h4⟩, h5, h6⟩
  obtain ⟨Al, nl, cl, rfl⟩ := h3.form
  obtain ⟨Af, nf, cf, rfl⟩ := h4.form
  have hz : (w.alloc (.cells #[.int .i64 0, .int .i64 0, .int .i64 0, .string ⟨#[]⟩, .int .i64 0, .slice none 0 0, .slice none 0 0] 38)).heap.size = w.heap.size + 1 := World.size_alloc _ _
  have hl := hlp.out
  have hs6 := h6.size
  have AZ := hid (alloc_old (w := x1) (o := .cells #[.int .i64 k, .int .i64 a, .int .i64 n, .string x, .int .i64 op, .slice Al nl cl, .slice Af nf cf] 38))
  have FZ := hid (show PS E (x1.alloc (.cells #[.int .i64 k, .int .i64 a, .int .i64 n, .string x, .int .i64 op, .slice Al nl cl, .slice Af nf cf] 38)) (G s).2 ∧ (x1.alloc (.cells #[.int .i64 k, .int .i64 a, .int .i64 n, .string x, .int .i64 op, .slice Al nl cl, .slice Af nf cf] 38)).heap[x1.heap.size]? = some (.cells #[.int .i64 k, .int .i64 a, .int .i64 n, .string x, .int .i64 op, .slice Al nl cl, .slice Af nf cf] 38) ∧ XR (x1.alloc (.cells #[.int .i64 k, .int .i64 a, .int .i64 n, .string x, .int .i64 op, .slice Al nl cl, .slice Af nf cf] 38)) (fun i => w.heap.size + 1 ≤ i) ((G s).1.map E.gl) (.agg #[.int .i64 k, .int .i64 a, .int .i64 n, .string x, .int .i64 op, .slice Al nl cl, .slice Af nf cf]) ∧ (x1.alloc (.cells #[.int .i64 k, .int .i64 a, .int .i64 n, .string x, .int .i64 op, .slice Al nl cl, .slice Af nf cf] 38)).heap[w.heap.size]? = some (.cells #[.int .i64 0, .int .i64 0, .int .i64 0, .string ⟨#[]⟩, .int .i64 0, .slice none 0 0, .slice none 0 0] 38) ∧ KpP E w (x1.alloc (.cells #[.int .i64 k, .int .i64 a, .int .i64 n, .string x, .int .i64 op, .slice Al nl cl, .slice Af nf cf] 38)) ∧ w.heap.size < x1.heap.size from
   ⟨h5.below AZ.out, heap_alloc_new x1 _, XR.keep ⟨k, a, n, x, op, l, f, _, _, ht, rfl, h3, h4⟩ (fun i _ hi => AZ.out.block i hi) (Below.size AZ.out) (fun i (hi : (w.alloc (.cells #[.int .i64 0, .int .i64 0, .int .i64 0, .string ⟨#[]⟩, .int .i64 0, .slice none 0 0, .slice none 0 0] 38)).heap.size ≤ i) _ => by omega), blk_below ((h6.block w.heap.size (by omega) (by omega)).trans r1.out) AZ.out, ((Kp.of A1.out).trans (h6.mono (by omega) (fun _ hk => hk))).trans (.of (AZ.out.mono (by omega))), by omega⟩)
  have PL := hid (place_is E (G s).2 hG2.out _ FZ.out.1)
  clear h3 h4 h5 h6 hz ht hs6 hl AZ A1 r1 LV
  go_wp2_with (first | (go_at_call 47; (with_reducible refine (PL.out).mono ?_); rintro e x2 ⟨rfl, h1, h2⟩; have P2 := hid h1; have B2 := hid h2; have K2 := hid (show KpP E w x2 from FZ.out.2.2.2.2.1.trans (.of (h2.mono FZ.out.2.2.2.2.1.size))); have R2 := hid (blk_below FZ.out.2.2.2.1 h2); have Q2 := hid (blk_below FZ.out.2.1 h2); have X2 := hid (FZ.out.2.2.1.keep (fun i _ hi => h2.block i hi) (Below.size h2) (fun i hi _ => hi)); clear h1 h2) | (go_at_call 48; (with_reducible refine (OP.out _ P2.out).mono ?_); rintro e x3 ⟨rfl, h1, h2⟩; have P3 := hid h1; have K3 := hid (show KpP E w x3 from K2.out.trans (h2.mono K2.out.size (fun _ hk => hk))); have R3 := hid ((h2.block w.heap.size (lt_blk R2.out) (by have := hlp.out; omega)).trans R2.out); have Q3 := hid ((h2.block _ (lt_blk Q2.out) (by have := hlp.out; have := FZ.out.2.2.2.2.2; omega)).trans Q2.out); have X3 := hid (X2.out.keep (fun i hi hl => h2.block i hl (by have := hlp.out; omega)) h2.size (fun i hi _ => hi)); obtain ⟨⟨c0, c1, c2', c3, c4, c5, c6⟩, ⟨f0, f1, f2, f3, f4, f5, f6⟩⟩ := cells7 R3.out; obtain ⟨⟨a0, a1, a2, a3, a4, a5, a6⟩, _⟩ := cells7 Q3.out; clear h1 h2))
  have EN := X_end X3.out P3.out hlp.out.1 hlp.out.2 K3.out
  refine bodyPost_ret (v := .agg #[.int .i64 k, .int .i64 a, .int .i64 n, .string x, .int .i64 op, .slice Al nl cl, .slice Af nf cf]) (by simp [results, Tryz.results78, go_sem, c0, c1, c2', c3, c4, c5, c6]) rfl ?_
  exact ⟨_, rfl, EN⟩
 | true =>
  have OP := hid (fun X (hX : PS E X (G s).2) => opt_yes E hE (G s).2 hG2.out (B [46, 46]) hb X hX)
  have hA := hid (is_adv hE.ends hG2.out hb)
  have c00 : (adv (G s).2).c = 0 := (isT_kind hb).1
  cases jn with
  | none =>
   have hd1 : d = 100 := hN rfl
   subst hd1
   have DP := hid (fun X (hX : PS E X (adv (G s).2)) => deep_is E hE (adv (G s).2) hA.out.2.1 101 X hX)
   have e1 : (if (101 : Int) > 100 then TP.fail 8 (adv (G s).2) else adv (G s).2) = TP.fail 8 (adv (G s).2) := if_pos (by decide)
   rw [e1] at DP
   have C2 := hid (show (TP.fail 8 (adv (G s).2)).c = 8 from by unfold TP.fail; rw [if_pos c00])
   have e0 : joinS E.ts G none s = ((G s).1, TP.fail 8 (adv (G s).2)) := by unfold joinS; rw [hb]; rfl
   rw [e0]
   clear e0 hb e1 c00
   clear h hE hG hL hi hJ hN
   show Calls _ _ #[.pointer (some ⟨E.p, 0, none⟩), .int .i64 100] _ _
   go_enter Tryz.func78, Tryz.ntmps78
   go_wp2_with (first | (go_at_call 68; refine Hid.out ?_))
   refine hid ?_
   refine (LV.out).mono ?_
   rintro e x1 ⟨v, rfl, ⟨k, a, n, x, op, l, f, vl, vf, ht, rfl, h3, h4⟩, h5, h6⟩
   obtain ⟨Al, nl, cl, rfl⟩ := h3.form
   obtain ⟨Af, nf, cf, rfl⟩ := h4.form
   have hz : (w.alloc (.cells #[.int .i64 0, .int .i64 0, .int .i64 0, .string ⟨#[]⟩, .int .i64 0, .slice none 0 0, .slice none 0 0] 38)).heap.size = w.heap.size + 1 := World.size_alloc _ _
   have hl := hlp.out
   have hs6 := h6.size
   have AZ := hid (alloc_old (w := x1) (o := .cells #[.int .i64 k, .int .i64 a, .int .i64 n, .string x, .int .i64 op, .slice Al nl cl, .slice Af nf cf] 38))
   have FZ := hid (show PS E (x1.alloc (.cells #[.int .i64 k, .int .i64 a, .int .i64 n, .string x, .int .i64 op, .slice Al nl cl, .slice Af nf cf] 38)) (G s).2 ∧ (x1.alloc (.cells #[.int .i64 k, .int .i64 a, .int .i64 n, .string x, .int .i64 op, .slice Al nl cl, .slice Af nf cf] 38)).heap[x1.heap.size]? = some (.cells #[.int .i64 k, .int .i64 a, .int .i64 n, .string x, .int .i64 op, .slice Al nl cl, .slice Af nf cf] 38) ∧ XR (x1.alloc (.cells #[.int .i64 k, .int .i64 a, .int .i64 n, .string x, .int .i64 op, .slice Al nl cl, .slice Af nf cf] 38)) (fun i => w.heap.size + 1 ≤ i) ((G s).1.map E.gl) (.agg #[.int .i64 k, .int .i64 a, .int .i64 n, .string x, .int .i64 op, .slice Al nl cl, .slice Af nf cf]) ∧ (x1.alloc (.cells #[.int .i64 k, .int .i64 a, .int .i64 n, .string x, .int .i64 op, .slice Al nl cl, .slice Af nf cf] 38)).heap[w.heap.size]? = some (.cells #[.int .i64 0, .int .i64 0, .int .i64 0, .string ⟨#[]⟩, .int .i64 0, .slice none 0 0, .slice none 0 0] 38) ∧ KpP E w (x1.alloc (.cells #[.int .i64 k, .int .i64 a, .int .i64 n, .string x, .int .i64 op, .slice Al nl cl, .slice Af nf cf] 38)) ∧ w.heap.size < x1.heap.size from
    ⟨h5.below AZ.out, heap_alloc_new x1 _, XR.keep ⟨k, a, n, x, op, l, f, _, _, ht, rfl, h3, h4⟩ (fun i _ hi => AZ.out.block i hi) (Below.size AZ.out) (fun i (hi : (w.alloc (.cells #[.int .i64 0, .int .i64 0, .int .i64 0, .string ⟨#[]⟩, .int .i64 0, .slice none 0 0, .slice none 0 0] 38)).heap.size ≤ i) _ => by omega), blk_below ((h6.block w.heap.size (by omega) (by omega)).trans r1.out) AZ.out, ((Kp.of A1.out).trans (h6.mono (by omega) (fun _ hk => hk))).trans (.of (AZ.out.mono (by omega))), by omega⟩)
   have PL := hid (place_is E (G s).2 hG2.out _ FZ.out.1)
   clear h3 h4 h5 h6 hz ht hs6 hl AZ A1 r1 LV
   go_wp2_with (first | (go_at_call 47; (with_reducible refine (PL.out).mono ?_); rintro e x2 ⟨rfl, h1, h2⟩; have P2 := hid h1; have B2 := hid h2; have K2 := hid (show KpP E w x2 from FZ.out.2.2.2.2.1.trans (.of (h2.mono FZ.out.2.2.2.2.1.size))); have R2 := hid (blk_below FZ.out.2.2.2.1 h2); have Q2 := hid (blk_below FZ.out.2.1 h2); have X2 := hid (FZ.out.2.2.1.keep (fun i _ hi => h2.block i hi) (Below.size h2) (fun i hi _ => hi)); clear h1 h2) | (go_at_call 48; (with_reducible refine (OP.out _ P2.out).mono ?_); rintro e x3 ⟨rfl, h1, h2⟩; have P3 := hid h1; have K3 := hid (show KpP E w x3 from K2.out.trans (h2.mono K2.out.size (fun _ hk => hk))); have R3 := hid ((h2.block w.heap.size (lt_blk R2.out) (by have := hlp.out; omega)).trans R2.out); have Q3 := hid ((h2.block _ (lt_blk Q2.out) (by have := hlp.out; have := FZ.out.2.2.2.2.2; omega)).trans Q2.out); have X3 := hid (X2.out.keep (fun i hi hl => h2.block i hl (by have := hlp.out; omega)) h2.size (fun i hi _ => hi)); clear h1 h2) | (go_at_call 45; (with_reducible refine (DP.out _ P3.out).mono ?_); rintro e x4 ⟨rfl, h1, h2⟩; have P4 := hid h1; have K4 := hid (show KpP E w x4 from K3.out.trans (h2.mono K3.out.size (fun _ hk => hk))); have R4 := hid ((h2.block w.heap.size (lt_blk R3.out) (by have := hlp.out; omega)).trans R3.out); have Q4 := hid ((h2.block _ (lt_blk Q3.out) (by have := hlp.out; have := FZ.out.2.2.2.2.2; omega)).trans Q3.out); have X4 := hid (X3.out.keep (fun i hi hl => h2.block i hl (by have := hlp.out; omega)) h2.size (fun i hi _ => hi)); obtain ⟨_, _, _, c2, _⟩ := h1.cells; rw [C2.out] at c2; obtain ⟨⟨c0, c1, c2', c3, c4, c5, c6⟩, ⟨f0, f1, f2, f3, f4, f5, f6⟩⟩ := cells7 R4.out; obtain ⟨⟨a0, a1, a2, a3, a4, a5, a6⟩, _⟩ := cells7 Q4.out; clear h1 h2))
   have EN := X_end X4.out P4.out hlp.out.1 hlp.out.2 K4.out
   refine bodyPost_ret (v := .agg #[.int .i64 k, .int .i64 a, .int .i64 n, .string x, .int .i64 op, .slice Al nl cl, .slice Af nf cf]) (by simp [results, Tryz.results78, go_sem, c0, c1, c2', c3, c4, c5, c6]) rfl ?_
   exact ⟨_, rfl, EN⟩
  | some u =>
   obtain ⟨hd1, hUu⟩ := hJ u rfl
   have DP := hid (fun X (hX : PS E X (adv (G s).2)) => deep_is E hE (adv (G s).2) hA.out.2.1 (d + 1) X hX)
   have e1 : (if d + 1 > 100 then TP.fail 8 (adv (G s).2) else adv (G s).2) = adv (G s).2 := if_neg (by omega)
   rw [e1] at DP
   have C2 := hid c00
   have UC := hid (fun X (hX : PS E X (adv (G s).2)) => hUu (adv (G s).2) X hA.out.2.1 hX)
   have e0 : joinS E.ts G (some u) s = (.ex 14 (G s).2.i 0 ⟨#[]⟩ 6 (T.of [(G s).1, (u (adv (G s).2)).1]) .nil, (u (adv (G s).2)).2) := by unfold joinS; rw [hb]; rfl
   rw [e0]
   have wr1 : IntKind.i64.wrap (d + 1) = d + 1 := by rw [IntKind.wrap_i64]; omega
   have wr2 : wrap64 (d + 1) = d + 1 := by unfold wrap64; omega
   clear e0 hb e1 c00 hUu hd1
   clear h hE hG hL hi hJ hN
   show Calls _ _ #[.pointer (some ⟨E.p, 0, none⟩), .int .i64 d] _ _
   go_enter Tryz.func78, Tryz.ntmps78
   go_wp2_with (first | (go_at_call 68; refine Hid.out ?_))
   refine hid ?_
   refine (LV.out).mono ?_
   rintro e x1 ⟨v, rfl, ⟨k, a, n, x, op, l, f, vl, vf, ht, rfl, h3, h4⟩, h5, h6⟩
   obtain ⟨Al, nl, cl, rfl⟩ := h3.form
   obtain ⟨Af, nf, cf, rfl⟩ := h4.form
   have hz : (w.alloc (.cells #[.int .i64 0, .int .i64 0, .int .i64 0, .string ⟨#[]⟩, .int .i64 0, .slice none 0 0, .slice none 0 0] 38)).heap.size = w.heap.size + 1 := World.size_alloc _ _
   have hl := hlp.out
   have hs6 := h6.size
   have AZ := hid (alloc_old (w := x1) (o := .cells #[.int .i64 k, .int .i64 a, .int .i64 n, .string x, .int .i64 op, .slice Al nl cl, .slice Af nf cf] 38))
   have FZ := hid (show PS E (x1.alloc (.cells #[.int .i64 k, .int .i64 a, .int .i64 n, .string x, .int .i64 op, .slice Al nl cl, .slice Af nf cf] 38)) (G s).2 ∧ (x1.alloc (.cells #[.int .i64 k, .int .i64 a, .int .i64 n, .string x, .int .i64 op, .slice Al nl cl, .slice Af nf cf] 38)).heap[x1.heap.size]? = some (.cells #[.int .i64 k, .int .i64 a, .int .i64 n, .string x, .int .i64 op, .slice Al nl cl, .slice Af nf cf] 38) ∧ XR (x1.alloc (.cells #[.int .i64 k, .int .i64 a, .int .i64 n, .string x, .int .i64 op, .slice Al nl cl, .slice Af nf cf] 38)) (fun i => w.heap.size + 1 ≤ i) ((G s).1.map E.gl) (.agg #[.int .i64 k, .int .i64 a, .int .i64 n, .string x, .int .i64 op, .slice Al nl cl, .slice Af nf cf]) ∧ (x1.alloc (.cells #[.int .i64 k, .int .i64 a, .int .i64 n, .string x, .int .i64 op, .slice Al nl cl, .slice Af nf cf] 38)).heap[w.heap.size]? = some (.cells #[.int .i64 0, .int .i64 0, .int .i64 0, .string ⟨#[]⟩, .int .i64 0, .slice none 0 0, .slice none 0 0] 38) ∧ KpP E w (x1.alloc (.cells #[.int .i64 k, .int .i64 a, .int .i64 n, .string x, .int .i64 op, .slice Al nl cl, .slice Af nf cf] 38)) ∧ w.heap.size < x1.heap.size from
    ⟨h5.below AZ.out, heap_alloc_new x1 _, XR.keep ⟨k, a, n, x, op, l, f, _, _, ht, rfl, h3, h4⟩ (fun i _ hi => AZ.out.block i hi) (Below.size AZ.out) (fun i (hi : (w.alloc (.cells #[.int .i64 0, .int .i64 0, .int .i64 0, .string ⟨#[]⟩, .int .i64 0, .slice none 0 0, .slice none 0 0] 38)).heap.size ≤ i) _ => by omega), blk_below ((h6.block w.heap.size (by omega) (by omega)).trans r1.out) AZ.out, ((Kp.of A1.out).trans (h6.mono (by omega) (fun _ hk => hk))).trans (.of (AZ.out.mono (by omega))), by omega⟩)
   have PL := hid (place_is E (G s).2 hG2.out _ FZ.out.1)
   clear h3 h4 h5 h6 hz ht hs6 hl AZ A1 r1 LV
   go_wp2_with (first | (go_at_call 47; (with_reducible refine (PL.out).mono ?_); rintro e x2 ⟨rfl, h1, h2⟩; have P2 := hid h1; have B2 := hid h2; have K2 := hid (show KpP E w x2 from FZ.out.2.2.2.2.1.trans (.of (h2.mono FZ.out.2.2.2.2.1.size))); have R2 := hid (blk_below FZ.out.2.2.2.1 h2); have Q2 := hid (blk_below FZ.out.2.1 h2); have X2 := hid (FZ.out.2.2.1.keep (fun i _ hi => h2.block i hi) (Below.size h2) (fun i hi _ => hi)); clear h1 h2) | (go_at_call 48; (with_reducible refine (OP.out _ P2.out).mono ?_); rintro e x3 ⟨rfl, h1, h2⟩; have P3 := hid h1; have K3 := hid (show KpP E w x3 from K2.out.trans (h2.mono K2.out.size (fun _ hk => hk))); have R3 := hid ((h2.block w.heap.size (lt_blk R2.out) (by have := hlp.out; omega)).trans R2.out); have Q3 := hid ((h2.block _ (lt_blk Q2.out) (by have := hlp.out; have := FZ.out.2.2.2.2.2; omega)).trans Q2.out); have X3 := hid (X2.out.keep (fun i hi hl => h2.block i hl (by have := hlp.out; omega)) h2.size (fun i hi _ => hi)); clear h1 h2) | (go_at_call 45; (with_reducible refine (DP.out _ P3.out).mono ?_); rintro e x4 ⟨rfl, h1, h2⟩; have P4 := hid h1; have K4 := hid (show KpP E w x4 from K3.out.trans (h2.mono K3.out.size (fun _ hk => hk))); have R4 := hid ((h2.block w.heap.size (lt_blk R3.out) (by have := hlp.out; omega)).trans R3.out); have Q4 := hid ((h2.block _ (lt_blk Q3.out) (by have := hlp.out; have := FZ.out.2.2.2.2.2; omega)).trans Q3.out); have X4 := hid (X3.out.keep (fun i hi hl => h2.block i hl (by have := hlp.out; omega)) h2.size (fun i hi _ => hi)); obtain ⟨_, _, _, c2, _⟩ := h1.cells; rw [C2.out] at c2; clear h1 h2) | (go_at_call 78; refine Hid.out ?_))
   refine hid ?_
   refine (UC.out _ P4.out).mono ?_
   rintro e x5 ⟨v, rfl, ⟨k', a', n', x', op', l', f', vl', vf', ht', rfl, h3, h4⟩, h5, h6⟩
   obtain ⟨Cl, rl, el, rfl⟩ := h3.form
   obtain ⟨Cf, rf, ef, rfl⟩ := h4.form
   have AB := hid (alloc_old (w := x5) (o := .cells #[.int .i64 k', .int .i64 a', .int .i64 n', .string x', .int .i64 op', .slice Cl rl el, .slice Cf rf ef] 38))
   have aB := hid (heap_alloc_new x5 (.cells #[.int .i64 k', .int .i64 a', .int .i64 n', .string x', .int .i64 op', .slice Cl rl el, .slice Cf rf ef] 38))
   have hk4 := K4.out.size
   have r5 := (h6.block w.heap.size (lt_blk R4.out) (by have := hlp.out; omega)).trans R4.out
   have q5 := (h6.block _ (lt_blk Q4.out) (by have := hlp.out; have := FZ.out.2.2.2.2.2; omega)).trans Q4.out
   have X5 := hid ((X4.out.keep (fun i hi hl => h6.block i hl (by have := hlp.out; omega)) h6.size (fun i hi _ => hi)).keep (fun i _ hl => AB.out.block i hl) (Below.size AB.out) (fun i hi _ => hi))
   have XB := hid (show XR (x5.alloc (.cells #[.int .i64 k', .int .i64 a', .int .i64 n', .string x', .int .i64 op', .slice Cl rl el, .slice Cf rf ef] 38)) (fun i => w.heap.size + 1 ≤ i) ((u (adv (G s).2)).1.map E.gl) _ from XR.keep ⟨k', a', n', x', op', l', f', _, _, ht', rfl, h3, h4⟩ (fun i _ hl => AB.out.block i hl) (Below.size AB.out) (fun i (hi : x4.heap.size ≤ i) _ => by have := lt_blk R4.out; omega))
   have PB := hid (h5.below AB.out)
   have KB := hid (show KpP E w (x5.alloc (.cells #[.int .i64 k', .int .i64 a', .int .i64 n', .string x', .int .i64 op', .slice Cl rl el, .slice Cf rf ef] 38)) from (K4.out.trans (h6.mono hk4 (fun _ hk => hk))).trans (.of (AB.out.mono (by have := h6.size; omega))))
   have lrB := hid (lt_blk (blk_below r5 AB.out))
   have AL := hid (alloc_old (w := x5.alloc (.cells #[.int .i64 k', .int .i64 a', .int .i64 n', .string x', .int .i64 op', .slice Cl rl el, .slice Cf rf ef] 38)) (o := .cells #[.int .i64 k, .int .i64 a, .int .i64 n, .string x, .int .i64 op, .slice Al nl cl, .slice Af nf cf, .int .i64 k', .int .i64 a', .int .i64 n', .string x', .int .i64 op', .slice Cl rl el, .slice Cf rf ef] 38))
   obtain ⟨⟨c0, c1, c2', c3, c4, c5, c6⟩, ⟨f0, f1, f2, f3, f4, f5, f6⟩⟩ := cells7 (blk_below (blk_below r5 AB.out) AL.out)
   obtain ⟨⟨a0, a1, a2, a3, a4, a5, a6⟩, _⟩ := cells7 (blk_below q5 AB.out)
   obtain ⟨⟨b0, b1, b2, b3, b4, b5, b6⟩, _⟩ := cells7 aB.out
   clear h3 h4 h5 h6 ht' r5 q5 hk4
   go_wp2
   have EN := two_end (i := (G s).2.i) (kind := 14) (code := 6) X5.out XB.out PB.out hlp.out.1 hlp.out.2 lrB.out KB.out _ rfl
   rw [World.size_alloc] at EN
   refine bodyPost_ret (v := .agg #[.int .i64 14, .int .i64 (E.pl (G s).2.i), .int .i64 0, .string ⟨#[]⟩, .int .i64 6, .slice (some ⟨x5.heap.size + 1, 0, none⟩) 2 2, .slice none 0 0]) (by simp [results, Tryz.results78, go_sem, c0, c1, c2', c3, c4, c5, c6]) rfl ?_
   exact ⟨_, rfl, EN⟩
end Go.Proofs.YtgkejkgailnbmaaGreatDoor
namespace Go.Proofs.YtgkejkgailnbmaaGreatDoor
open Lib (hid)
open Go.ChangeShapes Go.WideShapes Go.ChangeAt Go.RowKit TP
set_option maxRecDepth 100000 in
set_option maxHeartbeats 8000000 in
theorem level_bad (E : Env) (n d : Int) (s : St) (h0 : ¬ s.c = 0) (w : World) (h : PS E w s) : Calls Tryz.prog 68 #[.pointer (some ⟨E.p, 0, none⟩), .int .i64 n, .int .i64 d] w fun e w' => ∃ v, e = .returned v ∧ XR w' (fun i => w.heap.size ≤ i) (T0.map E.gl) v ∧ PS E w' s ∧ KpP E w w' := by
 have A1 := hid (alloc_old (w := w) (o := .cells #[.int .i64 0, .int .i64 0, .int .i64 0, .string ⟨#[]⟩, .int .i64 0, .slice none 0 0, .slice none 0 0] 38))
 have r1 := hid (heap_alloc_new w (.cells #[.int .i64 0, .int .i64 0, .int .i64 0, .string ⟨#[]⟩, .int .i64 0, .slice none 0 0, .slice none 0 0] 38))
 have PA := hid (h.below A1.out)
 obtain ⟨_, _, _, c2, _⟩ := PA.out.cells
 obtain ⟨⟨a0, a1, a2, a3, a4, a5, a6⟩, ⟨f0, f1, f2, f3, f4, f5, f6⟩⟩ := cells7 r1.out
 clear h
 go_enter Tryz.func68, Tryz.ntmps68
 go_wp2
 refine bodyPost_ret (v := .agg #[.int .i64 0, .int .i64 0, .int .i64 0, .string ⟨#[]⟩, .int .i64 0, .slice none 0 0, .slice none 0 0]) (by simp [results, Tryz.results68, go_sem, a0, a1, a2, a3, a4, a5, a6]) rfl ?_
 exact ⟨_, rfl, XR.zero E _ _, PA.out, Kp.of A1.out⟩
set_option maxRecDepth 100000 in
set_option maxHeartbeats 4000000 in
theorem Exp100_is (E : Env) (hE : E.Ok) : ExC E 50 #[.int .i64 100] (fun s => (T0, TP.fail 8 s)) := by
 intro s w hi h
 have A1 := hid (alloc_old (w := w) (o := .cells #[.int .i64 0, .int .i64 0, .int .i64 0, .string ⟨#[]⟩, .int .i64 0, .slice none 0 0, .slice none 0 0] 38))
 have r1 := hid (heap_alloc_new w (.cells #[.int .i64 0, .int .i64 0, .int .i64 0, .string ⟨#[]⟩, .int .i64 0, .slice none 0 0, .slice none 0 0] 38))
 have DP := hid (deep_is E hE s hi 101 _ (h.below A1.out))
 have hlp := hid (And.intro h.lt h.2.1)
 have hf : (TP.fail 8 s).c ≠ 0 ∧ (TP.fail 8 s).i < E.ts.length := by
  unfold TP.fail
  split
  ·exact ⟨(by decide : (8 : Int) ≠ 0), hi⟩
  ·exact ⟨‹_›, hi⟩
 have e1 : (if (101 : Int) > 100 then TP.fail 8 s else s) = TP.fail 8 s := if_pos (by decide)
 rw [e1] at DP
 show Calls _ _ _ _ (fun e w' => ∃ v, e = .returned v ∧ XR w' (fun i => w.heap.size ≤ i) (T0.map E.gl) v ∧ PS E w' (TP.fail 8 s) ∧ KpP E w w')
 have LV := hid (fun X (hX : PS E X (TP.fail 8 s)) => level_bad E 0 101 (TP.fail 8 s) hf.1 X hX)
 clear h hE hi hf e1
 show Calls _ _ #[.pointer (some ⟨E.p, 0, none⟩), .int .i64 100] _ _
 go_enter Tryz.func50, Tryz.ntmps50
 go_wp2_with (first | (go_at_call 45; (with_reducible refine (DP.out).mono ?_); rintro e w1 ⟨rfl, h1, h2⟩; have P1 := hid h1; have K1 := hid h2; have L1 := hid (LV.out _ h1); clear h1 h2) | (go_at_call 68; refine Hid.out ?_))
 refine hid ?_
 refine (L1.out).mono ?_
 rintro e w2 ⟨v, rfl, ⟨k, a, n, x, op, l, f, vl, vf, ht, rfl, h3, h4⟩, h5, h6⟩
 obtain ⟨Al, nl, cl, rfl⟩ := h3.form
 obtain ⟨Af, nf, cf, rfl⟩ := h4.form
 have hz : (w.alloc (.cells #[.int .i64 0, .int .i64 0, .int .i64 0, .string ⟨#[]⟩, .int .i64 0, .slice none 0 0, .slice none 0 0] 38)).heap.size = w.heap.size + 1 := World.size_alloc _ _
 have k1 := K1.out.size
 have hl := hlp.out
 have KW := hid (show KpP E w w2 from ((Kp.of A1.out).trans (K1.out.mono (by omega) (fun _ hk => hk))).trans (h6.mono (by omega) (fun _ hk => hk)))
 have r2 := (h6.block w.heap.size (by omega) (by omega)).trans ((K1.out.block w.heap.size (by omega) (by omega)).trans r1.out)
 have XX := hid (show XR w2 (fun i => w.heap.size + 1 ≤ i) _ _ from XR.keep ⟨k, a, n, x, op, l, f, _, _, ht, rfl, h3, h4⟩ (fun _ _ _ => rfl) (Nat.le_refl _) (fun i (hi : w1.heap.size ≤ i) _ => by omega))
 have PX := hid h5
 obtain ⟨⟨c0, c1, c2, c3, c4, c5, c6⟩, ⟨f0, f1, f2, f3, f4, f5, f6⟩⟩ := cells7 r2
 clear h3 h4 h5 h6 r2 hz k1 LV L1 DP
 go_wp2
 have EN := X_end XX.out PX.out hl.1 hl.2 KW.out
 refine bodyPost_ret (v := .agg #[.int .i64 k, .int .i64 a, .int .i64 n, .string x, .int .i64 op, .slice Al nl cl, .slice Af nf cf]) (by simp [results, Tryz.results50, go_sem, c0, c1, c2, c3, c4, c5, c6]) rfl ?_
 exact ⟨_, rfl, EN⟩
theorem lev0 (E : Env) (hE : E.Ok) (d : Int) (jn : St → R) (hG : TP.Good E.ts jn) (hJ : ExC E 78 #[.int .i64 d] jn) : ExC E 68 #[.int .i64 0, .int .i64 d] (level0 E.ts jn) :=
 level0_is E hE d _ (good_bin hE.ends (good_bin hE.ends (good_pass hG) 2) 1) (level1_is E hE d _ (good_bin hE.ends (good_pass hG) 2) (level2_is E hE d _ (good_pass hG) (level3_is E hE d jn hJ)))
theorem lev4 (E : Env) (hE : E.Ok) (d : Int) (un : St → R) (hG : TP.Good E.ts un) (hU : ExC E 79 #[.int .i64 d] un) : ExC E 68 #[.int .i64 4, .int .i64 d] (bin E.ts (bin E.ts (pass un) 5) 4) :=
 level4_is E hE d _ (good_bin hE.ends (good_pass hG) 5) (level5_is E hE d _ (good_pass hG) (level6_is E hE d un hU))
theorem exp_lt (E : Env) (hE : E.Ok) (d : Int) (hd : 0 ≤ d ∧ d + 1 ≤ 100) (jn : St → R) (hG : TP.Good E.ts jn) (hJ : ExC E 78 #[.int .i64 (d + 1)] jn) : ExC E 50 #[.int .i64 d] (level0 E.ts jn) :=
 Exp_is E hE d ⟨hd.1, by omega⟩ (level0 E.ts jn) (level0 E.ts jn) (fun s => by rw [if_neg (by omega)]) (lev0 E hE (d + 1) jn hG hJ) (fun s hs => by rw [if_neg (by omega)]; exact hs)
end Go.Proofs.YtgkejkgailnbmaaGreatDoor
namespace Go.Proofs.YtgkejkgailnbmaaGreatDoor
open Lib (hid)
open Go.ChangeShapes Go.WideShapes Go.ChangeAt Go.RowKit TP
theorem XR.leaf (w : World) (F : Nat → Prop) (k a n op : Int) (s : ByteArray) : XR w F (.ex k a n s op .nil .nil) (.agg #[.int .i64 k, .int .i64 a, .int .i64 n, .string s, .int .i64 op, .slice none 0 0, .slice none 0 0]) := ⟨k, a, n, s, op, .nil, .nil, _, _, rfl, rfl, .nil, .nil⟩
theorem XR.ec1 {w : World} {F : Nat → Prop} {t : T} {a0 a1 a2 a3 a4 a5 a6 : Value} (h : XR w F t (.agg #[a0, a1, a2, a3, a4, a5, a6])) : EC w F (.cons t .nil) 0 [a0, a1, a2, a3, a4, a5, a6] := by
 obtain ⟨k, a, n, s, op, l, f, vl, vf, rfl, h2, h3, h4⟩ := h
 simp only [Value.agg.injEq, Array.mk.injEq, List.cons.injEq, and_true] at h2
 obtain ⟨rfl, rfl, rfl, rfl, rfl, rfl, rfl⟩ := h2
 exact XR.ec h3 h4
theorem XR.ec2 {w : World} {F : Nat → Prop} {t u : T} {a0 a1 a2 a3 a4 a5 a6 b0 b1 b2 b3 b4 b5 b6 : Value} (h : XR w F t (.agg #[a0, a1, a2, a3, a4, a5, a6])) (k : XR w F u (.agg #[b0, b1, b2, b3, b4, b5, b6])) : EC w F (.cons t (.cons u .nil)) 0 [a0, a1, a2, a3, a4, a5, a6, b0, b1, b2, b3, b4, b5, b6] := EC.snoc h.ec1 k.ec1
theorem XR.of {w : World} {F : Nat → Prop} {l f : T} {vl vf : Value} (k a n op : Int) (s : ByteArray) (h1 : SL w F 0 vl l) (h2 : SL w F 1 vf f) : XR w F (.ex k a n s op l f) (.agg #[.int .i64 k, .int .i64 a, .int .i64 n, .string s, .int .i64 op, vl, vf]) := ⟨k, a, n, s, op, l, f, vl, vf, rfl, rfl, h1, h2⟩
theorem XR.form {w : World} {F : Nat → Prop} {t : T} {v : Value} (h : XR w F t v) : ∃ k a n s op A nl cl B nf cf, v = .agg #[.int .i64 k, .int .i64 a, .int .i64 n, .string s, .int .i64 op, .slice A nl cl, .slice B nf cf] := by
 obtain ⟨k, a, n, s, op, l, f, vl, vf, rfl, rfl, h3, h4⟩ := h
 obtain ⟨A, nl, cl, rfl⟩ := h3.form
 obtain ⟨B, nf, cf, rfl⟩ := h4.form
 exact ⟨_, _, _, _, _, _, _, _, _, _, _, rfl⟩
def BhC (E : Env) (d : Int) (F : T → St → R) : Prop := ∀ (e : T) (v : Value) (s : St) (w : World) (c : Nat), s.i < E.ts.length → PS E w s → E.p < c → c ≤ w.heap.size → XR w (fun i => c ≤ i) (e.map E.gl) v →
 Calls Tryz.prog 72 #[.pointer (some ⟨E.p, 0, none⟩), v, .int .i64 d] w fun e' w' => ∃ v', e' = .returned v' ∧ XR w' (fun i => c ≤ i) ((F e s).1.map E.gl) v' ∧ PS E w' (F e s).2 ∧ KpP E w w'
theorem Fr.start {E : Env} {c : Nat} {w : World} {s : St} {V : List It} (h : PS E w s) (hp : E.p < c) (hc : c ≤ w.heap.size) (hv : ∀ it ∈ V, it.ok w (fun i => c ≤ i)) : Fr E (fun i => i = E.p) c w w s [] V :=
 ⟨h, Kp.refl _ _ _, rfl, hp, hc, h.2.1, fun _ h => (by cases h), fun _ h => (by cases h), List.nodup_nil, fun it hi => It.keep (fun _ _ _ => rfl) (Nat.le_refl _) (fun _ hi _ => ⟨hi, fun _ h => (by cases h)⟩) (hv it hi)⟩
theorem behindLoop_eq (ts : List Tk) (ex : St → R) (f : Nat) (e : T) (s : St) : behindLoop ts ex (f + 1) e s = if s.c ≠ 0 then (e, s)
  else if isT ts (B [46]) s then behindLoop ts ex f (.ex 9 s.i 0 ⟨#[]⟩ 0 (T.of [e, .ex 5 (s.i + 1) 0 (TP.name ts (adv s)).1 0 .nil .nil]) .nil) (TP.name ts (adv s)).2
  else if isT ts (B [91]) s then behindLoop ts ex f (.ex 9 s.i 0 ⟨#[]⟩ 0 (T.of [e, (ex (adv s)).1]) .nil) (TP.take ts (B [93]) (ex (adv s)).2)
  else if isT ts (B [40]) s then behindLoop ts ex f (.ex 10 s.i 0 ⟨#[]⟩ 0 (args ts ex e (adv s)).1 .nil) (args ts ex e (adv s)).2
  else (e, s) := rfl
theorem Fr.litA {E : Env} {Q : Nat → Prop} {c : Nat} {w X : World} {s : St} {L : List (Nat × Obj)} {V : List It} (h : Fr E Q c w X s L V) {kd : Nat} {e : TypeId} {t : T} {n : Nat} {cs : List Value} {b : Nat} (hb : X.heap.size = b) (ht : t ≠ .nil) (hn : t.len = n) (hm : n ≤ maxLen) (hc : EC X (Fp c L) t kd cs) : Fr E Q c w (X.alloc (.cells cs.toArray e)) s L (.s kd t (.slice (some ⟨b, 0, none⟩) n n) :: V) := hb ▸ h.lit ht hn hm hc
theorem Fr.litRA {E : Env} {Q : Nat → Prop} {c : Nat} {w X : World} {s : St} {L : List (Nat × Obj)} {V : List It} (h : Fr E Q c w X s L V) {kd : Nat} {e : TypeId} {t : T} {n : Nat} {cs : List Value} {b : Nat} (hb : X.heap.size = b) (d : Nat) (hd : d ≤ X.heap.size) (ht : t ≠ .nil) (hn : t.len = n) (hm : n ≤ maxLen) (hc : EC X (Fp c L) t kd cs) : Fr E Q c w (X.alloc (.cells cs.toArray e)) s L (.r kd e d t (.slice (some ⟨b, 0, none⟩) n n) :: V) := hb ▸ h.litR d hd ht hn hm hc
theorem map_ex2 (E : Env) (kind op : Int) (i : Nat) (t u : T) : (T.ex kind (i : Int) 0 ⟨#[]⟩ op (T.of [t, u]) .nil).map E.gl = .ex kind (E.pl i) 0 ⟨#[]⟩ op (.cons (t.map E.gl) (.cons (u.map E.gl) .nil)) .nil := by
 rw [← E.gl_nat]
 rfl
theorem map_exl (E : Env) (kind op : Int) (i : Nat) (l : T) : (T.ex kind (i : Int) 0 ⟨#[]⟩ op l .nil).map E.gl = .ex kind (E.pl i) 0 ⟨#[]⟩ op (l.map E.gl) .nil := by
 rw [← E.gl_nat]
 rfl
theorem map_leaf (E : Env) (kind n op : Int) (s : ByteArray) (i : Nat) : (T.ex kind (i : Int) n s op .nil .nil).map E.gl = .ex kind (E.pl i) n s op .nil .nil := by
 rw [← E.gl_nat]
 rfl
theorem map_leaf1 (E : Env) (kind n op : Int) (s : ByteArray) (i : Nat) : (T.ex kind ((i : Int) + 1) n s op .nil .nil).map E.gl = .ex kind (E.pl (i + 1)) n s op .nil .nil := map_leaf E kind n op s (i + 1)
def LB (E : Env) (ex : St → R) (R0 : R) (c : Nat) (w : World) (b4 b6 : Nat) (wr : World) : Prop :=
 ∃ fu t st k a n x op A nl cl B nf cf, E.ts.length + 1 ≤ fu + st.i ∧ behindLoop E.ts ex fu t st = R0 ∧ st.i < E.ts.length ∧
  Fr E (fun i => i = E.p) c w wr st [(b6, .cells #[.int .i64 0, .int .i64 0, .int .i64 0, .string ⟨#[]⟩, .int .i64 0, .slice none 0 0, .slice none 0 0] 38), (b4, .cells #[.int .i64 k, .int .i64 a, .int .i64 n, .string x, .int .i64 op, .slice A nl cl, .slice B nf cf] 38)] [.x (t.map E.gl) (.agg #[.int .i64 k, .int .i64 a, .int .i64 n, .string x, .int .i64 op, .slice A nl cl, .slice B nf cf])]
end Go.Proofs.YtgkejkgailnbmaaGreatDoor
