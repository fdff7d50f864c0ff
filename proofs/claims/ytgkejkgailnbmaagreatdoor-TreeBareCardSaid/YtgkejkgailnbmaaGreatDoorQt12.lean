/- Texts joined: P7 -/
import Derived.Test.YtgkejkgailnbmaaGreatDoorQt6
set_option linter.unusedVariables false
set_option linter.unusedSimpArgs false
namespace Go.Proofs.YtgkejkgailnbmaaGreatDoor
open Lib (hid)
open Go.ChangeShapes Go.WideShapes Go.ChangeAt Go.RowKit TP
theorem XR.one {E : Env} {w : World} {F : Nat → Prop} {kind code : Int} {i b : Nat} {t : T} {v0 v1 v2 v4 : Int} {v3 : ByteArray} {s5 s6 : Value} (hb : F b)
  (hL : w.heap[b]? = some (.cells #[.int .i64 v0, .int .i64 v1, .int .i64 v2, .string v3, .int .i64 v4, s5, s6] 38))
  (h1 : XR w F (t.map E.gl) (.agg #[.int .i64 v0, .int .i64 v1, .int .i64 v2, .string v3, .int .i64 v4, s5, s6])) :
  XR w F ((T.ex kind (i : Int) 0 ⟨#[]⟩ code (T.of [t]) .nil).map E.gl) (.agg #[.int .i64 kind, .int .i64 (E.pl i), .int .i64 0, .string ⟨#[]⟩, .int .i64 code, .slice (some ⟨b, 0, none⟩) 1 1, .slice none 0 0]) := by
 obtain ⟨k2, a2x, n2, s2, op2, l2, f2, vl2, vf2, e1, e2, sl1, sl2⟩ := h1
 obtain ⟨rfl, rfl, rfl, rfl, rfl, rfl, rfl⟩ := agg7 e2
 refine ⟨kind, E.pl i, 0, ⟨#[]⟩, code, .cons (t.map E.gl) .nil, .nil, _, _, ?_, rfl, ?_, .inl ⟨rfl, rfl⟩⟩
 ·rw [← E.gl_nat]
  rfl
 ·refine SL.lit (e := 38) (by intro e; cases e) rfl (by decide) hb hL ?_
  rw [e1]
  exact EC_ex.2 ⟨_, _, [], rfl, sl1, sl2, EC_nil.2 rfl⟩
theorem one_end {E : Env} {w X : World} {s : St} {t : T} {i : Nat} {kind v0 v1 v2 v4 : Int} {v3 : ByteArray} {s5 s6 : Value} (hX : XR X (fun i => w.heap.size + 1 ≤ i) (t.map E.gl) (.agg #[.int .i64 v0, .int .i64 v1, .int .i64 v2, .string v3, .int .i64 v4, s5, s6])) (hP : PS E X s) (hpw : E.p < w.heap.size) (hgw : E.g < w.heap.size) (hr : w.heap.size < X.heap.size) (hK : KpP E w X) (Y : World)
  (hY : Y = (((((((X.setCell ⟨w.heap.size, 0, none⟩ (.int .i64 kind)).setCell ⟨w.heap.size, 1, none⟩ (.int .i64 (E.pl i))).setCell ⟨w.heap.size, 2, none⟩ (.int .i64 0)).setCell ⟨w.heap.size, 3, none⟩ (.string ⟨#[]⟩)).setCell ⟨w.heap.size, 4, none⟩ (.int .i64 0)).setCell ⟨w.heap.size, 5, none⟩ (.slice (some ⟨X.heap.size, 0, none⟩) 1 1)).setCell ⟨w.heap.size, 6, none⟩ (.slice none 0 0)).alloc (.cells #[.int .i64 v0, .int .i64 v1, .int .i64 v2, .string v3, .int .i64 v4, s5, s6] 38)) :
  XR Y (fun i => w.heap.size ≤ i) ((T.ex kind (i : Int) 0 ⟨#[]⟩ 0 (T.of [t]) .nil).map E.gl) (.agg #[.int .i64 kind, .int .i64 (E.pl i), .int .i64 0, .string ⟨#[]⟩, .int .i64 0, .slice (some ⟨X.heap.size, 0, none⟩) 1 1, .slice none 0 0]) ∧ PS E Y s ∧ KpP E w Y := by
 have hsz : (((((((X.setCell ⟨w.heap.size, 0, none⟩ (.int .i64 kind)).setCell ⟨w.heap.size, 1, none⟩ (.int .i64 (E.pl i))).setCell ⟨w.heap.size, 2, none⟩ (.int .i64 0)).setCell ⟨w.heap.size, 3, none⟩ (.string ⟨#[]⟩)).setCell ⟨w.heap.size, 4, none⟩ (.int .i64 0)).setCell ⟨w.heap.size, 5, none⟩ (.slice (some ⟨X.heap.size, 0, none⟩) 1 1)).setCell ⟨w.heap.size, 6, none⟩ (.slice none 0 0)).heap.size = X.heap.size := by simp [World.setCell]
 have hf : ∀ j, j ≠ w.heap.size → (((((((X.setCell ⟨w.heap.size, 0, none⟩ (.int .i64 kind)).setCell ⟨w.heap.size, 1, none⟩ (.int .i64 (E.pl i))).setCell ⟨w.heap.size, 2, none⟩ (.int .i64 0)).setCell ⟨w.heap.size, 3, none⟩ (.string ⟨#[]⟩)).setCell ⟨w.heap.size, 4, none⟩ (.int .i64 0)).setCell ⟨w.heap.size, 5, none⟩ (.slice (some ⟨X.heap.size, 0, none⟩) 1 1)).setCell ⟨w.heap.size, 6, none⟩ (.slice none 0 0)).heap[j]? = X.heap[j]? := fun j hj => Go.Proofs.YtgkejkgailnbmaaGreatDoor.far7 _ _ _ _ _ _ _ hj
 have hP2 := hP.far7 (b := w.heap.size) (by omega) (by omega) (.int .i64 kind) (.int .i64 (E.pl i)) (.int .i64 0) (.string ⟨#[]⟩) (.int .i64 0) (.slice (some ⟨X.heap.size, 0, none⟩) 1 1) (.slice none 0 0)
 have hK2 := Kp.set7 (b := w.heap.size) hK (by omega) (.int .i64 kind) (.int .i64 (E.pl i)) (.int .i64 0) (.string ⟨#[]⟩) (.int .i64 0) (.slice (some ⟨X.heap.size, 0, none⟩) 1 1) (.slice none 0 0)
 generalize (((((((X.setCell ⟨w.heap.size, 0, none⟩ (.int .i64 kind)).setCell ⟨w.heap.size, 1, none⟩ (.int .i64 (E.pl i))).setCell ⟨w.heap.size, 2, none⟩ (.int .i64 0)).setCell ⟨w.heap.size, 3, none⟩ (.string ⟨#[]⟩)).setCell ⟨w.heap.size, 4, none⟩ (.int .i64 0)).setCell ⟨w.heap.size, 5, none⟩ (.slice (some ⟨X.heap.size, 0, none⟩) 1 1)).setCell ⟨w.heap.size, 6, none⟩ (.slice none 0 0)) = Z at hY hsz hf hP2 hK2
 subst hY
 have nL := heap_alloc_new Z (.cells #[.int .i64 v0, .int .i64 v1, .int .i64 v2, .string v3, .int .i64 v4, s5, s6] 38)
 rw [hsz] at nL
 have AL := alloc_old (w := Z) (o := .cells #[.int .i64 v0, .int .i64 v1, .int .i64 v2, .string v3, .int .i64 v4, s5, s6] 38)
 refine ⟨XR.one (by show w.heap.size ≤ X.heap.size; omega) nL (hX.keep (fun j hj hl => (AL.block j (by omega)).trans (hf j (by omega))) (by rw [World.size_alloc]; omega) (fun j hj _ => by omega)), hP2.below AL, hK2.trans (.of (AL.mono (by omega)))⟩
theorem opt_no (E : Env) (hE : E.Ok) (s : St) (hi : s.i < E.ts.length) (x : ByteArray) (hb : isT E.ts x s = false) (w : World) (h : PS E w s) : Calls Tryz.prog 48 #[.pointer (some ⟨E.p, 0, none⟩), .string x] w fun e w' => e = .returned (.bool false) ∧ PS E w' s ∧ KpP E w w' := by
 have := opt_is E hE s hi x w h
 unfold optS at this
 rw [hb] at this
 exact this
theorem opt_yes (E : Env) (hE : E.Ok) (s : St) (hi : s.i < E.ts.length) (x : ByteArray) (hb : isT E.ts x s = true) (w : World) (h : PS E w s) : Calls Tryz.prog 48 #[.pointer (some ⟨E.p, 0, none⟩), .string x] w fun e w' => e = .returned (.bool true) ∧ PS E w' (adv s) ∧ KpP E w w' := by
 have := opt_is E hE s hi x w h
 unfold optS at this
 rw [hb] at this
 exact this
def goS (un : Option (St → R)) (kind : Int) (s : St) : R :=
 match un with
 | none => (T0, TP.fail 8 (adv s))
 | some u => (.ex kind s.i 0 ⟨#[]⟩ 0 (T.of [(u (adv s)).1]) .nil, (u (adv s)).2)
theorem unary_1 {ts : List Tk} {ex bl : St → R} {un : Option (St → R)} {s : St} (h : isT ts (B [110, 111, 116]) s = true) : unary ts ex bl un s = goS un 11 s := by
 unfold unary goS
 simp only [h, if_true]
 cases un <;> rfl
theorem unary_2 {ts : List Tk} {ex bl : St → R} {un : Option (St → R)} {s : St} (h1 : isT ts (B [110, 111, 116]) s = false) (h : isT ts (B [45]) s = true) : unary ts ex bl un s = goS un 12 s := by
 unfold unary goS
 simp only [h1, h, if_true, Bool.false_eq_true, if_false]
 cases un <;> rfl
theorem unary_3 {ts : List Tk} {ex bl : St → R} {un : Option (St → R)} {s : St} (h1 : isT ts (B [110, 111, 116]) s = false) (h2 : isT ts (B [45]) s = false) (h : isT ts (B [35]) s = true) : unary ts ex bl un s = goS un 13 s := by
 unfold unary goS
 simp only [h1, h2, h, if_true, Bool.false_eq_true, if_false]
 cases un <;> rfl
theorem unary_4 {ts : List Tk} {ex bl : St → R} {un : Option (St → R)} {s : St} (h1 : isT ts (B [110, 111, 116]) s = false) (h2 : isT ts (B [45]) s = false) (h3 : isT ts (B [35]) s = false) : unary ts ex bl un s = post ts ex bl s := by
 unfold unary
 simp only [h1, h2, h3, Bool.false_eq_true, if_false]
set_option maxRecDepth 100000 in
set_option maxHeartbeats 8000000 in
theorem unary_is (E : Env) (hE : E.Ok) (d : Int) (hd : 0 ≤ d ∧ d ≤ 100) (ex bl : St → R) (un : Option (St → R)) (hPO : ExC E 101 #[.int .i64 d] (post E.ts ex bl)) (hU : ∀ u, un = some u → d + 1 ≤ 100 ∧ ExC E 79 #[.int .i64 (d + 1)] u) (hN : un = none → d = 100) : ExC E 79 #[.int .i64 d] (unary E.ts ex bl un) := by
 intro s w hi h
 have A1 := hid (alloc_old (w := w) (o := .cells #[.int .i64 0, .int .i64 0, .int .i64 0, .string ⟨#[]⟩, .int .i64 0, .slice none 0 0, .slice none 0 0] 38))
 have r1 := hid (heap_alloc_new w (.cells #[.int .i64 0, .int .i64 0, .int .i64 0, .string ⟨#[]⟩, .int .i64 0, .slice none 0 0, .slice none 0 0] 38))
 have hlp := hid (And.intro h.lt h.2.1)
 have PL := hid (place_is E s hi _ (h.below A1.out))
 cases b1 : isT E.ts (B [110, 111, 116]) s with
 | true =>
  rw [unary_1 b1]
  have O1 := hid (fun X (hX : PS E X s) => opt_yes E hE s hi (B [110, 111, 116]) b1 X hX)
  have hA := hid (is_adv hE.ends hi b1)
  have c0 : s.c = 0 := (isT_kind b1).1
  have DP := hid (fun X (hX : PS E X (adv s)) => deep_is E hE (adv s) hA.out.2.1 (d + 1) X hX)
  clear b1
  cases un with
  | none =>
   have hd1 : d = 100 := hN rfl
   subst hd1
   have DP := hid (fun X (hX : PS E X (adv s)) => deep_is E hE (adv s) hA.out.2.1 101 X hX)
   have e1 : (if (101 : Int) > 100 then TP.fail 8 (adv s) else adv s) = TP.fail 8 (adv s) := if_pos (by decide)
   have e2 : (TP.fail 8 (adv s)).c = 8 := by unfold TP.fail; rw [if_pos (show (adv s).c = 0 from c0)]
   rw [e1] at DP
   have E2 := hid e2
   show Calls _ _ _ _ (fun e w' => ∃ v, e = .returned v ∧ XR w' (fun i => w.heap.size ≤ i) (T0.map E.gl) v ∧ PS E w' (TP.fail 8 (adv s)) ∧ KpP E w w')
   clear hE hi hPO hU hN e1 e2 c0 h
   show Calls _ _ #[.pointer (some ⟨E.p, 0, none⟩), .int .i64 100] _ _
   go_enter Tryz.func79, Tryz.ntmps79
   go_wp2_with (first | (go_at_call 47; (with_reducible refine (PL.out).mono ?_); rintro e x0 ⟨rfl, h1, h2⟩; have P0 := hid h1; have K0 := hid (show KpP E w x0 from Kp.of (A1.out.trans (h2.mono (Below.size A1.out)))); have R0 := hid (blk_below r1.out h2); clear h1 h2) | (go_at_call 48; (with_reducible refine (O1.out _ P0.out).mono ?_); rintro e x1 ⟨rfl, h1, h2⟩; have P1 := hid h1; have K1 := hid (show KpP E w x1 from K0.out.trans (h2.mono K0.out.size (fun _ hk => hk))); have R1 := hid ((h2.block w.heap.size (lt_blk R0.out) (by have := hlp.out; omega)).trans R0.out); clear h1 h2) | (go_at_call 45; (with_reducible refine (DP.out _ P1.out).mono ?_); rintro e y1 ⟨rfl, h1, h2⟩; have Q1 := hid h1; have KQ := hid (show KpP E w y1 from K1.out.trans (h2.mono K1.out.size (fun _ hk => hk))); have RQ := (h2.block w.heap.size (lt_blk R1.out) (by have := hlp.out; omega)).trans R1.out; obtain ⟨_, _, _, c2, _⟩ := h1.cells; rw [E2.out] at c2; obtain ⟨⟨a0, a1, a2, a3, a4, a5, a6⟩, ⟨f0, f1, f2, f3, f4, f5, f6⟩⟩ := cells7 RQ; clear RQ h1 h2))
   have EN := X_end (XR.zero E y1 (fun i => w.heap.size + 1 ≤ i)) Q1.out hlp.out.1 hlp.out.2 KQ.out
   refine bodyPost_ret (v := .agg #[.int .i64 0, .int .i64 0, .int .i64 0, .string ⟨#[]⟩, .int .i64 0, .slice none 0 0, .slice none 0 0]) (by simp [results, Tryz.results79, go_sem, a0, a1, a2, a3, a4, a5, a6]) rfl ?_
   exact ⟨_, rfl, EN⟩
  | some u =>
   obtain ⟨hd1, hUu⟩ := hU u rfl
   have e1 : (if d + 1 > 100 then TP.fail 8 (adv s) else adv s) = adv s := if_neg (by omega)
   rw [e1] at DP
   have wr1 : IntKind.i64.wrap (d + 1) = d + 1 := by rw [IntKind.wrap_i64]; omega
   have wr2 : wrap64 (d + 1) = d + 1 := by unfold wrap64; omega
   have C0 := hid (show (adv s).c = 0 from c0)
   have UC := hid (fun X (hX : PS E X (adv s)) => hUu (adv s) X hA.out.2.1 hX)
   clear hE hi hPO hU hN e1 c0 h hUu hd1
   show Calls _ _ #[.pointer (some ⟨E.p, 0, none⟩), .int .i64 d] _ _
   go_enter Tryz.func79, Tryz.ntmps79
   go_wp2_with (first | (go_at_call 47; (with_reducible refine (PL.out).mono ?_); rintro e x0 ⟨rfl, h1, h2⟩; have P0 := hid h1; have K0 := hid (show KpP E w x0 from Kp.of (A1.out.trans (h2.mono (Below.size A1.out)))); have R0 := hid (blk_below r1.out h2); clear h1 h2) | (go_at_call 48; (with_reducible refine (O1.out _ P0.out).mono ?_); rintro e x1 ⟨rfl, h1, h2⟩; have P1 := hid h1; have K1 := hid (show KpP E w x1 from K0.out.trans (h2.mono K0.out.size (fun _ hk => hk))); have R1 := hid ((h2.block w.heap.size (lt_blk R0.out) (by have := hlp.out; omega)).trans R0.out); clear h1 h2) | (go_at_call 45; (with_reducible refine (DP.out _ P1.out).mono ?_); rintro e y1 ⟨rfl, h1, h2⟩; have Q1 := hid h1; have KQ := hid (show KpP E w y1 from K1.out.trans (h2.mono K1.out.size (fun _ hk => hk))); have RQ := hid ((h2.block w.heap.size (lt_blk R1.out) (by have := hlp.out; omega)).trans R1.out); obtain ⟨_, _, _, c2, _⟩ := h1.cells; rw [C0.out] at c2; clear h1 h2) | (go_at_call 79; refine Hid.out ?_))
   refine hid ?_
   refine (UC.out _ Q1.out).mono ?_
   rintro e w2 ⟨v, rfl, ⟨k, a, n, x, op, l, f, vl, vf, ht, rfl, h3, h4⟩, h5, h6⟩
   obtain ⟨Al, nl, cl, rfl⟩ := h3.form
   obtain ⟨Af, nf, cf, rfl⟩ := h4.form
   have r2 := (h6.block w.heap.size (lt_blk RQ.out) (by have := hlp.out; omega)).trans RQ.out
   have LO : Obj := .cells #[.int .i64 k, .int .i64 a, .int .i64 n, .string x, .int .i64 op, .slice Al nl cl, .slice Af nf cf] 38
   obtain ⟨⟨c0, c1, c2, c3, c4, c5, c6⟩, ⟨f0, f1, f2, f3, f4, f5, f6⟩⟩ := cells7 r2
   have lr2 := lt_blk r2
   have XA := hid (show XR w2 (fun i => w.heap.size + 1 ≤ i) ((u (adv s)).1.map E.gl) _ from XR.keep ⟨k, a, n, x, op, l, f, _, _, ht, rfl, h3, h4⟩ (fun _ _ _ => rfl) (Nat.le_refl _) (fun i (hi : y1.heap.size ≤ i) _ => by have := lt_blk RQ.out; omega))
   have PA := hid h5
   have KA := hid (show KpP E w w2 from KQ.out.trans (h6.mono KQ.out.size (fun _ hk => hk)))
   clear h3 h4 h5 h6 ht LO r2
   go_wp2
   have EN := one_end (i := s.i) (kind := 11) XA.out PA.out hlp.out.1 hlp.out.2 lr2 KA.out _ rfl
   refine bodyPost_ret (v := .agg #[.int .i64 11, .int .i64 (E.pl s.i), .int .i64 0, .string ⟨#[]⟩, .int .i64 0, .slice (some ⟨w2.heap.size, 0, none⟩) 1 1, .slice none 0 0]) (by simp [results, Tryz.results79, go_sem, c0, c1, c2, c3, c4, c5, c6, lr2]) rfl ?_
   exact ⟨_, rfl, EN⟩
 | false =>
  cases b2 : isT E.ts (B [45]) s with
  | true =>
   rw [unary_2 b1 b2]
   have O1 := hid (fun X (hX : PS E X s) => opt_no E hE s hi (B [110, 111, 116]) b1 X hX)
   have O2 := hid (fun X (hX : PS E X s) => opt_yes E hE s hi (B [45]) b2 X hX)
   have hA := hid (is_adv hE.ends hi b2)
   have c0 : s.c = 0 := (isT_kind b2).1
   have DP := hid (fun X (hX : PS E X (adv s)) => deep_is E hE (adv s) hA.out.2.1 (d + 1) X hX)
   clear b1 b2
   cases un with
   | none =>
    have hd1 : d = 100 := hN rfl
    subst hd1
    have DP := hid (fun X (hX : PS E X (adv s)) => deep_is E hE (adv s) hA.out.2.1 101 X hX)
    have e1 : (if (101 : Int) > 100 then TP.fail 8 (adv s) else adv s) = TP.fail 8 (adv s) := if_pos (by decide)
    have e2 : (TP.fail 8 (adv s)).c = 8 := by unfold TP.fail; rw [if_pos (show (adv s).c = 0 from c0)]
    rw [e1] at DP
    have E2 := hid e2
    show Calls _ _ _ _ (fun e w' => ∃ v, e = .returned v ∧ XR w' (fun i => w.heap.size ≤ i) (T0.map E.gl) v ∧ PS E w' (TP.fail 8 (adv s)) ∧ KpP E w w')
    clear hE hi hPO hU hN e1 e2 c0 h
    show Calls _ _ #[.pointer (some ⟨E.p, 0, none⟩), .int .i64 100] _ _
    go_enter Tryz.func79, Tryz.ntmps79
    go_wp2_with (first | (go_at_call 47; (with_reducible refine (PL.out).mono ?_); rintro e x0 ⟨rfl, h1, h2⟩; have P0 := hid h1; have K0 := hid (show KpP E w x0 from Kp.of (A1.out.trans (h2.mono (Below.size A1.out)))); have R0 := hid (blk_below r1.out h2); clear h1 h2) | (go_at_call 48; (with_reducible refine (O1.out _ P0.out).mono ?_); rintro e x1 ⟨rfl, h1, h2⟩; have P1 := hid h1; have K1 := hid (show KpP E w x1 from K0.out.trans (h2.mono K0.out.size (fun _ hk => hk))); have R1 := hid ((h2.block w.heap.size (lt_blk R0.out) (by have := hlp.out; omega)).trans R0.out); clear h1 h2) | (go_at_call 48; (with_reducible refine (O2.out _ P1.out).mono ?_); rintro e x2 ⟨rfl, h1, h2⟩; have P2 := hid h1; have K2 := hid (show KpP E w x2 from K1.out.trans (h2.mono K1.out.size (fun _ hk => hk))); have R2 := hid ((h2.block w.heap.size (lt_blk R1.out) (by have := hlp.out; omega)).trans R1.out); clear h1 h2) | (go_at_call 45; (with_reducible refine (DP.out _ P2.out).mono ?_); rintro e y1 ⟨rfl, h1, h2⟩; have Q1 := hid h1; have KQ := hid (show KpP E w y1 from K2.out.trans (h2.mono K2.out.size (fun _ hk => hk))); have RQ := (h2.block w.heap.size (lt_blk R2.out) (by have := hlp.out; omega)).trans R2.out; obtain ⟨_, _, _, c2, _⟩ := h1.cells; rw [E2.out] at c2; obtain ⟨⟨a0, a1, a2, a3, a4, a5, a6⟩, ⟨f0, f1, f2, f3, f4, f5, f6⟩⟩ := cells7 RQ; clear RQ h1 h2))
    have EN := X_end (XR.zero E y1 (fun i => w.heap.size + 1 ≤ i)) Q1.out hlp.out.1 hlp.out.2 KQ.out
    refine bodyPost_ret (v := .agg #[.int .i64 0, .int .i64 0, .int .i64 0, .string ⟨#[]⟩, .int .i64 0, .slice none 0 0, .slice none 0 0]) (by simp [results, Tryz.results79, go_sem, a0, a1, a2, a3, a4, a5, a6]) rfl ?_
    exact ⟨_, rfl, EN⟩
   | some u =>
    obtain ⟨hd1, hUu⟩ := hU u rfl
    have e1 : (if d + 1 > 100 then TP.fail 8 (adv s) else adv s) = adv s := if_neg (by omega)
    rw [e1] at DP
    have wr1 : IntKind.i64.wrap (d + 1) = d + 1 := by rw [IntKind.wrap_i64]; omega
    have wr2 : wrap64 (d + 1) = d + 1 := by unfold wrap64; omega
    have C0 := hid (show (adv s).c = 0 from c0)
    have UC := hid (fun X (hX : PS E X (adv s)) => hUu (adv s) X hA.out.2.1 hX)
    clear hE hi hPO hU hN e1 c0 h hUu hd1
    show Calls _ _ #[.pointer (some ⟨E.p, 0, none⟩), .int .i64 d] _ _
    go_enter Tryz.func79, Tryz.ntmps79
    go_wp2_with (first | (go_at_call 47; (with_reducible refine (PL.out).mono ?_); rintro e x0 ⟨rfl, h1, h2⟩; have P0 := hid h1; have K0 := hid (show KpP E w x0 from Kp.of (A1.out.trans (h2.mono (Below.size A1.out)))); have R0 := hid (blk_below r1.out h2); clear h1 h2) | (go_at_call 48; (with_reducible refine (O1.out _ P0.out).mono ?_); rintro e x1 ⟨rfl, h1, h2⟩; have P1 := hid h1; have K1 := hid (show KpP E w x1 from K0.out.trans (h2.mono K0.out.size (fun _ hk => hk))); have R1 := hid ((h2.block w.heap.size (lt_blk R0.out) (by have := hlp.out; omega)).trans R0.out); clear h1 h2) | (go_at_call 48; (with_reducible refine (O2.out _ P1.out).mono ?_); rintro e x2 ⟨rfl, h1, h2⟩; have P2 := hid h1; have K2 := hid (show KpP E w x2 from K1.out.trans (h2.mono K1.out.size (fun _ hk => hk))); have R2 := hid ((h2.block w.heap.size (lt_blk R1.out) (by have := hlp.out; omega)).trans R1.out); clear h1 h2) | (go_at_call 45; (with_reducible refine (DP.out _ P2.out).mono ?_); rintro e y1 ⟨rfl, h1, h2⟩; have Q1 := hid h1; have KQ := hid (show KpP E w y1 from K2.out.trans (h2.mono K2.out.size (fun _ hk => hk))); have RQ := hid ((h2.block w.heap.size (lt_blk R2.out) (by have := hlp.out; omega)).trans R2.out); obtain ⟨_, _, _, c2, _⟩ := h1.cells; rw [C0.out] at c2; clear h1 h2) | (go_at_call 79; refine Hid.out ?_))
    refine hid ?_
    refine (UC.out _ Q1.out).mono ?_
    rintro e w2 ⟨v, rfl, ⟨k, a, n, x, op, l, f, vl, vf, ht, rfl, h3, h4⟩, h5, h6⟩
    obtain ⟨Al, nl, cl, rfl⟩ := h3.form
    obtain ⟨Af, nf, cf, rfl⟩ := h4.form
    have r2 := (h6.block w.heap.size (lt_blk RQ.out) (by have := hlp.out; omega)).trans RQ.out
    have LO : Obj := .cells #[.int .i64 k, .int .i64 a, .int .i64 n, .string x, .int .i64 op, .slice Al nl cl, .slice Af nf cf] 38
    obtain ⟨⟨c0, c1, c2, c3, c4, c5, c6⟩, ⟨f0, f1, f2, f3, f4, f5, f6⟩⟩ := cells7 r2
    have lr2 := lt_blk r2
    have XA := hid (show XR w2 (fun i => w.heap.size + 1 ≤ i) ((u (adv s)).1.map E.gl) _ from XR.keep ⟨k, a, n, x, op, l, f, _, _, ht, rfl, h3, h4⟩ (fun _ _ _ => rfl) (Nat.le_refl _) (fun i (hi : y1.heap.size ≤ i) _ => by have := lt_blk RQ.out; omega))
    have PA := hid h5
    have KA := hid (show KpP E w w2 from KQ.out.trans (h6.mono KQ.out.size (fun _ hk => hk)))
    clear h3 h4 h5 h6 ht LO r2
    go_wp2
    have EN := one_end (i := s.i) (kind := 12) XA.out PA.out hlp.out.1 hlp.out.2 lr2 KA.out _ rfl
    refine bodyPost_ret (v := .agg #[.int .i64 12, .int .i64 (E.pl s.i), .int .i64 0, .string ⟨#[]⟩, .int .i64 0, .slice (some ⟨w2.heap.size, 0, none⟩) 1 1, .slice none 0 0]) (by simp [results, Tryz.results79, go_sem, c0, c1, c2, c3, c4, c5, c6, lr2]) rfl ?_
    exact ⟨_, rfl, EN⟩
  | false =>
   cases b3 : isT E.ts (B [35]) s with
   | true =>
    rw [unary_3 b1 b2 b3]
    have O1 := hid (fun X (hX : PS E X s) => opt_no E hE s hi (B [110, 111, 116]) b1 X hX)
    have O2 := hid (fun X (hX : PS E X s) => opt_no E hE s hi (B [45]) b2 X hX)
    have O3 := hid (fun X (hX : PS E X s) => opt_yes E hE s hi (B [35]) b3 X hX)
    have hA := hid (is_adv hE.ends hi b3)
    have c0 : s.c = 0 := (isT_kind b3).1
    have DP := hid (fun X (hX : PS E X (adv s)) => deep_is E hE (adv s) hA.out.2.1 (d + 1) X hX)
    clear b1 b2 b3
    cases un with
    | none =>
     have hd1 : d = 100 := hN rfl
     subst hd1
     have DP := hid (fun X (hX : PS E X (adv s)) => deep_is E hE (adv s) hA.out.2.1 101 X hX)
     have e1 : (if (101 : Int) > 100 then TP.fail 8 (adv s) else adv s) = TP.fail 8 (adv s) := if_pos (by decide)
     have e2 : (TP.fail 8 (adv s)).c = 8 := by unfold TP.fail; rw [if_pos (show (adv s).c = 0 from c0)]
     rw [e1] at DP
     have E2 := hid e2
     show Calls _ _ _ _ (fun e w' => ∃ v, e = .returned v ∧ XR w' (fun i => w.heap.size ≤ i) (T0.map E.gl) v ∧ PS E w' (TP.fail 8 (adv s)) ∧ KpP E w w')
     clear hE hi hPO hU hN e1 e2 c0 h
     show Calls _ _ #[.pointer (some ⟨E.p, 0, none⟩), .int .i64 100] _ _
     go_enter Tryz.func79, Tryz.ntmps79
     go_wp2_with (first | (go_at_call 47; (with_reducible refine (PL.out).mono ?_); rintro e x0 ⟨rfl, h1, h2⟩; have P0 := hid h1; have K0 := hid (show KpP E w x0 from Kp.of (A1.out.trans (h2.mono (Below.size A1.out)))); have R0 := hid (blk_below r1.out h2); clear h1 h2) | (go_at_call 48; (with_reducible refine (O1.out _ P0.out).mono ?_); rintro e x1 ⟨rfl, h1, h2⟩; have P1 := hid h1; have K1 := hid (show KpP E w x1 from K0.out.trans (h2.mono K0.out.size (fun _ hk => hk))); have R1 := hid ((h2.block w.heap.size (lt_blk R0.out) (by have := hlp.out; omega)).trans R0.out); clear h1 h2) | (go_at_call 48; (with_reducible refine (O2.out _ P1.out).mono ?_); rintro e x2 ⟨rfl, h1, h2⟩; have P2 := hid h1; have K2 := hid (show KpP E w x2 from K1.out.trans (h2.mono K1.out.size (fun _ hk => hk))); have R2 := hid ((h2.block w.heap.size (lt_blk R1.out) (by have := hlp.out; omega)).trans R1.out); clear h1 h2) | (go_at_call 48; (with_reducible refine (O3.out _ P2.out).mono ?_); rintro e x3 ⟨rfl, h1, h2⟩; have P3 := hid h1; have K3 := hid (show KpP E w x3 from K2.out.trans (h2.mono K2.out.size (fun _ hk => hk))); have R3 := hid ((h2.block w.heap.size (lt_blk R2.out) (by have := hlp.out; omega)).trans R2.out); clear h1 h2) | (go_at_call 45; (with_reducible refine (DP.out _ P3.out).mono ?_); rintro e y1 ⟨rfl, h1, h2⟩; have Q1 := hid h1; have KQ := hid (show KpP E w y1 from K3.out.trans (h2.mono K3.out.size (fun _ hk => hk))); have RQ := (h2.block w.heap.size (lt_blk R3.out) (by have := hlp.out; omega)).trans R3.out; obtain ⟨_, _, _, c2, _⟩ := h1.cells; rw [E2.out] at c2; obtain ⟨⟨a0, a1, a2, a3, a4, a5, a6⟩, ⟨f0, f1, f2, f3, f4, f5, f6⟩⟩ := cells7 RQ; clear RQ h1 h2))
     have EN := X_end (XR.zero E y1 (fun i => w.heap.size + 1 ≤ i)) Q1.out hlp.out.1 hlp.out.2 KQ.out
     refine bodyPost_ret (v := .agg #[.int .i64 0, .int .i64 0, .int .i64 0, .string ⟨#[]⟩, .int .i64 0, .slice none 0 0, .slice none 0 0]) (by simp [results, Tryz.results79, go_sem, a0, a1, a2, a3, a4, a5, a6]) rfl ?_
     exact ⟨_, rfl, EN⟩
    | some u =>
     obtain ⟨hd1, hUu⟩ := hU u rfl
     have e1 : (if d + 1 > 100 then TP.fail 8 (adv s) else adv s) = adv s := if_neg (by omega)
     rw [e1] at DP
     have wr1 : IntKind.i64.wrap (d + 1) = d + 1 := by rw [IntKind.wrap_i64]; omega
     have wr2 : wrap64 (d + 1) = d + 1 := by unfold wrap64; omega
     have C0 := hid (show (adv s).c = 0 from c0)
     have UC := hid (fun X (hX : PS E X (adv s)) => hUu (adv s) X hA.out.2.1 hX)
     clear hE hi hPO hU hN e1 c0 h hUu hd1
     show Calls _ _ #[.pointer (some ⟨E.p, 0, none⟩), .int .i64 d] _ _
     go_enter Tryz.func79, Tryz.ntmps79
     go_wp2_with (first | (go_at_call 47; (with_reducible refine (PL.out).mono ?_); rintro e x0 ⟨rfl, h1, h2⟩; have P0 := hid h1; have K0 := hid (show KpP E w x0 from Kp.of (A1.out.trans (h2.mono (Below.size A1.out)))); have R0 := hid (blk_below r1.out h2); clear h1 h2) | (go_at_call 48; (with_reducible refine (O1.out _ P0.out).mono ?_); rintro e x1 ⟨rfl, h1, h2⟩; have P1 := hid h1; have K1 := hid (show KpP E w x1 from K0.out.trans (h2.mono K0.out.size (fun _ hk => hk))); have R1 := hid ((h2.block w.heap.size (lt_blk R0.out) (by have := hlp.out; omega)).trans R0.out); clear h1 h2) | (go_at_call 48; (with_reducible refine (O2.out _ P1.out).mono ?_); rintro e x2 ⟨rfl, h1, h2⟩; have P2 := hid h1; have K2 := hid (show KpP E w x2 from K1.out.trans (h2.mono K1.out.size (fun _ hk => hk))); have R2 := hid ((h2.block w.heap.size (lt_blk R1.out) (by have := hlp.out; omega)).trans R1.out); clear h1 h2) | (go_at_call 48; (with_reducible refine (O3.out _ P2.out).mono ?_); rintro e x3 ⟨rfl, h1, h2⟩; have P3 := hid h1; have K3 := hid (show KpP E w x3 from K2.out.trans (h2.mono K2.out.size (fun _ hk => hk))); have R3 := hid ((h2.block w.heap.size (lt_blk R2.out) (by have := hlp.out; omega)).trans R2.out); clear h1 h2) | (go_at_call 45; (with_reducible refine (DP.out _ P3.out).mono ?_); rintro e y1 ⟨rfl, h1, h2⟩; have Q1 := hid h1; have KQ := hid (show KpP E w y1 from K3.out.trans (h2.mono K3.out.size (fun _ hk => hk))); have RQ := hid ((h2.block w.heap.size (lt_blk R3.out) (by have := hlp.out; omega)).trans R3.out); obtain ⟨_, _, _, c2, _⟩ := h1.cells; rw [C0.out] at c2; clear h1 h2) | (go_at_call 79; refine Hid.out ?_))
     refine hid ?_
     refine (UC.out _ Q1.out).mono ?_
     rintro e w2 ⟨v, rfl, ⟨k, a, n, x, op, l, f, vl, vf, ht, rfl, h3, h4⟩, h5, h6⟩
     obtain ⟨Al, nl, cl, rfl⟩ := h3.form
     obtain ⟨Af, nf, cf, rfl⟩ := h4.form
     have r2 := (h6.block w.heap.size (lt_blk RQ.out) (by have := hlp.out; omega)).trans RQ.out
     have LO : Obj := .cells #[.int .i64 k, .int .i64 a, .int .i64 n, .string x, .int .i64 op, .slice Al nl cl, .slice Af nf cf] 38
     obtain ⟨⟨c0, c1, c2, c3, c4, c5, c6⟩, ⟨f0, f1, f2, f3, f4, f5, f6⟩⟩ := cells7 r2
     have lr2 := lt_blk r2
     have XA := hid (show XR w2 (fun i => w.heap.size + 1 ≤ i) ((u (adv s)).1.map E.gl) _ from XR.keep ⟨k, a, n, x, op, l, f, _, _, ht, rfl, h3, h4⟩ (fun _ _ _ => rfl) (Nat.le_refl _) (fun i (hi : y1.heap.size ≤ i) _ => by have := lt_blk RQ.out; omega))
     have PA := hid h5
     have KA := hid (show KpP E w w2 from KQ.out.trans (h6.mono KQ.out.size (fun _ hk => hk)))
     clear h3 h4 h5 h6 ht LO r2
     go_wp2
     have EN := one_end (i := s.i) (kind := 13) XA.out PA.out hlp.out.1 hlp.out.2 lr2 KA.out _ rfl
     refine bodyPost_ret (v := .agg #[.int .i64 13, .int .i64 (E.pl s.i), .int .i64 0, .string ⟨#[]⟩, .int .i64 0, .slice (some ⟨w2.heap.size, 0, none⟩) 1 1, .slice none 0 0]) (by simp [results, Tryz.results79, go_sem, c0, c1, c2, c3, c4, c5, c6, lr2]) rfl ?_
     exact ⟨_, rfl, EN⟩
   | false =>
    rw [unary_4 b1 b2 b3]
    have O1 := hid (fun X (hX : PS E X s) => opt_no E hE s hi (B [110, 111, 116]) b1 X hX)
    have O2 := hid (fun X (hX : PS E X s) => opt_no E hE s hi (B [45]) b2 X hX)
    have O3 := hid (fun X (hX : PS E X s) => opt_no E hE s hi (B [35]) b3 X hX)
    have PO := hid (fun X (hX : PS E X s) => hPO s X hi hX)
    clear hE hi hPO hU hN h b1 b2 b3
    show Calls _ _ #[.pointer (some ⟨E.p, 0, none⟩), .int .i64 d] _ _
    go_enter Tryz.func79, Tryz.ntmps79
    go_wp2_with (first | (go_at_call 47; (with_reducible refine (PL.out).mono ?_); rintro e x0 ⟨rfl, h1, h2⟩; have P0 := hid h1; have K0 := hid (show KpP E w x0 from Kp.of (A1.out.trans (h2.mono (Below.size A1.out)))); have R0 := hid (blk_below r1.out h2); clear h1 h2) | (go_at_call 48; (with_reducible refine (O1.out _ P0.out).mono ?_); rintro e x1 ⟨rfl, h1, h2⟩; have P1 := hid h1; have K1 := hid (show KpP E w x1 from K0.out.trans (h2.mono K0.out.size (fun _ hk => hk))); have R1 := hid ((h2.block w.heap.size (lt_blk R0.out) (by have := hlp.out; omega)).trans R0.out); clear h1 h2) | (go_at_call 48; (with_reducible refine (O2.out _ P1.out).mono ?_); rintro e x2 ⟨rfl, h1, h2⟩; have P2 := hid h1; have K2 := hid (show KpP E w x2 from K1.out.trans (h2.mono K1.out.size (fun _ hk => hk))); have R2 := hid ((h2.block w.heap.size (lt_blk R1.out) (by have := hlp.out; omega)).trans R1.out); clear h1 h2) | (go_at_call 48; (with_reducible refine (O3.out _ P2.out).mono ?_); rintro e x3 ⟨rfl, h1, h2⟩; have P3 := hid h1; have K3 := hid (show KpP E w x3 from K2.out.trans (h2.mono K2.out.size (fun _ hk => hk))); have R3 := hid ((h2.block w.heap.size (lt_blk R2.out) (by have := hlp.out; omega)).trans R2.out); clear h1 h2) | (go_at_call 101; refine Hid.out ?_))
    refine hid ?_
    refine (PO.out _ P3.out).mono ?_
    rintro e w2 ⟨v, rfl, ⟨k, a, n, x, op, l, f, vl, vf, ht, rfl, h3, h4⟩, h5, h6⟩
    obtain ⟨Al, nl, cl, rfl⟩ := h3.form
    obtain ⟨Af, nf, cf, rfl⟩ := h4.form
    have r2 := (h6.block w.heap.size (lt_blk R3.out) (by have := hlp.out; omega)).trans R3.out
    obtain ⟨⟨c0, c1, c2, c3, c4, c5, c6⟩, ⟨f0, f1, f2, f3, f4, f5, f6⟩⟩ := cells7 r2
    have XA := hid (show XR w2 (fun i => w.heap.size + 1 ≤ i) _ _ from XR.keep ⟨k, a, n, x, op, l, f, _, _, ht, rfl, h3, h4⟩ (fun _ _ _ => rfl) (Nat.le_refl _) (fun i (hi : x3.heap.size ≤ i) _ => by have := lt_blk R3.out; omega))
    have PA := hid h5
    have KA := hid (show KpP E w w2 from K3.out.trans (h6.mono K3.out.size (fun _ hk => hk)))
    clear h3 h4 h5 h6 ht r2
    go_wp2
    have EN := X_end XA.out PA.out hlp.out.1 hlp.out.2 KA.out
    refine bodyPost_ret (v := .agg #[.int .i64 k, .int .i64 a, .int .i64 n, .string x, .int .i64 op, .slice Al nl cl, .slice Af nf cf]) (by simp [results, Tryz.results79, go_sem, c0, c1, c2, c3, c4, c5, c6]) rfl ?_
    exact ⟨_, rfl, EN⟩
end Go.Proofs.YtgkejkgailnbmaaGreatDoor
