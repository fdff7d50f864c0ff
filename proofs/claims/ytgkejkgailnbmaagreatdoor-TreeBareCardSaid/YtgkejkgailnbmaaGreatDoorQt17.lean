/- Texts joined: B4 -/
import Derived.Test.YtgkejkgailnbmaaGreatDoorQt14
import Derived.Test.YtgkejkgailnbmaaGreatDoorQt15
import Derived.Test.YtgkejkgailnbmaaGreatDoorQt16
set_option linter.unusedVariables false
set_option linter.unusedSimpArgs false
namespace Go.Proofs.YtgkejkgailnbmaaGreatDoor
open Lib (hid)
open Go.ChangeShapes Go.WideShapes Go.ChangeAt Go.RowKit TP
theorem Fr.fp7 {E : Env} {Q : Nat → Prop} {c : Nat} {w X : World} {s : St} {b1 b2 : Nat} {o1 o2 o2' : Obj} {V : List It} (h : Fr E Q c w X s [(b1, o1), (b2, o2)] V) {i : Nat} (hi : X.heap.size ≤ i) : Fp c ([(b1, o1), (b2, o2)].set 1 (b2, o2')) i := by
 obtain ⟨h1, h2⟩ := h.fp hi
 refine ⟨h1, fun p hp => ?_⟩
 rcases List.mem_cons.1 hp with rfl | hp
 ·exact h2 _ (.head _)
 ·rw [List.mem_singleton.1 hp]
  exact h2 (b2, o2) (.tail _ (.head _))
theorem Fr.adv {E : Env} (hE : E.Ok) {Q : Nat → Prop} {c : Nat} {w X : World} {s : St} {L : List (Nat × Obj)} {V : List It} (h : Fr E Q c w X s L V) : Fr E Q c w (X.setCell ⟨E.p, 1, none⟩ (.int .i64 ((s.i : Int) + 1))) (TP.adv s) L V :=
 h.call (h.ps.adv1 hE) (KpP.set (Kp.refl _ _ _) 1 _)
theorem post_eq (ts : List Tk) (ex bl : St → R) (s : St) : TP.post ts ex bl s = if s.c ≠ 0 then (T0, s)
 else if (tk ts s).kind = 2 then TP.behind ts ex (.ex 6 s.i 0 (tk ts s).text 0 .nil .nil) (adv s)
 else if isT ts (B [40]) s then TP.behind ts ex (ex (adv s)).1 (TP.take ts (B [41]) (ex (adv s)).2)
 else if (tk ts s).kind = 3 then (.ex 4 s.i (tk ts s).n ⟨#[]⟩ 0 .nil .nil, adv s)
 else if (tk ts s).kind = 4 then (.ex 5 s.i 0 (tk ts s).text 0 .nil .nil, adv s)
 else if isT ts (B [110, 105, 108]) s then (.ex 1 s.i 0 ⟨#[]⟩ 0 .nil .nil, adv s)
 else if isT ts (B [116, 114, 117, 101]) s then (.ex 2 s.i 0 ⟨#[]⟩ 0 .nil .nil, adv s)
 else if isT ts (B [102, 97, 108, 115, 101]) s then (.ex 3 s.i 0 ⟨#[]⟩ 0 .nil .nil, adv s)
 else if isT ts (B [102, 117, 110, 99, 116, 105, 111, 110]) s then (.ex 7 s.i 0 ⟨#[]⟩ 0 .nil (T.of [(TP.body ts bl (adv s)).1]), (TP.body ts bl (adv s)).2)
 else if isT ts (B [123]) s then TP.table ts ex s.i (adv s)
 else (T0, TP.fail 14 s) := rfl
set_option maxRecDepth 100000 in
set_option maxHeartbeats 16000000 in
theorem post_is (E : Env) (hE : E.Ok) (d : Int) (ex bl : St → R) (hG : TP.Good E.ts ex) (hL : ExC E 50 #[.int .i64 d] ex) (hB : BhC E d (TP.behind E.ts ex)) (hF : FnC E d (TP.body E.ts bl)) (hT : TbC E d (fun i0 s => TP.table E.ts ex i0 s)) : ExC E 101 #[.int .i64 d] (TP.post E.ts ex bl) := by
 intro s w hi h
 obtain ⟨R0, q⟩ : ∃ R0, TP.post E.ts ex bl s = R0 := ⟨_, rfl⟩
 rw [q]
 rw [post_eq] at q
 have HQ := hid q
 have F0 := Fr.start (V := []) h h.lt (Nat.le_refl _) (fun it hi => by cases hi)
 have F1 := hid (F0.new (.cells #[.int .i64 0, .int .i64 0, .int .i64 0, .string ⟨#[]⟩, .int .i64 0, .slice none 0 0, .slice none 0 0] 38))
 have PL := hid (fun X (hX : PS E X s) => place_is E s hi X hX)
 have HH := hid (And.intro hE (And.intro hG (And.intro hL (And.intro hB (And.intro hF (And.intro hT hi))))))
 have i1 : (s.i : Int) < (E.ts.length : Int) := by omega
 clear F0 hE hG hL hB hF hT h q
 show Calls _ _ #[.pointer (some ⟨E.p, 0, none⟩), .int .i64 d] _ _
 go_enter Tryz.func101, Tryz.ntmps101
 go_wp2_with (first | (go_at_call 47; refine Hid.out ?_))
 refine hid ?_
 refine (PL.out _ F1.out.ps).mono ?_
 rintro e x1 ⟨rfl, h1, h2⟩
 have F2 := hid (F1.out.below2 h1 h2)
 obtain ⟨_, c0, c1, c2, c3, _⟩ := h1.cells
 obtain ⟨t0, t1, t2, t3⟩ := h1.tok hi
 have lp := h1.lt
 have lg := h1.2.1
 clear h1 h2 PL F1 hi
 obtain ⟨tt, htt⟩ : ∃ tt, tk E.ts s = tt := ⟨_, rfl⟩
 rw [htt] at HQ t0 t1 t2
 have KD := hid (congrArg Tk.kind htt)
 clear htt
 obtain ⟨kd, tx, nn⟩ := tt
 simp only at t0 t1 t2 HQ KD
 go_wp2
 go_region
 have F3 := hid ((F2.out.new (.cells #[.int .i64 kd, .string tx, .int .i64 nn, .int .i64 (E.pl s.i)] 48)).drew)
 clear c0 c1 c2 c3 t0 t1 t2 t3 lp lg F2 i1
 generalize (x1.alloc (.cells #[.int .i64 kd, .string tx, .int .i64 nn, .int .i64 (E.pl s.i)] 48)).drew = X at F3 ⊢
 generalize x1.heap.size = bT at F3 ⊢
 obtain ⟨_, _, _, c2, _⟩ := F3.out.ps.cells
 have q := HQ.out
 by_cases h0 : s.c = 0
 ·rw [h0] at c2
  rw [if_neg (fun e => e h0)] at q
  obtain ⟨⟨t0, t1, t2, t3⟩, _⟩ := cells4 (F3.out.blk _ (.head _))
  obtain ⟨⟨d0, d1, d2, d3, d4, d5, d6⟩, ⟨g0, g1, g2, g3, g4, g5, g6⟩⟩ := cells7 (F3.out.blk _ (.tail _ (.head _)))
  by_cases k2 : kd = 2
  ·subst k2
   rw [if_pos rfl] at q
   have hA := hid (adv_go (ts := E.ts) (s := s) HH.out.1.ends HH.out.2.2.2.2.2.2 (by rw [KD.out]; decide))
   subst q
   have wI := wrapI s.i (by have := HH.out.1.len; have := HH.out.2.2.2.2.2.2; omega)
   obtain ⟨wI1, wI2⟩ := wI
   obtain ⟨_, p0, p1, p2, p3, pf1, pf2, pf3, pf0⟩ := F3.out.ps.cells
   have lT := F3.out.lt (.head _)
   have nT := (F3.out.own _ (.head _)).2.1
   have nT2 := Ne.symm nT
   have F9 := hid (F3.out.adv HH.out.1)
   go_wp2_with (first | (go_at_call 72; refine Hid.out ?_))
   refine hid ?_
   clear p0 p1 p2 p3 pf1 pf2 pf3 pf0 t0 t1 t2 t3 d0 d1 d2 d3 d4 d5 d6 g0 g1 g2 g3 g4 g5 g6 F3
   generalize X.setCell ⟨E.p, 1, none⟩ (.int .i64 ((s.i : Int) + 1)) = X9 at F9 ⊢
   refine (HH.out.2.2.2.1 (.ex 6 s.i 0 tx 0 .nil .nil) _ (TP.adv s) X9 X9.heap.size hA.out.2.1 F9.out.ps F9.out.ps.lt (Nat.le_refl _) (by rw [map_leaf]; exact XR.leaf _ _ _ _ _ _ _)).mono ?_
   rintro e y1 ⟨v, rfl, hx, h1, h2⟩
   obtain ⟨k', a', n', x', op', Cl, rl, el, Cf, rf, ef, rfl⟩ := hx.form
   have G1 := hid (F9.out.callI (it := .x _ _) h1 h2 hx)
   clear hx h1 h2 F9
   obtain ⟨⟨d0, d1, d2, d3, d4, d5, d6⟩, ⟨g0, g1, g2, g3, g4, g5, g6⟩⟩ := cells7 (G1.out.blk _ (.tail _ (.head _)))
   go_wp2
   have H5 := G1.out.set7 1 rfl (.int .i64 k') (.int .i64 a') (.int .i64 n') (.string x') (.int .i64 op') (.slice Cl rl el) (.slice Cf rf ef)
   refine bodyPost_ret (v := .agg #[.int .i64 k', .int .i64 a', .int .i64 n', .string x', .int .i64 op', .slice Cl rl el, .slice Cf rf ef]) (by simp [results, Tryz.results101, go_sem, d0, d1, d2, d3, d4, d5, d6]) rfl ?_
   exact ⟨_, rfl, XR.keep (H5.get (.head _)) (fun _ _ _ => rfl) (Nat.le_refl _) (fun i hi _ => hi.1), H5.ps, H5.kp⟩
  ·rw [if_neg k2] at q
   cases b1 : isT E.ts (B [40]) s with
   | true =>
    rw [if_pos b1] at q
    have hA := hid (is_adv HH.out.1.ends HH.out.2.2.2.2.2.2 b1)
    have GX := hid (HH.out.2.1 (adv s) hA.out.2.1)
    have TK := hid (fun X (hX : PS E X (ex (adv s)).2) => take_is E HH.out.1 _ GX.out.2.1 (B [41]) X hX)
    have GT := hid ((Go.refl GX.out.2.1).take HH.out.1.ends (B [41]))
    have O1 := hid (fun X (hX : PS E X s) => opt_yes E HH.out.1 s HH.out.2.2.2.2.2.2 (B [40]) b1 X hX)
    subst q
    clear b1
    go_wp2_with (first | (go_at_call 48; refine Hid.out ?_))
    refine hid ?_
    refine (O1.out _ F3.out.ps).mono ?_
    rintro e x2 ⟨rfl, h1, h2⟩
    have F4 := hid (F3.out.call h1 h2)
    clear F3 t0 t1 t2 t3 d0 d1 d2 d3 d4 d5 d6 g0 g1 g2 g3 g4 g5 g6 h1 h2 O1
    obtain ⟨⟨t0, t1, t2, t3⟩, _⟩ := cells4 (F4.out.blk _ (.head _))
    obtain ⟨⟨d0, d1, d2, d3, d4, d5, d6⟩, ⟨g0, g1, g2, g3, g4, g5, g6⟩⟩ := cells7 (F4.out.blk _ (.tail _ (.head _)))
    go_wp2_with (first | (go_at_call 50; refine Hid.out ?_))
    refine hid ?_
    refine (HH.out.2.2.1 (adv s) _ hA.out.2.1 F4.out.ps).mono ?_
    rintro e y1 ⟨v, rfl, hx, h1, h2⟩
    obtain ⟨k', a', n', x', op', Cl, rl, el, Cf, rf, ef, rfl⟩ := hx.form
    have G1 := F4.out.call h1 h2
    have G2 := hid (G1.newF (.cells #[.int .i64 k', .int .i64 a', .int .i64 n', .string x', .int .i64 op', .slice Cl rl el, .slice Cf rf ef] 38))
    have hx2 : XR (y1.alloc (.cells #[.int .i64 k', .int .i64 a', .int .i64 n', .string x', .int .i64 op', .slice Cl rl el, .slice Cf rf ef] 38)) (fun i => x2.heap.size ≤ i) _ _ := hx.keep (fun i _ hl => alloc_old.block i hl) (by rw [World.size_alloc]; omega) (fun _ hi _ => hi)
    have HX := hid hx2
    have nb := hid (heap_alloc_new y1 (.cells #[.int .i64 k', .int .i64 a', .int .i64 n', .string x', .int .i64 op', .slice Cl rl el, .slice Cf rf ef] 38))
    have hbx := hid (And.intro F4.out.ps.lt (And.intro h2.size (And.intro (F4.out.lt (.head _)) (F4.out.lt (.tail _ (.head _))))))
    clear h1 h2 hx hx2 G1 t0 t1 t2 t3 d0 d1 d2 d3 d4 d5 d6 g0 g1 g2 g3 g4 g5 g6
    go_wp2_with (first | (go_at_call 71; refine Hid.out ?_))
    refine hid ?_
    refine (TK.out _ G2.out.ps).mono ?_
    rintro e y2 ⟨rfl, h1, h2⟩
    have G3 := hid (G2.out.call h1 h2)
    have HX2 := hid (HX.out.keep (F' := fun i => x2.heap.size ≤ i) (fun i hi hl => h2.block i hl (by have := hbx.out.1; omega)) h2.size (fun _ hi _ => hi))
    have hsz := hid (show x2.heap.size ≤ y2.heap.size from by have := hbx.out.2.1; have := h2.size; rw [World.size_alloc] at this; omega)
    obtain ⟨⟨a0, a1, a2, a3, a4, a5, a6⟩, _⟩ := cells7 ((h2.block y1.heap.size (by rw [World.size_alloc]; omega) (by have := hbx.out.1; have := hbx.out.2.1; omega)).trans nb.out)
    clear h1 h2 G2 HX nb
    go_wp2_with (first | (go_at_call 72; refine Hid.out ?_))
    refine hid ?_
    refine (HH.out.2.2.2.1 (ex (adv s)).1 _ _ y2 x2.heap.size GT.out.2.1 G3.out.ps hbx.out.1 hsz.out HX2.out).mono ?_
    rintro e y3 ⟨v, rfl, hx, h1, h2⟩
    obtain ⟨k', a', n', x', op', Cl, rl, el, Cf, rf, ef, rfl⟩ := hx.form
    have G4 := hid ((G3.out.call h1 h2).add (it := .x _ _) (XR.keep (F' := Fp w.heap.size _) hx (fun _ _ _ => rfl) (Nat.le_refl _) (fun i hi _ => F4.out.fp hi)))
    clear hx h1 h2 G3 HX2 a0 a1 a2 a3 a4 a5 a6 F4
    obtain ⟨⟨d0, d1, d2, d3, d4, d5, d6⟩, ⟨g0, g1, g2, g3, g4, g5, g6⟩⟩ := cells7 (G4.out.blk _ (.tail _ (.head _)))
    go_wp2
    have H5 := G4.out.set7 1 rfl (.int .i64 k') (.int .i64 a') (.int .i64 n') (.string x') (.int .i64 op') (.slice Cl rl el) (.slice Cf rf ef)
    refine bodyPost_ret (v := .agg #[.int .i64 k', .int .i64 a', .int .i64 n', .string x', .int .i64 op', .slice Cl rl el, .slice Cf rf ef]) (by simp [results, Tryz.results101, go_sem, d0, d1, d2, d3, d4, d5, d6]) rfl ?_
    exact ⟨_, rfl, XR.keep (H5.get (.head _)) (fun _ _ _ => rfl) (Nat.le_refl _) (fun i hi _ => hi.1), H5.ps, H5.kp⟩
   | false =>
    rw [if_neg (by rw [b1]; decide)] at q
    have O1 := hid (fun X (hX : PS E X s) => opt_no E HH.out.1 s HH.out.2.2.2.2.2.2 (B [40]) b1 X hX)
    clear b1
    go_wp2_with (first | (go_at_call 48; refine Hid.out ?_))
    refine hid ?_
    refine (O1.out _ F3.out.ps).mono ?_
    rintro e x2 ⟨rfl, h1, h2⟩
    have F4 := hid (F3.out.call h1 h2)
    clear F3 t0 t1 t2 t3 d0 d1 d2 d3 d4 d5 d6 g0 g1 g2 g3 g4 g5 g6 h1 h2 O1
    obtain ⟨⟨t0, t1, t2, t3⟩, _⟩ := cells4 (F4.out.blk _ (.head _))
    obtain ⟨⟨d0, d1, d2, d3, d4, d5, d6⟩, ⟨g0, g1, g2, g3, g4, g5, g6⟩⟩ := cells7 (F4.out.blk _ (.tail _ (.head _)))
    by_cases k3 : kd = 3
    ·subst k3
     rw [if_pos rfl] at q
     subst q
     have wI := wrapI s.i (by have := HH.out.1.len; have := HH.out.2.2.2.2.2.2; omega)
     obtain ⟨wI1, wI2⟩ := wI
     obtain ⟨_, p0, p1, p2, p3, pf1, pf2, pf3, pf0⟩ := F4.out.ps.cells
     have lT := F4.out.lt (.head _)
     have nT := (F4.out.own _ (.head _)).2.1
     have nT2 := Ne.symm nT
     have lR := F4.out.lt (.tail _ (.head _))
     have nR := (F4.out.own _ (.tail _ (.head _))).2.1
     have nR2 := Ne.symm nR
     have F9 := hid (F4.out.adv HH.out.1)
     go_wp2
     have H5 := F9.out.set7 1 rfl (.int .i64 4) (.int .i64 (E.pl s.i)) (.int .i64 nn) (.string ⟨#[]⟩) (.int .i64 0) (.slice none 0 0) (.slice none 0 0)
     refine bodyPost_ret (v := .agg #[.int .i64 4, .int .i64 (E.pl s.i), .int .i64 nn, .string ⟨#[]⟩, .int .i64 0, .slice none 0 0, .slice none 0 0]) (by simp [results, Tryz.results101, go_sem, d0, d1, d2, d3, d4, d5, d6]) rfl ?_
     exact ⟨_, rfl, by rw [map_leaf]; exact XR.leaf _ _ _ _ _ _ _, H5.ps, H5.kp⟩
    ·rw [if_neg k3] at q
     by_cases k4 : kd = 4
     ·subst k4
      rw [if_pos rfl] at q
      subst q
      have wI := wrapI s.i (by have := HH.out.1.len; have := HH.out.2.2.2.2.2.2; omega)
      obtain ⟨wI1, wI2⟩ := wI
      obtain ⟨_, p0, p1, p2, p3, pf1, pf2, pf3, pf0⟩ := F4.out.ps.cells
      have lT := F4.out.lt (.head _)
      have nT := (F4.out.own _ (.head _)).2.1
      have nT2 := Ne.symm nT
      have lR := F4.out.lt (.tail _ (.head _))
      have nR := (F4.out.own _ (.tail _ (.head _))).2.1
      have nR2 := Ne.symm nR
      have F9 := hid (F4.out.adv HH.out.1)
      go_wp2
      have H5 := F9.out.set7 1 rfl (.int .i64 5) (.int .i64 (E.pl s.i)) (.int .i64 0) (.string tx) (.int .i64 0) (.slice none 0 0) (.slice none 0 0)
      refine bodyPost_ret (v := .agg #[.int .i64 5, .int .i64 (E.pl s.i), .int .i64 0, .string tx, .int .i64 0, .slice none 0 0, .slice none 0 0]) (by simp [results, Tryz.results101, go_sem, d0, d1, d2, d3, d4, d5, d6]) rfl ?_
      exact ⟨_, rfl, by rw [map_leaf]; exact XR.leaf _ _ _ _ _ _ _, H5.ps, H5.kp⟩
     ·rw [if_neg k4] at q
      cases b4 : isT E.ts (B [110, 105, 108]) s with
      | true =>
       rw [if_pos b4] at q
       have O1 := hid (fun X (hX : PS E X s) => opt_yes E HH.out.1 s HH.out.2.2.2.2.2.2 (B [110, 105, 108]) b4 X hX)
       subst q
       clear b4
       go_wp2_with (first | (go_at_call 48; refine Hid.out ?_))
       refine hid ?_
       refine (O1.out _ F4.out.ps).mono ?_
       rintro e x2 ⟨rfl, h1, h2⟩
       have F9 := hid (F4.out.call h1 h2)
       clear F4 t0 t1 t2 t3 d0 d1 d2 d3 d4 d5 d6 g0 g1 g2 g3 g4 g5 g6 h1 h2 O1
       obtain ⟨⟨t0, t1, t2, t3⟩, _⟩ := cells4 (F9.out.blk _ (.head _))
       obtain ⟨⟨d0, d1, d2, d3, d4, d5, d6⟩, ⟨g0, g1, g2, g3, g4, g5, g6⟩⟩ := cells7 (F9.out.blk _ (.tail _ (.head _)))
       go_wp2
       have H5 := F9.out.set7 1 rfl (.int .i64 1) (.int .i64 (E.pl s.i)) (.int .i64 0) (.string ⟨#[]⟩) (.int .i64 0) (.slice none 0 0) (.slice none 0 0)
       refine bodyPost_ret (v := .agg #[.int .i64 1, .int .i64 (E.pl s.i), .int .i64 0, .string ⟨#[]⟩, .int .i64 0, .slice none 0 0, .slice none 0 0]) (by simp [results, Tryz.results101, go_sem, d0, d1, d2, d3, d4, d5, d6]) rfl ?_
       exact ⟨_, rfl, by rw [map_leaf]; exact XR.leaf _ _ _ _ _ _ _, H5.ps, H5.kp⟩
      | false =>
       rw [if_neg (by rw [b4]; decide)] at q
       have O1 := hid (fun X (hX : PS E X s) => opt_no E HH.out.1 s HH.out.2.2.2.2.2.2 (B [110, 105, 108]) b4 X hX)
       clear b4
       go_wp2_with (first | (go_at_call 48; refine Hid.out ?_))
       refine hid ?_
       refine (O1.out _ F4.out.ps).mono ?_
       rintro e x2 ⟨rfl, h1, h2⟩
       have F5 := hid (F4.out.call h1 h2)
       clear F4 t0 t1 t2 t3 d0 d1 d2 d3 d4 d5 d6 g0 g1 g2 g3 g4 g5 g6 h1 h2 O1
       obtain ⟨⟨t0, t1, t2, t3⟩, _⟩ := cells4 (F5.out.blk _ (.head _))
       obtain ⟨⟨d0, d1, d2, d3, d4, d5, d6⟩, ⟨g0, g1, g2, g3, g4, g5, g6⟩⟩ := cells7 (F5.out.blk _ (.tail _ (.head _)))
       cases b5 : isT E.ts (B [116, 114, 117, 101]) s with
       | true =>
        rw [if_pos b5] at q
        have O1 := hid (fun X (hX : PS E X s) => opt_yes E HH.out.1 s HH.out.2.2.2.2.2.2 (B [116, 114, 117, 101]) b5 X hX)
        subst q
        clear b5
        go_wp2_with (first | (go_at_call 48; refine Hid.out ?_))
        refine hid ?_
        refine (O1.out _ F5.out.ps).mono ?_
        rintro e x2 ⟨rfl, h1, h2⟩
        have F9 := hid (F5.out.call h1 h2)
        clear F5 t0 t1 t2 t3 d0 d1 d2 d3 d4 d5 d6 g0 g1 g2 g3 g4 g5 g6 h1 h2 O1
        obtain ⟨⟨t0, t1, t2, t3⟩, _⟩ := cells4 (F9.out.blk _ (.head _))
        obtain ⟨⟨d0, d1, d2, d3, d4, d5, d6⟩, ⟨g0, g1, g2, g3, g4, g5, g6⟩⟩ := cells7 (F9.out.blk _ (.tail _ (.head _)))
        go_wp2
        have H5 := F9.out.set7 1 rfl (.int .i64 2) (.int .i64 (E.pl s.i)) (.int .i64 0) (.string ⟨#[]⟩) (.int .i64 0) (.slice none 0 0) (.slice none 0 0)
        refine bodyPost_ret (v := .agg #[.int .i64 2, .int .i64 (E.pl s.i), .int .i64 0, .string ⟨#[]⟩, .int .i64 0, .slice none 0 0, .slice none 0 0]) (by simp [results, Tryz.results101, go_sem, d0, d1, d2, d3, d4, d5, d6]) rfl ?_
        exact ⟨_, rfl, by rw [map_leaf]; exact XR.leaf _ _ _ _ _ _ _, H5.ps, H5.kp⟩
       | false =>
        rw [if_neg (by rw [b5]; decide)] at q
        have O1 := hid (fun X (hX : PS E X s) => opt_no E HH.out.1 s HH.out.2.2.2.2.2.2 (B [116, 114, 117, 101]) b5 X hX)
        clear b5
        go_wp2_with (first | (go_at_call 48; refine Hid.out ?_))
        refine hid ?_
        refine (O1.out _ F5.out.ps).mono ?_
        rintro e x2 ⟨rfl, h1, h2⟩
        have F6 := hid (F5.out.call h1 h2)
        clear F5 t0 t1 t2 t3 d0 d1 d2 d3 d4 d5 d6 g0 g1 g2 g3 g4 g5 g6 h1 h2 O1
        obtain ⟨⟨t0, t1, t2, t3⟩, _⟩ := cells4 (F6.out.blk _ (.head _))
        obtain ⟨⟨d0, d1, d2, d3, d4, d5, d6⟩, ⟨g0, g1, g2, g3, g4, g5, g6⟩⟩ := cells7 (F6.out.blk _ (.tail _ (.head _)))
        cases b6 : isT E.ts (B [102, 97, 108, 115, 101]) s with
        | true =>
         rw [if_pos b6] at q
         have O1 := hid (fun X (hX : PS E X s) => opt_yes E HH.out.1 s HH.out.2.2.2.2.2.2 (B [102, 97, 108, 115, 101]) b6 X hX)
         subst q
         clear b6
         go_wp2_with (first | (go_at_call 48; refine Hid.out ?_))
         refine hid ?_
         refine (O1.out _ F6.out.ps).mono ?_
         rintro e x2 ⟨rfl, h1, h2⟩
         have F9 := hid (F6.out.call h1 h2)
         clear F6 t0 t1 t2 t3 d0 d1 d2 d3 d4 d5 d6 g0 g1 g2 g3 g4 g5 g6 h1 h2 O1
         obtain ⟨⟨t0, t1, t2, t3⟩, _⟩ := cells4 (F9.out.blk _ (.head _))
         obtain ⟨⟨d0, d1, d2, d3, d4, d5, d6⟩, ⟨g0, g1, g2, g3, g4, g5, g6⟩⟩ := cells7 (F9.out.blk _ (.tail _ (.head _)))
         go_wp2
         have H5 := F9.out.set7 1 rfl (.int .i64 3) (.int .i64 (E.pl s.i)) (.int .i64 0) (.string ⟨#[]⟩) (.int .i64 0) (.slice none 0 0) (.slice none 0 0)
         refine bodyPost_ret (v := .agg #[.int .i64 3, .int .i64 (E.pl s.i), .int .i64 0, .string ⟨#[]⟩, .int .i64 0, .slice none 0 0, .slice none 0 0]) (by simp [results, Tryz.results101, go_sem, d0, d1, d2, d3, d4, d5, d6]) rfl ?_
         exact ⟨_, rfl, by rw [map_leaf]; exact XR.leaf _ _ _ _ _ _ _, H5.ps, H5.kp⟩
        | false =>
         rw [if_neg (by rw [b6]; decide)] at q
         have O1 := hid (fun X (hX : PS E X s) => opt_no E HH.out.1 s HH.out.2.2.2.2.2.2 (B [102, 97, 108, 115, 101]) b6 X hX)
         clear b6
         go_wp2_with (first | (go_at_call 48; refine Hid.out ?_))
         refine hid ?_
         refine (O1.out _ F6.out.ps).mono ?_
         rintro e x2 ⟨rfl, h1, h2⟩
         have F7 := hid (F6.out.call h1 h2)
         clear F6 t0 t1 t2 t3 d0 d1 d2 d3 d4 d5 d6 g0 g1 g2 g3 g4 g5 g6 h1 h2 O1
         obtain ⟨⟨t0, t1, t2, t3⟩, _⟩ := cells4 (F7.out.blk _ (.head _))
         obtain ⟨⟨d0, d1, d2, d3, d4, d5, d6⟩, ⟨g0, g1, g2, g3, g4, g5, g6⟩⟩ := cells7 (F7.out.blk _ (.tail _ (.head _)))
         cases b7 : isT E.ts (B [102, 117, 110, 99, 116, 105, 111, 110]) s with
         | true =>
          rw [if_pos b7] at q
          have hA := hid (is_adv HH.out.1.ends HH.out.2.2.2.2.2.2 b7)
          have O1 := hid (fun X (hX : PS E X s) => opt_yes E HH.out.1 s HH.out.2.2.2.2.2.2 (B [102, 117, 110, 99, 116, 105, 111, 110]) b7 X hX)
          subst q
          clear b7
          go_wp2_with (first | (go_at_call 48; refine Hid.out ?_))
          refine hid ?_
          refine (O1.out _ F7.out.ps).mono ?_
          rintro e x2 ⟨rfl, h1, h2⟩
          have F9 := hid (F7.out.call h1 h2)
          clear F7 t0 t1 t2 t3 d0 d1 d2 d3 d4 d5 d6 g0 g1 g2 g3 g4 g5 g6 h1 h2 O1
          obtain ⟨⟨t0, t1, t2, t3⟩, _⟩ := cells4 (F9.out.blk _ (.head _))
          obtain ⟨⟨d0, d1, d2, d3, d4, d5, d6⟩, ⟨g0, g1, g2, g3, g4, g5, g6⟩⟩ := cells7 (F9.out.blk _ (.tail _ (.head _)))
          go_wp2_with (first | (go_at_call 70; refine Hid.out ?_))
          refine hid ?_
          refine (HH.out.2.2.2.2.1 (adv s) _ hA.out.2.1 F9.out.ps).mono ?_
          rintro e y1 ⟨v, rfl, hx, h1, h2⟩
          obtain ⟨fps, fd, A1, n1, m1, A2, n2, m2, hfe, rfl, hn, hs⟩ := FR.form hx
          have G2 := F9.out.call h1 h2
          have G2s := G2.set7 1 rfl (.int .i64 7) (.int .i64 (E.pl s.i)) (.int .i64 0) (.string ⟨#[]⟩) (.int .i64 0) (.slice none 0 0) (.slice (some ⟨y1.heap.size, 0, none⟩) 1 1)
          have G3 := hid (G2s.litA (kd := 1) (e := 88) (t := .cons (.fn fps fd) .nil) (n := 1) (cs := [.slice A1 n1 m1, .slice A2 n2 m2]) (b := y1.heap.size) (by simp [World.setCell]) (by intro e; cases e) rfl (by decide) (EC_fn.2 ⟨_, _, [], rfl, NL.keep hn (fun i hi hl => Go.Proofs.YtgkejkgailnbmaaGreatDoor.far7 _ _ _ _ _ _ _ (fun e => by have := F9.out.lt (.tail _ (.head _)); have h9 : x2.heap.size ≤ i := hi; omega)) (by simp [World.setCell]) (fun i hi _ => F9.out.fp7 hi), SL.keep (fun i hi hl => Go.Proofs.YtgkejkgailnbmaaGreatDoor.far7 _ _ _ _ _ _ _ (fun e => by have := F9.out.lt (.tail _ (.head _)); have h9 : x2.heap.size ≤ i := hi; omega)) (by simp [World.setCell]) (fun i hi _ => F9.out.fp7 hi) _ _ _ hs, EC_nil.2 rfl⟩))
          have HF := hid hfe
          have lR := G2.lt (.tail _ (.head _))
          have mR := Nat.ne_of_lt lR
          clear h1 h2 hx t0 t1 t2 t3 d0 d1 d2 d3 d4 d5 d6 g0 g1 g2 g3 g4 g5 g6 F9 hn hs hfe
          obtain ⟨⟨d0, d1, d2, d3, d4, d5, d6⟩, ⟨g0, g1, g2, g3, g4, g5, g6⟩⟩ := cells7 (G2.blk _ (.tail _ (.head _)))
          clear G2 G2s
          go_wp2
          refine bodyPost_ret (v := .agg #[.int .i64 7, .int .i64 (E.pl s.i), .int .i64 0, .string ⟨#[]⟩, .int .i64 0, .slice none 0 0, .slice (some ⟨y1.heap.size, 0, none⟩) 1 1]) (by simp [results, Tryz.results101, go_sem, d0, d1, d2, d3, d4, d5, d6, lR]) rfl ?_
          exact ⟨_, rfl, by rw [show (T.ex 7 s.i 0 ⟨#[]⟩ 0 .nil (T.of [(TP.body E.ts bl (adv s)).1])).map E.gl = .ex 7 (E.pl s.i) 0 ⟨#[]⟩ 0 .nil (.cons ((TP.body E.ts bl (adv s)).1.map E.gl) .nil) from by rw [← E.gl_nat]; rfl, HF.out]; exact XR.keep (XR.of 7 (E.pl s.i) 0 0 ⟨#[]⟩ .nil (G3.out.get (.head _))) (fun _ _ _ => rfl) (Nat.le_refl _) (fun i hi _ => hi.1), G3.out.ps, G3.out.kp⟩
         | false =>
          rw [if_neg (by rw [b7]; decide)] at q
          have O1 := hid (fun X (hX : PS E X s) => opt_no E HH.out.1 s HH.out.2.2.2.2.2.2 (B [102, 117, 110, 99, 116, 105, 111, 110]) b7 X hX)
          clear b7
          go_wp2_with (first | (go_at_call 48; refine Hid.out ?_))
          refine hid ?_
          refine (O1.out _ F7.out.ps).mono ?_
          rintro e x2 ⟨rfl, h1, h2⟩
          have F8 := hid (F7.out.call h1 h2)
          clear F7 t0 t1 t2 t3 d0 d1 d2 d3 d4 d5 d6 g0 g1 g2 g3 g4 g5 g6 h1 h2 O1
          obtain ⟨⟨t0, t1, t2, t3⟩, _⟩ := cells4 (F8.out.blk _ (.head _))
          obtain ⟨⟨d0, d1, d2, d3, d4, d5, d6⟩, ⟨g0, g1, g2, g3, g4, g5, g6⟩⟩ := cells7 (F8.out.blk _ (.tail _ (.head _)))
          cases b8 : isT E.ts (B [123]) s with
          | true =>
           rw [if_pos b8] at q
           have hA := hid (is_adv HH.out.1.ends HH.out.2.2.2.2.2.2 b8)
           have O1 := hid (fun X (hX : PS E X s) => opt_yes E HH.out.1 s HH.out.2.2.2.2.2.2 (B [123]) b8 X hX)
           subst q
           clear b8
           go_wp2_with (first | (go_at_call 48; refine Hid.out ?_))
           refine hid ?_
           refine (O1.out _ F8.out.ps).mono ?_
           rintro e x2 ⟨rfl, h1, h2⟩
           have F9 := hid (F8.out.call h1 h2)
           clear F8 t0 t1 t2 t3 d0 d1 d2 d3 d4 d5 d6 g0 g1 g2 g3 g4 g5 g6 h1 h2 O1
           obtain ⟨⟨t0, t1, t2, t3⟩, _⟩ := cells4 (F9.out.blk _ (.head _))
           obtain ⟨⟨d0, d1, d2, d3, d4, d5, d6⟩, ⟨g0, g1, g2, g3, g4, g5, g6⟩⟩ := cells7 (F9.out.blk _ (.tail _ (.head _)))
           go_wp2_with (first | (go_at_call 105; refine Hid.out ?_))
           refine hid ?_
           refine (HH.out.2.2.2.2.2.1 s.i (adv s) _ hA.out.2.1 F9.out.ps).mono ?_
           rintro e y1 ⟨v, rfl, hx, h1, h2⟩
           obtain ⟨k', a', n', x', op', Cl, rl, el, Cf, rf, ef, rfl⟩ := hx.form
           have G1 := hid (F9.out.callI (it := .x _ _) h1 h2 hx)
           clear hx h1 h2 F9 t0 t1 t2 t3 d0 d1 d2 d3 d4 d5 d6 g0 g1 g2 g3 g4 g5 g6
           obtain ⟨⟨d0, d1, d2, d3, d4, d5, d6⟩, ⟨g0, g1, g2, g3, g4, g5, g6⟩⟩ := cells7 (G1.out.blk _ (.tail _ (.head _)))
           go_wp2
           have H5 := G1.out.set7 1 rfl (.int .i64 k') (.int .i64 a') (.int .i64 n') (.string x') (.int .i64 op') (.slice Cl rl el) (.slice Cf rf ef)
           refine bodyPost_ret (v := .agg #[.int .i64 k', .int .i64 a', .int .i64 n', .string x', .int .i64 op', .slice Cl rl el, .slice Cf rf ef]) (by simp [results, Tryz.results101, go_sem, d0, d1, d2, d3, d4, d5, d6]) rfl ?_
           exact ⟨_, rfl, XR.keep (H5.get (.head _)) (fun _ _ _ => rfl) (Nat.le_refl _) (fun i hi _ => hi.1), H5.ps, H5.kp⟩
          | false =>
           rw [if_neg (by rw [b8]; decide)] at q
           have O1 := hid (fun X (hX : PS E X s) => opt_no E HH.out.1 s HH.out.2.2.2.2.2.2 (B [123]) b8 X hX)
           have FA := hid (fun X (hX : PS E X s) => fail_is E HH.out.1 s HH.out.2.2.2.2.2.2 14 X hX)
           subst q
           clear b8
           go_wp2_with (first | (go_at_call 48; refine Hid.out ?_))
           refine hid ?_
           refine (O1.out _ F8.out.ps).mono ?_
           rintro e x2 ⟨rfl, h1, h2⟩
           have F9 := hid (F8.out.call h1 h2)
           clear F8 t0 t1 t2 t3 d0 d1 d2 d3 d4 d5 d6 g0 g1 g2 g3 g4 g5 g6 h1 h2 O1
           obtain ⟨⟨t0, t1, t2, t3⟩, _⟩ := cells4 (F9.out.blk _ (.head _))
           obtain ⟨⟨d0, d1, d2, d3, d4, d5, d6⟩, ⟨g0, g1, g2, g3, g4, g5, g6⟩⟩ := cells7 (F9.out.blk _ (.tail _ (.head _)))
           go_wp2_with (first | (go_at_call 18; refine Hid.out ?_))
           refine hid ?_
           refine (FA.out _ F9.out.ps).mono ?_
           rintro e y1 ⟨rfl, h1, h2⟩
           have G1 := hid (F9.out.call h1 h2)
           clear h1 h2 F9 t0 t1 t2 t3 d0 d1 d2 d3 d4 d5 d6 g0 g1 g2 g3 g4 g5 g6
           obtain ⟨⟨d0, d1, d2, d3, d4, d5, d6⟩, ⟨g0, g1, g2, g3, g4, g5, g6⟩⟩ := cells7 (G1.out.blk _ (.tail _ (.head _)))
           go_wp2
           have H5 := G1.out.set7 1 rfl (.int .i64 0) (.int .i64 0) (.int .i64 0) (.string ⟨#[]⟩) (.int .i64 0) (.slice none 0 0) (.slice none 0 0)
           refine bodyPost_ret (v := .agg #[.int .i64 0, .int .i64 0, .int .i64 0, .string ⟨#[]⟩, .int .i64 0, .slice none 0 0, .slice none 0 0]) (by simp [results, Tryz.results101, go_sem, d0, d1, d2, d3, d4, d5, d6]) rfl ?_
           exact ⟨_, rfl, XR.zero E _ _, H5.ps, H5.kp⟩
 ·rw [if_pos h0] at q
  subst q
  obtain ⟨⟨d0, d1, d2, d3, d4, d5, d6⟩, ⟨g0, g1, g2, g3, g4, g5, g6⟩⟩ := cells7 (F3.out.blk _ (.tail _ (.head _)))
  clear HQ
  go_wp2
  have H5 := F3.out.set7 1 rfl (.int .i64 0) (.int .i64 0) (.int .i64 0) (.string ⟨#[]⟩) (.int .i64 0) (.slice none 0 0) (.slice none 0 0)
  refine bodyPost_ret (v := .agg #[.int .i64 0, .int .i64 0, .int .i64 0, .string ⟨#[]⟩, .int .i64 0, .slice none 0 0, .slice none 0 0]) (by simp [results, Tryz.results101, go_sem, d0, d1, d2, d3, d4, d5, d6]) rfl ?_
  exact ⟨_, rfl, XR.zero E _ _, H5.ps, H5.kp⟩
end Go.Proofs.YtgkejkgailnbmaaGreatDoor
