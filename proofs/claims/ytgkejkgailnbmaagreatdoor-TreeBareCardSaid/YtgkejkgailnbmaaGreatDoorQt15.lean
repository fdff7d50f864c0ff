/- Texts joined: B2 -/
import Derived.Test.YtgkejkgailnbmaaGreatDoorQt14
import Derived.Deep.RegionLaw
set_option linter.unusedVariables false
set_option linter.unusedSimpArgs false
namespace Go.Proofs.YtgkejkgailnbmaaGreatDoor
open Lib (hid)
open Go.ChangeShapes Go.WideShapes Go.ChangeAt Go.RowKit TP
def FR (w : World) (F : Nat → Prop) (t : T) (v : Value) : Prop := ∃ ps d vp vd, t = .fn ps d ∧ v = .agg #[vp, vd] ∧ NL w F vp ps ∧ SL w F 2 vd d
theorem FR.keep {w w' : World} {F F' : Nat → Prop} {t : T} {v : Value} (h : FR w F t v) (hk : ∀ i, F i → i < w.heap.size → w'.heap[i]? = w.heap[i]?) (hs : w.heap.size ≤ w'.heap.size) (hF : ∀ i, F i → i < w.heap.size → F' i) : FR w' F' t v := by
 obtain ⟨ps, d, vp, vd, h1, h2, h3, h4⟩ := h
 exact ⟨ps, d, vp, vd, h1, h2, NL.keep h3 hk hs hF, SL.keep hk hs hF _ _ _ h4⟩
theorem cells2 {X : World} {b : Nat} {a0 a1 : Value} {t : TypeId} (h : X.heap[b]? = some (.cells #[a0, a1] t)) :
  (X.cell? ⟨b, 0, none⟩ = some a0 ∧ X.cell? ⟨b, 1, none⟩ = some a1) ∧ (X.frozen? ⟨b, 0, none⟩ = false ∧ X.frozen? ⟨b, 1, none⟩ = false) := by
 refine ⟨⟨?_, ?_⟩, ⟨?_, ?_⟩⟩ <;> simp [World.cell?, World.frozen?, h]
theorem NF.form {X : World} {d : Nat} {F : Nat → Prop} {xs : List ByteArray} {v : Value} (h : NF X d F v xs) : ∃ A cap, v = .slice A xs.length cap := by
 obtain ⟨⟨_, h1⟩, _⟩ := h
 unfold World.ownsRow at h1
 obtain ⟨_, ⟨rfl, hz⟩ | ⟨g, cap, cur, rfl, _⟩⟩ := h1
 ·exact ⟨none, 0, by rw [hz]⟩
 ·exact ⟨_, cap, rfl⟩
theorem FR.form {w : World} {F : Nat → Prop} {t : T} {v : Value} (h : FR w F t v) : ∃ ps d A n c B m k, t = .fn ps d ∧ v = .agg #[.slice A n c, .slice B m k] ∧ NL w F (.slice A n c) ps ∧ SL w F 2 (.slice B m k) d := by
 obtain ⟨ps, d, vp, vd, rfl, rfl, h3, h4⟩ := h
 obtain ⟨A, n, c, rfl⟩ := h3.form
 obtain ⟨B, m, k, rfl⟩ := h4.form
 exact ⟨_, _, _, _, _, _, _, _, rfl, rfl, h3, h4⟩
def FnC (E : Env) (d : Int) (F : St → R) : Prop := ∀ (s : St) (w : World), s.i < E.ts.length → PS E w s →
 Calls Tryz.prog 70 #[.pointer (some ⟨E.p, 0, none⟩), .int .i64 d] w fun e w' => ∃ v, e = .returned v ∧ FR w' (fun i => w.heap.size ≤ i) ((F s).1.map E.gl) v ∧ PS E w' (F s).2 ∧ KpP E w w'
theorem parsLoop_eq (ts : List Tk) (f : Nat) (l : List ByteArray) (s : St) : parsLoop ts (f + 1) l s = if s.c ≠ 0 then (l, s) else
  if isT ts (B [44]) (TP.name ts (TP.full l.length 16 s)).2 then parsLoop ts f (l ++ [(TP.name ts (TP.full l.length 16 s)).1]) (adv (TP.name ts (TP.full l.length 16 s)).2) else (l ++ [(TP.name ts (TP.full l.length 16 s)).1], (TP.name ts (TP.full l.length 16 s)).2) := rfl
def LP (E : Env) (P0 : List ByteArray × St) (w : World) (b5 i0 : Nat) (wr : World) : Prop :=
 ∃ fa xs sa N A cap, E.ts.length + 1 ≤ fa + sa.i ∧ parsLoop E.ts fa xs sa = P0 ∧ sa.i < E.ts.length ∧ xs.length = N ∧ N ≤ sa.i ∧ i0 ≤ sa.i ∧
  Fr E (fun i => i = E.p) w.heap.size w wr sa [(b5, .cells #[.slice A N cap, .slice none 0 0] 88), (w.heap.size, .cells #[.slice none 0 0, .slice none 0 0] 88)] [.o w.heap.size xs (.slice A N cap)]
set_option maxRecDepth 100000 in
set_option maxHeartbeats 8000000 in
theorem body_is (E : Env) (hE : E.Ok) (d : Int) (bl : St → R) (hG : TP.Good E.ts bl) (hL : BlC E 17 #[.int .i64 d] bl) : FnC E d (TP.body E.ts bl) := by
 intro s w hi h
 have F0 := Fr.start (V := []) h h.lt (Nat.le_refl _) (fun it hi => by cases hi)
 have F2 := (F0.new (.cells #[.slice none 0 0, .slice none 0 0] 88)).new (.cells #[.slice none 0 0, .slice none 0 0] 88)
 rw [World.size_alloc] at F2
 have FH := hid F2
 have T1 := hid (fun X (hX : PS E X s) => take_is E hE s hi (B [40]) X hX)
 have GT := hid ((Go.refl hi).take hE.ends (B [40]))
 have EQ : TP.body E.ts bl s = (.fn (pars E.ts (TP.take E.ts (B [40]) s)).1 (bl (pars E.ts (TP.take E.ts (B [40]) s)).2).1, TP.take E.ts (B [101, 110, 100]) (bl (pars E.ts (TP.take E.ts (B [40]) s)).2).2) := rfl
 rw [EQ]
 clear F0 F2 EQ
 generalize TP.take E.ts (B [40]) s = s1 at T1 GT ⊢
 cases b1 : isT E.ts (B [41]) s1 with
 | true =>
  have e1 : pars E.ts s1 = ([], adv s1) := by unfold pars; rw [if_pos b1]
  rw [e1]
  have hA := hid (is_adv hE.ends GT.out.2.1 b1)
  have O1 := hid (fun X (hX : PS E X s1) => opt_yes E hE s1 GT.out.2.1 (B [41]) b1 X hX)
  have BL := hid (fun X (hX : PS E X (adv s1)) => hL (adv s1) X hA.out.2.1 hX)
  have GB := hid (hG (adv s1) hA.out.2.1)
  have TE := hid (fun X (hX : PS E X (bl (adv s1)).2) => take_is E hE (bl (adv s1)).2 GB.out.2.1 (B [101, 110, 100]) X hX)
  clear e1 b1 hE hG hL hi h
  go_enter Tryz.func70, Tryz.ntmps70
  go_wp2_with (first | (go_at_call 71; refine Hid.out ?_))
  refine hid ?_
  refine (T1.out _ FH.out.ps).mono ?_
  rintro e x1 ⟨rfl, h1, h2⟩
  have F1 := hid (FH.out.call h1 h2)
  clear h1 h2 FH T1
  generalize w.heap.size + 1 = b5 at F1 ⊢
  go_wp2_with (first | (go_at_call 48; (with_reducible refine (O1.out _ F1.out.ps).mono ?_); rintro e x2 ⟨rfl, h1, h2⟩; have F2 := hid (F1.out.call h1 h2); clear h1 h2) | (go_at_call 17; refine Hid.out ?_))
  refine hid ?_
  refine (BL.out _ F2.out.ps).mono ?_
  rintro e z2 ⟨vd, rfl, hx, h1, h2⟩
  have H2 := hid (F2.out.callI (it := .s 2 _ _) h1 h2 hx)
  have hone := hx.one
  obtain ⟨A3, n3, c3, rfl⟩ := hx.form
  clear h1 h2 hx F2 BL
  obtain ⟨⟨a0, a1⟩, ⟨f0, f1⟩⟩ := cells2 (H2.out.blk _ (.head _))
  have nd := H2.out.nd
  simp only [List.map_cons, List.map_nil, List.nodup_cons, List.mem_cons, List.mem_nil_iff, or_false, not_or, List.nodup_nil, and_true] at nd
  have nd2 := Ne.symm nd.1
  have nd1 := nd.1
  have l5 := H2.out.lt (.head _)
  have l4 := H2.out.lt (.tail _ (.head _))
  clear nd
  have H3 := hid (show Fr E (fun i => i = E.p) w.heap.size w _ _ [(b5, .cells #[(.slice none 0 0), .slice A3 n3 c3] 88), (w.heap.size, .cells #[.slice none 0 0, .slice none 0 0] 88)] _ from H2.out.set1 0 rfl 1 (.slice A3 n3 c3))
  go_wp2_with (first | (go_at_call 71; refine Hid.out ?_))
  refine hid ?_
  refine (TE.out _ H3.out.ps).mono ?_
  rintro e z3 ⟨rfl, h1, h2⟩
  have H4 := hid (H3.out.call h1 h2)
  clear h1 h2 H2 H3 TE a0 a1 f0 f1
  obtain ⟨⟨a0, a1⟩, ⟨f0, f1⟩⟩ := cells2 (H4.out.blk _ (.head _))
  obtain ⟨⟨d0, d1⟩, ⟨g0, g1⟩⟩ := cells2 (H4.out.blk _ (.tail _ (.head _)))
  go_wp2
  have H5 := (H4.out.set1 1 rfl 0 (.slice none 0 0)).set1 1 rfl 1 (.slice A3 n3 c3)
  refine bodyPost_ret (v := .agg #[(.slice none 0 0), .slice A3 n3 c3]) (by simp [results, Tryz.results70, go_sem, d0, d1, nd1, nd2]) rfl ?_
  exact ⟨_, rfl, FR.keep ⟨_, _, _, _, rfl, rfl, (.inl ⟨rfl, rfl⟩), H5.get (.head _)⟩ (fun _ _ _ => rfl) (Nat.le_refl _) (fun i hi _ => hi.1), H5.ps, H5.kp⟩
 | false =>
  have e1 : pars E.ts s1 = ((parsLoop E.ts (E.ts.length + 1) [] s1).1, TP.take E.ts (B [41]) (parsLoop E.ts (E.ts.length + 1) [] s1).2) := by unfold pars; rw [if_neg (by rw [b1]; decide)]
  rw [e1]
  have GA0 := pars_go hE.ends (E.ts.length + 1) [] s1 s1 (Go.refl GT.out.2.1)
  obtain ⟨P0, hP0⟩ : ∃ P0, parsLoop E.ts (E.ts.length + 1) [] s1 = P0 := ⟨_, rfl⟩
  rw [hP0] at GA0 ⊢
  have HP0 := hid hP0
  have GA := hid GA0
  have O1 := hid (fun X (hX : PS E X s1) => opt_no E hE s1 GT.out.2.1 (B [41]) b1 X hX)
  have TK := hid (fun X (hX : PS E X P0.2) => take_is E hE P0.2 GA.out.2.1 (B [41]) X hX)
  have GK := hid ((Go.refl GA.out.2.1).take hE.ends (B [41]))
  have BL := hid (fun X (hX : PS E X (TP.take E.ts (B [41]) P0.2)) => hL _ X GK.out.2.1 hX)
  have GB := hid (hG _ GK.out.2.1)
  have TE := hid (fun X (hX : PS E X (bl (TP.take E.ts (B [41]) P0.2)).2) => take_is E hE _ GB.out.2.1 (B [101, 110, 100]) X hX)
  have HE := hid hE
  clear e1 b1 hG hL hi h GA0 hP0 hE
  go_enter Tryz.func70, Tryz.ntmps70
  go_wp2_with (first | (go_at_call 71; refine Hid.out ?_))
  refine hid ?_
  refine (T1.out _ FH.out.ps).mono ?_
  rintro e x1 ⟨rfl, h1, h2⟩
  have F1 := hid (FH.out.call h1 h2)
  clear h1 h2 FH T1
  generalize w.heap.size + 1 = b5 at F1 ⊢
  go_wp2_with (first | (go_at_call 48; (with_reducible refine (O1.out _ F1.out.ps).mono ?_); rintro e x2 ⟨rfl, h1, h2⟩; have F2 := hid (F1.out.call h1 h2); clear h1 h2))
  go_loopw [16] (fun _ wr => Hid (LP E P0 w b5 s1.i wr)) (fun _ wr => E.ts.length - posOf E wr)
  case atStart => exact hid ⟨E.ts.length + 1, [], s1, 0, none, 0, by omega, HP0.out, GT.out.2.1, rfl, Nat.zero_le _, Nat.le_refl _, F2.out.add (it := .o _ _ _) (NF.nil _ _ _)⟩
  case round =>
   clear F2 F1 O1
   obtain ⟨fa, xs, sa, N, A, cap, p1, p2, p3, p4, p5, p6, p8⟩ := hrel.out
   obtain ⟨fa', rfl⟩ : ∃ fa', fa = fa' + 1 := ⟨fa - 1, by omega⟩
   rw [parsLoop_eq] at p2
   have FA := hid p8
   have PA := p8.ps.pos
   obtain ⟨_, _, _, c2, _⟩ := p8.ps.cells
   have PP := hid (And.intro p1 (And.intro p3 (And.intro p4 (And.intro p5 p6))))
   obtain ⟨⟨a0, a1⟩, ⟨f0, f1⟩⟩ := cells2 (p8.blk _ (.head _))
   clear p8 hrel
   by_cases h0a : sa.c = 0
   ·rw [h0a] at c2
    rw [if_neg (fun e => e h0a), p4] at p2
    have FU := hid (show Calls Tryz.prog 80 #[.pointer (some ⟨E.p, 0, none⟩), .int .i64 (N : Int), .int .i64 16] wr _ from full_is E HE.out sa p3 N 16 wr FA.out.ps)
    have gf := hid (Go.full N 16 (Go.refl p3))
    have hN := hid (show N ≤ 20000 from by have := HE.out.len; omega)
    clear h0a p1 p3 p4 p5 p6
    generalize TP.full N 16 sa = s2 at p2 FU gf
    have NM := hid (fun X (hX : PS E X s2) => name_is E HE.out s2 gf.out.2.1 X hX)
    have GX := hid ((Go.refl gf.out.2.1).name HE.out.ends)
    have P2 := hid p2
    clear p2
    go_wp2_with (first | (go_at_call 80; (with_reducible refine (FU.out).mono ?_); rintro e y1 ⟨rfl, h1, h2⟩; have G1 := hid (FA.out.call h1 h2); clear a0 a1 f0 f1 c2 h1 h2; obtain ⟨⟨a0, a1⟩, ⟨f0, f1⟩⟩ := cells2 (G1.out.blk _ (.head _)); have l5 := G1.out.lt (.head _)))
    go_region_law (first | (refine step_NF (y2.alloc (.cells #[.string (TP.name E.ts s2).1] 9)) rfl _ _ rfl w.heap.size _ (.slice A N cap) xs N PP.out.2.2.1 rfl (G3.out.get (.head _)) (TP.name E.ts s2).1 y2.heap.size rfl nB.out (Nat.le_trans hN.out (by decide)) G3.out.kp.size G3.out.fresh ?_; intro g cap' y3 h1 h2 h3; have G4 := hid (G3.out.appendedN (G3.out.get (.head _)) (Nat.le_refl _) h2 h1); have b0 := (cells2 (G4.out.blk _ (.head _))).1.1; have b1 := (cells2 (G4.out.blk _ (.head _))).2.1; clear h1 h2 h3) | (go_simp; go_at_call 69; refine (NM.out _ G1.out.drew.ps).mono ?_; rintro e y2 ⟨rfl, h1, h2⟩; have G2 := hid (G1.out.drew.call h1 h2); have G3 := hid (G2.out.newF (.cells #[.string (TP.name E.ts s2).1] 9)); have nB := hid (heap_alloc_new y2 (.cells #[.string (TP.name E.ts s2).1] 9)); have c5y := (cells2 (G2.out.blk _ (.head _))).1.1; have l5y := G2.out.lt (.head _); have n5y := Nat.ne_of_lt l5y; clear h1 h2))
    all_goals
     have G5 := hid (show Fr E (fun i => i = E.p) w.heap.size w _ _ [(b5, .cells #[.slice (some ⟨g, 0, none⟩) (N + 1) cap', .slice none 0 0] 88), (w.heap.size, .cells #[.slice none 0 0, .slice none 0 0] 88)] _ from G4.out.set1 0 rfl 0 (.slice (some ⟨g, 0, none⟩) (N + 1) cap'))
     clear b0 b1 G4 c5y l5y n5y nB G3 G2 a0 a1 f0 f1
     generalize y3.setCell ⟨b5, 0, none⟩ (.slice (some ⟨g, 0, none⟩) (N + 1) cap') = y5 at G5 ⊢
     cases b7 : isT E.ts (B [44]) (TP.name E.ts s2).2 with
     | true =>
      have OC := hid (fun X (hX : PS E X (TP.name E.ts s2).2) => opt_yes E HE.out (TP.name E.ts s2).2 GX.out.2.1 (B [44]) b7 X hX)
      have hC := hid (is_adv HE.out.ends GX.out.2.1 b7)
      have P3 := P2.out
      rw [if_pos b7] at P3
      have P4 := hid P3
      clear b7 P3
      go_wp2_with (first | (go_at_call 48; (with_reducible refine (OC.out _ G5.out.ps).mono ?_); rintro e y4 ⟨rfl, h1, h2⟩; have G6 := hid (G5.out.call h1 h2); clear h1 h2))
      exact ⟨hid ⟨fa', _, _, N + 1, some ⟨g, 0, none⟩, cap', by have := PP.out.1; have := gf.out.1; have := GX.out.1; have e : (adv (TP.name E.ts s2).2).i = (TP.name E.ts s2).2.i + 1 := rfl; omega, P4.out, hC.out.2.1, by rw [List.length_append, PP.out.2.2.1]; rfl, by have := PP.out.2.2.2.1; have := gf.out.1; have := GX.out.1; have e : (adv (TP.name E.ts s2).2).i = (TP.name E.ts s2).2.i + 1 := rfl; omega, by have := PP.out.2.2.2.2; have := gf.out.1; have := GX.out.1; have e : (adv (TP.name E.ts s2).2).i = (TP.name E.ts s2).2.i + 1 := rfl; omega, G6.out⟩, by rw [PA, G6.out.ps.pos]; have := hC.out.2.1; have := gf.out.1; have := GX.out.1; have e : (adv (TP.name E.ts s2).2).i = (TP.name E.ts s2).2.i + 1 := rfl; omega⟩
     | false =>
      have OC := hid (fun X (hX : PS E X (TP.name E.ts s2).2) => opt_no E HE.out (TP.name E.ts s2).2 GX.out.2.1 (B [44]) b7 X hX)
      have P3 := P2.out
      rw [if_neg (by rw [b7]; decide)] at P3
      subst P3
      clear b7 P2
      go_wp2_with (first | (go_at_call 48; (with_reducible refine (OC.out _ G5.out.ps).mono ?_); rintro e y4 ⟨rfl, h1, h2⟩; have G6 := hid (G5.out.call h1 h2); clear h1 h2) | (go_at_call 71; (with_reducible refine (TK.out _ G6.out.ps).mono ?_); rintro e z1 ⟨rfl, h1, h2⟩; have G7 := hid (G6.out.call h1 h2); clear h1 h2) | (go_at_call 17; refine Hid.out ?_))
      refine hid ?_
      refine (BL.out _ G7.out.ps).mono ?_
      rintro e z2 ⟨vd, rfl, hx, h1, h2⟩
      have H2 := hid (G7.out.callI (it := .s 2 _ _) h1 h2 hx)
      have hone := hx.one
      obtain ⟨A3, n3, c3, rfl⟩ := hx.form
      clear h1 h2 hx G7 BL
      obtain ⟨⟨a0, a1⟩, ⟨f0, f1⟩⟩ := cells2 (H2.out.blk _ (.head _))
      have nd := H2.out.nd
      simp only [List.map_cons, List.map_nil, List.nodup_cons, List.mem_cons, List.mem_nil_iff, or_false, not_or, List.nodup_nil, and_true] at nd
      have nd2 := Ne.symm nd.1
      have nd1 := nd.1
      have l5 := H2.out.lt (.head _)
      have l4 := H2.out.lt (.tail _ (.head _))
      clear nd
      have H3 := hid (show Fr E (fun i => i = E.p) w.heap.size w _ _ [(b5, .cells #[(.slice (some ⟨g, 0, none⟩) (N + 1) cap'), .slice A3 n3 c3] 88), (w.heap.size, .cells #[.slice none 0 0, .slice none 0 0] 88)] _ from H2.out.set1 0 rfl 1 (.slice A3 n3 c3))
      go_wp2_with (first | (go_at_call 71; refine Hid.out ?_))
      refine hid ?_
      refine (TE.out _ H3.out.ps).mono ?_
      rintro e z3 ⟨rfl, h1, h2⟩
      have H4 := hid (H3.out.call h1 h2)
      clear h1 h2 H2 H3 TE a0 a1 f0 f1
      obtain ⟨⟨a0, a1⟩, ⟨f0, f1⟩⟩ := cells2 (H4.out.blk _ (.head _))
      obtain ⟨⟨d0, d1⟩, ⟨g0, g1⟩⟩ := cells2 (H4.out.blk _ (.tail _ (.head _)))
      go_wp2
      have H5 := (H4.out.set1 1 rfl 0 (.slice (some ⟨g, 0, none⟩) (N + 1) cap')).set1 1 rfl 1 (.slice A3 n3 c3)
      refine bodyPost_ret (v := .agg #[(.slice (some ⟨g, 0, none⟩) (N + 1) cap'), .slice A3 n3 c3]) (by simp [results, Tryz.results70, go_sem, d0, d1, nd1, nd2]) rfl ?_
      exact ⟨_, rfl, FR.keep ⟨_, _, _, _, rfl, rfl, (NF.nl (H5.get (.tail _ (.head _)))), H5.get (.head _)⟩ (fun _ _ _ => rfl) (Nat.le_refl _) (fun i hi _ => hi.1), H5.ps, H5.kp⟩
   ·rw [if_pos h0a] at p2
    subst p2
    clear p1 p3 p4 p5 p6
    go_wp2_with (first | (go_at_call 71; (with_reducible refine (TK.out _ FA.out.ps).mono ?_); rintro e z1 ⟨rfl, h1, h2⟩; have G6 := hid (FA.out.call h1 h2); clear a0 a1 f0 f1 h1 h2) | (go_at_call 17; refine Hid.out ?_))
    refine hid ?_
    refine (BL.out _ G6.out.ps).mono ?_
    rintro e z2 ⟨vd, rfl, hx, h1, h2⟩
    have H2 := hid (G6.out.callI (it := .s 2 _ _) h1 h2 hx)
    have hone := hx.one
    obtain ⟨A3, n3, c3, rfl⟩ := hx.form
    clear h1 h2 hx G6 BL
    obtain ⟨⟨a0, a1⟩, ⟨f0, f1⟩⟩ := cells2 (H2.out.blk _ (.head _))
    have nd := H2.out.nd
    simp only [List.map_cons, List.map_nil, List.nodup_cons, List.mem_cons, List.mem_nil_iff, or_false, not_or, List.nodup_nil, and_true] at nd
    have nd2 := Ne.symm nd.1
    have nd1 := nd.1
    have l5 := H2.out.lt (.head _)
    have l4 := H2.out.lt (.tail _ (.head _))
    clear nd
    have H3 := hid (show Fr E (fun i => i = E.p) w.heap.size w _ _ [(b5, .cells #[(.slice A N cap), .slice A3 n3 c3] 88), (w.heap.size, .cells #[.slice none 0 0, .slice none 0 0] 88)] _ from H2.out.set1 0 rfl 1 (.slice A3 n3 c3))
    go_wp2_with (first | (go_at_call 71; refine Hid.out ?_))
    refine hid ?_
    refine (TE.out _ H3.out.ps).mono ?_
    rintro e z3 ⟨rfl, h1, h2⟩
    have H4 := hid (H3.out.call h1 h2)
    clear h1 h2 H2 H3 TE a0 a1 f0 f1
    obtain ⟨⟨a0, a1⟩, ⟨f0, f1⟩⟩ := cells2 (H4.out.blk _ (.head _))
    obtain ⟨⟨d0, d1⟩, ⟨g0, g1⟩⟩ := cells2 (H4.out.blk _ (.tail _ (.head _)))
    go_wp2
    have H5 := (H4.out.set1 1 rfl 0 (.slice A N cap)).set1 1 rfl 1 (.slice A3 n3 c3)
    refine bodyPost_ret (v := .agg #[(.slice A N cap), .slice A3 n3 c3]) (by simp [results, Tryz.results70, go_sem, d0, d1, nd1, nd2]) rfl ?_
    exact ⟨_, rfl, FR.keep ⟨_, _, _, _, rfl, rfl, (NF.nl (H5.get (.tail _ (.head _)))), H5.get (.head _)⟩ (fun _ _ _ => rfl) (Nat.le_refl _) (fun i hi _ => hi.1), H5.ps, H5.kp⟩
end Go.Proofs.YtgkejkgailnbmaaGreatDoor
