/- Texts joined: B3 -/
import Derived.Test.YtgkejkgailnbmaaGreatDoorQt14
import Derived.Deep.RegionLaw
set_option linter.unusedVariables false
set_option linter.unusedSimpArgs false
namespace Go.Proofs.YtgkejkgailnbmaaGreatDoor
open Lib (hid)
open Go.ChangeShapes Go.WideShapes Go.ChangeAt Go.RowKit TP
def TbC (E : Env) (d : Int) (F : Nat → St → R) : Prop := ∀ (i0 : Nat) (s : St) (w : World), s.i < E.ts.length → PS E w s →
 Calls Tryz.prog 105 #[.pointer (some ⟨E.p, 0, none⟩), .int .i64 (E.pl i0), .int .i64 d] w fun e w' => ∃ v, e = .returned v ∧ XR w' (fun i => w.heap.size ≤ i) ((F i0 s).1.map E.gl) v ∧ PS E w' (F i0 s).2 ∧ KpP E w w'
theorem tableLoop_eq (ts : List Tk) (ex : St → R) (f : Nat) (l : T) (n : Int) (s : St) : tableLoop ts ex (f + 1) l n s = if s.c ≠ 0 ∨ isT ts (B [125]) s then (l, s) else
  if isT ts (B [44]) (ex (key ts ex n (TP.full (l.len / 2) 64 s)).1.2).2 then tableLoop ts ex f ((l.snoc (key ts ex n (TP.full (l.len / 2) 64 s)).1.1).snoc (ex (key ts ex n (TP.full (l.len / 2) 64 s)).1.2).1) (key ts ex n (TP.full (l.len / 2) 64 s)).2 (adv (ex (key ts ex n (TP.full (l.len / 2) 64 s)).1.2).2)
  else if isT ts (B [59]) (ex (key ts ex n (TP.full (l.len / 2) 64 s)).1.2).2 then tableLoop ts ex f ((l.snoc (key ts ex n (TP.full (l.len / 2) 64 s)).1.1).snoc (ex (key ts ex n (TP.full (l.len / 2) 64 s)).1.2).1) (key ts ex n (TP.full (l.len / 2) 64 s)).2 (adv (ex (key ts ex n (TP.full (l.len / 2) 64 s)).1.2).2)
  else ((l.snoc (key ts ex n (TP.full (l.len / 2) 64 s)).1.1).snoc (ex (key ts ex n (TP.full (l.len / 2) 64 s)).1.2).1, (ex (key ts ex n (TP.full (l.len / 2) 64 s)).1.2).2) := rfl
def LT (E : Env) (ex : St → R) (R0 : R) (w : World) (b7 i0 j0 : Nat) (nv : Value) (wr : World) : Prop :=
 ∃ fa l sa M n A cap, E.ts.length + 1 ≤ fa + sa.i ∧ tableLoop E.ts ex fa l (n : Nat) sa = R0 ∧ sa.i < E.ts.length ∧ l.isList ∧ l.len = M ∧ M ≤ 2 * sa.i ∧ n ≤ sa.i ∧ j0 ≤ sa.i ∧ nv = .int .i64 n ∧
  Fr E (fun i => i = E.p) w.heap.size w wr sa [(b7, .cells #[.int .i64 8, .int .i64 (E.pl i0), .int .i64 0, .string ⟨#[]⟩, .int .i64 0, .slice A M cap, .slice none 0 0] 38), (w.heap.size, .cells #[.int .i64 0, .int .i64 0, .int .i64 0, .string ⟨#[]⟩, .int .i64 0, .slice none 0 0, .slice none 0 0] 38)] [.r 0 38 w.heap.size (l.map E.gl) (.slice A M cap)]
theorem OF.form2 {X : World} {kd : Nat} {e : TypeId} {d : Nat} {F : Nat → Prop} {t : T} {v : Value} (h : OF kd e X d F v t) : ∃ A cap, v = .slice A t.len cap := by
 obtain ⟨_, _, cs, h1, _⟩ := h
 unfold World.ownsRow at h1
 obtain ⟨_, ⟨rfl, hz⟩ | ⟨g, cap, cur, rfl, _⟩⟩ := h1
 ·exact ⟨none, 0, by rw [hz]⟩
 ·exact ⟨_, cap, rfl⟩
set_option maxRecDepth 100000 in
set_option maxHeartbeats 16000000 in
theorem table_is (E : Env) (hE : E.Ok) (d : Int) (ex : St → R) (hG : TP.Good E.ts ex) (hL : ExC E 50 #[.int .i64 d] ex) : TbC E d (fun i0 s => TP.table E.ts ex i0 s) := by
 intro i0 s w hi h
 have F0 := Fr.start (V := []) h h.lt (Nat.le_refl _) (fun it hi => by cases hi)
 have F2 := (F0.new (.cells #[.int .i64 0, .int .i64 0, .int .i64 0, .string ⟨#[]⟩, .int .i64 0, .slice none 0 0, .slice none 0 0] 38)).new (.cells #[.int .i64 8, .int .i64 (E.pl i0), .int .i64 0, .string ⟨#[]⟩, .int .i64 0, .slice none 0 0, .slice none 0 0] 38)
 rw [World.size_alloc] at F2
 have FH := hid F2
 have GA0 := table_go hE.ends hG (E.ts.length + 1) .nil 0 s s (Go.refl hi)
 obtain ⟨R0, hR0⟩ : ∃ R0, tableLoop E.ts ex (E.ts.length + 1) .nil 0 s = R0 := ⟨_, rfl⟩
 rw [hR0] at GA0
 have GA := hid GA0
 have EQ : TP.table E.ts ex i0 s = (.ex 8 i0 0 ⟨#[]⟩ 0 R0.1 .nil, TP.take E.ts (B [125]) R0.2) := by unfold TP.table; simp only; rw [hR0]
 show Calls _ _ _ _ (fun e w' => ∃ v, e = .returned v ∧ XR w' (fun i => w.heap.size ≤ i) ((TP.table E.ts ex i0 s).1.map E.gl) v ∧ PS E w' (TP.table E.ts ex i0 s).2 ∧ KpP E w w')
 rw [EQ]
 have HH := hid (And.intro hE (And.intro hG (And.intro hL hR0)))
 have TK := hid (fun X (hX : PS E X R0.2) => take_is E hE R0.2 GA.out.2.1 (B [125]) X hX)
 have Hi := hid hi
 clear F0 F2 EQ hE hG hL hR0 GA0 h hi
 go_enter Tryz.func105, Tryz.ntmps105
 go_wp2
 generalize (w.alloc (.cells #[.int .i64 0, .int .i64 0, .int .i64 0, .string ⟨#[]⟩, .int .i64 0, .slice none 0 0, .slice none 0 0] 38)).alloc (.cells #[.int .i64 8, .int .i64 (E.pl i0), .int .i64 0, .string ⟨#[]⟩, .int .i64 0, .slice none 0 0, .slice none 0 0] 38) = z at FH ⊢
 generalize w.heap.size + 1 = b7 at FH ⊢
 go_loopw [8] (fun nv wr => Hid (LT E ex R0 w b7 i0 s.i nv wr)) (fun _ wr => E.ts.length - posOf E wr)
 case atStart => exact hid ⟨E.ts.length + 1, .nil, s, 0, 0, none, 0, by omega, HH.out.2.2.2, Hi.out, trivial, rfl, Nat.zero_le _, Nat.zero_le _, Nat.le_refl _, rfl, FH.out.add (it := .r _ _ _ _ _) (OF.nil _ _ _ _ _)⟩
 case round =>
  clear FH
  obtain ⟨fa, l, sa, M, n, A, cap, p1, p2, p3, p4, p5, p6, p7, p8, rfl, p9⟩ := hrel.out
  obtain ⟨fa', rfl⟩ : ∃ fa', fa = fa' + 1 := ⟨fa - 1, by omega⟩
  rw [tableLoop_eq, p5] at p2
  have FA := hid p9
  have PA := p9.ps.pos
  obtain ⟨_, _, _, c2, _⟩ := p9.ps.cells
  have PP := hid (And.intro p1 (And.intro p3 (And.intro p4 (And.intro p5 (And.intro p6 (And.intro p7 p8))))))
  have IS := hid (is_is E HH.out.1 sa p3 (B [125]) wr p9.ps)
  clear p9 hrel
  by_cases h0a : sa.c = 0
  ·rw [h0a] at c2
   cases b1 : isT E.ts (B [125]) sa with
   | true =>
    rw [if_pos (Or.inr b1)] at p2
    subst p2
    rw [b1] at IS
    clear p1 p3 p4 p5 p6 p7 p8 b1
    go_wp2_with (first | (go_at_call 49; (with_reducible refine (IS.out).mono ?_); rintro e x1 ⟨rfl, h1⟩; have F1 := hid (FA.out.below h1); clear h1) | (go_at_call 71; (with_reducible refine (TK.out _ F1.out.ps).mono ?_); rintro e z1 ⟨rfl, h1, h2⟩; have G6 := hid (F1.out.call h1 h2); clear h1 h2; refine Hid.out ?_))
    refine hid ?_
    clear FA F1 IS c2 TK
    have nd := G6.out.nd
    simp only [List.map_cons, List.map_nil, List.nodup_cons, List.mem_cons, List.mem_nil_iff, or_false, not_or, List.nodup_nil, and_true] at nd
    have nd1 := nd.1
    have nd2 := Ne.symm nd1
    clear nd
    obtain ⟨⟨a0, a1, a2, a3, a4, a5, a6⟩, ⟨f0, f1, f2, f3, f4, f5, f6⟩⟩ := cells7 (G6.out.blk _ (.head _))
    obtain ⟨⟨d0, d1, d2, d3, d4, d5, d6⟩, ⟨g0, g1, g2, g3, g4, g5, g6⟩⟩ := cells7 (G6.out.blk _ (.tail _ (.head _)))
    go_wp2
    have H5 := G6.out.set7 1 rfl (.int .i64 8) (.int .i64 (E.pl i0)) (.int .i64 0) (.string ⟨#[]⟩) (.int .i64 0) (.slice A M cap) (.slice none 0 0)
    refine bodyPost_ret (v := .agg #[.int .i64 8, .int .i64 (E.pl i0), .int .i64 0, .string ⟨#[]⟩, .int .i64 0, .slice A M cap, .slice none 0 0]) (by simp [results, Tryz.results105, go_sem, d0, d1, d2, d3, d4, d5, d6]) rfl ?_
    have X9 := XR.of (f := .nil) 8 (E.pl i0) 0 0 ⟨#[]⟩ (OF.sl (show OF _ _ _ _ (Fp w.heap.size _) _ _ from H5.get (.head _))) .nil
    exact ⟨_, rfl, by rw [map_exl]; exact X9.keep (fun _ _ _ => rfl) (Nat.le_refl _) (fun i hi _ => hi.1), H5.ps, H5.kp⟩
   | false =>
    rw [if_neg (by rw [b1]; simp [h0a])] at p2
    rw [b1] at IS
    have FU := hid (fun X hX => show Calls Tryz.prog 80 #[.pointer (some ⟨E.p, 0, none⟩), .int .i64 ((M : Int) / 2), .int .i64 64] X _ from full_is E HH.out.1 sa p3 (M / 2) 64 X hX)
    have gf := hid (Go.full (M / 2) 64 (Go.refl p3))
    have hM := hid (show M ≤ 40000 ∧ n ≤ 20000 from by have := HH.out.1.len; omega)
    clear h0a p1 p3 p4 p5 p6 p7 p8 b1
    generalize TP.full (M / 2) 64 sa = s2 at p2 FU gf
    have PL := hid (fun X (hX : PS E X s2) => place_is E s2 gf.out.2.1 X hX)
    have q1 : wrap64 ((M : Int) / 2) = (M : Int) / 2 := by have := hM.out.1; unfold wrap64; omega
    have q2 : IntKind.i64.wrap ((M : Int) / 2) = (M : Int) / 2 := by have := hM.out.1; rw [IntKind.wrap_i64]; omega
    go_wp2_with (first | (go_at_call 49; (with_reducible refine (IS.out).mono ?_); rintro e x1 ⟨rfl, h1⟩; have F1 := hid (FA.out.below h1); obtain ⟨⟨a0, a1, a2, a3, a4, a5, a6⟩, ⟨f0, f1, f2, f3, f4, f5, f6⟩⟩ := cells7 (F1.out.blk _ (.head _)); clear h1) | (go_at_call 80; (with_reducible refine (FU.out _ F1.out.ps).mono ?_); rintro e x2 ⟨rfl, h1, h2⟩; have F2 := hid (F1.out.call h1 h2); clear h1 h2) | (go_at_call 47; refine Hid.out ?_))
    refine hid ?_
    refine (PL.out _ F2.out.ps).mono ?_
    rintro e x3 ⟨rfl, h1, h2⟩
    have F3 := F2.out.below2 h1 h2
    have F4 := hid (F3.new (.cells #[.int .i64 0, .int .i64 (E.pl s2.i), .int .i64 0, .string ⟨#[]⟩, .int .i64 1, .slice none 0 0, .slice none 0 0] 38))
    clear c2 a0 a1 a2 a3 a4 a5 a6 f0 f1 f2 f3 f4 f5 f6 q1 q2 h1 h2 FU PL F1 F2 IS FA
    obtain ⟨_, c0, c1, c2, _⟩ := F3.ps.cells
    have lp := F3.ps.lt
    have lg := F3.ps.2.1
    have np := Nat.ne_of_lt lp
    have P2 := hid p2
    have hs2 := hid gf.out
    clear p2
    by_cases h0b : s2.c = 0
    ·rw [h0b] at c2
     cases b2 : isT E.ts (B [91]) s2 with
     | true =>
      have ek : TP.key E.ts ex n s2 = (((ex (adv s2)).1, TP.take E.ts (B [61]) (TP.take E.ts (B [93]) (ex (adv s2)).2)), (n : Int)) := by unfold TP.key; rw [if_neg (fun e => e h0b), if_pos b2]
      have P3 := P2.out
      rw [ek] at P3
      have P2 := hid P3
      have hA := hid (is_adv HH.out.1.ends hs2.out.2.1 b2)
      have O2 := hid (fun X (hX : PS E X s2) => opt_yes E HH.out.1 s2 hs2.out.2.1 (B [91]) b2 X hX)
      have GA2 := hid (HH.out.2.1 (adv s2) hA.out.2.1)
      have GT1 := hid ((Go.refl GA2.out.2.1).take HH.out.1.ends (B [93]))
      have T1 := hid (fun X (hX : PS E X (ex (adv s2)).2) => take_is E HH.out.1 _ GA2.out.2.1 (B [93]) X hX)
      have T2 := hid (fun X (hX : PS E X (TP.take E.ts (B [93]) (ex (adv s2)).2)) => take_is E HH.out.1 _ GT1.out.2.1 (B [61]) X hX)
      have hs3 := hid ((((hs2.out.trans hA.out).trans GA2.out).take HH.out.1.ends (B [93])).take HH.out.1.ends (B [61]))
      clear P3 ek b2 F3
      go_wp2_with (first | (go_at_call 48; (with_reducible refine (O2.out _ F4.out.ps).mono ?_); rintro e x5 ⟨rfl, h1, h2⟩; have F5 := hid (F4.out.call h1 h2); clear h1 h2) | (go_at_call 50; refine Hid.out ?_))
      refine hid ?_
      refine (HH.out.2.2.1 (adv s2) _ hA.out.2.1 F5.out.ps).mono ?_
      rintro e x6 ⟨v, rfl, hx, h1, h2⟩
      obtain ⟨kk, ka, kn, kx, kop, Kl, kr, ke, Kf, kf, kg, rfl⟩ := hx.form
      have F6 := hid (F5.out.callA h1 h2 (own := (Value.slice A M cap).ownBlock) (F5.out.rowlt (.head _)) hx)
      clear h1 h2 hx F5 F4 c0 c1 c2 lp lg np O2
      generalize x3.heap.size = b9 at F6 ⊢
      obtain ⟨⟨e0, e1, e2, e3, e4, e5, e6⟩, ⟨g0, g1, g2, g3, g4, g5, g6⟩⟩ := cells7 (F6.out.blk _ (.head _))
      go_wp2_with (first | (go_at_call 71; refine Hid.out ?_))
      refine hid ?_
      have F7 := F6.out.set7 0 rfl (.int .i64 kk) (.int .i64 ka) (.int .i64 kn) (.string kx) (.int .i64 kop) (.slice Kl kr ke) (.slice Kf kf kg)
      refine (T1.out _ F7.ps).mono ?_
      rintro e x7 ⟨rfl, h1, h2⟩
      have F8 := hid (F7.call h1 h2)
      clear h1 h2 F7 F6 e0 e1 e2 e3 e4 e5 e6 g0 g1 g2 g3 g4 g5 g6 T1
      go_wp2_with (first | (go_at_call 71; (with_reducible refine (T2.out _ F8.out.ps).mono ?_); rintro e x8 ⟨rfl, h1, h2⟩; have FK := hid (show Fr E (fun i => i = E.p) w.heap.size w x8 _ [(b9, .cells #[.int .i64 kk, .int .i64 ka, .int .i64 kn, .string kx, .int .i64 kop, .slice Kl kr ke, .slice Kf kf kg] 38), (b7, .cells #[.int .i64 8, .int .i64 (E.pl i0), .int .i64 0, .string ⟨#[]⟩, .int .i64 0, .slice A M cap, .slice none 0 0] 38), (w.heap.size, .cells #[.int .i64 0, .int .i64 0, .int .i64 0, .string ⟨#[]⟩, .int .i64 0, .slice none 0 0, .slice none 0 0] 38)] _ from F8.out.call h1 h2); clear h1 h2) | (go_at_call 50; refine Hid.out ?_))
      clear F8 T2
      refine hid ?_
      have GX := hid (HH.out.2.1 (TP.take E.ts (B [61]) (TP.take E.ts (B [93]) (ex (adv s2)).2)) hs3.out.2.1)
      have GL := hid (hs3.out.trans GX.out)
      refine (HH.out.2.2.1 (TP.take E.ts (B [61]) (TP.take E.ts (B [93]) (ex (adv s2)).2)) _ hs3.out.2.1 FK.out.ps).mono ?_
      rintro e y1 ⟨v, rfl, hx, h1, h2⟩
      obtain ⟨k', a', n', x', op', Cl, rl, el, Cf, rf, ef, rfl⟩ := hx.form
      have G0 := FK.out.callA h1 h2 (own := (Value.slice A M cap).ownBlock) (FK.out.rowlt (.tail _ (.head _))) hx
      have G1 := hid (G0.new (.cells #[.int .i64 k', .int .i64 a', .int .i64 n', .string x', .int .i64 op', .slice Cl rl el, .slice Cf rf ef] 38))
      have G2 := hid (G1.out.newF (.cells #[.int .i64 kk, .int .i64 ka, .int .i64 kn, .string kx, .int .i64 kop, .slice Kl kr ke, .slice Kf kf kg, .int .i64 k', .int .i64 a', .int .i64 n', .string x', .int .i64 op', .slice Cl rl el, .slice Cf rf ef] 38))
      have nB := hid (heap_alloc_new (y1.alloc (.cells #[.int .i64 k', .int .i64 a', .int .i64 n', .string x', .int .i64 op', .slice Cl rl el, .slice Cf rf ef] 38)) (.cells #[.int .i64 kk, .int .i64 ka, .int .i64 kn, .string kx, .int .i64 kop, .slice Kl kr ke, .slice Kf kf kg, .int .i64 k', .int .i64 a', .int .i64 n', .string x', .int .i64 op', .slice Cl rl el, .slice Cf rf ef] 38))
      have nd := G0.nd
      simp only [List.map_cons, List.map_nil, List.nodup_cons, List.mem_cons, List.mem_nil_iff, or_false, not_or, List.nodup_nil, and_true] at nd
      obtain ⟨⟨n1, n2⟩, n3, _⟩ := nd
      have n4 := Ne.symm n1
      obtain ⟨⟨e0, e1, e2, e3, e4, e5, e6⟩, ⟨g0, g1, g2, g3, g4, g5, g6⟩⟩ := cells7 (G0.blk _ (.head _))
      obtain ⟨⟨a0, a1, a2, a3, a4, a5, a6⟩, ⟨f0, f1, f2, f3, f4, f5, f6⟩⟩ := cells7 (G0.blk _ (.tail _ (.head _)))
      have l9 := G0.lt (.head _)
      have l7 := G0.lt (.tail _ (.head _))
      have m9 := Nat.ne_of_lt l9
      have m7 := Nat.ne_of_lt l7
      clear h1 h2 hx G0 FK
      go_wp2_with (first | (at_builtin; refine append_OF2 ((y1.alloc (.cells #[.int .i64 k', .int .i64 a', .int .i64 n', .string x', .int .i64 op', .slice Cl rl el, .slice Cf rf ef] 38)).alloc (.cells #[.int .i64 kk, .int .i64 ka, .int .i64 kn, .string kx, .int .i64 kop, .slice Kl kr ke, .slice Kf kf kg, .int .i64 k', .int .i64 a', .int .i64 n', .string x', .int .i64 op', .slice Cl rl el, .slice Cf rf ef] 38)) rfl _ _ 0 38 31 96 _ rfl Tryz.underlying31 i38n rfl (by decide) (by decide) w.heap.size _ (.slice A M cap) (l.map E.gl) M (by rw [T.len_map]; exact PP.out.2.2.2.1) rfl (G2.out.get (.tail _ (.tail _ (.head _)))) _ _ [.int .i64 kk, .int .i64 ka, .int .i64 kn, .string kx, .int .i64 kop, .slice Kl kr ke, .slice Kf kf kg] [.int .i64 k', .int .i64 a', .int .i64 n', .string x', .int .i64 op', .slice Cl rl el, .slice Cf rf ef] (y1.alloc (.cells #[.int .i64 k', .int .i64 a', .int .i64 n', .string x', .int .i64 op', .slice Cl rl el, .slice Cf rf ef] 38)).heap.size (by simp [go_sem]) nB.out (XR.ec1 (G2.out.get (.tail _ (.head _)))) (XR.ec1 (G2.out.get (.head _))) (Nat.le_trans hM.out.1 (by decide)) G2.out.kp.size G2.out.fresh ?_; intro g' cap' y3 h1 h2 h3; have G3 := hid (G2.out.appended (G2.out.get (.tail _ (.tail _ (.head _)))) (Nat.le_refl _) h2 h1); clear h1 h2 h3; refine Hid.out ?_))
      refine hid ?_
      clear e0 e1 e2 e3 e4 e5 e6 g0 g1 g2 g3 g4 g5 g6 a0 a1 a2 a3 a4 a5 a6 f0 f1 f2 f3 f4 f5 f6 l9 l7 m9 m7 nB G2 G1
      obtain ⟨⟨a0, a1, a2, a3, a4, a5, a6⟩, ⟨f0, f1, f2, f3, f4, f5, f6⟩⟩ := cells7 (G3.out.blk _ (.tail _ (.tail _ (.head _))))
      have G4 := hid (show Fr E (fun i => i = E.p) w.heap.size w _ _ [_, _, (b7, .cells #[.int .i64 8, .int .i64 (E.pl i0), .int .i64 0, .string ⟨#[]⟩, .int .i64 0, .slice (some ⟨g', 0, none⟩) (M + 2) cap', .slice none 0 0] 38), _] _ from G3.out.set1 2 rfl 5 (.slice (some ⟨g', 0, none⟩) (M + 2) cap'))
      have GM := hid (show ((l.map E.gl).snoc (((ex (adv s2)).1 : T).map E.gl)).snoc ((ex (TP.take E.ts (B [61]) (TP.take E.ts (B [93]) (ex (adv s2)).2))).1.map E.gl) = ((l.snoc (ex (adv s2)).1).snoc (ex (TP.take E.ts (B [61]) (TP.take E.ts (B [93]) (ex (adv s2)).2))).1).map E.gl from by rw [map_snoc E.gl _ (isList_snoc _ PP.out.2.2.1), map_snoc E.gl _ PP.out.2.2.1])
      cases b3 : isT E.ts (B [44]) (ex (TP.take E.ts (B [61]) (TP.take E.ts (B [93]) (ex (adv s2)).2))).2 with
      | true =>
       have OC := hid (fun X (hX : PS E X (ex (TP.take E.ts (B [61]) (TP.take E.ts (B [93]) (ex (adv s2)).2))).2) => opt_yes E HH.out.1 (ex (TP.take E.ts (B [61]) (TP.take E.ts (B [93]) (ex (adv s2)).2))).2 GX.out.2.1 (B [44]) b3 X hX)
       have hC := hid (is_adv HH.out.1.ends GX.out.2.1 b3)
       have P3 := P2.out
       rw [if_pos b3] at P3
       have P4 := hid P3
       clear b3 P3
       go_wp2_with (first | (go_at_call 48; (with_reducible refine (OC.out _ G4.out.ps).mono ?_); rintro e y4 ⟨rfl, h1, h2⟩; have G5 := hid (G4.out.call h1 h2); clear h1 h2))
       have H6 := G5.out.drop [(b7, _), (w.heap.size, .cells #[.int .i64 0, .int .i64 0, .int .i64 0, .string ⟨#[]⟩, .int .i64 0, .slice none 0 0, .slice none 0 0] 38)] [_] (.cons _ (.cons _ (.refl _))) (fun it hi => by rw [List.mem_singleton.1 hi]; exact .head _)
       exact ⟨hid ⟨fa', _, _, M + 2, n, some ⟨g', 0, none⟩, cap', by have := PP.out.1; have := GL.out.1; have e : (adv (ex (TP.take E.ts (B [61]) (TP.take E.ts (B [93]) (ex (adv s2)).2))).2).i = (ex (TP.take E.ts (B [61]) (TP.take E.ts (B [93]) (ex (adv s2)).2))).2.i + 1 := rfl; omega, P4.out, hC.out.2.1, isList_snoc _ (isList_snoc _ PP.out.2.2.1), by rw [len_two _ _ _ PP.out.2.2.1, PP.out.2.2.2.1], by have := PP.out.2.2.2.2.1; have := GL.out.1; have e : (adv (ex (TP.take E.ts (B [61]) (TP.take E.ts (B [93]) (ex (adv s2)).2))).2).i = (ex (TP.take E.ts (B [61]) (TP.take E.ts (B [93]) (ex (adv s2)).2))).2.i + 1 := rfl; omega, by have := PP.out.2.2.2.2.2.1; have := GL.out.1; have e : (adv (ex (TP.take E.ts (B [61]) (TP.take E.ts (B [93]) (ex (adv s2)).2))).2).i = (ex (TP.take E.ts (B [61]) (TP.take E.ts (B [93]) (ex (adv s2)).2))).2.i + 1 := rfl; omega, by have := PP.out.2.2.2.2.2.2; have := GL.out.1; have e : (adv (ex (TP.take E.ts (B [61]) (TP.take E.ts (B [93]) (ex (adv s2)).2))).2).i = (ex (TP.take E.ts (B [61]) (TP.take E.ts (B [93]) (ex (adv s2)).2))).2.i + 1 := rfl; omega, rfl, by rw [← GM.out]; exact H6⟩, by rw [PA, H6.ps.pos]; have := hC.out.2.1; have := GL.out.1; have e : (adv (ex (TP.take E.ts (B [61]) (TP.take E.ts (B [93]) (ex (adv s2)).2))).2).i = (ex (TP.take E.ts (B [61]) (TP.take E.ts (B [93]) (ex (adv s2)).2))).2.i + 1 := rfl; omega⟩
      | false =>
       have OC := hid (fun X (hX : PS E X (ex (TP.take E.ts (B [61]) (TP.take E.ts (B [93]) (ex (adv s2)).2))).2) => opt_no E HH.out.1 (ex (TP.take E.ts (B [61]) (TP.take E.ts (B [93]) (ex (adv s2)).2))).2 GX.out.2.1 (B [44]) b3 X hX)
       cases b4 : isT E.ts (B [59]) (ex (TP.take E.ts (B [61]) (TP.take E.ts (B [93]) (ex (adv s2)).2))).2 with
       | true =>
        have OD := hid (fun X (hX : PS E X (ex (TP.take E.ts (B [61]) (TP.take E.ts (B [93]) (ex (adv s2)).2))).2) => opt_yes E HH.out.1 (ex (TP.take E.ts (B [61]) (TP.take E.ts (B [93]) (ex (adv s2)).2))).2 GX.out.2.1 (B [59]) b4 X hX)
        have hC := hid (is_adv HH.out.1.ends GX.out.2.1 b4)
        have P3 := P2.out
        rw [if_neg (by rw [b3]; decide), if_pos b4] at P3
        have P4 := hid P3
        clear b3 b4 P3
        go_wp2_with (first | (go_at_call 48; (with_reducible refine (OC.out _ G4.out.ps).mono ?_); rintro e y4 ⟨rfl, h1, h2⟩; have G5 := hid (G4.out.call h1 h2); clear h1 h2) | (go_at_call 48; (with_reducible refine (OD.out _ G5.out.ps).mono ?_); rintro e y5 ⟨rfl, h1, h2⟩; have G6 := hid (G5.out.call h1 h2); clear h1 h2))
        have H6 := G6.out.drop [(b7, _), (w.heap.size, .cells #[.int .i64 0, .int .i64 0, .int .i64 0, .string ⟨#[]⟩, .int .i64 0, .slice none 0 0, .slice none 0 0] 38)] [_] (.cons _ (.cons _ (.refl _))) (fun it hi => by rw [List.mem_singleton.1 hi]; exact .head _)
        exact ⟨hid ⟨fa', _, _, M + 2, n, some ⟨g', 0, none⟩, cap', by have := PP.out.1; have := GL.out.1; have e : (adv (ex (TP.take E.ts (B [61]) (TP.take E.ts (B [93]) (ex (adv s2)).2))).2).i = (ex (TP.take E.ts (B [61]) (TP.take E.ts (B [93]) (ex (adv s2)).2))).2.i + 1 := rfl; omega, P4.out, hC.out.2.1, isList_snoc _ (isList_snoc _ PP.out.2.2.1), by rw [len_two _ _ _ PP.out.2.2.1, PP.out.2.2.2.1], by have := PP.out.2.2.2.2.1; have := GL.out.1; have e : (adv (ex (TP.take E.ts (B [61]) (TP.take E.ts (B [93]) (ex (adv s2)).2))).2).i = (ex (TP.take E.ts (B [61]) (TP.take E.ts (B [93]) (ex (adv s2)).2))).2.i + 1 := rfl; omega, by have := PP.out.2.2.2.2.2.1; have := GL.out.1; have e : (adv (ex (TP.take E.ts (B [61]) (TP.take E.ts (B [93]) (ex (adv s2)).2))).2).i = (ex (TP.take E.ts (B [61]) (TP.take E.ts (B [93]) (ex (adv s2)).2))).2.i + 1 := rfl; omega, by have := PP.out.2.2.2.2.2.2; have := GL.out.1; have e : (adv (ex (TP.take E.ts (B [61]) (TP.take E.ts (B [93]) (ex (adv s2)).2))).2).i = (ex (TP.take E.ts (B [61]) (TP.take E.ts (B [93]) (ex (adv s2)).2))).2.i + 1 := rfl; omega, rfl, by rw [← GM.out]; exact H6⟩, by rw [PA, H6.ps.pos]; have := hC.out.2.1; have := GL.out.1; have e : (adv (ex (TP.take E.ts (B [61]) (TP.take E.ts (B [93]) (ex (adv s2)).2))).2).i = (ex (TP.take E.ts (B [61]) (TP.take E.ts (B [93]) (ex (adv s2)).2))).2.i + 1 := rfl; omega⟩
       | false =>
        have OD := hid (fun X (hX : PS E X (ex (TP.take E.ts (B [61]) (TP.take E.ts (B [93]) (ex (adv s2)).2))).2) => opt_no E HH.out.1 (ex (TP.take E.ts (B [61]) (TP.take E.ts (B [93]) (ex (adv s2)).2))).2 GX.out.2.1 (B [59]) b4 X hX)
        have P3 := P2.out
        rw [if_neg (by rw [b3]; decide), if_neg (by rw [b4]; decide)] at P3
        subst P3
        clear b3 b4 P2
        go_wp2_with (first | (go_at_call 48; (with_reducible refine (OC.out _ G4.out.ps).mono ?_); rintro e y4 ⟨rfl, h1, h2⟩; have G5 := hid (G4.out.call h1 h2); clear h1 h2) | (go_at_call 48; (with_reducible refine (OD.out _ G5.out.ps).mono ?_); rintro e y5 ⟨rfl, h1, h2⟩; have G6a := hid (G5.out.call h1 h2); clear h1 h2) | (go_at_call 71; (with_reducible refine (TK.out _ G6a.out.ps).mono ?_); rintro e z1 ⟨rfl, h1, h2⟩; have G6 := hid (G6a.out.call h1 h2); clear h1 h2; refine Hid.out ?_))
        refine hid ?_
        have H6 := hid (show Fr E (fun i => i = E.p) w.heap.size w _ _ [(b7, .cells #[.int .i64 8, .int .i64 (E.pl i0), .int .i64 0, .string ⟨#[]⟩, .int .i64 0, .slice (some ⟨g', 0, none⟩) (M + 2) cap', .slice none 0 0] 38), (w.heap.size, .cells #[.int .i64 0, .int .i64 0, .int .i64 0, .string ⟨#[]⟩, .int .i64 0, .slice none 0 0, .slice none 0 0] 38)] [.r 0 38 w.heap.size (((l.snoc (ex (adv s2)).1).snoc (ex (TP.take E.ts (B [61]) (TP.take E.ts (B [93]) (ex (adv s2)).2))).1).map E.gl) _] from by rw [← GM.out]; exact G6.out.drop _ [_] (.cons _ (.cons _ (.refl _))) (fun it hi => by rw [List.mem_singleton.1 hi]; exact .head _))
        clear G6 G6a G5 G4 G3 a0 a1 a2 a3 a4 a5 a6 f0 f1 f2 f3 f4 f5 f6
        have nd := H6.out.nd
        simp only [List.map_cons, List.map_nil, List.nodup_cons, List.mem_cons, List.mem_nil_iff, or_false, not_or, List.nodup_nil, and_true] at nd
        have nd1 := nd.1
        have nd2 := Ne.symm nd1
        clear nd
        obtain ⟨⟨a0, a1, a2, a3, a4, a5, a6⟩, ⟨f0, f1, f2, f3, f4, f5, f6⟩⟩ := cells7 (H6.out.blk _ (.head _))
        obtain ⟨⟨d0, d1, d2, d3, d4, d5, d6⟩, ⟨g0, g1, g2, g3, g4, g5, g6⟩⟩ := cells7 (H6.out.blk _ (.tail _ (.head _)))
        go_wp2
        have H5 := H6.out.set7 1 rfl (.int .i64 8) (.int .i64 (E.pl i0)) (.int .i64 0) (.string ⟨#[]⟩) (.int .i64 0) (.slice (some ⟨g', 0, none⟩) (M + 2) cap') (.slice none 0 0)
        refine bodyPost_ret (v := .agg #[.int .i64 8, .int .i64 (E.pl i0), .int .i64 0, .string ⟨#[]⟩, .int .i64 0, .slice (some ⟨g', 0, none⟩) (M + 2) cap', .slice none 0 0]) (by simp [results, Tryz.results105, go_sem, d0, d1, d2, d3, d4, d5, d6]) rfl ?_
        have X9 := XR.of (f := .nil) 8 (E.pl i0) 0 0 ⟨#[]⟩ (OF.sl (show OF _ _ _ _ (Fp w.heap.size _) _ _ from H5.get (.head _))) .nil
        exact ⟨_, rfl, by rw [map_exl]; exact X9.keep (fun _ _ _ => rfl) (Nat.le_refl _) (fun i hi _ => hi.1), H5.ps, H5.kp⟩
     | false =>
      have O2 := hid (fun X (hX : PS E X s2) => opt_no E HH.out.1 s2 hs2.out.2.1 (B [91]) b2 X hX)
      have wI := wrapI s2.i (by have := HH.out.1.len; have := hs2.out.2.1; omega)
      have i1 : (s2.i : Int) < (E.ts.length : Int) := by have := hs2.out.2.1; omega
      by_cases k1 : (tk E.ts s2).kind = 2
      ·have hA := hid (adv_go HH.out.1.ends hs2.out.2.1 (by rw [k1]; decide))
       have i2 : (s2.i : Int) + 1 < (E.ts.length : Int) := by have := hA.out.2.1; have e : (adv s2).i = s2.i + 1 := rfl; omega
       by_cases k2 : (tk E.ts (adv s2)).kind = 5
       ·by_cases k3 : (tk E.ts (adv s2)).text = B [61]
        ·have ek : TP.key E.ts ex n s2 = ((.ex 5 s2.i 0 (TP.name E.ts s2).1 1 .nil .nil, TP.take E.ts (B [61]) (TP.name E.ts s2).2), (n : Int)) := by unfold TP.key; rw [if_neg (fun e => e h0b), if_neg (by rw [b2]; decide), if_pos ⟨k1, k2, k3⟩]
         have P3 := P2.out
         rw [ek] at P3
         have P2 := hid P3
         clear P3 ek
         go_wp2_with (first | (go_at_call 48; (with_reducible refine (O2.out _ F4.out.ps).mono ?_); rintro e x5 ⟨rfl, h1, h2⟩; have F5 := hid (F4.out.call h1 h2); clear h1 h2))
         have KF := F5.out.ps.cells
         obtain ⟨_, d0, d1, d2, _⟩ := KF
         obtain ⟨t0, t1, t2, t3⟩ := F5.out.ps.tok hs2.out.2.1
         obtain ⟨u0, u1, u2, u3⟩ := F5.out.ps.tokN hA.out.2.1
         rw [h0b] at d2
         rw [k1] at t0
         rw [k2] at u0
         rw [k3] at u1
         clear c0 c1 c2 lp lg np F3 F4
         generalize x3.heap.size = b9 at F5 ⊢
         go_quiet (fail)
         have F6 := hid (F5.out.below (below_drewN (Below.refl _ _) nq))
         have NM := hid (fun X (hX : PS E X s2) => name_is E HH.out.1 s2 hs2.out.2.1 X hX)
         have GN := hid ((Go.refl hs2.out.2.1).name HH.out.1.ends)
         have T2 := hid (fun X (hX : PS E X (TP.name E.ts s2).2) => take_is E HH.out.1 _ GN.out.2.1 (B [61]) X hX)
         have hs3 := hid ((hs2.out.name HH.out.1.ends).take HH.out.1.ends (B [61]))
         clear t0 t1 t2 t3 u0 u1 u2 u3 d0 d1 d2 F5 O2 b2 wI i1 i2 k1 k2 k3 hA h0b
         generalize x5.drewN nq = X5 at F6 ⊢
         obtain ⟨⟨e0, e1, e2, e3, e4, e5, e6⟩, ⟨g0, g1, g2, g3, g4, g5, g6⟩⟩ := cells7 (F6.out.blk _ (.head _))
         go_wp2_with (first | (go_at_call 69; refine Hid.out ?_))
         refine hid ?_
         have F7 := F6.out.set1 0 rfl 0 (.int .i64 5)
         refine (NM.out _ F7.ps).mono ?_
         rintro e x6 ⟨rfl, h1, h2⟩
         have F8 := hid (show Fr E (fun i => i = E.p) w.heap.size w x6 _ [(b9, .cells #[.int .i64 5, .int .i64 (E.pl s2.i), .int .i64 0, .string ⟨#[]⟩, .int .i64 1, .slice none 0 0, .slice none 0 0] 38), (b7, .cells #[.int .i64 8, .int .i64 (E.pl i0), .int .i64 0, .string ⟨#[]⟩, .int .i64 0, .slice A M cap, .slice none 0 0] 38), (w.heap.size, .cells #[.int .i64 0, .int .i64 0, .int .i64 0, .string ⟨#[]⟩, .int .i64 0, .slice none 0 0, .slice none 0 0] 38)] _ from F7.call h1 h2)
         clear e0 e1 e2 e3 e4 e5 e6 g0 g1 g2 g3 g4 g5 g6 h1 h2 F7 F6 NM
         obtain ⟨⟨e0, e1, e2, e3, e4, e5, e6⟩, ⟨g0, g1, g2, g3, g4, g5, g6⟩⟩ := cells7 (F8.out.blk _ (.head _))
         go_wp2_with (first | (go_at_call 71; refine Hid.out ?_))
         refine hid ?_
         have F9 := F8.out.set1 0 rfl 3 (.string (TP.name E.ts s2).1)
         refine (T2.out _ F9.ps).mono ?_
         rintro e x7 ⟨rfl, h1, h2⟩
         have FK := hid (show Fr E (fun i => i = E.p) w.heap.size w x7 _ [(b9, .cells #[.int .i64 5, .int .i64 (E.pl s2.i), .int .i64 0, .string (TP.name E.ts s2).1, .int .i64 1, .slice none 0 0, .slice none 0 0] 38), (b7, .cells #[.int .i64 8, .int .i64 (E.pl i0), .int .i64 0, .string ⟨#[]⟩, .int .i64 0, .slice A M cap, .slice none 0 0] 38), (w.heap.size, .cells #[.int .i64 0, .int .i64 0, .int .i64 0, .string ⟨#[]⟩, .int .i64 0, .slice none 0 0, .slice none 0 0] 38)] [_, _] from (F9.call h1 h2).add (it := .a (Value.slice A M cap).ownBlock ((T.ex 5 s2.i 0 (TP.name E.ts s2).1 1 .nil .nil).map E.gl) (.agg #[.int .i64 5, .int .i64 (E.pl s2.i), .int .i64 0, .string (TP.name E.ts s2).1, .int .i64 1, .slice none 0 0, .slice none 0 0])) (by
          show XR _ _ _ _
          rw [map_leaf]
          exact XR.leaf _ _ _ _ _ _ _))
         clear e0 e1 e2 e3 e4 e5 e6 g0 g1 g2 g3 g4 g5 g6 h1 h2 F9 F8 T2
         go_wp2_with (first | (go_at_call 50; refine Hid.out ?_))
         refine hid ?_
         have GX := hid (HH.out.2.1 (TP.take E.ts (B [61]) (TP.name E.ts s2).2) hs3.out.2.1)
         have GL := hid (hs3.out.trans GX.out)
         refine (HH.out.2.2.1 (TP.take E.ts (B [61]) (TP.name E.ts s2).2) _ hs3.out.2.1 FK.out.ps).mono ?_
         rintro e y1 ⟨v, rfl, hx, h1, h2⟩
         obtain ⟨k', a', n', x', op', Cl, rl, el, Cf, rf, ef, rfl⟩ := hx.form
         have G0 := FK.out.callA h1 h2 (own := (Value.slice A M cap).ownBlock) (FK.out.rowlt (.tail _ (.head _))) hx
         have G1 := hid (G0.new (.cells #[.int .i64 k', .int .i64 a', .int .i64 n', .string x', .int .i64 op', .slice Cl rl el, .slice Cf rf ef] 38))
         have G2 := hid (G1.out.newF (.cells #[.int .i64 5, .int .i64 (E.pl s2.i), .int .i64 0, .string (TP.name E.ts s2).1, .int .i64 1, .slice none 0 0, .slice none 0 0, .int .i64 k', .int .i64 a', .int .i64 n', .string x', .int .i64 op', .slice Cl rl el, .slice Cf rf ef] 38))
         have nB := hid (heap_alloc_new (y1.alloc (.cells #[.int .i64 k', .int .i64 a', .int .i64 n', .string x', .int .i64 op', .slice Cl rl el, .slice Cf rf ef] 38)) (.cells #[.int .i64 5, .int .i64 (E.pl s2.i), .int .i64 0, .string (TP.name E.ts s2).1, .int .i64 1, .slice none 0 0, .slice none 0 0, .int .i64 k', .int .i64 a', .int .i64 n', .string x', .int .i64 op', .slice Cl rl el, .slice Cf rf ef] 38))
         have nd := G0.nd
         simp only [List.map_cons, List.map_nil, List.nodup_cons, List.mem_cons, List.mem_nil_iff, or_false, not_or, List.nodup_nil, and_true] at nd
         obtain ⟨⟨n1, n2⟩, n3, _⟩ := nd
         have n4 := Ne.symm n1
         obtain ⟨⟨e0, e1, e2, e3, e4, e5, e6⟩, ⟨g0, g1, g2, g3, g4, g5, g6⟩⟩ := cells7 (G0.blk _ (.head _))
         obtain ⟨⟨a0, a1, a2, a3, a4, a5, a6⟩, ⟨f0, f1, f2, f3, f4, f5, f6⟩⟩ := cells7 (G0.blk _ (.tail _ (.head _)))
         have l9 := G0.lt (.head _)
         have l7 := G0.lt (.tail _ (.head _))
         have m9 := Nat.ne_of_lt l9
         have m7 := Nat.ne_of_lt l7
         clear h1 h2 hx G0 FK
         go_wp2_with (first | (at_builtin; refine append_OF2 ((y1.alloc (.cells #[.int .i64 k', .int .i64 a', .int .i64 n', .string x', .int .i64 op', .slice Cl rl el, .slice Cf rf ef] 38)).alloc (.cells #[.int .i64 5, .int .i64 (E.pl s2.i), .int .i64 0, .string (TP.name E.ts s2).1, .int .i64 1, .slice none 0 0, .slice none 0 0, .int .i64 k', .int .i64 a', .int .i64 n', .string x', .int .i64 op', .slice Cl rl el, .slice Cf rf ef] 38)) rfl _ _ 0 38 31 96 _ rfl Tryz.underlying31 i38n rfl (by decide) (by decide) w.heap.size _ (.slice A M cap) (l.map E.gl) M (by rw [T.len_map]; exact PP.out.2.2.2.1) rfl (G2.out.get (.tail _ (.tail _ (.head _)))) _ _ [.int .i64 5, .int .i64 (E.pl s2.i), .int .i64 0, .string (TP.name E.ts s2).1, .int .i64 1, .slice none 0 0, .slice none 0 0] [.int .i64 k', .int .i64 a', .int .i64 n', .string x', .int .i64 op', .slice Cl rl el, .slice Cf rf ef] (y1.alloc (.cells #[.int .i64 k', .int .i64 a', .int .i64 n', .string x', .int .i64 op', .slice Cl rl el, .slice Cf rf ef] 38)).heap.size (by simp [go_sem]) nB.out (XR.ec1 (G2.out.get (.tail _ (.head _)))) (XR.ec1 (G2.out.get (.head _))) (Nat.le_trans hM.out.1 (by decide)) G2.out.kp.size G2.out.fresh ?_; intro g' cap' y3 h1 h2 h3; have G3 := hid (G2.out.appended (G2.out.get (.tail _ (.tail _ (.head _)))) (Nat.le_refl _) h2 h1); clear h1 h2 h3; refine Hid.out ?_))
         refine hid ?_
         clear e0 e1 e2 e3 e4 e5 e6 g0 g1 g2 g3 g4 g5 g6 a0 a1 a2 a3 a4 a5 a6 f0 f1 f2 f3 f4 f5 f6 l9 l7 m9 m7 nB G2 G1
         obtain ⟨⟨a0, a1, a2, a3, a4, a5, a6⟩, ⟨f0, f1, f2, f3, f4, f5, f6⟩⟩ := cells7 (G3.out.blk _ (.tail _ (.tail _ (.head _))))
         have G4 := hid (show Fr E (fun i => i = E.p) w.heap.size w _ _ [_, _, (b7, .cells #[.int .i64 8, .int .i64 (E.pl i0), .int .i64 0, .string ⟨#[]⟩, .int .i64 0, .slice (some ⟨g', 0, none⟩) (M + 2) cap', .slice none 0 0] 38), _] _ from G3.out.set1 2 rfl 5 (.slice (some ⟨g', 0, none⟩) (M + 2) cap'))
         have GM := hid (show ((l.map E.gl).snoc (((T.ex 5 s2.i 0 (TP.name E.ts s2).1 1 .nil .nil) : T).map E.gl)).snoc ((ex (TP.take E.ts (B [61]) (TP.name E.ts s2).2)).1.map E.gl) = ((l.snoc (T.ex 5 s2.i 0 (TP.name E.ts s2).1 1 .nil .nil)).snoc (ex (TP.take E.ts (B [61]) (TP.name E.ts s2).2)).1).map E.gl from by rw [map_snoc E.gl _ (isList_snoc _ PP.out.2.2.1), map_snoc E.gl _ PP.out.2.2.1])
         cases b3 : isT E.ts (B [44]) (ex (TP.take E.ts (B [61]) (TP.name E.ts s2).2)).2 with
         | true =>
          have OC := hid (fun X (hX : PS E X (ex (TP.take E.ts (B [61]) (TP.name E.ts s2).2)).2) => opt_yes E HH.out.1 (ex (TP.take E.ts (B [61]) (TP.name E.ts s2).2)).2 GX.out.2.1 (B [44]) b3 X hX)
          have hC := hid (is_adv HH.out.1.ends GX.out.2.1 b3)
          have P3 := P2.out
          rw [if_pos b3] at P3
          have P4 := hid P3
          clear b3 P3
          go_wp2_with (first | (go_at_call 48; (with_reducible refine (OC.out _ G4.out.ps).mono ?_); rintro e y4 ⟨rfl, h1, h2⟩; have G5 := hid (G4.out.call h1 h2); clear h1 h2))
          have H6 := G5.out.drop [(b7, _), (w.heap.size, .cells #[.int .i64 0, .int .i64 0, .int .i64 0, .string ⟨#[]⟩, .int .i64 0, .slice none 0 0, .slice none 0 0] 38)] [_] (.cons _ (.cons _ (.refl _))) (fun it hi => by rw [List.mem_singleton.1 hi]; exact .head _)
          exact ⟨hid ⟨fa', _, _, M + 2, n, some ⟨g', 0, none⟩, cap', by have := PP.out.1; have := GL.out.1; have e : (adv (ex (TP.take E.ts (B [61]) (TP.name E.ts s2).2)).2).i = (ex (TP.take E.ts (B [61]) (TP.name E.ts s2).2)).2.i + 1 := rfl; omega, P4.out, hC.out.2.1, isList_snoc _ (isList_snoc _ PP.out.2.2.1), by rw [len_two _ _ _ PP.out.2.2.1, PP.out.2.2.2.1], by have := PP.out.2.2.2.2.1; have := GL.out.1; have e : (adv (ex (TP.take E.ts (B [61]) (TP.name E.ts s2).2)).2).i = (ex (TP.take E.ts (B [61]) (TP.name E.ts s2).2)).2.i + 1 := rfl; omega, by have := PP.out.2.2.2.2.2.1; have := GL.out.1; have e : (adv (ex (TP.take E.ts (B [61]) (TP.name E.ts s2).2)).2).i = (ex (TP.take E.ts (B [61]) (TP.name E.ts s2).2)).2.i + 1 := rfl; omega, by have := PP.out.2.2.2.2.2.2; have := GL.out.1; have e : (adv (ex (TP.take E.ts (B [61]) (TP.name E.ts s2).2)).2).i = (ex (TP.take E.ts (B [61]) (TP.name E.ts s2).2)).2.i + 1 := rfl; omega, rfl, by rw [← GM.out]; exact H6⟩, by rw [PA, H6.ps.pos]; have := hC.out.2.1; have := GL.out.1; have e : (adv (ex (TP.take E.ts (B [61]) (TP.name E.ts s2).2)).2).i = (ex (TP.take E.ts (B [61]) (TP.name E.ts s2).2)).2.i + 1 := rfl; omega⟩
         | false =>
          have OC := hid (fun X (hX : PS E X (ex (TP.take E.ts (B [61]) (TP.name E.ts s2).2)).2) => opt_no E HH.out.1 (ex (TP.take E.ts (B [61]) (TP.name E.ts s2).2)).2 GX.out.2.1 (B [44]) b3 X hX)
          cases b4 : isT E.ts (B [59]) (ex (TP.take E.ts (B [61]) (TP.name E.ts s2).2)).2 with
          | true =>
           have OD := hid (fun X (hX : PS E X (ex (TP.take E.ts (B [61]) (TP.name E.ts s2).2)).2) => opt_yes E HH.out.1 (ex (TP.take E.ts (B [61]) (TP.name E.ts s2).2)).2 GX.out.2.1 (B [59]) b4 X hX)
           have hC := hid (is_adv HH.out.1.ends GX.out.2.1 b4)
           have P3 := P2.out
           rw [if_neg (by rw [b3]; decide), if_pos b4] at P3
           have P4 := hid P3
           clear b3 b4 P3
           go_wp2_with (first | (go_at_call 48; (with_reducible refine (OC.out _ G4.out.ps).mono ?_); rintro e y4 ⟨rfl, h1, h2⟩; have G5 := hid (G4.out.call h1 h2); clear h1 h2) | (go_at_call 48; (with_reducible refine (OD.out _ G5.out.ps).mono ?_); rintro e y5 ⟨rfl, h1, h2⟩; have G6 := hid (G5.out.call h1 h2); clear h1 h2))
           have H6 := G6.out.drop [(b7, _), (w.heap.size, .cells #[.int .i64 0, .int .i64 0, .int .i64 0, .string ⟨#[]⟩, .int .i64 0, .slice none 0 0, .slice none 0 0] 38)] [_] (.cons _ (.cons _ (.refl _))) (fun it hi => by rw [List.mem_singleton.1 hi]; exact .head _)
           exact ⟨hid ⟨fa', _, _, M + 2, n, some ⟨g', 0, none⟩, cap', by have := PP.out.1; have := GL.out.1; have e : (adv (ex (TP.take E.ts (B [61]) (TP.name E.ts s2).2)).2).i = (ex (TP.take E.ts (B [61]) (TP.name E.ts s2).2)).2.i + 1 := rfl; omega, P4.out, hC.out.2.1, isList_snoc _ (isList_snoc _ PP.out.2.2.1), by rw [len_two _ _ _ PP.out.2.2.1, PP.out.2.2.2.1], by have := PP.out.2.2.2.2.1; have := GL.out.1; have e : (adv (ex (TP.take E.ts (B [61]) (TP.name E.ts s2).2)).2).i = (ex (TP.take E.ts (B [61]) (TP.name E.ts s2).2)).2.i + 1 := rfl; omega, by have := PP.out.2.2.2.2.2.1; have := GL.out.1; have e : (adv (ex (TP.take E.ts (B [61]) (TP.name E.ts s2).2)).2).i = (ex (TP.take E.ts (B [61]) (TP.name E.ts s2).2)).2.i + 1 := rfl; omega, by have := PP.out.2.2.2.2.2.2; have := GL.out.1; have e : (adv (ex (TP.take E.ts (B [61]) (TP.name E.ts s2).2)).2).i = (ex (TP.take E.ts (B [61]) (TP.name E.ts s2).2)).2.i + 1 := rfl; omega, rfl, by rw [← GM.out]; exact H6⟩, by rw [PA, H6.ps.pos]; have := hC.out.2.1; have := GL.out.1; have e : (adv (ex (TP.take E.ts (B [61]) (TP.name E.ts s2).2)).2).i = (ex (TP.take E.ts (B [61]) (TP.name E.ts s2).2)).2.i + 1 := rfl; omega⟩
          | false =>
           have OD := hid (fun X (hX : PS E X (ex (TP.take E.ts (B [61]) (TP.name E.ts s2).2)).2) => opt_no E HH.out.1 (ex (TP.take E.ts (B [61]) (TP.name E.ts s2).2)).2 GX.out.2.1 (B [59]) b4 X hX)
           have P3 := P2.out
           rw [if_neg (by rw [b3]; decide), if_neg (by rw [b4]; decide)] at P3
           subst P3
           clear b3 b4 P2
           go_wp2_with (first | (go_at_call 48; (with_reducible refine (OC.out _ G4.out.ps).mono ?_); rintro e y4 ⟨rfl, h1, h2⟩; have G5 := hid (G4.out.call h1 h2); clear h1 h2) | (go_at_call 48; (with_reducible refine (OD.out _ G5.out.ps).mono ?_); rintro e y5 ⟨rfl, h1, h2⟩; have G6a := hid (G5.out.call h1 h2); clear h1 h2) | (go_at_call 71; (with_reducible refine (TK.out _ G6a.out.ps).mono ?_); rintro e z1 ⟨rfl, h1, h2⟩; have G6 := hid (G6a.out.call h1 h2); clear h1 h2; refine Hid.out ?_))
           refine hid ?_
           have H6 := hid (show Fr E (fun i => i = E.p) w.heap.size w _ _ [(b7, .cells #[.int .i64 8, .int .i64 (E.pl i0), .int .i64 0, .string ⟨#[]⟩, .int .i64 0, .slice (some ⟨g', 0, none⟩) (M + 2) cap', .slice none 0 0] 38), (w.heap.size, .cells #[.int .i64 0, .int .i64 0, .int .i64 0, .string ⟨#[]⟩, .int .i64 0, .slice none 0 0, .slice none 0 0] 38)] [.r 0 38 w.heap.size (((l.snoc (T.ex 5 s2.i 0 (TP.name E.ts s2).1 1 .nil .nil)).snoc (ex (TP.take E.ts (B [61]) (TP.name E.ts s2).2)).1).map E.gl) _] from by rw [← GM.out]; exact G6.out.drop _ [_] (.cons _ (.cons _ (.refl _))) (fun it hi => by rw [List.mem_singleton.1 hi]; exact .head _))
           clear G6 G6a G5 G4 G3 a0 a1 a2 a3 a4 a5 a6 f0 f1 f2 f3 f4 f5 f6
           have nd := H6.out.nd
           simp only [List.map_cons, List.map_nil, List.nodup_cons, List.mem_cons, List.mem_nil_iff, or_false, not_or, List.nodup_nil, and_true] at nd
           have nd1 := nd.1
           have nd2 := Ne.symm nd1
           clear nd
           obtain ⟨⟨a0, a1, a2, a3, a4, a5, a6⟩, ⟨f0, f1, f2, f3, f4, f5, f6⟩⟩ := cells7 (H6.out.blk _ (.head _))
           obtain ⟨⟨d0, d1, d2, d3, d4, d5, d6⟩, ⟨g0, g1, g2, g3, g4, g5, g6⟩⟩ := cells7 (H6.out.blk _ (.tail _ (.head _)))
           go_wp2
           have H5 := H6.out.set7 1 rfl (.int .i64 8) (.int .i64 (E.pl i0)) (.int .i64 0) (.string ⟨#[]⟩) (.int .i64 0) (.slice (some ⟨g', 0, none⟩) (M + 2) cap') (.slice none 0 0)
           refine bodyPost_ret (v := .agg #[.int .i64 8, .int .i64 (E.pl i0), .int .i64 0, .string ⟨#[]⟩, .int .i64 0, .slice (some ⟨g', 0, none⟩) (M + 2) cap', .slice none 0 0]) (by simp [results, Tryz.results105, go_sem, d0, d1, d2, d3, d4, d5, d6]) rfl ?_
           have X9 := XR.of (f := .nil) 8 (E.pl i0) 0 0 ⟨#[]⟩ (OF.sl (show OF _ _ _ _ (Fp w.heap.size _) _ _ from H5.get (.head _))) .nil
           exact ⟨_, rfl, by rw [map_exl]; exact X9.keep (fun _ _ _ => rfl) (Nat.le_refl _) (fun i hi _ => hi.1), H5.ps, H5.kp⟩
        ·obtain ⟨k3a, k3b, k3c⟩ := txt_ne k3
         rw [show (B [61]).toList = [61] from ByteArray.toList_mk _] at k3a k3b k3c
         have ek : TP.key E.ts ex n s2 = ((.ex 4 s2.i (n + 1) ⟨#[]⟩ 1 .nil .nil, s2), (n : Int) + 1) := by unfold TP.key; rw [if_neg (fun e => e h0b), if_neg (by rw [b2]; decide), if_neg (fun e => k3 e.2.2)]
         have P3 := P2.out
         rw [ek] at P3
         have P2 := hid P3
         have wn := wrapI n (by have := hM.out.2; omega)
         have hs3 := hs2
         clear P3 ek
         go_wp2_with (first | (go_at_call 48; (with_reducible refine (O2.out _ F4.out.ps).mono ?_); rintro e x5 ⟨rfl, h1, h2⟩; have F5 := hid (F4.out.call h1 h2); clear h1 h2))
         have KF := F5.out.ps.cells
         obtain ⟨_, d0, d1, d2, _⟩ := KF
         obtain ⟨t0, t1, t2, t3⟩ := F5.out.ps.tok hs2.out.2.1
         rw [h0b] at d2
         rw [k1] at t0
         obtain ⟨u0, u1, u2, u3⟩ := F5.out.ps.tokN hA.out.2.1
         rw [k2] at u0
         clear c0 c1 c2 lp lg np F3 F4
         generalize x3.heap.size = b9 at F5 ⊢
         go_quiet (fail)
         have F6 := hid (F5.out.below (below_drewN (Below.refl _ _) nq))
         clear t0 t1 t2 t3 u0 u1 u2 u3 d0 d1 d2 F5 O2 b2 wI i1 h0b
         generalize x5.drewN nq = X5 at F6 ⊢
         obtain ⟨⟨e0, e1, e2, e3, e4, e5, e6⟩, ⟨g0, g1, g2, g3, g4, g5, g6⟩⟩ := cells7 (F6.out.blk _ (.head _))
         obtain ⟨wn1, wn2⟩ := wn
         go_wp2_with (first | (go_at_call 50; refine Hid.out ?_))
         have F7 := (F6.out.set1 0 rfl 0 (.int .i64 4)).set1 0 rfl 2 (.int .i64 ((n : Int) + 1))
         have FK := hid (show Fr E (fun i => i = E.p) w.heap.size w _ _ [(b9, .cells #[.int .i64 4, .int .i64 (E.pl s2.i), .int .i64 ((n : Int) + 1), .string ⟨#[]⟩, .int .i64 1, .slice none 0 0, .slice none 0 0] 38), (b7, .cells #[.int .i64 8, .int .i64 (E.pl i0), .int .i64 0, .string ⟨#[]⟩, .int .i64 0, .slice A M cap, .slice none 0 0] 38), (w.heap.size, .cells #[.int .i64 0, .int .i64 0, .int .i64 0, .string ⟨#[]⟩, .int .i64 0, .slice none 0 0, .slice none 0 0] 38)] [_, _] from F7.add (it := .a (Value.slice A M cap).ownBlock ((T.ex 4 s2.i (n + 1) ⟨#[]⟩ 1 .nil .nil).map E.gl) (.agg #[.int .i64 4, .int .i64 (E.pl s2.i), .int .i64 ((n : Int) + 1), .string ⟨#[]⟩, .int .i64 1, .slice none 0 0, .slice none 0 0])) (by
          show XR _ _ _ _
          rw [map_leaf]
          exact XR.leaf _ _ _ _ _ _ _))
         clear e0 e1 e2 e3 e4 e5 e6 g0 g1 g2 g3 g4 g5 g6 F7 F6 wn1 wn2
         generalize (X5.setCell ⟨b9, 0, none⟩ (.int .i64 4)).setCell ⟨b9, 2, none⟩ (.int .i64 ((n : Int) + 1)) = X6 at FK ⊢
         refine hid ?_
         have GX := hid (HH.out.2.1 s2 hs3.out.2.1)
         have GL := hid (hs3.out.trans GX.out)
         refine (HH.out.2.2.1 s2 _ hs3.out.2.1 FK.out.ps).mono ?_
         rintro e y1 ⟨v, rfl, hx, h1, h2⟩
         obtain ⟨k', a', n', x', op', Cl, rl, el, Cf, rf, ef, rfl⟩ := hx.form
         have G0 := FK.out.callA h1 h2 (own := (Value.slice A M cap).ownBlock) (FK.out.rowlt (.tail _ (.head _))) hx
         have G1 := hid (G0.new (.cells #[.int .i64 k', .int .i64 a', .int .i64 n', .string x', .int .i64 op', .slice Cl rl el, .slice Cf rf ef] 38))
         have G2 := hid (G1.out.newF (.cells #[.int .i64 4, .int .i64 (E.pl s2.i), .int .i64 ((n : Int) + 1), .string ⟨#[]⟩, .int .i64 1, .slice none 0 0, .slice none 0 0, .int .i64 k', .int .i64 a', .int .i64 n', .string x', .int .i64 op', .slice Cl rl el, .slice Cf rf ef] 38))
         have nB := hid (heap_alloc_new (y1.alloc (.cells #[.int .i64 k', .int .i64 a', .int .i64 n', .string x', .int .i64 op', .slice Cl rl el, .slice Cf rf ef] 38)) (.cells #[.int .i64 4, .int .i64 (E.pl s2.i), .int .i64 ((n : Int) + 1), .string ⟨#[]⟩, .int .i64 1, .slice none 0 0, .slice none 0 0, .int .i64 k', .int .i64 a', .int .i64 n', .string x', .int .i64 op', .slice Cl rl el, .slice Cf rf ef] 38))
         have nd := G0.nd
         simp only [List.map_cons, List.map_nil, List.nodup_cons, List.mem_cons, List.mem_nil_iff, or_false, not_or, List.nodup_nil, and_true] at nd
         obtain ⟨⟨n1, n2⟩, n3, _⟩ := nd
         have n4 := Ne.symm n1
         obtain ⟨⟨e0, e1, e2, e3, e4, e5, e6⟩, ⟨g0, g1, g2, g3, g4, g5, g6⟩⟩ := cells7 (G0.blk _ (.head _))
         obtain ⟨⟨a0, a1, a2, a3, a4, a5, a6⟩, ⟨f0, f1, f2, f3, f4, f5, f6⟩⟩ := cells7 (G0.blk _ (.tail _ (.head _)))
         have l9 := G0.lt (.head _)
         have l7 := G0.lt (.tail _ (.head _))
         have m9 := Nat.ne_of_lt l9
         have m7 := Nat.ne_of_lt l7
         clear h1 h2 hx G0 FK
         go_wp2_with (first | (at_builtin; refine append_OF2 ((y1.alloc (.cells #[.int .i64 k', .int .i64 a', .int .i64 n', .string x', .int .i64 op', .slice Cl rl el, .slice Cf rf ef] 38)).alloc (.cells #[.int .i64 4, .int .i64 (E.pl s2.i), .int .i64 ((n : Int) + 1), .string ⟨#[]⟩, .int .i64 1, .slice none 0 0, .slice none 0 0, .int .i64 k', .int .i64 a', .int .i64 n', .string x', .int .i64 op', .slice Cl rl el, .slice Cf rf ef] 38)) rfl _ _ 0 38 31 96 _ rfl Tryz.underlying31 i38n rfl (by decide) (by decide) w.heap.size _ (.slice A M cap) (l.map E.gl) M (by rw [T.len_map]; exact PP.out.2.2.2.1) rfl (G2.out.get (.tail _ (.tail _ (.head _)))) _ _ [.int .i64 4, .int .i64 (E.pl s2.i), .int .i64 ((n : Int) + 1), .string ⟨#[]⟩, .int .i64 1, .slice none 0 0, .slice none 0 0] [.int .i64 k', .int .i64 a', .int .i64 n', .string x', .int .i64 op', .slice Cl rl el, .slice Cf rf ef] (y1.alloc (.cells #[.int .i64 k', .int .i64 a', .int .i64 n', .string x', .int .i64 op', .slice Cl rl el, .slice Cf rf ef] 38)).heap.size (by simp [go_sem]) nB.out (XR.ec1 (G2.out.get (.tail _ (.head _)))) (XR.ec1 (G2.out.get (.head _))) (Nat.le_trans hM.out.1 (by decide)) G2.out.kp.size G2.out.fresh ?_; intro g' cap' y3 h1 h2 h3; have G3 := hid (G2.out.appended (G2.out.get (.tail _ (.tail _ (.head _)))) (Nat.le_refl _) h2 h1); clear h1 h2 h3; refine Hid.out ?_))
         refine hid ?_
         clear e0 e1 e2 e3 e4 e5 e6 g0 g1 g2 g3 g4 g5 g6 a0 a1 a2 a3 a4 a5 a6 f0 f1 f2 f3 f4 f5 f6 l9 l7 m9 m7 nB G2 G1
         obtain ⟨⟨a0, a1, a2, a3, a4, a5, a6⟩, ⟨f0, f1, f2, f3, f4, f5, f6⟩⟩ := cells7 (G3.out.blk _ (.tail _ (.tail _ (.head _))))
         have G4 := hid (show Fr E (fun i => i = E.p) w.heap.size w _ _ [_, _, (b7, .cells #[.int .i64 8, .int .i64 (E.pl i0), .int .i64 0, .string ⟨#[]⟩, .int .i64 0, .slice (some ⟨g', 0, none⟩) (M + 2) cap', .slice none 0 0] 38), _] _ from G3.out.set1 2 rfl 5 (.slice (some ⟨g', 0, none⟩) (M + 2) cap'))
         have GM := hid (show ((l.map E.gl).snoc (((T.ex 4 s2.i (n + 1) ⟨#[]⟩ 1 .nil .nil) : T).map E.gl)).snoc ((ex s2).1.map E.gl) = ((l.snoc (T.ex 4 s2.i (n + 1) ⟨#[]⟩ 1 .nil .nil)).snoc (ex s2).1).map E.gl from by rw [map_snoc E.gl _ (isList_snoc _ PP.out.2.2.1), map_snoc E.gl _ PP.out.2.2.1])
         cases b3 : isT E.ts (B [44]) (ex s2).2 with
         | true =>
          have OC := hid (fun X (hX : PS E X (ex s2).2) => opt_yes E HH.out.1 (ex s2).2 GX.out.2.1 (B [44]) b3 X hX)
          have hC := hid (is_adv HH.out.1.ends GX.out.2.1 b3)
          have P3 := P2.out
          rw [if_pos b3] at P3
          have P4 := hid P3
          clear b3 P3
          go_wp2_with (first | (go_at_call 48; (with_reducible refine (OC.out _ G4.out.ps).mono ?_); rintro e y4 ⟨rfl, h1, h2⟩; have G5 := hid (G4.out.call h1 h2); clear h1 h2))
          have H6 := G5.out.drop [(b7, _), (w.heap.size, .cells #[.int .i64 0, .int .i64 0, .int .i64 0, .string ⟨#[]⟩, .int .i64 0, .slice none 0 0, .slice none 0 0] 38)] [_] (.cons _ (.cons _ (.refl _))) (fun it hi => by rw [List.mem_singleton.1 hi]; exact .head _)
          exact ⟨hid ⟨fa', _, _, M + 2, n + 1, some ⟨g', 0, none⟩, cap', by have := PP.out.1; have := GL.out.1; have e : (adv (ex s2).2).i = (ex s2).2.i + 1 := rfl; omega, P4.out, hC.out.2.1, isList_snoc _ (isList_snoc _ PP.out.2.2.1), by rw [len_two _ _ _ PP.out.2.2.1, PP.out.2.2.2.1], by have := PP.out.2.2.2.2.1; have := GL.out.1; have e : (adv (ex s2).2).i = (ex s2).2.i + 1 := rfl; omega, by have := PP.out.2.2.2.2.2.1; have := GL.out.1; have e : (adv (ex s2).2).i = (ex s2).2.i + 1 := rfl; omega, by have := PP.out.2.2.2.2.2.2; have := GL.out.1; have e : (adv (ex s2).2).i = (ex s2).2.i + 1 := rfl; omega, by go_num, by rw [← GM.out]; exact H6⟩, by rw [PA, H6.ps.pos]; have := hC.out.2.1; have := GL.out.1; have e : (adv (ex s2).2).i = (ex s2).2.i + 1 := rfl; omega⟩
         | false =>
          have OC := hid (fun X (hX : PS E X (ex s2).2) => opt_no E HH.out.1 (ex s2).2 GX.out.2.1 (B [44]) b3 X hX)
          cases b4 : isT E.ts (B [59]) (ex s2).2 with
          | true =>
           have OD := hid (fun X (hX : PS E X (ex s2).2) => opt_yes E HH.out.1 (ex s2).2 GX.out.2.1 (B [59]) b4 X hX)
           have hC := hid (is_adv HH.out.1.ends GX.out.2.1 b4)
           have P3 := P2.out
           rw [if_neg (by rw [b3]; decide), if_pos b4] at P3
           have P4 := hid P3
           clear b3 b4 P3
           go_wp2_with (first | (go_at_call 48; (with_reducible refine (OC.out _ G4.out.ps).mono ?_); rintro e y4 ⟨rfl, h1, h2⟩; have G5 := hid (G4.out.call h1 h2); clear h1 h2) | (go_at_call 48; (with_reducible refine (OD.out _ G5.out.ps).mono ?_); rintro e y5 ⟨rfl, h1, h2⟩; have G6 := hid (G5.out.call h1 h2); clear h1 h2))
           have H6 := G6.out.drop [(b7, _), (w.heap.size, .cells #[.int .i64 0, .int .i64 0, .int .i64 0, .string ⟨#[]⟩, .int .i64 0, .slice none 0 0, .slice none 0 0] 38)] [_] (.cons _ (.cons _ (.refl _))) (fun it hi => by rw [List.mem_singleton.1 hi]; exact .head _)
           exact ⟨hid ⟨fa', _, _, M + 2, n + 1, some ⟨g', 0, none⟩, cap', by have := PP.out.1; have := GL.out.1; have e : (adv (ex s2).2).i = (ex s2).2.i + 1 := rfl; omega, P4.out, hC.out.2.1, isList_snoc _ (isList_snoc _ PP.out.2.2.1), by rw [len_two _ _ _ PP.out.2.2.1, PP.out.2.2.2.1], by have := PP.out.2.2.2.2.1; have := GL.out.1; have e : (adv (ex s2).2).i = (ex s2).2.i + 1 := rfl; omega, by have := PP.out.2.2.2.2.2.1; have := GL.out.1; have e : (adv (ex s2).2).i = (ex s2).2.i + 1 := rfl; omega, by have := PP.out.2.2.2.2.2.2; have := GL.out.1; have e : (adv (ex s2).2).i = (ex s2).2.i + 1 := rfl; omega, by go_num, by rw [← GM.out]; exact H6⟩, by rw [PA, H6.ps.pos]; have := hC.out.2.1; have := GL.out.1; have e : (adv (ex s2).2).i = (ex s2).2.i + 1 := rfl; omega⟩
          | false =>
           have OD := hid (fun X (hX : PS E X (ex s2).2) => opt_no E HH.out.1 (ex s2).2 GX.out.2.1 (B [59]) b4 X hX)
           have P3 := P2.out
           rw [if_neg (by rw [b3]; decide), if_neg (by rw [b4]; decide)] at P3
           subst P3
           clear b3 b4 P2
           go_wp2_with (first | (go_at_call 48; (with_reducible refine (OC.out _ G4.out.ps).mono ?_); rintro e y4 ⟨rfl, h1, h2⟩; have G5 := hid (G4.out.call h1 h2); clear h1 h2) | (go_at_call 48; (with_reducible refine (OD.out _ G5.out.ps).mono ?_); rintro e y5 ⟨rfl, h1, h2⟩; have G6a := hid (G5.out.call h1 h2); clear h1 h2) | (go_at_call 71; (with_reducible refine (TK.out _ G6a.out.ps).mono ?_); rintro e z1 ⟨rfl, h1, h2⟩; have G6 := hid (G6a.out.call h1 h2); clear h1 h2; refine Hid.out ?_))
           refine hid ?_
           have H6 := hid (show Fr E (fun i => i = E.p) w.heap.size w _ _ [(b7, .cells #[.int .i64 8, .int .i64 (E.pl i0), .int .i64 0, .string ⟨#[]⟩, .int .i64 0, .slice (some ⟨g', 0, none⟩) (M + 2) cap', .slice none 0 0] 38), (w.heap.size, .cells #[.int .i64 0, .int .i64 0, .int .i64 0, .string ⟨#[]⟩, .int .i64 0, .slice none 0 0, .slice none 0 0] 38)] [.r 0 38 w.heap.size (((l.snoc (T.ex 4 s2.i (n + 1) ⟨#[]⟩ 1 .nil .nil)).snoc (ex s2).1).map E.gl) _] from by rw [← GM.out]; exact G6.out.drop _ [_] (.cons _ (.cons _ (.refl _))) (fun it hi => by rw [List.mem_singleton.1 hi]; exact .head _))
           clear G6 G6a G5 G4 G3 a0 a1 a2 a3 a4 a5 a6 f0 f1 f2 f3 f4 f5 f6
           have nd := H6.out.nd
           simp only [List.map_cons, List.map_nil, List.nodup_cons, List.mem_cons, List.mem_nil_iff, or_false, not_or, List.nodup_nil, and_true] at nd
           have nd1 := nd.1
           have nd2 := Ne.symm nd1
           clear nd
           obtain ⟨⟨a0, a1, a2, a3, a4, a5, a6⟩, ⟨f0, f1, f2, f3, f4, f5, f6⟩⟩ := cells7 (H6.out.blk _ (.head _))
           obtain ⟨⟨d0, d1, d2, d3, d4, d5, d6⟩, ⟨g0, g1, g2, g3, g4, g5, g6⟩⟩ := cells7 (H6.out.blk _ (.tail _ (.head _)))
           go_wp2
           have H5 := H6.out.set7 1 rfl (.int .i64 8) (.int .i64 (E.pl i0)) (.int .i64 0) (.string ⟨#[]⟩) (.int .i64 0) (.slice (some ⟨g', 0, none⟩) (M + 2) cap') (.slice none 0 0)
           refine bodyPost_ret (v := .agg #[.int .i64 8, .int .i64 (E.pl i0), .int .i64 0, .string ⟨#[]⟩, .int .i64 0, .slice (some ⟨g', 0, none⟩) (M + 2) cap', .slice none 0 0]) (by simp [results, Tryz.results105, go_sem, d0, d1, d2, d3, d4, d5, d6]) rfl ?_
           have X9 := XR.of (f := .nil) 8 (E.pl i0) 0 0 ⟨#[]⟩ (OF.sl (show OF _ _ _ _ (Fp w.heap.size _) _ _ from H5.get (.head _))) .nil
           exact ⟨_, rfl, by rw [map_exl]; exact X9.keep (fun _ _ _ => rfl) (Nat.le_refl _) (fun i hi _ => hi.1), H5.ps, H5.kp⟩
       ·skip
        have ek : TP.key E.ts ex n s2 = ((.ex 4 s2.i (n + 1) ⟨#[]⟩ 1 .nil .nil, s2), (n : Int) + 1) := by unfold TP.key; rw [if_neg (fun e => e h0b), if_neg (by rw [b2]; decide), if_neg (fun e => k2 e.2.1)]
        have P3 := P2.out
        rw [ek] at P3
        have P2 := hid P3
        have wn := wrapI n (by have := hM.out.2; omega)
        have hs3 := hs2
        clear P3 ek
        go_wp2_with (first | (go_at_call 48; (with_reducible refine (O2.out _ F4.out.ps).mono ?_); rintro e x5 ⟨rfl, h1, h2⟩; have F5 := hid (F4.out.call h1 h2); clear h1 h2))
        have KF := F5.out.ps.cells
        obtain ⟨_, d0, d1, d2, _⟩ := KF
        obtain ⟨t0, t1, t2, t3⟩ := F5.out.ps.tok hs2.out.2.1
        rw [h0b] at d2
        rw [k1] at t0
        obtain ⟨u0, u1, u2, u3⟩ := F5.out.ps.tokN hA.out.2.1
        clear c0 c1 c2 lp lg np F3 F4
        generalize x3.heap.size = b9 at F5 ⊢
        have k2b : decide ((tk E.ts (adv s2)).kind = 5) = false := decide_eq_false k2
        have k2c : ((tk E.ts (adv s2)).kind == 5) = false := by simp [k2]
        generalize (tk E.ts (adv s2)).kind = kd at u0 k2 k2b k2c
        go_region
        have F6 := hid F5.out.drew
        clear t0 t1 t2 t3 u0 u1 u2 u3 d0 d1 d2 F5 O2 b2 wI i1 h0b
        generalize x5.drew = X5 at F6 ⊢
        obtain ⟨⟨e0, e1, e2, e3, e4, e5, e6⟩, ⟨g0, g1, g2, g3, g4, g5, g6⟩⟩ := cells7 (F6.out.blk _ (.head _))
        obtain ⟨wn1, wn2⟩ := wn
        go_wp2_with (first | (go_at_call 50; refine Hid.out ?_))
        have F7 := (F6.out.set1 0 rfl 0 (.int .i64 4)).set1 0 rfl 2 (.int .i64 ((n : Int) + 1))
        have FK := hid (show Fr E (fun i => i = E.p) w.heap.size w _ _ [(b9, .cells #[.int .i64 4, .int .i64 (E.pl s2.i), .int .i64 ((n : Int) + 1), .string ⟨#[]⟩, .int .i64 1, .slice none 0 0, .slice none 0 0] 38), (b7, .cells #[.int .i64 8, .int .i64 (E.pl i0), .int .i64 0, .string ⟨#[]⟩, .int .i64 0, .slice A M cap, .slice none 0 0] 38), (w.heap.size, .cells #[.int .i64 0, .int .i64 0, .int .i64 0, .string ⟨#[]⟩, .int .i64 0, .slice none 0 0, .slice none 0 0] 38)] [_, _] from F7.add (it := .a (Value.slice A M cap).ownBlock ((T.ex 4 s2.i (n + 1) ⟨#[]⟩ 1 .nil .nil).map E.gl) (.agg #[.int .i64 4, .int .i64 (E.pl s2.i), .int .i64 ((n : Int) + 1), .string ⟨#[]⟩, .int .i64 1, .slice none 0 0, .slice none 0 0])) (by
         show XR _ _ _ _
         rw [map_leaf]
         exact XR.leaf _ _ _ _ _ _ _))
        clear e0 e1 e2 e3 e4 e5 e6 g0 g1 g2 g3 g4 g5 g6 F7 F6 wn1 wn2
        generalize (X5.setCell ⟨b9, 0, none⟩ (.int .i64 4)).setCell ⟨b9, 2, none⟩ (.int .i64 ((n : Int) + 1)) = X6 at FK ⊢
        refine hid ?_
        have GX := hid (HH.out.2.1 s2 hs3.out.2.1)
        have GL := hid (hs3.out.trans GX.out)
        refine (HH.out.2.2.1 s2 _ hs3.out.2.1 FK.out.ps).mono ?_
        rintro e y1 ⟨v, rfl, hx, h1, h2⟩
        obtain ⟨k', a', n', x', op', Cl, rl, el, Cf, rf, ef, rfl⟩ := hx.form
        have G0 := FK.out.callA h1 h2 (own := (Value.slice A M cap).ownBlock) (FK.out.rowlt (.tail _ (.head _))) hx
        have G1 := hid (G0.new (.cells #[.int .i64 k', .int .i64 a', .int .i64 n', .string x', .int .i64 op', .slice Cl rl el, .slice Cf rf ef] 38))
        have G2 := hid (G1.out.newF (.cells #[.int .i64 4, .int .i64 (E.pl s2.i), .int .i64 ((n : Int) + 1), .string ⟨#[]⟩, .int .i64 1, .slice none 0 0, .slice none 0 0, .int .i64 k', .int .i64 a', .int .i64 n', .string x', .int .i64 op', .slice Cl rl el, .slice Cf rf ef] 38))
        have nB := hid (heap_alloc_new (y1.alloc (.cells #[.int .i64 k', .int .i64 a', .int .i64 n', .string x', .int .i64 op', .slice Cl rl el, .slice Cf rf ef] 38)) (.cells #[.int .i64 4, .int .i64 (E.pl s2.i), .int .i64 ((n : Int) + 1), .string ⟨#[]⟩, .int .i64 1, .slice none 0 0, .slice none 0 0, .int .i64 k', .int .i64 a', .int .i64 n', .string x', .int .i64 op', .slice Cl rl el, .slice Cf rf ef] 38))
        have nd := G0.nd
        simp only [List.map_cons, List.map_nil, List.nodup_cons, List.mem_cons, List.mem_nil_iff, or_false, not_or, List.nodup_nil, and_true] at nd
        obtain ⟨⟨n1, n2⟩, n3, _⟩ := nd
        have n4 := Ne.symm n1
        obtain ⟨⟨e0, e1, e2, e3, e4, e5, e6⟩, ⟨g0, g1, g2, g3, g4, g5, g6⟩⟩ := cells7 (G0.blk _ (.head _))
        obtain ⟨⟨a0, a1, a2, a3, a4, a5, a6⟩, ⟨f0, f1, f2, f3, f4, f5, f6⟩⟩ := cells7 (G0.blk _ (.tail _ (.head _)))
        have l9 := G0.lt (.head _)
        have l7 := G0.lt (.tail _ (.head _))
        have m9 := Nat.ne_of_lt l9
        have m7 := Nat.ne_of_lt l7
        clear h1 h2 hx G0 FK
        go_wp2_with (first | (at_builtin; refine append_OF2 ((y1.alloc (.cells #[.int .i64 k', .int .i64 a', .int .i64 n', .string x', .int .i64 op', .slice Cl rl el, .slice Cf rf ef] 38)).alloc (.cells #[.int .i64 4, .int .i64 (E.pl s2.i), .int .i64 ((n : Int) + 1), .string ⟨#[]⟩, .int .i64 1, .slice none 0 0, .slice none 0 0, .int .i64 k', .int .i64 a', .int .i64 n', .string x', .int .i64 op', .slice Cl rl el, .slice Cf rf ef] 38)) rfl _ _ 0 38 31 96 _ rfl Tryz.underlying31 i38n rfl (by decide) (by decide) w.heap.size _ (.slice A M cap) (l.map E.gl) M (by rw [T.len_map]; exact PP.out.2.2.2.1) rfl (G2.out.get (.tail _ (.tail _ (.head _)))) _ _ [.int .i64 4, .int .i64 (E.pl s2.i), .int .i64 ((n : Int) + 1), .string ⟨#[]⟩, .int .i64 1, .slice none 0 0, .slice none 0 0] [.int .i64 k', .int .i64 a', .int .i64 n', .string x', .int .i64 op', .slice Cl rl el, .slice Cf rf ef] (y1.alloc (.cells #[.int .i64 k', .int .i64 a', .int .i64 n', .string x', .int .i64 op', .slice Cl rl el, .slice Cf rf ef] 38)).heap.size (by simp [go_sem]) nB.out (XR.ec1 (G2.out.get (.tail _ (.head _)))) (XR.ec1 (G2.out.get (.head _))) (Nat.le_trans hM.out.1 (by decide)) G2.out.kp.size G2.out.fresh ?_; intro g' cap' y3 h1 h2 h3; have G3 := hid (G2.out.appended (G2.out.get (.tail _ (.tail _ (.head _)))) (Nat.le_refl _) h2 h1); clear h1 h2 h3; refine Hid.out ?_))
        refine hid ?_
        clear e0 e1 e2 e3 e4 e5 e6 g0 g1 g2 g3 g4 g5 g6 a0 a1 a2 a3 a4 a5 a6 f0 f1 f2 f3 f4 f5 f6 l9 l7 m9 m7 nB G2 G1
        obtain ⟨⟨a0, a1, a2, a3, a4, a5, a6⟩, ⟨f0, f1, f2, f3, f4, f5, f6⟩⟩ := cells7 (G3.out.blk _ (.tail _ (.tail _ (.head _))))
        have G4 := hid (show Fr E (fun i => i = E.p) w.heap.size w _ _ [_, _, (b7, .cells #[.int .i64 8, .int .i64 (E.pl i0), .int .i64 0, .string ⟨#[]⟩, .int .i64 0, .slice (some ⟨g', 0, none⟩) (M + 2) cap', .slice none 0 0] 38), _] _ from G3.out.set1 2 rfl 5 (.slice (some ⟨g', 0, none⟩) (M + 2) cap'))
        have GM := hid (show ((l.map E.gl).snoc (((T.ex 4 s2.i (n + 1) ⟨#[]⟩ 1 .nil .nil) : T).map E.gl)).snoc ((ex s2).1.map E.gl) = ((l.snoc (T.ex 4 s2.i (n + 1) ⟨#[]⟩ 1 .nil .nil)).snoc (ex s2).1).map E.gl from by rw [map_snoc E.gl _ (isList_snoc _ PP.out.2.2.1), map_snoc E.gl _ PP.out.2.2.1])
        cases b3 : isT E.ts (B [44]) (ex s2).2 with
        | true =>
         have OC := hid (fun X (hX : PS E X (ex s2).2) => opt_yes E HH.out.1 (ex s2).2 GX.out.2.1 (B [44]) b3 X hX)
         have hC := hid (is_adv HH.out.1.ends GX.out.2.1 b3)
         have P3 := P2.out
         rw [if_pos b3] at P3
         have P4 := hid P3
         clear b3 P3
         go_wp2_with (first | (go_at_call 48; (with_reducible refine (OC.out _ G4.out.ps).mono ?_); rintro e y4 ⟨rfl, h1, h2⟩; have G5 := hid (G4.out.call h1 h2); clear h1 h2))
         have H6 := G5.out.drop [(b7, _), (w.heap.size, .cells #[.int .i64 0, .int .i64 0, .int .i64 0, .string ⟨#[]⟩, .int .i64 0, .slice none 0 0, .slice none 0 0] 38)] [_] (.cons _ (.cons _ (.refl _))) (fun it hi => by rw [List.mem_singleton.1 hi]; exact .head _)
         exact ⟨hid ⟨fa', _, _, M + 2, n + 1, some ⟨g', 0, none⟩, cap', by have := PP.out.1; have := GL.out.1; have e : (adv (ex s2).2).i = (ex s2).2.i + 1 := rfl; omega, P4.out, hC.out.2.1, isList_snoc _ (isList_snoc _ PP.out.2.2.1), by rw [len_two _ _ _ PP.out.2.2.1, PP.out.2.2.2.1], by have := PP.out.2.2.2.2.1; have := GL.out.1; have e : (adv (ex s2).2).i = (ex s2).2.i + 1 := rfl; omega, by have := PP.out.2.2.2.2.2.1; have := GL.out.1; have e : (adv (ex s2).2).i = (ex s2).2.i + 1 := rfl; omega, by have := PP.out.2.2.2.2.2.2; have := GL.out.1; have e : (adv (ex s2).2).i = (ex s2).2.i + 1 := rfl; omega, by go_num, by rw [← GM.out]; exact H6⟩, by rw [PA, H6.ps.pos]; have := hC.out.2.1; have := GL.out.1; have e : (adv (ex s2).2).i = (ex s2).2.i + 1 := rfl; omega⟩
        | false =>
         have OC := hid (fun X (hX : PS E X (ex s2).2) => opt_no E HH.out.1 (ex s2).2 GX.out.2.1 (B [44]) b3 X hX)
         cases b4 : isT E.ts (B [59]) (ex s2).2 with
         | true =>
          have OD := hid (fun X (hX : PS E X (ex s2).2) => opt_yes E HH.out.1 (ex s2).2 GX.out.2.1 (B [59]) b4 X hX)
          have hC := hid (is_adv HH.out.1.ends GX.out.2.1 b4)
          have P3 := P2.out
          rw [if_neg (by rw [b3]; decide), if_pos b4] at P3
          have P4 := hid P3
          clear b3 b4 P3
          go_wp2_with (first | (go_at_call 48; (with_reducible refine (OC.out _ G4.out.ps).mono ?_); rintro e y4 ⟨rfl, h1, h2⟩; have G5 := hid (G4.out.call h1 h2); clear h1 h2) | (go_at_call 48; (with_reducible refine (OD.out _ G5.out.ps).mono ?_); rintro e y5 ⟨rfl, h1, h2⟩; have G6 := hid (G5.out.call h1 h2); clear h1 h2))
          have H6 := G6.out.drop [(b7, _), (w.heap.size, .cells #[.int .i64 0, .int .i64 0, .int .i64 0, .string ⟨#[]⟩, .int .i64 0, .slice none 0 0, .slice none 0 0] 38)] [_] (.cons _ (.cons _ (.refl _))) (fun it hi => by rw [List.mem_singleton.1 hi]; exact .head _)
          exact ⟨hid ⟨fa', _, _, M + 2, n + 1, some ⟨g', 0, none⟩, cap', by have := PP.out.1; have := GL.out.1; have e : (adv (ex s2).2).i = (ex s2).2.i + 1 := rfl; omega, P4.out, hC.out.2.1, isList_snoc _ (isList_snoc _ PP.out.2.2.1), by rw [len_two _ _ _ PP.out.2.2.1, PP.out.2.2.2.1], by have := PP.out.2.2.2.2.1; have := GL.out.1; have e : (adv (ex s2).2).i = (ex s2).2.i + 1 := rfl; omega, by have := PP.out.2.2.2.2.2.1; have := GL.out.1; have e : (adv (ex s2).2).i = (ex s2).2.i + 1 := rfl; omega, by have := PP.out.2.2.2.2.2.2; have := GL.out.1; have e : (adv (ex s2).2).i = (ex s2).2.i + 1 := rfl; omega, by go_num, by rw [← GM.out]; exact H6⟩, by rw [PA, H6.ps.pos]; have := hC.out.2.1; have := GL.out.1; have e : (adv (ex s2).2).i = (ex s2).2.i + 1 := rfl; omega⟩
         | false =>
          have OD := hid (fun X (hX : PS E X (ex s2).2) => opt_no E HH.out.1 (ex s2).2 GX.out.2.1 (B [59]) b4 X hX)
          have P3 := P2.out
          rw [if_neg (by rw [b3]; decide), if_neg (by rw [b4]; decide)] at P3
          subst P3
          clear b3 b4 P2
          go_wp2_with (first | (go_at_call 48; (with_reducible refine (OC.out _ G4.out.ps).mono ?_); rintro e y4 ⟨rfl, h1, h2⟩; have G5 := hid (G4.out.call h1 h2); clear h1 h2) | (go_at_call 48; (with_reducible refine (OD.out _ G5.out.ps).mono ?_); rintro e y5 ⟨rfl, h1, h2⟩; have G6a := hid (G5.out.call h1 h2); clear h1 h2) | (go_at_call 71; (with_reducible refine (TK.out _ G6a.out.ps).mono ?_); rintro e z1 ⟨rfl, h1, h2⟩; have G6 := hid (G6a.out.call h1 h2); clear h1 h2; refine Hid.out ?_))
          refine hid ?_
          have H6 := hid (show Fr E (fun i => i = E.p) w.heap.size w _ _ [(b7, .cells #[.int .i64 8, .int .i64 (E.pl i0), .int .i64 0, .string ⟨#[]⟩, .int .i64 0, .slice (some ⟨g', 0, none⟩) (M + 2) cap', .slice none 0 0] 38), (w.heap.size, .cells #[.int .i64 0, .int .i64 0, .int .i64 0, .string ⟨#[]⟩, .int .i64 0, .slice none 0 0, .slice none 0 0] 38)] [.r 0 38 w.heap.size (((l.snoc (T.ex 4 s2.i (n + 1) ⟨#[]⟩ 1 .nil .nil)).snoc (ex s2).1).map E.gl) _] from by rw [← GM.out]; exact G6.out.drop _ [_] (.cons _ (.cons _ (.refl _))) (fun it hi => by rw [List.mem_singleton.1 hi]; exact .head _))
          clear G6 G6a G5 G4 G3 a0 a1 a2 a3 a4 a5 a6 f0 f1 f2 f3 f4 f5 f6
          have nd := H6.out.nd
          simp only [List.map_cons, List.map_nil, List.nodup_cons, List.mem_cons, List.mem_nil_iff, or_false, not_or, List.nodup_nil, and_true] at nd
          have nd1 := nd.1
          have nd2 := Ne.symm nd1
          clear nd
          obtain ⟨⟨a0, a1, a2, a3, a4, a5, a6⟩, ⟨f0, f1, f2, f3, f4, f5, f6⟩⟩ := cells7 (H6.out.blk _ (.head _))
          obtain ⟨⟨d0, d1, d2, d3, d4, d5, d6⟩, ⟨g0, g1, g2, g3, g4, g5, g6⟩⟩ := cells7 (H6.out.blk _ (.tail _ (.head _)))
          go_wp2
          have H5 := H6.out.set7 1 rfl (.int .i64 8) (.int .i64 (E.pl i0)) (.int .i64 0) (.string ⟨#[]⟩) (.int .i64 0) (.slice (some ⟨g', 0, none⟩) (M + 2) cap') (.slice none 0 0)
          refine bodyPost_ret (v := .agg #[.int .i64 8, .int .i64 (E.pl i0), .int .i64 0, .string ⟨#[]⟩, .int .i64 0, .slice (some ⟨g', 0, none⟩) (M + 2) cap', .slice none 0 0]) (by simp [results, Tryz.results105, go_sem, d0, d1, d2, d3, d4, d5, d6]) rfl ?_
          have X9 := XR.of (f := .nil) 8 (E.pl i0) 0 0 ⟨#[]⟩ (OF.sl (show OF _ _ _ _ (Fp w.heap.size _) _ _ from H5.get (.head _))) .nil
          exact ⟨_, rfl, by rw [map_exl]; exact X9.keep (fun _ _ _ => rfl) (Nat.le_refl _) (fun i hi _ => hi.1), H5.ps, H5.kp⟩
      ·skip
       have ek : TP.key E.ts ex n s2 = ((.ex 4 s2.i (n + 1) ⟨#[]⟩ 1 .nil .nil, s2), (n : Int) + 1) := by unfold TP.key; rw [if_neg (fun e => e h0b), if_neg (by rw [b2]; decide), if_neg (fun e => k1 e.1)]
       have P3 := P2.out
       rw [ek] at P3
       have P2 := hid P3
       have wn := wrapI n (by have := hM.out.2; omega)
       have hs3 := hs2
       clear P3 ek
       go_wp2_with (first | (go_at_call 48; (with_reducible refine (O2.out _ F4.out.ps).mono ?_); rintro e x5 ⟨rfl, h1, h2⟩; have F5 := hid (F4.out.call h1 h2); clear h1 h2))
       have KF := F5.out.ps.cells
       obtain ⟨_, d0, d1, d2, _⟩ := KF
       obtain ⟨t0, t1, t2, t3⟩ := F5.out.ps.tok hs2.out.2.1
       rw [h0b] at d2
       clear c0 c1 c2 lp lg np F3 F4
       generalize x3.heap.size = b9 at F5 ⊢
       have k1b : decide ((tk E.ts s2).kind = 2) = false := decide_eq_false k1
       have k1c : ((tk E.ts s2).kind == 2) = false := by simp [k1]
       generalize (tk E.ts s2).kind = kd at t0 k1 k1b k1c
       go_region
       have F6 := hid F5.out.drew
       clear t0 t1 t2 t3 d0 d1 d2 F5 O2 b2 wI i1 h0b
       generalize x5.drew = X5 at F6 ⊢
       obtain ⟨⟨e0, e1, e2, e3, e4, e5, e6⟩, ⟨g0, g1, g2, g3, g4, g5, g6⟩⟩ := cells7 (F6.out.blk _ (.head _))
       obtain ⟨wn1, wn2⟩ := wn
       go_wp2_with (first | (go_at_call 50; refine Hid.out ?_))
       have F7 := (F6.out.set1 0 rfl 0 (.int .i64 4)).set1 0 rfl 2 (.int .i64 ((n : Int) + 1))
       have FK := hid (show Fr E (fun i => i = E.p) w.heap.size w _ _ [(b9, .cells #[.int .i64 4, .int .i64 (E.pl s2.i), .int .i64 ((n : Int) + 1), .string ⟨#[]⟩, .int .i64 1, .slice none 0 0, .slice none 0 0] 38), (b7, .cells #[.int .i64 8, .int .i64 (E.pl i0), .int .i64 0, .string ⟨#[]⟩, .int .i64 0, .slice A M cap, .slice none 0 0] 38), (w.heap.size, .cells #[.int .i64 0, .int .i64 0, .int .i64 0, .string ⟨#[]⟩, .int .i64 0, .slice none 0 0, .slice none 0 0] 38)] [_, _] from F7.add (it := .a (Value.slice A M cap).ownBlock ((T.ex 4 s2.i (n + 1) ⟨#[]⟩ 1 .nil .nil).map E.gl) (.agg #[.int .i64 4, .int .i64 (E.pl s2.i), .int .i64 ((n : Int) + 1), .string ⟨#[]⟩, .int .i64 1, .slice none 0 0, .slice none 0 0])) (by
        show XR _ _ _ _
        rw [map_leaf]
        exact XR.leaf _ _ _ _ _ _ _))
       clear e0 e1 e2 e3 e4 e5 e6 g0 g1 g2 g3 g4 g5 g6 F7 F6 wn1 wn2
       generalize (X5.setCell ⟨b9, 0, none⟩ (.int .i64 4)).setCell ⟨b9, 2, none⟩ (.int .i64 ((n : Int) + 1)) = X6 at FK ⊢
       refine hid ?_
       have GX := hid (HH.out.2.1 s2 hs3.out.2.1)
       have GL := hid (hs3.out.trans GX.out)
       refine (HH.out.2.2.1 s2 _ hs3.out.2.1 FK.out.ps).mono ?_
       rintro e y1 ⟨v, rfl, hx, h1, h2⟩
       obtain ⟨k', a', n', x', op', Cl, rl, el, Cf, rf, ef, rfl⟩ := hx.form
       have G0 := FK.out.callA h1 h2 (own := (Value.slice A M cap).ownBlock) (FK.out.rowlt (.tail _ (.head _))) hx
       have G1 := hid (G0.new (.cells #[.int .i64 k', .int .i64 a', .int .i64 n', .string x', .int .i64 op', .slice Cl rl el, .slice Cf rf ef] 38))
       have G2 := hid (G1.out.newF (.cells #[.int .i64 4, .int .i64 (E.pl s2.i), .int .i64 ((n : Int) + 1), .string ⟨#[]⟩, .int .i64 1, .slice none 0 0, .slice none 0 0, .int .i64 k', .int .i64 a', .int .i64 n', .string x', .int .i64 op', .slice Cl rl el, .slice Cf rf ef] 38))
       have nB := hid (heap_alloc_new (y1.alloc (.cells #[.int .i64 k', .int .i64 a', .int .i64 n', .string x', .int .i64 op', .slice Cl rl el, .slice Cf rf ef] 38)) (.cells #[.int .i64 4, .int .i64 (E.pl s2.i), .int .i64 ((n : Int) + 1), .string ⟨#[]⟩, .int .i64 1, .slice none 0 0, .slice none 0 0, .int .i64 k', .int .i64 a', .int .i64 n', .string x', .int .i64 op', .slice Cl rl el, .slice Cf rf ef] 38))
       have nd := G0.nd
       simp only [List.map_cons, List.map_nil, List.nodup_cons, List.mem_cons, List.mem_nil_iff, or_false, not_or, List.nodup_nil, and_true] at nd
       obtain ⟨⟨n1, n2⟩, n3, _⟩ := nd
       have n4 := Ne.symm n1
       obtain ⟨⟨e0, e1, e2, e3, e4, e5, e6⟩, ⟨g0, g1, g2, g3, g4, g5, g6⟩⟩ := cells7 (G0.blk _ (.head _))
       obtain ⟨⟨a0, a1, a2, a3, a4, a5, a6⟩, ⟨f0, f1, f2, f3, f4, f5, f6⟩⟩ := cells7 (G0.blk _ (.tail _ (.head _)))
       have l9 := G0.lt (.head _)
       have l7 := G0.lt (.tail _ (.head _))
       have m9 := Nat.ne_of_lt l9
       have m7 := Nat.ne_of_lt l7
       clear h1 h2 hx G0 FK
       go_wp2_with (first | (at_builtin; refine append_OF2 ((y1.alloc (.cells #[.int .i64 k', .int .i64 a', .int .i64 n', .string x', .int .i64 op', .slice Cl rl el, .slice Cf rf ef] 38)).alloc (.cells #[.int .i64 4, .int .i64 (E.pl s2.i), .int .i64 ((n : Int) + 1), .string ⟨#[]⟩, .int .i64 1, .slice none 0 0, .slice none 0 0, .int .i64 k', .int .i64 a', .int .i64 n', .string x', .int .i64 op', .slice Cl rl el, .slice Cf rf ef] 38)) rfl _ _ 0 38 31 96 _ rfl Tryz.underlying31 i38n rfl (by decide) (by decide) w.heap.size _ (.slice A M cap) (l.map E.gl) M (by rw [T.len_map]; exact PP.out.2.2.2.1) rfl (G2.out.get (.tail _ (.tail _ (.head _)))) _ _ [.int .i64 4, .int .i64 (E.pl s2.i), .int .i64 ((n : Int) + 1), .string ⟨#[]⟩, .int .i64 1, .slice none 0 0, .slice none 0 0] [.int .i64 k', .int .i64 a', .int .i64 n', .string x', .int .i64 op', .slice Cl rl el, .slice Cf rf ef] (y1.alloc (.cells #[.int .i64 k', .int .i64 a', .int .i64 n', .string x', .int .i64 op', .slice Cl rl el, .slice Cf rf ef] 38)).heap.size (by simp [go_sem]) nB.out (XR.ec1 (G2.out.get (.tail _ (.head _)))) (XR.ec1 (G2.out.get (.head _))) (Nat.le_trans hM.out.1 (by decide)) G2.out.kp.size G2.out.fresh ?_; intro g' cap' y3 h1 h2 h3; have G3 := hid (G2.out.appended (G2.out.get (.tail _ (.tail _ (.head _)))) (Nat.le_refl _) h2 h1); clear h1 h2 h3; refine Hid.out ?_))
       refine hid ?_
       clear e0 e1 e2 e3 e4 e5 e6 g0 g1 g2 g3 g4 g5 g6 a0 a1 a2 a3 a4 a5 a6 f0 f1 f2 f3 f4 f5 f6 l9 l7 m9 m7 nB G2 G1
       obtain ⟨⟨a0, a1, a2, a3, a4, a5, a6⟩, ⟨f0, f1, f2, f3, f4, f5, f6⟩⟩ := cells7 (G3.out.blk _ (.tail _ (.tail _ (.head _))))
       have G4 := hid (show Fr E (fun i => i = E.p) w.heap.size w _ _ [_, _, (b7, .cells #[.int .i64 8, .int .i64 (E.pl i0), .int .i64 0, .string ⟨#[]⟩, .int .i64 0, .slice (some ⟨g', 0, none⟩) (M + 2) cap', .slice none 0 0] 38), _] _ from G3.out.set1 2 rfl 5 (.slice (some ⟨g', 0, none⟩) (M + 2) cap'))
       have GM := hid (show ((l.map E.gl).snoc (((T.ex 4 s2.i (n + 1) ⟨#[]⟩ 1 .nil .nil) : T).map E.gl)).snoc ((ex s2).1.map E.gl) = ((l.snoc (T.ex 4 s2.i (n + 1) ⟨#[]⟩ 1 .nil .nil)).snoc (ex s2).1).map E.gl from by rw [map_snoc E.gl _ (isList_snoc _ PP.out.2.2.1), map_snoc E.gl _ PP.out.2.2.1])
       cases b3 : isT E.ts (B [44]) (ex s2).2 with
       | true =>
        have OC := hid (fun X (hX : PS E X (ex s2).2) => opt_yes E HH.out.1 (ex s2).2 GX.out.2.1 (B [44]) b3 X hX)
        have hC := hid (is_adv HH.out.1.ends GX.out.2.1 b3)
        have P3 := P2.out
        rw [if_pos b3] at P3
        have P4 := hid P3
        clear b3 P3
        go_wp2_with (first | (go_at_call 48; (with_reducible refine (OC.out _ G4.out.ps).mono ?_); rintro e y4 ⟨rfl, h1, h2⟩; have G5 := hid (G4.out.call h1 h2); clear h1 h2))
        have H6 := G5.out.drop [(b7, _), (w.heap.size, .cells #[.int .i64 0, .int .i64 0, .int .i64 0, .string ⟨#[]⟩, .int .i64 0, .slice none 0 0, .slice none 0 0] 38)] [_] (.cons _ (.cons _ (.refl _))) (fun it hi => by rw [List.mem_singleton.1 hi]; exact .head _)
        exact ⟨hid ⟨fa', _, _, M + 2, n + 1, some ⟨g', 0, none⟩, cap', by have := PP.out.1; have := GL.out.1; have e : (adv (ex s2).2).i = (ex s2).2.i + 1 := rfl; omega, P4.out, hC.out.2.1, isList_snoc _ (isList_snoc _ PP.out.2.2.1), by rw [len_two _ _ _ PP.out.2.2.1, PP.out.2.2.2.1], by have := PP.out.2.2.2.2.1; have := GL.out.1; have e : (adv (ex s2).2).i = (ex s2).2.i + 1 := rfl; omega, by have := PP.out.2.2.2.2.2.1; have := GL.out.1; have e : (adv (ex s2).2).i = (ex s2).2.i + 1 := rfl; omega, by have := PP.out.2.2.2.2.2.2; have := GL.out.1; have e : (adv (ex s2).2).i = (ex s2).2.i + 1 := rfl; omega, by go_num, by rw [← GM.out]; exact H6⟩, by rw [PA, H6.ps.pos]; have := hC.out.2.1; have := GL.out.1; have e : (adv (ex s2).2).i = (ex s2).2.i + 1 := rfl; omega⟩
       | false =>
        have OC := hid (fun X (hX : PS E X (ex s2).2) => opt_no E HH.out.1 (ex s2).2 GX.out.2.1 (B [44]) b3 X hX)
        cases b4 : isT E.ts (B [59]) (ex s2).2 with
        | true =>
         have OD := hid (fun X (hX : PS E X (ex s2).2) => opt_yes E HH.out.1 (ex s2).2 GX.out.2.1 (B [59]) b4 X hX)
         have hC := hid (is_adv HH.out.1.ends GX.out.2.1 b4)
         have P3 := P2.out
         rw [if_neg (by rw [b3]; decide), if_pos b4] at P3
         have P4 := hid P3
         clear b3 b4 P3
         go_wp2_with (first | (go_at_call 48; (with_reducible refine (OC.out _ G4.out.ps).mono ?_); rintro e y4 ⟨rfl, h1, h2⟩; have G5 := hid (G4.out.call h1 h2); clear h1 h2) | (go_at_call 48; (with_reducible refine (OD.out _ G5.out.ps).mono ?_); rintro e y5 ⟨rfl, h1, h2⟩; have G6 := hid (G5.out.call h1 h2); clear h1 h2))
         have H6 := G6.out.drop [(b7, _), (w.heap.size, .cells #[.int .i64 0, .int .i64 0, .int .i64 0, .string ⟨#[]⟩, .int .i64 0, .slice none 0 0, .slice none 0 0] 38)] [_] (.cons _ (.cons _ (.refl _))) (fun it hi => by rw [List.mem_singleton.1 hi]; exact .head _)
         exact ⟨hid ⟨fa', _, _, M + 2, n + 1, some ⟨g', 0, none⟩, cap', by have := PP.out.1; have := GL.out.1; have e : (adv (ex s2).2).i = (ex s2).2.i + 1 := rfl; omega, P4.out, hC.out.2.1, isList_snoc _ (isList_snoc _ PP.out.2.2.1), by rw [len_two _ _ _ PP.out.2.2.1, PP.out.2.2.2.1], by have := PP.out.2.2.2.2.1; have := GL.out.1; have e : (adv (ex s2).2).i = (ex s2).2.i + 1 := rfl; omega, by have := PP.out.2.2.2.2.2.1; have := GL.out.1; have e : (adv (ex s2).2).i = (ex s2).2.i + 1 := rfl; omega, by have := PP.out.2.2.2.2.2.2; have := GL.out.1; have e : (adv (ex s2).2).i = (ex s2).2.i + 1 := rfl; omega, by go_num, by rw [← GM.out]; exact H6⟩, by rw [PA, H6.ps.pos]; have := hC.out.2.1; have := GL.out.1; have e : (adv (ex s2).2).i = (ex s2).2.i + 1 := rfl; omega⟩
        | false =>
         have OD := hid (fun X (hX : PS E X (ex s2).2) => opt_no E HH.out.1 (ex s2).2 GX.out.2.1 (B [59]) b4 X hX)
         have P3 := P2.out
         rw [if_neg (by rw [b3]; decide), if_neg (by rw [b4]; decide)] at P3
         subst P3
         clear b3 b4 P2
         go_wp2_with (first | (go_at_call 48; (with_reducible refine (OC.out _ G4.out.ps).mono ?_); rintro e y4 ⟨rfl, h1, h2⟩; have G5 := hid (G4.out.call h1 h2); clear h1 h2) | (go_at_call 48; (with_reducible refine (OD.out _ G5.out.ps).mono ?_); rintro e y5 ⟨rfl, h1, h2⟩; have G6a := hid (G5.out.call h1 h2); clear h1 h2) | (go_at_call 71; (with_reducible refine (TK.out _ G6a.out.ps).mono ?_); rintro e z1 ⟨rfl, h1, h2⟩; have G6 := hid (G6a.out.call h1 h2); clear h1 h2; refine Hid.out ?_))
         refine hid ?_
         have H6 := hid (show Fr E (fun i => i = E.p) w.heap.size w _ _ [(b7, .cells #[.int .i64 8, .int .i64 (E.pl i0), .int .i64 0, .string ⟨#[]⟩, .int .i64 0, .slice (some ⟨g', 0, none⟩) (M + 2) cap', .slice none 0 0] 38), (w.heap.size, .cells #[.int .i64 0, .int .i64 0, .int .i64 0, .string ⟨#[]⟩, .int .i64 0, .slice none 0 0, .slice none 0 0] 38)] [.r 0 38 w.heap.size (((l.snoc (T.ex 4 s2.i (n + 1) ⟨#[]⟩ 1 .nil .nil)).snoc (ex s2).1).map E.gl) _] from by rw [← GM.out]; exact G6.out.drop _ [_] (.cons _ (.cons _ (.refl _))) (fun it hi => by rw [List.mem_singleton.1 hi]; exact .head _))
         clear G6 G6a G5 G4 G3 a0 a1 a2 a3 a4 a5 a6 f0 f1 f2 f3 f4 f5 f6
         have nd := H6.out.nd
         simp only [List.map_cons, List.map_nil, List.nodup_cons, List.mem_cons, List.mem_nil_iff, or_false, not_or, List.nodup_nil, and_true] at nd
         have nd1 := nd.1
         have nd2 := Ne.symm nd1
         clear nd
         obtain ⟨⟨a0, a1, a2, a3, a4, a5, a6⟩, ⟨f0, f1, f2, f3, f4, f5, f6⟩⟩ := cells7 (H6.out.blk _ (.head _))
         obtain ⟨⟨d0, d1, d2, d3, d4, d5, d6⟩, ⟨g0, g1, g2, g3, g4, g5, g6⟩⟩ := cells7 (H6.out.blk _ (.tail _ (.head _)))
         go_wp2
         have H5 := H6.out.set7 1 rfl (.int .i64 8) (.int .i64 (E.pl i0)) (.int .i64 0) (.string ⟨#[]⟩) (.int .i64 0) (.slice (some ⟨g', 0, none⟩) (M + 2) cap') (.slice none 0 0)
         refine bodyPost_ret (v := .agg #[.int .i64 8, .int .i64 (E.pl i0), .int .i64 0, .string ⟨#[]⟩, .int .i64 0, .slice (some ⟨g', 0, none⟩) (M + 2) cap', .slice none 0 0]) (by simp [results, Tryz.results105, go_sem, d0, d1, d2, d3, d4, d5, d6]) rfl ?_
         have X9 := XR.of (f := .nil) 8 (E.pl i0) 0 0 ⟨#[]⟩ (OF.sl (show OF _ _ _ _ (Fp w.heap.size _) _ _ from H5.get (.head _))) .nil
         exact ⟨_, rfl, by rw [map_exl]; exact X9.keep (fun _ _ _ => rfl) (Nat.le_refl _) (fun i hi _ => hi.1), H5.ps, H5.kp⟩
    ·have ek : TP.key E.ts ex n s2 = ((.ex 0 s2.i 0 ⟨#[]⟩ 1 .nil .nil, s2), (n : Int)) := by unfold TP.key; rw [if_pos h0b]
     have P3 := P2.out
     rw [ek] at P3
     have P2 := hid P3
     have hs3 := hs2
     have FK := hid (F4.out.add (it := .a (Value.slice A M cap).ownBlock ((T.ex 0 s2.i 0 ⟨#[]⟩ 1 .nil .nil).map E.gl) (.agg #[.int .i64 0, .int .i64 (E.pl s2.i), .int .i64 0, .string ⟨#[]⟩, .int .i64 1, .slice none 0 0, .slice none 0 0])) (by
      show XR _ _ _ _
      rw [map_leaf]
      exact XR.leaf _ _ _ _ _ _ _))
     clear P3 ek F3 F4
     go_wp2_with (first | (go_at_call 50; refine Hid.out ?_))
     clear c0 c1 c2 lp lg np
     generalize x3.heap.size = b9 at FK ⊢
     generalize x3.alloc (.cells #[.int .i64 0, .int .i64 (E.pl s2.i), .int .i64 0, .string ⟨#[]⟩, .int .i64 1, .slice none 0 0, .slice none 0 0] 38) = x4 at FK ⊢
     refine hid ?_
     have GX := hid (HH.out.2.1 s2 hs3.out.2.1)
     have GL := hid (hs3.out.trans GX.out)
     refine (HH.out.2.2.1 s2 _ hs3.out.2.1 FK.out.ps).mono ?_
     rintro e y1 ⟨v, rfl, hx, h1, h2⟩
     obtain ⟨k', a', n', x', op', Cl, rl, el, Cf, rf, ef, rfl⟩ := hx.form
     have G0 := FK.out.callA h1 h2 (own := (Value.slice A M cap).ownBlock) (FK.out.rowlt (.tail _ (.head _))) hx
     have G1 := hid (G0.new (.cells #[.int .i64 k', .int .i64 a', .int .i64 n', .string x', .int .i64 op', .slice Cl rl el, .slice Cf rf ef] 38))
     have G2 := hid (G1.out.newF (.cells #[.int .i64 0, .int .i64 (E.pl s2.i), .int .i64 0, .string ⟨#[]⟩, .int .i64 1, .slice none 0 0, .slice none 0 0, .int .i64 k', .int .i64 a', .int .i64 n', .string x', .int .i64 op', .slice Cl rl el, .slice Cf rf ef] 38))
     have nB := hid (heap_alloc_new (y1.alloc (.cells #[.int .i64 k', .int .i64 a', .int .i64 n', .string x', .int .i64 op', .slice Cl rl el, .slice Cf rf ef] 38)) (.cells #[.int .i64 0, .int .i64 (E.pl s2.i), .int .i64 0, .string ⟨#[]⟩, .int .i64 1, .slice none 0 0, .slice none 0 0, .int .i64 k', .int .i64 a', .int .i64 n', .string x', .int .i64 op', .slice Cl rl el, .slice Cf rf ef] 38))
     have nd := G0.nd
     simp only [List.map_cons, List.map_nil, List.nodup_cons, List.mem_cons, List.mem_nil_iff, or_false, not_or, List.nodup_nil, and_true] at nd
     obtain ⟨⟨n1, n2⟩, n3, _⟩ := nd
     have n4 := Ne.symm n1
     obtain ⟨⟨e0, e1, e2, e3, e4, e5, e6⟩, ⟨g0, g1, g2, g3, g4, g5, g6⟩⟩ := cells7 (G0.blk _ (.head _))
     obtain ⟨⟨a0, a1, a2, a3, a4, a5, a6⟩, ⟨f0, f1, f2, f3, f4, f5, f6⟩⟩ := cells7 (G0.blk _ (.tail _ (.head _)))
     have l9 := G0.lt (.head _)
     have l7 := G0.lt (.tail _ (.head _))
     have m9 := Nat.ne_of_lt l9
     have m7 := Nat.ne_of_lt l7
     clear h1 h2 hx G0 FK
     go_wp2_with (first | (at_builtin; refine append_OF2 ((y1.alloc (.cells #[.int .i64 k', .int .i64 a', .int .i64 n', .string x', .int .i64 op', .slice Cl rl el, .slice Cf rf ef] 38)).alloc (.cells #[.int .i64 0, .int .i64 (E.pl s2.i), .int .i64 0, .string ⟨#[]⟩, .int .i64 1, .slice none 0 0, .slice none 0 0, .int .i64 k', .int .i64 a', .int .i64 n', .string x', .int .i64 op', .slice Cl rl el, .slice Cf rf ef] 38)) rfl _ _ 0 38 31 96 _ rfl Tryz.underlying31 i38n rfl (by decide) (by decide) w.heap.size _ (.slice A M cap) (l.map E.gl) M (by rw [T.len_map]; exact PP.out.2.2.2.1) rfl (G2.out.get (.tail _ (.tail _ (.head _)))) _ _ [.int .i64 0, .int .i64 (E.pl s2.i), .int .i64 0, .string ⟨#[]⟩, .int .i64 1, .slice none 0 0, .slice none 0 0] [.int .i64 k', .int .i64 a', .int .i64 n', .string x', .int .i64 op', .slice Cl rl el, .slice Cf rf ef] (y1.alloc (.cells #[.int .i64 k', .int .i64 a', .int .i64 n', .string x', .int .i64 op', .slice Cl rl el, .slice Cf rf ef] 38)).heap.size (by simp [go_sem]) nB.out (XR.ec1 (G2.out.get (.tail _ (.head _)))) (XR.ec1 (G2.out.get (.head _))) (Nat.le_trans hM.out.1 (by decide)) G2.out.kp.size G2.out.fresh ?_; intro g' cap' y3 h1 h2 h3; have G3 := hid (G2.out.appended (G2.out.get (.tail _ (.tail _ (.head _)))) (Nat.le_refl _) h2 h1); clear h1 h2 h3; refine Hid.out ?_))
     refine hid ?_
     clear e0 e1 e2 e3 e4 e5 e6 g0 g1 g2 g3 g4 g5 g6 a0 a1 a2 a3 a4 a5 a6 f0 f1 f2 f3 f4 f5 f6 l9 l7 m9 m7 nB G2 G1
     obtain ⟨⟨a0, a1, a2, a3, a4, a5, a6⟩, ⟨f0, f1, f2, f3, f4, f5, f6⟩⟩ := cells7 (G3.out.blk _ (.tail _ (.tail _ (.head _))))
     have G4 := hid (show Fr E (fun i => i = E.p) w.heap.size w _ _ [_, _, (b7, .cells #[.int .i64 8, .int .i64 (E.pl i0), .int .i64 0, .string ⟨#[]⟩, .int .i64 0, .slice (some ⟨g', 0, none⟩) (M + 2) cap', .slice none 0 0] 38), _] _ from G3.out.set1 2 rfl 5 (.slice (some ⟨g', 0, none⟩) (M + 2) cap'))
     have GM := hid (show ((l.map E.gl).snoc (((T.ex 0 s2.i 0 ⟨#[]⟩ 1 .nil .nil) : T).map E.gl)).snoc ((ex s2).1.map E.gl) = ((l.snoc (T.ex 0 s2.i 0 ⟨#[]⟩ 1 .nil .nil)).snoc (ex s2).1).map E.gl from by rw [map_snoc E.gl _ (isList_snoc _ PP.out.2.2.1), map_snoc E.gl _ PP.out.2.2.1])
     cases b3 : isT E.ts (B [44]) (ex s2).2 with
     | true =>
      have OC := hid (fun X (hX : PS E X (ex s2).2) => opt_yes E HH.out.1 (ex s2).2 GX.out.2.1 (B [44]) b3 X hX)
      have hC := hid (is_adv HH.out.1.ends GX.out.2.1 b3)
      have P3 := P2.out
      rw [if_pos b3] at P3
      have P4 := hid P3
      clear b3 P3
      go_wp2_with (first | (go_at_call 48; (with_reducible refine (OC.out _ G4.out.ps).mono ?_); rintro e y4 ⟨rfl, h1, h2⟩; have G5 := hid (G4.out.call h1 h2); clear h1 h2))
      have H6 := G5.out.drop [(b7, _), (w.heap.size, .cells #[.int .i64 0, .int .i64 0, .int .i64 0, .string ⟨#[]⟩, .int .i64 0, .slice none 0 0, .slice none 0 0] 38)] [_] (.cons _ (.cons _ (.refl _))) (fun it hi => by rw [List.mem_singleton.1 hi]; exact .head _)
      exact ⟨hid ⟨fa', _, _, M + 2, n, some ⟨g', 0, none⟩, cap', by have := PP.out.1; have := GL.out.1; have e : (adv (ex s2).2).i = (ex s2).2.i + 1 := rfl; omega, P4.out, hC.out.2.1, isList_snoc _ (isList_snoc _ PP.out.2.2.1), by rw [len_two _ _ _ PP.out.2.2.1, PP.out.2.2.2.1], by have := PP.out.2.2.2.2.1; have := GL.out.1; have e : (adv (ex s2).2).i = (ex s2).2.i + 1 := rfl; omega, by have := PP.out.2.2.2.2.2.1; have := GL.out.1; have e : (adv (ex s2).2).i = (ex s2).2.i + 1 := rfl; omega, by have := PP.out.2.2.2.2.2.2; have := GL.out.1; have e : (adv (ex s2).2).i = (ex s2).2.i + 1 := rfl; omega, rfl, by rw [← GM.out]; exact H6⟩, by rw [PA, H6.ps.pos]; have := hC.out.2.1; have := GL.out.1; have e : (adv (ex s2).2).i = (ex s2).2.i + 1 := rfl; omega⟩
     | false =>
      have OC := hid (fun X (hX : PS E X (ex s2).2) => opt_no E HH.out.1 (ex s2).2 GX.out.2.1 (B [44]) b3 X hX)
      cases b4 : isT E.ts (B [59]) (ex s2).2 with
      | true =>
       have OD := hid (fun X (hX : PS E X (ex s2).2) => opt_yes E HH.out.1 (ex s2).2 GX.out.2.1 (B [59]) b4 X hX)
       have hC := hid (is_adv HH.out.1.ends GX.out.2.1 b4)
       have P3 := P2.out
       rw [if_neg (by rw [b3]; decide), if_pos b4] at P3
       have P4 := hid P3
       clear b3 b4 P3
       go_wp2_with (first | (go_at_call 48; (with_reducible refine (OC.out _ G4.out.ps).mono ?_); rintro e y4 ⟨rfl, h1, h2⟩; have G5 := hid (G4.out.call h1 h2); clear h1 h2) | (go_at_call 48; (with_reducible refine (OD.out _ G5.out.ps).mono ?_); rintro e y5 ⟨rfl, h1, h2⟩; have G6 := hid (G5.out.call h1 h2); clear h1 h2))
       have H6 := G6.out.drop [(b7, _), (w.heap.size, .cells #[.int .i64 0, .int .i64 0, .int .i64 0, .string ⟨#[]⟩, .int .i64 0, .slice none 0 0, .slice none 0 0] 38)] [_] (.cons _ (.cons _ (.refl _))) (fun it hi => by rw [List.mem_singleton.1 hi]; exact .head _)
       exact ⟨hid ⟨fa', _, _, M + 2, n, some ⟨g', 0, none⟩, cap', by have := PP.out.1; have := GL.out.1; have e : (adv (ex s2).2).i = (ex s2).2.i + 1 := rfl; omega, P4.out, hC.out.2.1, isList_snoc _ (isList_snoc _ PP.out.2.2.1), by rw [len_two _ _ _ PP.out.2.2.1, PP.out.2.2.2.1], by have := PP.out.2.2.2.2.1; have := GL.out.1; have e : (adv (ex s2).2).i = (ex s2).2.i + 1 := rfl; omega, by have := PP.out.2.2.2.2.2.1; have := GL.out.1; have e : (adv (ex s2).2).i = (ex s2).2.i + 1 := rfl; omega, by have := PP.out.2.2.2.2.2.2; have := GL.out.1; have e : (adv (ex s2).2).i = (ex s2).2.i + 1 := rfl; omega, rfl, by rw [← GM.out]; exact H6⟩, by rw [PA, H6.ps.pos]; have := hC.out.2.1; have := GL.out.1; have e : (adv (ex s2).2).i = (ex s2).2.i + 1 := rfl; omega⟩
      | false =>
       have OD := hid (fun X (hX : PS E X (ex s2).2) => opt_no E HH.out.1 (ex s2).2 GX.out.2.1 (B [59]) b4 X hX)
       have P3 := P2.out
       rw [if_neg (by rw [b3]; decide), if_neg (by rw [b4]; decide)] at P3
       subst P3
       clear b3 b4 P2
       go_wp2_with (first | (go_at_call 48; (with_reducible refine (OC.out _ G4.out.ps).mono ?_); rintro e y4 ⟨rfl, h1, h2⟩; have G5 := hid (G4.out.call h1 h2); clear h1 h2) | (go_at_call 48; (with_reducible refine (OD.out _ G5.out.ps).mono ?_); rintro e y5 ⟨rfl, h1, h2⟩; have G6a := hid (G5.out.call h1 h2); clear h1 h2) | (go_at_call 71; (with_reducible refine (TK.out _ G6a.out.ps).mono ?_); rintro e z1 ⟨rfl, h1, h2⟩; have G6 := hid (G6a.out.call h1 h2); clear h1 h2; refine Hid.out ?_))
       refine hid ?_
       have H6 := hid (show Fr E (fun i => i = E.p) w.heap.size w _ _ [(b7, .cells #[.int .i64 8, .int .i64 (E.pl i0), .int .i64 0, .string ⟨#[]⟩, .int .i64 0, .slice (some ⟨g', 0, none⟩) (M + 2) cap', .slice none 0 0] 38), (w.heap.size, .cells #[.int .i64 0, .int .i64 0, .int .i64 0, .string ⟨#[]⟩, .int .i64 0, .slice none 0 0, .slice none 0 0] 38)] [.r 0 38 w.heap.size (((l.snoc (T.ex 0 s2.i 0 ⟨#[]⟩ 1 .nil .nil)).snoc (ex s2).1).map E.gl) _] from by rw [← GM.out]; exact G6.out.drop _ [_] (.cons _ (.cons _ (.refl _))) (fun it hi => by rw [List.mem_singleton.1 hi]; exact .head _))
       clear G6 G6a G5 G4 G3 a0 a1 a2 a3 a4 a5 a6 f0 f1 f2 f3 f4 f5 f6
       have nd := H6.out.nd
       simp only [List.map_cons, List.map_nil, List.nodup_cons, List.mem_cons, List.mem_nil_iff, or_false, not_or, List.nodup_nil, and_true] at nd
       have nd1 := nd.1
       have nd2 := Ne.symm nd1
       clear nd
       obtain ⟨⟨a0, a1, a2, a3, a4, a5, a6⟩, ⟨f0, f1, f2, f3, f4, f5, f6⟩⟩ := cells7 (H6.out.blk _ (.head _))
       obtain ⟨⟨d0, d1, d2, d3, d4, d5, d6⟩, ⟨g0, g1, g2, g3, g4, g5, g6⟩⟩ := cells7 (H6.out.blk _ (.tail _ (.head _)))
       go_wp2
       have H5 := H6.out.set7 1 rfl (.int .i64 8) (.int .i64 (E.pl i0)) (.int .i64 0) (.string ⟨#[]⟩) (.int .i64 0) (.slice (some ⟨g', 0, none⟩) (M + 2) cap') (.slice none 0 0)
       refine bodyPost_ret (v := .agg #[.int .i64 8, .int .i64 (E.pl i0), .int .i64 0, .string ⟨#[]⟩, .int .i64 0, .slice (some ⟨g', 0, none⟩) (M + 2) cap', .slice none 0 0]) (by simp [results, Tryz.results105, go_sem, d0, d1, d2, d3, d4, d5, d6]) rfl ?_
       have X9 := XR.of (f := .nil) 8 (E.pl i0) 0 0 ⟨#[]⟩ (OF.sl (show OF _ _ _ _ (Fp w.heap.size _) _ _ from H5.get (.head _))) .nil
       exact ⟨_, rfl, by rw [map_exl]; exact X9.keep (fun _ _ _ => rfl) (Nat.le_refl _) (fun i hi _ => hi.1), H5.ps, H5.kp⟩
  ·rw [if_pos (Or.inl h0a)] at p2
   subst p2
   clear p1 p3 p4 p5 p6 p7 p8 IS
   go_wp2_with (first | (go_at_call 71; (with_reducible refine (TK.out _ FA.out.ps).mono ?_); rintro e z1 ⟨rfl, h1, h2⟩; have G6 := hid (FA.out.call h1 h2); clear h1 h2; refine Hid.out ?_))
   refine hid ?_
   clear FA c2 TK
   have nd := G6.out.nd
   simp only [List.map_cons, List.map_nil, List.nodup_cons, List.mem_cons, List.mem_nil_iff, or_false, not_or, List.nodup_nil, and_true] at nd
   have nd1 := nd.1
   have nd2 := Ne.symm nd1
   clear nd
   obtain ⟨⟨a0, a1, a2, a3, a4, a5, a6⟩, ⟨f0, f1, f2, f3, f4, f5, f6⟩⟩ := cells7 (G6.out.blk _ (.head _))
   obtain ⟨⟨d0, d1, d2, d3, d4, d5, d6⟩, ⟨g0, g1, g2, g3, g4, g5, g6⟩⟩ := cells7 (G6.out.blk _ (.tail _ (.head _)))
   go_wp2
   have H5 := G6.out.set7 1 rfl (.int .i64 8) (.int .i64 (E.pl i0)) (.int .i64 0) (.string ⟨#[]⟩) (.int .i64 0) (.slice A M cap) (.slice none 0 0)
   refine bodyPost_ret (v := .agg #[.int .i64 8, .int .i64 (E.pl i0), .int .i64 0, .string ⟨#[]⟩, .int .i64 0, .slice A M cap, .slice none 0 0]) (by simp [results, Tryz.results105, go_sem, d0, d1, d2, d3, d4, d5, d6]) rfl ?_
   have X9 := XR.of (f := .nil) 8 (E.pl i0) 0 0 ⟨#[]⟩ (OF.sl (show OF _ _ _ _ (Fp w.heap.size _) _ _ from H5.get (.head _))) .nil
   exact ⟨_, rfl, by rw [map_exl]; exact X9.keep (fun _ _ _ => rfl) (Nat.le_refl _) (fun i hi _ => hi.1), H5.ps, H5.kp⟩
end Go.Proofs.YtgkejkgailnbmaaGreatDoor
