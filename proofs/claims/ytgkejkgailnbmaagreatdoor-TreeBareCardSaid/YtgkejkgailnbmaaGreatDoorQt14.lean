/- Texts joined: F4, B1 -/
import Derived.Test.YtgkejkgailnbmaaGreatDoorQt13
set_option linter.unusedVariables false
set_option linter.unusedSimpArgs false
namespace Go.Proofs.YtgkejkgailnbmaaGreatDoor
open Lib (hid)
open Go.ChangeShapes Go.WideShapes Go.ChangeAt Go.RowKit TP
section
variable {E : Env} {Q : Nat → Prop} {c : Nat} {w X Y : World} {s s' : St} {L : List (Nat × Obj)} {V : List It}
theorem OF.blk {kd : Nat} {e : TypeId} {d : Nat} {F : Nat → Prop} {t : T} {v : Value} (h : OF kd e X d F v t) : ∀ g, v.ownBlock = some g → d ≤ g ∧ g < X.heap.size ∧ F g := by
 obtain ⟨_, hF, cs, h1, _⟩ := h
 exact fun g e => ⟨(row_own h1 g e).1, (row_own h1 g e).2, hF g e⟩
theorem NF.blk {d : Nat} {F : Nat → Prop} {xs : List ByteArray} {v : Value} (h : NF X d F v xs) : ∀ g, v.ownBlock = some g → d ≤ g ∧ g < X.heap.size ∧ F g := by
 obtain ⟨⟨_, h1⟩, hF⟩ := h
 exact fun g e => ⟨(row_own h1 g e).1, (row_own h1 g e).2, hF g e⟩
theorem OF.form {kd : Nat} {e : TypeId} {d : Nat} {F : Nat → Prop} {t : T} {v : Value} (h : OF kd e X d F v t) (ht : t.len ≠ 0) : ∃ g cap, v = .slice (some ⟨g, 0, none⟩) t.len cap := by
 obtain ⟨_, hF, cs, h1, _⟩ := h
 unfold World.ownsRow at h1
 obtain ⟨_, ⟨_, hz⟩ | ⟨g, cap, cur, rfl, _⟩⟩ := h1
 ·exact absurd hz ht
 ·exact ⟨g, cap, rfl⟩
theorem Fr.apart (h : Fr E Q c w X s L V) {v : Value} (hb : ∀ g, v.ownBlock = some g → g < X.heap.size) {y : T} {kd : Nat} {ys : List Value} (hy : EC Y (fun i => X.heap.size ≤ i) y kd ys) : EC Y (fun i => Fp c L i ∧ v.ownBlock ≠ some i) y kd ys :=
 EC.keep (fun _ _ _ => rfl) (Nat.le_refl _) (fun i hi _ => ⟨⟨Nat.le_trans (Nat.le_trans h.lo h.kp.size) hi, fun p hp e => by have := lt_blk (h.blk p hp); omega⟩, fun e => by have := hb i e; omega⟩) _ _ _ hy
theorem Fr.callA (h : Fr E Q c w X s L V) (hp : PS E Y s') (hk : KpP E X Y) {own : Option Nat} (hb : ∀ g, own = some g → g < X.heap.size) {t : T} {v : Value} (hi : XR Y (fun i => X.heap.size ≤ i) t v) : Fr E Q c w Y s' L (.a own t v :: V) :=
 (h.call hp hk).add (it := .a _ _ _) (XR.keep hi (fun _ _ _ => rfl) (Nat.le_refl _) (fun i hi _ => ⟨⟨Nat.le_trans (Nat.le_trans h.lo h.kp.size) hi, fun p hp e => by have := lt_blk (h.blk p hp); omega⟩, fun e => by have := hb i e; omega⟩))
theorem Fr.fp (h : Fr E Q c w X s L V) {i : Nat} (hi : X.heap.size ≤ i) : Fp c L i := ⟨Nat.le_trans (Nat.le_trans h.lo h.kp.size) hi, fun p hp e => by have := lt_blk (h.blk p hp); omega⟩
theorem Fr.callW (h : Fr E Q c w X s L V) (hp : PS E Y s') (hk : KpP E X Y) {own : Option Nat} (hb : ∀ g, own = some g → g < X.heap.size) {it : It} (hi : it.ok Y (fun i => X.heap.size ≤ i)) : Fr E Q c w Y s' L (.w own it :: V) :=
 (h.call hp hk).add (it := .w _ _) (It.keep (it := it) (fun _ _ _ => rfl) (Nat.le_refl _) (fun i hi _ => ⟨h.fp hi, fun e => by have := hb i e; omega⟩) hi)
theorem Fr.litW (h : Fr E Q c w X s L V) {own : Option Nat} (hb : ∀ g, own = some g → g < X.heap.size) {kd : Nat} {e : TypeId} {t : T} {n : Nat} {cs : List Value} {b : Nat} (hX : X.heap.size = b) (ht : t ≠ .nil) (hn : t.len = n) (hm : n ≤ maxLen) (hc : EC X (fun i => Fp c L i ∧ own ≠ some i) t kd cs) : Fr E Q c w (X.alloc (.cells cs.toArray e)) s L (.w own (.s kd t (.slice (some ⟨b, 0, none⟩) n n)) :: V) := by
 subst hX
 exact (h.newF _).add (it := .w _ (.s _ _ _)) (SL.lit (e := e) ht hn hm ⟨h.fp (Nat.le_refl _), fun e => by have := hb _ e; omega⟩ (heap_alloc_new _ _) (EC.keep (fun i _ hl => alloc_old.block i hl) (by rw [World.size_alloc]; omega) (fun _ hi _ => hi) _ _ _ hc))
theorem Fr.appended2 (h : Fr E Q c w X s L V) {kd : Nat} {e : TypeId} {d g : Nat} {t t' : T} {v v' : Value} {own : Option Nat} {it : It} (ho : OF kd e X d (fun i => Fp c L i ∧ own ≠ some i) v t) (hi : it.ok X (fun i => Fp c L i ∧ v.ownBlock ≠ some i)) (hd : w.heap.size ≤ d) (hg : X.grownBy Y v.ownBlock) (hn : OF kd e Y d (fun i => Fp c L i ∧ own ≠ some i) v' t') (h5 : v.ownBlock = some g ∨ g = X.heap.size) : Fr E Q c w Y s L [.w own (.r kd e d t' v'), .w (some g) it] := by
 have h2 := h.grown hg (fun g e => by
  have hb := ho.blk g e
  have := h.lg
  exact ⟨hb.2.2.1.1, Nat.le_trans hd hb.1, hb.2.2.1.2, by omega⟩) [] (fun it hi => by cases hi)
 refine (h2.add (it := .w (some g) it) (It.keep (it := it) (fun i hi hl => hg.block i hl (fun e => hi.2 e.symm)) hg.size (fun i hi hl => ⟨hi.1, fun e => ?_⟩) hi)).add (it := .w own (.r kd e d t' v')) hn
 cases e
 rcases h5 with h5 | h5
 ·exact hi.2 h5
 ·omega
theorem Fr.rowlt (h : Fr E Q c w X s L V) {kd : Nat} {e : TypeId} {d : Nat} {t : T} {v : Value} (hi : It.r kd e d t v ∈ V) : ∀ g, v.ownBlock = some g → g < X.heap.size := fun g hg => (OF.blk (h.v _ hi) g hg).2.1
theorem EC.allocd {F : Nat → Prop} {y : T} {kd : Nat} {ys : List Value} (h : EC Y F y kd ys) (o : Obj) : EC (Y.alloc o) F y kd ys := EC.keep (fun i _ hl => alloc_old.block i hl) (by rw [World.size_alloc]; omega) (fun _ hi _ => hi) _ _ _ h
theorem Fr.appended (h : Fr E Q c w X s L V) {kd kd' : Nat} {e e' : TypeId} {d : Nat} {t t' : T} {v v' : Value} (ho : OF kd e X d (Fp c L) v t) (hd : w.heap.size ≤ d) (hg : X.grownBy Y v.ownBlock) (hn : OF kd' e' Y d (Fp c L) v' t') : Fr E Q c w Y s L [.r kd' e' d t' v'] := by
 have h2 := h.grown hg (fun g e => by
  have hb := ho.blk g e
  have := h.lg
  exact ⟨hb.2.2.1, Nat.le_trans hd hb.1, hb.2.2.2, by omega⟩) [] (fun it hi => by cases hi)
 exact h2.add (it := .r _ _ _ _ _) hn
theorem Fr.appendedN (h : Fr E Q c w X s L V) {d : Nat} {xs ys : List ByteArray} {v v' : Value} (ho : NF X d (Fp c L) v xs) (hd : w.heap.size ≤ d) (hg : X.grownBy Y v.ownBlock) (hn : NF Y d (Fp c L) v' ys) : Fr E Q c w Y s L [.o d ys v'] := by
 have h2 := h.grown hg (fun g e => by
  have hb := ho.blk g e
  have := h.lg
  exact ⟨hb.2.2.1, Nat.le_trans hd hb.1, hb.2.2.2, by omega⟩) [] (fun it hi => by cases hi)
 exact h2.add (it := .o _ _ _) hn
theorem Fr.fresh (h : Fr E Q c w X s L V) : Fp c L X.heap.size := ⟨Nat.le_trans h.lo h.kp.size, fun p hp e => by have := lt_blk (h.blk p hp); omega⟩
end
theorem PS.tokN {E : Env} {w : World} {s : St} (h : PS E w s) (hi : (adv s).i < E.ts.length) : w.cell? ⟨E.g, (s.i + 1) * 4, none⟩ = some (.int .i64 (tk E.ts (adv s)).kind) ∧ w.cell? ⟨E.g, (s.i + 1) * 4 + 1, none⟩ = some (.string (tk E.ts (adv s)).text) ∧ w.cell? ⟨E.g, (s.i + 1) * 4 + 2, none⟩ = some (.int .i64 (tk E.ts (adv s)).n) ∧ w.cell? ⟨E.g, (s.i + 1) * 4 + 3, none⟩ = some (.int .i64 (E.pl (s.i + 1))) :=
 h.2.2 (s.i + 1) _ (by unfold tk; rw [List.getD_eq_getElem?_getD]; show E.ts[(adv s).i]? = _; rw [List.getElem?_eq_getElem hi]; rfl)
theorem argsLoop_eq (ts : List Tk) (ex : St → R) (f : Nat) (l : T) (s : St) : argsLoop ts ex (f + 1) l s = if s.c ≠ 0 then (l, s) else
  if isT ts (B [44]) (ex (TP.full (l.len - 1) 16 s)).2 then argsLoop ts ex f (l.snoc (ex (TP.full (l.len - 1) 16 s)).1) (adv (ex (TP.full (l.len - 1) 16 s)).2) else (l.snoc (ex (TP.full (l.len - 1) 16 s)).1, (ex (TP.full (l.len - 1) 16 s)).2) := rfl
def LA (E : Env) (ex : St → R) (A0 : R) (c : Nat) (w : World) (L : List (Nat × Obj)) (i0 : Nat) (lv : Value) (wr : World) : Prop :=
 ∃ fa l sa N cap g, E.ts.length + 1 ≤ fa + sa.i ∧ argsLoop E.ts ex fa l sa = A0 ∧ sa.i < E.ts.length ∧ l.isList ∧ l.len = N + 1 ∧ N ≤ sa.i ∧ i0 ≤ sa.i ∧ lv = .slice (some ⟨g, 0, none⟩) (N + 1) cap ∧
  Fr E (fun i => i = E.p) c w wr sa L [.r 0 38 w.heap.size (l.map E.gl) (.slice (some ⟨g, 0, none⟩) (N + 1) cap)]
end Go.Proofs.YtgkejkgailnbmaaGreatDoor
namespace Go.Proofs.YtgkejkgailnbmaaGreatDoor
open Lib (hid)
open Go.ChangeShapes Go.WideShapes Go.ChangeAt Go.RowKit TP
set_option maxRecDepth 100000 in
set_option maxHeartbeats 8000000 in
theorem behind_is (E : Env) (hE : E.Ok) (d : Int) (ex : St → R) (hG : TP.Good E.ts ex) (hL : ExC E 50 #[.int .i64 d] ex) : BhC E d (TP.behind E.ts ex) := by
 intro e v s w c hi h hp hc hx
 obtain ⟨k, a, n, x, op, Al, nl, cl, Af, nf, cf, rfl⟩ := hx.form
 have F0 := Fr.start (V := [.x (e.map E.gl) (.agg #[.int .i64 k, .int .i64 a, .int .i64 n, .string x, .int .i64 op, .slice Al nl cl, .slice Af nf cf])]) h hp hc (fun it hi => by rw [List.mem_singleton.1 hi]; exact hx)
 have F2 := (F0.new (.cells #[.int .i64 k, .int .i64 a, .int .i64 n, .string x, .int .i64 op, .slice Al nl cl, .slice Af nf cf] 38)).new (.cells #[.int .i64 0, .int .i64 0, .int .i64 0, .string ⟨#[]⟩, .int .i64 0, .slice none 0 0, .slice none 0 0] 38)
 rw [World.size_alloc] at F2
 obtain ⟨R0, hR0⟩ : ∃ R0, TP.behind E.ts ex e s = R0 := ⟨_, rfl⟩
 rw [hR0]
 have FH := hid F2
 have HH := hid (And.intro hE (And.intro hG (And.intro hL (And.intro hi hR0))))
 clear F0 F2 hx hE hG hL hi h hp hc hR0
 go_enter Tryz.func72, Tryz.ntmps72
 go_wp2
 generalize (w.alloc (.cells #[.int .i64 k, .int .i64 a, .int .i64 n, .string x, .int .i64 op, .slice Al nl cl, .slice Af nf cf] 38)).alloc (.cells #[.int .i64 0, .int .i64 0, .int .i64 0, .string ⟨#[]⟩, .int .i64 0, .slice none 0 0, .slice none 0 0] 38) = z at FH ⊢
 generalize w.heap.size + 1 = b6 at FH ⊢
 generalize w.heap.size = b4 at FH ⊢
 go_loopw [7] (fun _ wr => Hid (LB E ex R0 c w b4 b6 wr)) (fun _ wr => E.ts.length - posOf E wr)
 case atStart => exact hid ⟨E.ts.length + 1, e, s, k, a, n, x, op, Al, nl, cl, Af, nf, cf, by omega, HH.out.2.2.2.2, HH.out.2.2.2.1, FH.out⟩
 case round =>
  clear FH
  obtain ⟨fu, t, st, k, a, n, x, op, Al, nl, cl, Af, nf, cf, q1, q2, q3, q4⟩ := hrel.out
  obtain ⟨f', rfl⟩ : ∃ f', fu = f' + 1 := ⟨fu - 1, by omega⟩
  rw [behindLoop_eq] at q2
  have FQ := hid q4
  have HQ := hid (And.intro q1 q3)
  obtain ⟨w5, rfl⟩ : ∃ w5, w5 = wr := ⟨_, rfl⟩
  have EE := HH.out.1
  have PW := q4.ps.pos
  clear q1 q3 q4 hrel
  obtain ⟨_, _, _, c2, _⟩ := FQ.out.ps.cells
  by_cases h0 : st.c = 0
  ·rw [h0] at c2
   rw [if_neg (fun e => e h0)] at q2
   have PL := hid (place_is E st HQ.out.2 _ FQ.out.ps)
   cases b1 : isT E.ts (B [46]) st with
   | true =>
    rw [if_pos b1] at q2
    have QQ := hid q2
    have hA := hid (is_adv EE.ends HQ.out.2 b1)
    have O1 := hid (fun X (hX : PS E X st) => opt_yes E EE st HQ.out.2 (B [46]) b1 X hX)
    have PL2 := hid (fun X (hX : PS E X (adv st)) => place_is E (adv st) hA.out.2.1 X hX)
    have NM := hid (fun X (hX : PS E X (adv st)) => name_is E EE (adv st) hA.out.2.1 X hX)
    have GN := hid (Go.name EE.ends (Go.refl hA.out.2.1))
    clear q2 b1 EE h0 hA
    go_wp2_with (first | (go_at_call 47; (with_reducible refine (PL.out).mono ?_); rintro e x1 ⟨rfl, h1, h2⟩; have F1 := hid (FQ.out.below2 h1 h2); clear h1 h2) | (go_at_call 48; (with_reducible refine (O1.out _ F1.out.ps).mono ?_); rintro e x2 ⟨rfl, h1, h2⟩; have F2 := hid (F1.out.call h1 h2); clear h1 h2) | (go_at_call 47; (with_reducible refine (PL2.out _ F2.out.ps).mono ?_); rintro e x3 ⟨rfl, h1, h2⟩; have F3 := hid (F2.out.below2 h1 h2); clear h1 h2) | (go_at_call 69; refine Hid.out ?_))
    refine hid ?_
    have F4 := F3.out.new (.cells #[.int .i64 5, .int .i64 (E.pl (adv st).i), .int .i64 0, .string ⟨#[]⟩, .int .i64 0, .slice none 0 0, .slice none 0 0] 38)
    refine (NM.out _ F4.ps).mono ?_
    rintro e x5 ⟨rfl, h1, h2⟩
    have F5 := hid (F4.call h1 h2)
    clear h1 h2 F4 F3 F2 F1 c2 NM PL2 O1 PL
    generalize x3.heap.size = b8 at F5 ⊢
    have nd := F5.out.nd
    simp only [List.map_cons, List.map_nil, List.nodup_cons, List.mem_cons, List.mem_nil_iff, or_false, not_or, List.nodup_nil, and_true] at nd
    obtain ⟨⟨n1, n2⟩, n3, _⟩ := nd
    have n4 := Ne.symm n2
    obtain ⟨⟨e0, e1, e2, e3, e4, e5, e6⟩, ⟨g0, g1, g2, g3, g4, g5, g6⟩⟩ := cells7 (F5.out.blk _ (.head _))
    obtain ⟨⟨a0, a1, a2, a3, a4, a5, a6⟩, ⟨f0, f1, f2, f3, f4, f5, f6⟩⟩ := cells7 (F5.out.blk _ (.tail _ (.tail _ (.head _))))
    have l8 := F5.out.lt (.head _)
    have l4 := F5.out.lt (.tail _ (.tail _ (.head _)))
    have m4 := Nat.ne_of_lt l4
    have XT := hid (F5.out.get (.head _))
    go_wp2
    have F7 := (F5.out.set1 0 rfl 3 (.string (TP.name E.ts (adv st)).1)).set7 2 rfl (.int .i64 9) (.int .i64 (E.pl st.i)) (.int .i64 0) (.string ⟨#[]⟩) (.int .i64 0) (.slice (some ⟨x5.heap.size, 0, none⟩) 2 2) (.slice none 0 0)
    have F8 := F7.litA (e := 38) (b := x5.heap.size) (by simp [World.setCell]) (n := 2) (by intro e; cases e) rfl (by decide) (XR.ec2 (F7.get (.head _)) (XR.leaf _ _ 5 (E.pl (adv st).i) 0 0 (TP.name E.ts (adv st)).1))
    have F9 := (F8.add (it := .x ((T.ex 9 (st.i : Int) 0 ⟨#[]⟩ 0 (T.of [t, .ex 5 ((st.i : Int) + 1) 0 (TP.name E.ts (adv st)).1 0 .nil .nil]) .nil).map E.gl) _) (by
     rw [map_ex2, map_leaf1]
     exact XR.of 9 (E.pl st.i) 0 0 ⟨#[]⟩ (F8.get (.head _)) .nil)).drop [(b6, .cells #[.int .i64 0, .int .i64 0, .int .i64 0, .string ⟨#[]⟩, .int .i64 0, .slice none 0 0, .slice none 0 0] 38), (b4, _)] [_] (.cons _ (.refl _)) (fun it hi => by rw [List.mem_singleton.1 hi]; exact .head _)
    exact ⟨hid ⟨f', _, _, _, _, _, _, _, _, _, _, _, _, _, by have := HQ.out.1; have := GN.out.1; have e : (adv st).i = st.i + 1 := rfl; omega, QQ.out, GN.out.2.1, F9⟩, by rw [PW, F9.ps.pos]; have := GN.out.1; have := GN.out.2.1; have e : (adv st).i = st.i + 1 := rfl; omega⟩
   | false =>
    rw [if_neg (by rw [b1]; decide)] at q2
    have O1 := hid (fun X (hX : PS E X st) => opt_no E EE st HQ.out.2 (B [46]) b1 X hX)
    cases b2 : isT E.ts (B [91]) st with
    | true =>
     rw [if_pos b2] at q2
     have QQ := hid q2
     have hA := hid (is_adv EE.ends HQ.out.2 b2)
     have O2 := hid (fun X (hX : PS E X st) => opt_yes E EE st HQ.out.2 (B [91]) b2 X hX)
     have LX := hid (fun X (hX : PS E X (adv st)) => HH.out.2.2.1 (adv st) X hA.out.2.1 hX)
     have GX := hid (HH.out.2.1 (adv st) hA.out.2.1)
     have TK := hid (fun X (hX : PS E X (ex (adv st)).2) => take_is E EE (ex (adv st)).2 GX.out.2.1 (B [93]) X hX)
     have GN := hid (GX.out.take EE.ends (B [93]))
     clear q2 b1 b2 EE h0 hA
     go_wp2_with (first | (go_at_call 47; (with_reducible refine (PL.out).mono ?_); rintro e x1 ⟨rfl, h1, h2⟩; have F1 := hid (FQ.out.below2 h1 h2); clear h1 h2) | (go_at_call 48; (with_reducible refine (O1.out _ F1.out.ps).mono ?_); rintro e x2 ⟨rfl, h1, h2⟩; have F2 := hid (F1.out.call h1 h2); clear h1 h2) | (go_at_call 48; (with_reducible refine (O2.out _ F2.out.ps).mono ?_); rintro e x3 ⟨rfl, h1, h2⟩; have F3 := hid (F2.out.call h1 h2); clear h1 h2) | (go_at_call 50; refine Hid.out ?_))
     refine hid ?_
     refine (LX.out _ F3.out.ps).mono ?_
     rintro e x4 ⟨v, rfl, hx, h1, h2⟩
     obtain ⟨k', a', n', x', op', Cl, rl, el, Cf, rf, ef, rfl⟩ := hx.form
     have F4 := F3.out.callI (it := .x _ _) h1 h2 hx
     have F5 := hid (F4.new (.cells #[.int .i64 k', .int .i64 a', .int .i64 n', .string x', .int .i64 op', .slice Cl rl el, .slice Cf rf ef] 38))
     clear h1 h2 F4 F3 F2 F1 c2 LX O1 O2 PL hx
     go_wp2_with (first | (go_at_call 71; refine Hid.out ?_))
     refine hid ?_
     refine (TK.out _ F5.out.ps).mono ?_
     rintro e x5 ⟨rfl, h1, h2⟩
     have F6 := hid (F5.out.call h1 h2)
     clear h1 h2 F5 TK
     generalize x4.heap.size = b8 at F6 ⊢
     have nd := F6.out.nd
     simp only [List.map_cons, List.map_nil, List.nodup_cons, List.mem_cons, List.mem_nil_iff, or_false, not_or, List.nodup_nil, and_true] at nd
     obtain ⟨⟨n1, n2⟩, n3, _⟩ := nd
     have n4 := Ne.symm n2
     obtain ⟨⟨e0, e1, e2, e3, e4, e5, e6⟩, ⟨g0, g1, g2, g3, g4, g5, g6⟩⟩ := cells7 (F6.out.blk _ (.head _))
     obtain ⟨⟨a0, a1, a2, a3, a4, a5, a6⟩, ⟨f0, f1, f2, f3, f4, f5, f6⟩⟩ := cells7 (F6.out.blk _ (.tail _ (.tail _ (.head _))))
     have l8 := F6.out.lt (.head _)
     have l4 := F6.out.lt (.tail _ (.tail _ (.head _)))
     have m4 := Nat.ne_of_lt l4
     go_wp2
     have F7 := F6.out.set7 2 rfl (.int .i64 9) (.int .i64 (E.pl st.i)) (.int .i64 0) (.string ⟨#[]⟩) (.int .i64 0) (.slice (some ⟨x5.heap.size, 0, none⟩) 2 2) (.slice none 0 0)
     have F8 := F7.litA (e := 38) (b := x5.heap.size) (by simp [World.setCell]) (n := 2) (by intro e; cases e) rfl (by decide) (XR.ec2 (F7.get (.tail _ (.head _))) (F7.get (.head _)))
     have F9 := (F8.add (it := .x ((T.ex 9 (st.i : Int) 0 ⟨#[]⟩ 0 (T.of [t, (ex (adv st)).1]) .nil).map E.gl) _) (by
      rw [map_ex2]
      exact XR.of 9 (E.pl st.i) 0 0 ⟨#[]⟩ (F8.get (.head _)) .nil)).drop [(b6, .cells #[.int .i64 0, .int .i64 0, .int .i64 0, .string ⟨#[]⟩, .int .i64 0, .slice none 0 0, .slice none 0 0] 38), (b4, _)] [_] (.cons _ (.refl _)) (fun it hi => by rw [List.mem_singleton.1 hi]; exact .head _)
     exact ⟨hid ⟨f', _, _, _, _, _, _, _, _, _, _, _, _, _, by have := HQ.out.1; have := GN.out.1; have e : (adv st).i = st.i + 1 := rfl; omega, QQ.out, GN.out.2.1, F9⟩, by rw [PW, F9.ps.pos]; have := GN.out.1; have := GN.out.2.1; have e : (adv st).i = st.i + 1 := rfl; omega⟩
    | false =>
     rw [if_neg (by rw [b2]; decide)] at q2
     have O2 := hid (fun X (hX : PS E X st) => opt_no E EE st HQ.out.2 (B [91]) b2 X hX)
     cases b3 : isT E.ts (B [40]) st with
     | true =>
      rw [if_pos b3] at q2
      have hA := hid (is_adv EE.ends HQ.out.2 b3)
      have O3 := hid (fun X (hX : PS E X st) => opt_yes E EE st HQ.out.2 (B [40]) b3 X hX)
      cases b5 : isT E.ts (B [41]) (adv st) with
      | true =>
       have ea : TP.args E.ts ex t (adv st) = (T.of [t], adv (adv st)) := by unfold TP.args; rw [if_pos b5]
       rw [ea] at q2
       have QQ := hid q2
       have O4 := hid (fun X (hX : PS E X (adv st)) => opt_yes E EE (adv st) hA.out.2.1 (B [41]) b5 X hX)
       have hB := hid (is_adv EE.ends hA.out.2.1 b5)
       clear q2 b1 b2 b3 b5 EE h0 ea
       go_wp2_with (first | (go_at_call 47; (with_reducible refine (PL.out).mono ?_); rintro e x1 ⟨rfl, h1, h2⟩; have F1 := hid (FQ.out.below2 h1 h2); clear h1 h2) | (go_at_call 48; (with_reducible refine (O1.out _ F1.out.ps).mono ?_); rintro e x2 ⟨rfl, h1, h2⟩; have F2 := hid (F1.out.call h1 h2); clear h1 h2) | (go_at_call 48; (with_reducible refine (O2.out _ F2.out.ps).mono ?_); rintro e x3 ⟨rfl, h1, h2⟩; have F3 := hid (F2.out.call h1 h2); clear h1 h2) | (go_at_call 48; (with_reducible refine (O3.out _ F3.out.ps).mono ?_); rintro e x4 ⟨rfl, h1, h2⟩; have F4 := hid (F3.out.call h1 h2); obtain ⟨⟨a0, a1, a2, a3, a4, a5, a6⟩, ⟨f0, f1, f2, f3, f4, f5, f6⟩⟩ := cells7 (F4.out.blk _ (.tail _ (.head _))); clear h1 h2) | (go_at_call 48; refine Hid.out ?_))
       refine hid ?_
       have F5 := F4.out.lit (e := 38) (n := 1) (by intro e; cases e) rfl (by decide) (XR.ec1 (F4.out.get (.head _)))
       refine (O4.out _ F5.ps).mono ?_
       rintro e x5 ⟨rfl, h1, h2⟩
       have F6 := hid (F5.call h1 h2)
       clear h1 h2 F5 F4 F3 F2 F1 c2 O1 O2 O3 O4 PL a0 a1 a2 a3 a4 a5 a6 f0 f1 f2 f3 f4 f5 f6
       generalize x4.heap.size = b10 at F6 ⊢
       obtain ⟨⟨a0, a1, a2, a3, a4, a5, a6⟩, ⟨f0, f1, f2, f3, f4, f5, f6⟩⟩ := cells7 (F6.out.blk _ (.tail _ (.head _)))
       go_wp2
       have F7 := F6.out.set7 1 rfl (.int .i64 10) (.int .i64 (E.pl st.i)) (.int .i64 0) (.string ⟨#[]⟩) (.int .i64 0) (.slice (some ⟨b10, 0, none⟩) 1 1) (.slice none 0 0)
       have F9 := (F7.add (it := .x ((T.ex 10 (st.i : Int) 0 ⟨#[]⟩ 0 (T.of [t]) .nil).map E.gl) _) (by
        rw [map_exl]
        exact XR.of 10 (E.pl st.i) 0 0 ⟨#[]⟩ (F7.get (.head _)) .nil)).drop [(b6, .cells #[.int .i64 0, .int .i64 0, .int .i64 0, .string ⟨#[]⟩, .int .i64 0, .slice none 0 0, .slice none 0 0] 38), (b4, _)] [_] (.refl _) (fun it hi => by rw [List.mem_singleton.1 hi]; exact .head _)
       exact ⟨hid ⟨f', _, _, _, _, _, _, _, _, _, _, _, _, _, by have := HQ.out.1; have := hA.out.1; have e : (adv (adv st)).i = st.i + 1 + 1 := rfl; omega, QQ.out, hB.out.2.1, F9⟩, by rw [PW, F9.ps.pos]; have := hB.out.2.1; have e : (adv (adv st)).i = st.i + 1 + 1 := rfl; omega⟩
      | false =>
       have ea : TP.args E.ts ex t (adv st) = ((argsLoop E.ts ex (E.ts.length + 1) (T.of [t]) (adv st)).1, TP.take E.ts (B [41]) (argsLoop E.ts ex (E.ts.length + 1) (T.of [t]) (adv st)).2) := by unfold TP.args; rw [if_neg (by rw [b5]; decide)]
       rw [ea] at q2
       have GA0 := argsLoop_go EE.ends HH.out.2.1 (E.ts.length + 1) (T.of [t]) (adv st) (adv st) (Go.refl hA.out.2.1)
       obtain ⟨A0, hA0⟩ : ∃ A0, argsLoop E.ts ex (E.ts.length + 1) (T.of [t]) (adv st) = A0 := ⟨_, rfl⟩
       rw [hA0] at q2 GA0
       have GA := hid GA0
       have QQ := hid q2
       have HA0 := hid hA0
       have O4 := hid (fun X (hX : PS E X (adv st)) => opt_no E EE (adv st) hA.out.2.1 (B [41]) b5 X hX)
       have TK := hid (fun X (hX : PS E X A0.2) => take_is E EE A0.2 GA.out.2.1 (B [41]) X hX)
       have GN := hid (GA.out.take EE.ends (B [41]))
       clear q2 b1 b2 b3 b5 EE h0 ea GA0 hA0
       go_wp2_with (first | (go_at_call 47; (with_reducible refine (PL.out).mono ?_); rintro e x1 ⟨rfl, h1, h2⟩; have F1 := hid (FQ.out.below2 h1 h2); clear h1 h2) | (go_at_call 48; (with_reducible refine (O1.out _ F1.out.ps).mono ?_); rintro e x2 ⟨rfl, h1, h2⟩; have F2 := hid (F1.out.call h1 h2); clear h1 h2) | (go_at_call 48; (with_reducible refine (O2.out _ F2.out.ps).mono ?_); rintro e x3 ⟨rfl, h1, h2⟩; have F3 := hid (F2.out.call h1 h2); clear h1 h2) | (go_at_call 48; (with_reducible refine (O3.out _ F3.out.ps).mono ?_); rintro e x4 ⟨rfl, h1, h2⟩; have F4 := hid (F3.out.call h1 h2); obtain ⟨⟨a0, a1, a2, a3, a4, a5, a6⟩, ⟨f0, f1, f2, f3, f4, f5, f6⟩⟩ := cells7 (F4.out.blk _ (.tail _ (.head _))); clear h1 h2) | (go_at_call 48; refine Hid.out ?_))
       refine hid ?_
       have F5 := F4.out.litR (e := 38) (n := 1) w.heap.size F4.out.kp.size (by intro e; cases e) rfl (by decide) (XR.ec1 (F4.out.get (.head _)))
       refine (O4.out _ F5.ps).mono ?_
       rintro e x5 ⟨rfl, h1, h2⟩
       have F6 := hid ((F5.call h1 h2).drop _ [_] (.refl _) (fun it hi => by rw [List.mem_singleton.1 hi]; exact .head _))
       clear h1 h2 F5 F4 F3 F2 F1 c2 O1 O2 O3 O4 PL a0 a1 a2 a3 a4 a5 a6 f0 f1 f2 f3 f4 f5 f6
       generalize x4.heap.size = b10 at F6 ⊢
       go_wp2
       go_loopw [10] (fun lv wr => Hid (LA E ex A0 c w [(b6, .cells #[.int .i64 0, .int .i64 0, .int .i64 0, .string ⟨#[]⟩, .int .i64 0, .slice none 0 0, .slice none 0 0] 38), (b4, .cells #[.int .i64 k, .int .i64 a, .int .i64 n, .string x, .int .i64 op, .slice Al nl cl, .slice Af nf cf] 38)] (adv st).i lv wr)) (fun _ wr => E.ts.length - posOf E wr)
       case atStart => exact hid ⟨E.ts.length + 1, T.of [t], adv st, 0, 1, b10, by omega, HA0.out, hA.out.2.1, trivial, rfl, Nat.zero_le _, Nat.le_refl _, rfl, F6.out⟩
       case round =>
        clear F6
        obtain ⟨fa, l, sa, N, cap, g, p1, p2, p3, p4, p5, p6, p7, rfl, p8⟩ := hrel.out
        obtain ⟨fa', rfl⟩ : ∃ fa', fa = fa' + 1 := ⟨fa - 1, by omega⟩
        rw [argsLoop_eq] at p2
        have FA := hid p8
        have PA := p8.ps.pos
        obtain ⟨_, _, _, c2, _⟩ := p8.ps.cells
        have PP := hid (And.intro p1 (And.intro p3 (And.intro p4 (And.intro p5 (And.intro p6 p7)))))
        clear p8 hrel
        by_cases h0a : sa.c = 0
        ·rw [h0a] at c2
         rw [if_neg (fun e => e h0a), show l.len - 1 = N by omega] at p2
         have FU := hid (show Calls Tryz.prog 80 #[.pointer (some ⟨E.p, 0, none⟩), .int .i64 (N : Int), .int .i64 16] wr _ from full_is E HH.out.1 sa p3 N 16 wr FA.out.ps)
         have gf := hid (Go.full N 16 (Go.refl p3))
         have hN := hid (show N ≤ 20000 from by have := HH.out.1.len; omega)
         clear h0a p1 p3 p4 p5 p6 p7
         generalize TP.full N 16 sa = s2 at p2 FU gf
         have XC := hid (fun X (hX : PS E X s2) => HH.out.2.2.1 s2 X gf.out.2.1 hX)
         have GX := hid (HH.out.2.1 s2 gf.out.2.1)
         have P2 := hid p2
         clear p2
         have ws : IntKind.i64.wrap ((N : Int) + 1 - 1) = N ∧ wrap64 ((N : Int) + 1 - 1) = N ∧ IntKind.i64.wrap (N : Int) = N ∧ wrap64 (N : Int) = N := by
          have := hN.out
          rw [IntKind.wrap_i64, IntKind.wrap_i64]
          unfold wrap64
          refine ⟨?_, ?_, ?_, ?_⟩ <;> omega
         obtain ⟨ws1, ws2, ws3, ws4⟩ := ws
         go_wp2_with (first | (go_at_call 80; (with_reducible refine (FU.out).mono ?_); rintro e y1 ⟨rfl, h1, h2⟩; have G1 := hid (FA.out.call h1 h2); clear h1 h2) | (go_at_call 50; refine Hid.out ?_))
         refine hid ?_
         refine (XC.out _ G1.out.ps).mono ?_
         rintro e y2 ⟨v, rfl, hx, h1, h2⟩
         obtain ⟨k', a', n', x', op', Cl, rl, el, Cf, rf, ef, rfl⟩ := hx.form
         have G3 := hid ((G1.out.call h1 h2).newF (.cells #[.int .i64 k', .int .i64 a', .int .i64 n', .string x', .int .i64 op', .slice Cl rl el, .slice Cf rf ef] 38))
         have HY := hid ((G1.out.apart (v := .slice (some ⟨g, 0, none⟩) (N + 1) cap) (fun g' e => ((show OF _ _ _ _ _ _ _ from G1.out.get (.head _)).blk g' e).2.1) hx.ec1).allocd (.cells #[.int .i64 k', .int .i64 a', .int .i64 n', .string x', .int .i64 op', .slice Cl rl el, .slice Cf rf ef] 38))
         have nB := hid (heap_alloc_new y2 (.cells #[.int .i64 k', .int .i64 a', .int .i64 n', .string x', .int .i64 op', .slice Cl rl el, .slice Cf rf ef] 38))
         clear h1 h2 hx ws1 ws2 ws3 ws4 FU XC c2 G1
         go_wp2_with (first | (at_builtin; refine append_OF (y2.alloc (.cells #[.int .i64 k', .int .i64 a', .int .i64 n', .string x', .int .i64 op', .slice Cl rl el, .slice Cf rf ef] 38)) rfl _ _ 0 38 31 96 _ rfl Tryz.underlying31 i38n rfl (by decide) (by decide) w.heap.size _ (.slice (some ⟨g, 0, none⟩) (N + 1) cap) (l.map E.gl) (N + 1) (by rw [T.len_map]; exact PP.out.2.2.2.1) rfl (G3.out.get (.head _)) _ _ y2.heap.size rfl nB.out HY.out (by have := hN.out; omega) G3.out.kp.size G3.out.fresh ?_; intro g' cap' y3 h1 h2 h3; have G4 := hid (G3.out.appended (G3.out.get (.head _)) (Nat.le_refl _) h2 h1); clear h1 h2 h3 HY nB G3; refine Hid.out ?_))
         refine hid ?_
         cases b7 : isT E.ts (B [44]) (ex s2).2 with
         | true =>
          have OC := hid (fun X (hX : PS E X (ex s2).2) => opt_yes E HH.out.1 (ex s2).2 GX.out.2.1 (B [44]) b7 X hX)
          have hC := hid (is_adv HH.out.1.ends GX.out.2.1 b7)
          have P3 := P2.out
          rw [if_pos b7] at P3
          have P4 := hid P3
          clear b7 P3
          go_wp2_with (first | (go_at_call 48; (with_reducible refine (OC.out _ G4.out.ps).mono ?_); rintro e y4 ⟨rfl, h1, h2⟩; have G5 := hid (G4.out.call h1 h2); clear h1 h2))
          exact ⟨hid ⟨fa', _, _, N + 1, cap', g', by have := PP.out.1; have := gf.out.1; have := GX.out.1; have e : (adv (ex s2).2).i = (ex s2).2.i + 1 := rfl; omega, P4.out, hC.out.2.1, isList_snoc _ PP.out.2.2.1, by rw [len_snoc _ PP.out.2.2.1, PP.out.2.2.2.1], by have := PP.out.2.2.2.2.1; have := gf.out.1; have := GX.out.1; have e : (adv (ex s2).2).i = (ex s2).2.i + 1 := rfl; omega, by have := PP.out.2.2.2.2.2; have := gf.out.1; have := GX.out.1; have e : (adv (ex s2).2).i = (ex s2).2.i + 1 := rfl; omega, rfl, by rw [map_snoc E.gl _ PP.out.2.2.1]; exact G5.out⟩, by rw [PA, G5.out.ps.pos]; have := hC.out.2.1; have := gf.out.1; have := GX.out.1; have e : (adv (ex s2).2).i = (ex s2).2.i + 1 := rfl; omega⟩
         | false =>
          have OC := hid (fun X (hX : PS E X (ex s2).2) => opt_no E HH.out.1 (ex s2).2 GX.out.2.1 (B [44]) b7 X hX)
          have P3 := P2.out
          rw [if_neg (by rw [b7]; decide)] at P3
          subst P3
          have GM := hid (map_snoc E.gl (ex s2).1 PP.out.2.2.1)
          clear b7 P2
          go_wp2_with (first | (go_at_call 48; (with_reducible refine (OC.out _ G4.out.ps).mono ?_); rintro e y4 ⟨rfl, h1, h2⟩; have G5 := hid (GM.out ▸ G4.out.call h1 h2); clear h1 h2) | (go_at_call 71; (with_reducible refine (TK.out _ G5.out.ps).mono ?_); rintro e z1 ⟨rfl, h1, h2⟩; have G6 := hid (G5.out.call h1 h2); obtain ⟨⟨a0, a1, a2, a3, a4, a5, a6⟩, ⟨f0, f1, f2, f3, f4, f5, f6⟩⟩ := cells7 (G6.out.blk _ (.tail _ (.head _))); clear h1 h2))
          have G7 := G6.out.set7 1 rfl (.int .i64 10) (.int .i64 (E.pl st.i)) (.int .i64 0) (.string ⟨#[]⟩) (.int .i64 0) (.slice (some ⟨g', 0, none⟩) (N + 1 + 1) cap') (.slice none 0 0)
          have G9 := (G7.add (it := .x ((T.ex 10 (st.i : Int) 0 ⟨#[]⟩ 0 _ .nil).map E.gl) _) (by
           rw [map_exl]
           exact XR.of 10 (E.pl st.i) 0 0 ⟨#[]⟩ (OF.sl (G7.get (.head _))) .nil)).drop [(b6, .cells #[.int .i64 0, .int .i64 0, .int .i64 0, .string ⟨#[]⟩, .int .i64 0, .slice none 0 0, .slice none 0 0] 38), (b4, _)] [_] (.refl _) (fun it hi => by rw [List.mem_singleton.1 hi]; exact .head _)
          exact ⟨hid ⟨f', _, _, _, _, _, _, _, _, _, _, _, _, _, by have := HQ.out.1; have := GN.out.1; have e : (adv st).i = st.i + 1 := rfl; omega, QQ.out, GN.out.2.1, G9⟩, by rw [PW, G9.ps.pos]; have := GN.out.1; have := GN.out.2.1; have e : (adv st).i = st.i + 1 := rfl; omega⟩
        ·rw [if_pos h0a] at p2
         subst p2
         clear p1 p3 p4 p5 p6 p7
         go_wp2_with (first | (go_at_call 71; (with_reducible refine (TK.out _ FA.out.ps).mono ?_); rintro e z1 ⟨rfl, h1, h2⟩; have G6 := hid (FA.out.call h1 h2); obtain ⟨⟨a0, a1, a2, a3, a4, a5, a6⟩, ⟨f0, f1, f2, f3, f4, f5, f6⟩⟩ := cells7 (G6.out.blk _ (.tail _ (.head _))); clear h1 h2))
         have G7 := G6.out.set7 1 rfl (.int .i64 10) (.int .i64 (E.pl st.i)) (.int .i64 0) (.string ⟨#[]⟩) (.int .i64 0) (.slice (some ⟨g, 0, none⟩) (N + 1) cap) (.slice none 0 0)
         have G9 := (G7.add (it := .x ((T.ex 10 (st.i : Int) 0 ⟨#[]⟩ 0 _ .nil).map E.gl) _) (by
          rw [map_exl]
          exact XR.of 10 (E.pl st.i) 0 0 ⟨#[]⟩ (OF.sl (G7.get (.head _))) .nil)).drop [(b6, .cells #[.int .i64 0, .int .i64 0, .int .i64 0, .string ⟨#[]⟩, .int .i64 0, .slice none 0 0, .slice none 0 0] 38), (b4, _)] [_] (.refl _) (fun it hi => by rw [List.mem_singleton.1 hi]; exact .head _)
         exact ⟨hid ⟨f', _, _, _, _, _, _, _, _, _, _, _, _, _, by have := HQ.out.1; have := GN.out.1; have e : (adv st).i = st.i + 1 := rfl; omega, QQ.out, GN.out.2.1, G9⟩, by rw [PW, G9.ps.pos]; have := GN.out.1; have := GN.out.2.1; have e : (adv st).i = st.i + 1 := rfl; omega⟩
     | false =>
      rw [if_neg (by rw [b3]; decide)] at q2
      have O3 := hid (fun X (hX : PS E X st) => opt_no E EE st HQ.out.2 (B [40]) b3 X hX)
      subst q2
      clear b1 b2 b3 EE h0
      go_wp2_with (first | (go_at_call 47; (with_reducible refine (PL.out).mono ?_); rintro e x1 ⟨rfl, h1, h2⟩; have F1 := hid (FQ.out.below2 h1 h2); clear h1 h2) | (go_at_call 48; (with_reducible refine (O1.out _ F1.out.ps).mono ?_); rintro e x2 ⟨rfl, h1, h2⟩; have F2 := hid (F1.out.call h1 h2); clear h1 h2) | (go_at_call 48; (with_reducible refine (O2.out _ F2.out.ps).mono ?_); rintro e x3 ⟨rfl, h1, h2⟩; have F3 := hid (F2.out.call h1 h2); clear h1 h2) | (go_at_call 48; (with_reducible refine (O3.out _ F3.out.ps).mono ?_); rintro e x4 ⟨rfl, h1, h2⟩; have F4 := hid (F3.out.call h1 h2); obtain ⟨⟨a0, a1, a2, a3, a4, a5, a6⟩, ⟨f0, f1, f2, f3, f4, f5, f6⟩⟩ := cells7 (F4.out.blk _ (.tail _ (.head _))); obtain ⟨⟨d0, d1, d2, d3, d4, d5, d6⟩, ⟨g0, g1, g2, g3, g4, g5, g6⟩⟩ := cells7 (F4.out.blk _ (.head _)); clear h1 h2))
      have F5 := F4.out.set7 0 rfl (.int .i64 k) (.int .i64 a) (.int .i64 n) (.string x) (.int .i64 op) (.slice Al nl cl) (.slice Af nf cf)
      refine bodyPost_ret (v := .agg #[.int .i64 k, .int .i64 a, .int .i64 n, .string x, .int .i64 op, .slice Al nl cl, .slice Af nf cf]) (by simp [results, Tryz.results72, go_sem, d0, d1, d2, d3, d4, d5, d6]) rfl ?_
      exact ⟨_, rfl, XR.keep (F5.get (.head _)) (fun _ _ _ => rfl) (Nat.le_refl _) (fun i hi _ => hi.1), F5.ps, F5.kp⟩
  ·rw [if_pos h0] at q2
   subst q2
   obtain ⟨⟨a0, a1, a2, a3, a4, a5, a6⟩, ⟨f0, f1, f2, f3, f4, f5, f6⟩⟩ := cells7 (FQ.out.blk _ (.tail _ (.head _)))
   obtain ⟨⟨d0, d1, d2, d3, d4, d5, d6⟩, ⟨g0, g1, g2, g3, g4, g5, g6⟩⟩ := cells7 (FQ.out.blk _ (.head _))
   clear EE
   go_wp2
   have F5 := FQ.out.set7 0 rfl (.int .i64 k) (.int .i64 a) (.int .i64 n) (.string x) (.int .i64 op) (.slice Al nl cl) (.slice Af nf cf)
   refine bodyPost_ret (v := .agg #[.int .i64 k, .int .i64 a, .int .i64 n, .string x, .int .i64 op, .slice Al nl cl, .slice Af nf cf]) (by simp [results, Tryz.results72, go_sem, d0, d1, d2, d3, d4, d5, d6]) rfl ?_
   exact ⟨_, rfl, XR.keep (F5.get (.head _)) (fun _ _ _ => rfl) (Nat.le_refl _) (fun i hi _ => hi.1), F5.ps, F5.kp⟩
end Go.Proofs.YtgkejkgailnbmaaGreatDoor
