/- Texts joined: B5 -/
import Derived.Test.YtgkejkgailnbmaaGreatDoorQt14
import Derived.Deep.RegionLaw
set_option linter.unusedVariables false
set_option linter.unusedSimpArgs false
namespace Go.Proofs.YtgkejkgailnbmaaGreatDoor
open Lib (hid)
open Go.ChangeShapes Go.WideShapes Go.ChangeAt Go.RowKit TP
def StC (E : Env) (d : Int) (F : Nat → St → R) : Prop := ∀ (a : Nat) (s : St) (w : World) (b : Nat), s.i < E.ts.length → PS E w s → b ≠ E.p → b ≠ E.g → w.heap[b]? = some (.cells #[.int .i64 0, .int .i64 (E.pl a), .slice none 0 0, .slice none 0 0, .slice none 0 0] 34) →
 Calls Tryz.prog 51 #[.pointer (some ⟨E.p, 0, none⟩), .pointer (some ⟨b, 0, none⟩), .int .i64 d] w fun e w' => e = .returned (.tuple #[]) ∧
  (∃ k ns l bd vn vl vd, (F a s).1 = .st k a ns l bd ∧ w'.heap[b]? = some (.cells #[.int .i64 k, .int .i64 (E.pl a), vn, vl, vd] 34) ∧ NL w' (fun i => w.heap.size ≤ i) vn ns ∧ SL w' (fun i => w.heap.size ≤ i) 0 vl (l.map E.gl) ∧ SL w' (fun i => w.heap.size ≤ i) 3 vd (bd.map E.gl)) ∧
  PS E w' (F a s).2 ∧ Kp w.heap.size (fun i => i ≠ E.p ∧ i ≠ b) w w'
theorem Fr.stat {E : Env} {Q : Nat → Prop} {c : Nat} {w X Y : World} {s s' : St} {L : List (Nat × Obj)} {V : List It} {b : Nat} {o o' : Obj} (h : Fr E Q c w X s ((b, o) :: L) V) (hp : PS E Y s') (hk : Kp X.heap.size (fun i => i ≠ E.p ∧ i ≠ b) X Y) (hb : Y.heap[b]? = some o') : Fr E Q c w Y s' ((b, o') :: L) V := by
 have ho := h.own _ (List.Mem.head _)
 have hne : ∀ p ∈ L, p.1 ≠ b := fun p hp e => by
  have := h.nd
  rw [List.map_cons, List.nodup_cons] at this
  exact this.1 (List.mem_map.2 ⟨p, hp, e⟩)
 refine ⟨hp, h.kp.trans ⟨hk.os, hk.tape, hk.output, hk.size, fun i hi hq => hk.block i (Nat.lt_of_lt_of_le hi h.kp.size) ⟨fun e => hq (e ▸ h.q), fun e => ?_⟩⟩, h.q, h.pc, h.lo, h.lg, fun p hp => ?_, fun p hp => ?_, h.nd, fun it hi => ?_⟩
 ·subst e
  rcases ho.1 with h1 | h1
  ·simp only at h1; omega
  ·exact hq h1
 ·rcases List.mem_cons.1 hp with rfl | hp
  ·exact hb
  ·exact (hk.block p.1 (lt_blk (h.blk p (.tail _ hp))) ⟨(h.own p (.tail _ hp)).2.1, hne p hp⟩).trans (h.blk p (.tail _ hp))
 ·rcases List.mem_cons.1 hp with rfl | hp
  ·exact ho
  ·exact h.own p (.tail _ hp)
 ·refine It.keep (fun i hi hl => hk.block i hl ⟨fun e => by have := hi.1; have := h.pc; omega, fun e => hi.2 _ (List.Mem.head _) e.symm⟩) hk.size (fun i hi _ => ⟨hi.1, fun p hp => ?_⟩) (h.v it hi)
  rcases List.mem_cons.1 hp with rfl | hp
  ·exact hi.2 (b, o) (List.Mem.head _)
  ·exact hi.2 p (.tail _ hp)
theorem Fp.swap {c b i : Nat} {o : Obj} (o' : Obj) {L : List (Nat × Obj)} (h : Fp c ((b, o) :: L) i) : Fp c ((b, o') :: L) i := ⟨h.1, fun p hp => by
 rcases List.mem_cons.1 hp with rfl | hp
 ·exact h.2 (b, o) (List.Mem.head _)
 ·exact h.2 p (.tail _ hp)⟩
theorem und23 : Tryz.prog.underlying 23 = some (.slice 34) := by kernel_rfl
theorem cells5 {X : World} {b : Nat} {a0 a1 a2 a3 a4 : Value} {t : TypeId} (h : X.heap[b]? = some (.cells #[a0, a1, a2, a3, a4] t)) : (X.cell? ⟨b, 0, none⟩ = some a0 ∧ X.cell? ⟨b, 1, none⟩ = some a1 ∧ X.cell? ⟨b, 2, none⟩ = some a2 ∧ X.cell? ⟨b, 3, none⟩ = some a3 ∧ X.cell? ⟨b, 4, none⟩ = some a4) ∧ (X.frozen? ⟨b, 0, none⟩ = false ∧ X.frozen? ⟨b, 1, none⟩ = false ∧ X.frozen? ⟨b, 2, none⟩ = false ∧ X.frozen? ⟨b, 3, none⟩ = false ∧ X.frozen? ⟨b, 4, none⟩ = false) := by
 refine ⟨⟨?_, ?_, ?_, ?_, ?_⟩, ⟨?_, ?_, ?_, ?_, ?_⟩⟩ <;> first | (rw [cell_of_row _ b _ _ t (0, 0) h]; rfl) | simp [World.frozen?, h]
theorem blockLoop_eq (ts : List Tk) (ex bl : St → R) (f : Nat) (out : T) (s : St) : blockLoop ts ex bl (f + 1) out s = if TP.ends ts s then (out, s)
  else if isT ts (B [114, 101, 116, 117, 114, 110]) s then (out.snoc (.st 10 s.i [] (retPart ts ex (adv s)).1 .nil), closeB ts (optS ts (B [59]) (retPart ts ex (adv s)).2))
  else blockLoop ts ex bl f (out.snoc (TP.stat ts ex bl s.i s).1) (optS ts (B [59]) (TP.stat ts ex bl s.i s).2) := rfl
theorem ends_c {ts : List Tk} {s : St} (h : TP.ends ts s = false) : s.c = 0 ∧ (tk ts s).kind ≠ 0 := by
 simp only [TP.ends, Bool.or_eq_false_iff, bne_eq_false_iff_eq, beq_eq_false_iff_ne] at h
 exact ⟨h.1.1.1.1.1, h.1.1.1.1.2⟩
theorem ends_bad {ts : List Tk} {s : St} (h : s.c ≠ 0) : TP.ends ts s = true := by
 simp [TP.ends, h]
def czOf (E : Env) (w : World) : Nat := match w.cell? ⟨E.p, 2, none⟩ with
 | some (.int _ 0) => 1
 | _ => 0
theorem PS.cz {E : Env} {w : World} {s : St} (h : PS E w s) : czOf E w = if s.c = 0 then 1 else 0 := by
 obtain ⟨_, _, _, c2, _⟩ := h.cells
 unfold czOf
 rw [c2]
 split
 ·rename_i h1
  simp only [Option.some.injEq, Value.int.injEq] at h1
  rw [if_pos h1.2]
 ·rename_i h1
  rw [if_neg (fun e => h1 .i64 (by rw [e]))]
def LK (E : Env) (ex bl : St → R) (R0 : R) (w : World) (ov : Value) (wr : World) : Prop :=
 ∃ fa out sa N A cap, (E.ts.length + 1 ≤ fa + sa.i ∨ sa.c ≠ 0) ∧ blockLoop E.ts ex bl fa out sa = R0 ∧ sa.i < E.ts.length ∧ out.isList ∧ out.len = N ∧ (N ≤ sa.i ∨ sa.c ≠ 0) ∧ ov = .slice A N cap ∧
  Fr E (fun i => i = E.p) w.heap.size w wr sa [] [.r 2 34 w.heap.size (out.map E.gl) (.slice A N cap)]
set_option maxRecDepth 100000 in
set_option maxHeartbeats 16000000 in
theorem block_is (E : Env) (hE : E.Ok) (d : Int) (hd : 0 ≤ d ∧ d + 1 ≤ 100) (ex bl : St → R) (hG : TP.Good E.ts ex) (hGb : TP.Good E.ts bl) (hL : ExC E 50 #[.int .i64 (d + 1)] ex) (hS : StC E (d + 1) (fun a s => TP.stat E.ts ex bl a s)) : BlC E 17 #[.int .i64 d] (TP.block E.ts ex bl) := by
 intro s w hi h
 obtain ⟨R0, q⟩ : ∃ R0, TP.block E.ts ex bl s = R0 := ⟨_, rfl⟩
 rw [q]
 unfold TP.block at q
 have HQ := hid q
 have F0 := hid (Fr.start (V := [.r 2 34 w.heap.size .nil (.slice none 0 0)]) h h.lt (Nat.le_refl _) (fun it hi => by rw [List.mem_singleton.1 hi]; exact OF.nil _ _ _ _ _))
 have DP := hid (show Calls Tryz.prog 45 #[.pointer (some ⟨E.p, 0, none⟩), .int .i64 (d + 1)] w _ from deep_is E hE s hi (d + 1) w h)
 rw [if_neg (by omega)] at DP
 have HH := hid (And.intro hE (And.intro hG (And.intro hGb (And.intro hL (And.intro hS hi)))))
 have wr1 : IntKind.i64.wrap (d + 1) = d + 1 := by rw [IntKind.wrap_i64]; omega
 have wr2 : wrap64 (d + 1) = d + 1 := by unfold wrap64; omega
 clear hE hG hGb hL hS h q hi hd
 show Calls _ _ #[.pointer (some ⟨E.p, 0, none⟩), .int .i64 d] _ _
 go_enter Tryz.func17, Tryz.ntmps17
 go_wp2_with (first | (go_at_call 45; (with_reducible refine (DP.out).mono ?_); rintro e x1 ⟨rfl, h1, h2⟩; have F1 := hid (F0.out.call h1 h2); clear h1 h2))
 go_loopw [5] (fun ov wr => Hid (LK E ex bl R0 w ov wr)) (fun _ wr => 2 * (E.ts.length - posOf E wr) + czOf E wr)
 case atStart => exact hid ⟨E.ts.length + 1, .nil, s, 0, none, 0, .inl (by omega), HQ.out, HH.out.2.2.2.2.2, trivial, rfl, .inl (Nat.zero_le _), rfl, F1.out⟩
 case round =>
  clear F0 F1 DP
  obtain ⟨fa, out, sa, N, A, cap, p1, p2, p3, p4, p5, p6, rfl, p7⟩ := hrel.out
  have FA := hid p7
  have PA := p7.ps.pos
  have PC := p7.ps.cz
  have EN := hid (ends_is E HH.out.1 sa p3 wr p7.ps)
  have PP := hid (And.intro p1 (And.intro p3 (And.intro p4 (And.intro p5 p6))))
  clear p7 hrel
  cases he : TP.ends E.ts sa with
  | true =>
   have e0 : blockLoop E.ts ex bl fa out sa = (out, sa) := by
    cases fa with
    | zero => rfl
    | succ f => rw [blockLoop_eq, if_pos he]
   rw [e0] at p2
   subst p2
   rw [he] at EN
   clear p1 p3 p4 p5 p6 he e0
   go_wp2_with (first | (go_at_call 46; (with_reducible refine (EN.out).mono ?_); rintro e x1 ⟨rfl, h1, h2⟩; have F1 := hid (FA.out.below2 h1 h2); clear h1 h2))
   go_ret
   exact ⟨_, rfl, SL.keep (fun _ _ _ => rfl) (Nat.le_refl _) (fun i hi _ => hi.1) _ _ _ (OF.sl (show OF _ _ _ _ (Fp w.heap.size _) _ _ from F1.out.get (.head _))), F1.out.ps, F1.out.kp⟩
  | false =>
   have hc := ends_c he
   obtain ⟨fa', rfl⟩ : ∃ fa', fa = fa' + 1 := ⟨fa - 1, by rcases p1 with p1 | p1 <;> omega⟩
   rw [blockLoop_eq, if_neg (by rw [he]; decide)] at p2
   rw [he] at EN
   have hN := hid (show N ≤ 20000 from by have := HH.out.1.len; rcases p6 with p6 | p6 <;> omega)
   have PL := hid (fun X (hX : PS E X sa) => place_is E sa p3 X hX)
   have HC := hid hc
   clear p1 p4 p5 p6 he hc
   cases b1 : isT E.ts (B [114, 101, 116, 117, 114, 110]) sa with
   | true =>
    rw [if_pos b1] at p2
    have P2 := hid p2
    have O1 := hid (fun X (hX : PS E X sa) => opt_yes E HH.out.1 sa p3 (B [114, 101, 116, 117, 114, 110]) b1 X hX)
    have hA := hid (is_adv HH.out.1.ends p3 b1)
    have EN2 := hid (fun X (hX : PS E X (adv sa)) => ends_is E HH.out.1 _ hA.out.2.1 X hX)
    have IS2 := hid (fun X (hX : PS E X (adv sa)) => is_is E HH.out.1 _ hA.out.2.1 (B [59]) X hX)
    clear b1 p2 p3
    go_wp2_with (first | (go_at_call 46; (with_reducible refine (EN.out).mono ?_); rintro e x1 ⟨rfl, h1, h2⟩; have F1 := hid (FA.out.below2 h1 h2); clear h1 h2) | (go_at_call 47; (with_reducible refine (PL.out _ F1.out.ps).mono ?_); rintro e x2 ⟨rfl, h1, h2⟩; have F2 := hid (F1.out.below2 h1 h2); have F3 := hid (F2.out.new (.cells #[.int .i64 0, .int .i64 (E.pl sa.i), .slice none 0 0, .slice none 0 0, .slice none 0 0] 34)); clear h1 h2) | (go_at_call 48; refine Hid.out ?_))
    refine hid ?_
    refine (O1.out _ F3.out.ps).mono ?_
    rintro e x3 ⟨rfl, h1, h2⟩
    have F4 := hid (F3.out.call h1 h2)
    clear F1 F2 F3 EN PL O1 h1 h2
    generalize x2.heap.size = b6 at F4 ⊢
    obtain ⟨⟨a0, a1, a2, a3, a4⟩, ⟨f0, f1, f2, f3, f4⟩⟩ := cells5 (F4.out.blk _ (.head _))
    go_wp2_with (first | (go_at_call 46; refine Hid.out ?_))
    refine hid ?_
    have F5 := F4.out.set1 0 rfl 0 (.int .i64 10)
    refine (EN2.out _ F5.ps).mono ?_
    rintro e x5 ⟨rfl, h1, h2⟩
    have F6 := hid (show Fr E (fun i => i = E.p) w.heap.size w x5 _ [(b6, .cells #[.int .i64 10, .int .i64 (E.pl sa.i), .slice none 0 0, .slice none 0 0, .slice none 0 0] 34)] _ from F5.below2 h1 h2)
    clear h1 h2 F5 F4 a0 a1 a2 a3 a4 f0 f1 f2 f3 f4
    have RP : retPart E.ts ex (adv sa) = if (!TP.ends E.ts (adv sa) && !isT E.ts (B [59]) (adv sa)) = true then (T.of [(ex (adv sa)).1], (ex (adv sa)).2) else (.nil, adv sa) := rfl
    cases e2 : TP.ends E.ts (adv sa) with
    | true =>
     have RP2 : retPart E.ts ex (adv sa) = (.nil, adv sa) := by rw [RP, if_neg (by rw [e2]; simp)]
     have P3 := P2.out
     rw [RP2] at P3
     have P2 := hid P3
     have hu := hA
     clear P3 RP RP2 e2 EN2 IS2
     have OS := hid (fun X (hX : PS E X (adv sa)) => opt_is E HH.out.1 _ hu.out.2.1 (B [59]) X hX)
     have GO := hid ((Go.refl hu.out.2.1).opt HH.out.1.ends (B [59]))
     have EC2 := hid (fun X (hX : PS E X (optS E.ts (B [59]) (adv sa))) => ends_is E HH.out.1 _ GO.out.2.1 X hX)
     have FA2 := hid (fun X (hX : PS E X (optS E.ts (B [59]) (adv sa))) => fail_is E HH.out.1 _ GO.out.2.1 14 X hX)
     go_wp2_with (first | (go_at_call 48; refine Hid.out ?_))
     refine hid ?_
     refine (OS.out _ F6.out.ps).mono ?_
     rintro e z1 ⟨rfl, h1, h2⟩
     have J1 := hid (F6.out.call h1 h2)
     clear h1 h2
     have RW : TP.closeB E.ts (optS E.ts (B [59]) (adv sa)) = if TP.ends E.ts (optS E.ts (B [59]) (adv sa)) then optS E.ts (B [59]) (adv sa) else TP.fail 14 (optS E.ts (B [59]) (adv sa)) := rfl
     have P3 := P2.out
     rw [RW] at P3
     cases e3 : TP.ends E.ts (optS E.ts (B [59]) (adv sa)) with
     | true =>
      rw [if_pos e3] at P3
      rw [e3] at EC2
      subst P3
      clear RW P2 e3
      go_wp2_with (first | (go_at_call 46; refine Hid.out ?_))
      refine hid ?_
      refine (EC2.out _ J1.out.ps).mono ?_
      rintro e z2 ⟨rfl, h1, h2⟩
      have J2 := hid (J1.out.below2 h1 h2)
      clear h1 h2 J1
      obtain ⟨⟨a0, a1, a2, a3, a4⟩, _⟩ := cells5 (J2.out.blk _ (.head _))
      have G3 := hid (J2.out.newF (.cells #[.int .i64 10, .int .i64 (E.pl sa.i), .slice none 0 0, .slice none 0 0, .slice none 0 0] 34))
      have nB := hid (heap_alloc_new z2 (.cells #[.int .i64 10, .int .i64 (E.pl sa.i), .slice none 0 0, .slice none 0 0, .slice none 0 0] 34))
      have HY := hid (EC.allocd (show EC z2 (fun i => Fp w.heap.size [(b6, .cells #[.int .i64 10, .int .i64 (E.pl sa.i), .slice none 0 0, .slice none 0 0, .slice none 0 0] 34)] i ∧ (Value.slice A N cap).ownBlock ≠ some i) (.cons (.st 10 (E.pl sa.i) [] .nil .nil) .nil) 2 [.int .i64 10, .int .i64 (E.pl sa.i), .slice none 0 0, .slice none 0 0, .slice none 0 0] from EC_st.2 ⟨_, _, _, [], rfl, .inl ⟨rfl, rfl⟩, .nil, .nil, EC_nil.2 rfl⟩) (.cells #[.int .i64 10, .int .i64 (E.pl sa.i), .slice none 0 0, .slice none 0 0, .slice none 0 0] 34))
      go_wp2_with (first | (at_builtin; refine append_OF _ rfl _ _ 2 34 23 88 _ rfl und23 i34n rfl (by decide) (by decide) w.heap.size _ (.slice A N cap) (out.map E.gl) N (by rw [T.len_map]; exact PP.out.2.2.2.1) rfl (G3.out.get (.head _)) _ _ _ rfl nB.out HY.out (Nat.le_trans hN.out (by decide)) G3.out.kp.size G3.out.fresh ?_; intro g' cap' y3 h1 h2 h3; have G4 := hid (G3.out.appended (G3.out.get (.head _)) (Nat.le_refl _) h2 h1); clear h1 h2 h3 HY nB G3 a0 a1 a2 a3 a4))
      go_ret
      exact ⟨_, rfl, by
       rw [map_snoc E.gl _ PP.out.2.2.1, show (T.st 10 (sa.i : Int) [] _ .nil).map E.gl = .st 10 (E.pl sa.i) [] .nil .nil from by rw [← E.gl_nat]; rfl]
       exact SL.keep (fun _ _ _ => rfl) (Nat.le_refl _) (fun i hi _ => hi.1) _ _ _ (OF.sl (show OF _ _ _ _ (Fp w.heap.size _) _ _ from G4.out.get (.head _))), G4.out.ps, G4.out.kp⟩
     | false =>
      rw [if_neg (by rw [e3]; decide)] at P3
      rw [e3] at EC2
      subst P3
      clear RW P2 e3
      go_wp2_with (first | (go_at_call 46; (with_reducible refine (EC2.out _ J1.out.ps).mono ?_); rintro e z2 ⟨rfl, h1, h2⟩; have J1a := hid (J1.out.below2 h1 h2); clear h1 h2) | (go_at_call 18; refine Hid.out ?_))
      refine hid ?_
      refine (FA2.out _ J1a.out.ps).mono ?_
      rintro e z3 ⟨rfl, h1, h2⟩
      have J3 := hid (J1a.out.call h1 h2)
      clear h1 h2 J1 J1a
      obtain ⟨⟨a0, a1, a2, a3, a4⟩, _⟩ := cells5 (J3.out.blk _ (.head _))
      have G3 := hid (J3.out.newF (.cells #[.int .i64 10, .int .i64 (E.pl sa.i), .slice none 0 0, .slice none 0 0, .slice none 0 0] 34))
      have nB := hid (heap_alloc_new z3 (.cells #[.int .i64 10, .int .i64 (E.pl sa.i), .slice none 0 0, .slice none 0 0, .slice none 0 0] 34))
      have HY := hid (EC.allocd (show EC z3 (fun i => Fp w.heap.size [(b6, .cells #[.int .i64 10, .int .i64 (E.pl sa.i), .slice none 0 0, .slice none 0 0, .slice none 0 0] 34)] i ∧ (Value.slice A N cap).ownBlock ≠ some i) (.cons (.st 10 (E.pl sa.i) [] .nil .nil) .nil) 2 [.int .i64 10, .int .i64 (E.pl sa.i), .slice none 0 0, .slice none 0 0, .slice none 0 0] from EC_st.2 ⟨_, _, _, [], rfl, .inl ⟨rfl, rfl⟩, .nil, .nil, EC_nil.2 rfl⟩) (.cells #[.int .i64 10, .int .i64 (E.pl sa.i), .slice none 0 0, .slice none 0 0, .slice none 0 0] 34))
      go_wp2_with (first | (at_builtin; refine append_OF _ rfl _ _ 2 34 23 88 _ rfl und23 i34n rfl (by decide) (by decide) w.heap.size _ (.slice A N cap) (out.map E.gl) N (by rw [T.len_map]; exact PP.out.2.2.2.1) rfl (G3.out.get (.head _)) _ _ _ rfl nB.out HY.out (Nat.le_trans hN.out (by decide)) G3.out.kp.size G3.out.fresh ?_; intro g' cap' y3 h1 h2 h3; have G4 := hid (G3.out.appended (G3.out.get (.head _)) (Nat.le_refl _) h2 h1); clear h1 h2 h3 HY nB G3 a0 a1 a2 a3 a4))
      go_ret
      exact ⟨_, rfl, by
       rw [map_snoc E.gl _ PP.out.2.2.1, show (T.st 10 (sa.i : Int) [] _ .nil).map E.gl = .st 10 (E.pl sa.i) [] .nil .nil from by rw [← E.gl_nat]; rfl]
       exact SL.keep (fun _ _ _ => rfl) (Nat.le_refl _) (fun i hi _ => hi.1) _ _ _ (OF.sl (show OF _ _ _ _ (Fp w.heap.size _) _ _ from G4.out.get (.head _))), G4.out.ps, G4.out.kp⟩
    | false =>
     cases b2 : isT E.ts (B [59]) (adv sa) with
     | true =>
      have RP2 : retPart E.ts ex (adv sa) = (.nil, adv sa) := by rw [RP, if_neg (by rw [b2]; simp)]
      have P3 := P2.out
      rw [RP2] at P3
      have P2 := hid P3
      have hu := hA
      rw [b2] at IS2
      clear P3 RP RP2 e2 b2 EN2
      go_wp2_with (first | (go_at_call 49; refine Hid.out ?_))
      refine hid ?_
      refine (IS2.out _ F6.out.ps).mono ?_
      rintro e x6 ⟨rfl, h1⟩
      have F7 := hid (F6.out.below h1)
      clear h1 F6 IS2
      have OS := hid (fun X (hX : PS E X (adv sa)) => opt_is E HH.out.1 _ hu.out.2.1 (B [59]) X hX)
      have GO := hid ((Go.refl hu.out.2.1).opt HH.out.1.ends (B [59]))
      have EC2 := hid (fun X (hX : PS E X (optS E.ts (B [59]) (adv sa))) => ends_is E HH.out.1 _ GO.out.2.1 X hX)
      have FA2 := hid (fun X (hX : PS E X (optS E.ts (B [59]) (adv sa))) => fail_is E HH.out.1 _ GO.out.2.1 14 X hX)
      go_wp2_with (first | (go_at_call 48; refine Hid.out ?_))
      refine hid ?_
      refine (OS.out _ F7.out.ps).mono ?_
      rintro e z1 ⟨rfl, h1, h2⟩
      have J1 := hid (F7.out.call h1 h2)
      clear h1 h2
      have RW : TP.closeB E.ts (optS E.ts (B [59]) (adv sa)) = if TP.ends E.ts (optS E.ts (B [59]) (adv sa)) then optS E.ts (B [59]) (adv sa) else TP.fail 14 (optS E.ts (B [59]) (adv sa)) := rfl
      have P3 := P2.out
      rw [RW] at P3
      cases e3 : TP.ends E.ts (optS E.ts (B [59]) (adv sa)) with
      | true =>
       rw [if_pos e3] at P3
       rw [e3] at EC2
       subst P3
       clear RW P2 e3
       go_wp2_with (first | (go_at_call 46; refine Hid.out ?_))
       refine hid ?_
       refine (EC2.out _ J1.out.ps).mono ?_
       rintro e z2 ⟨rfl, h1, h2⟩
       have J2 := hid (J1.out.below2 h1 h2)
       clear h1 h2 J1
       obtain ⟨⟨a0, a1, a2, a3, a4⟩, _⟩ := cells5 (J2.out.blk _ (.head _))
       have G3 := hid (J2.out.newF (.cells #[.int .i64 10, .int .i64 (E.pl sa.i), .slice none 0 0, .slice none 0 0, .slice none 0 0] 34))
       have nB := hid (heap_alloc_new z2 (.cells #[.int .i64 10, .int .i64 (E.pl sa.i), .slice none 0 0, .slice none 0 0, .slice none 0 0] 34))
       have HY := hid (EC.allocd (show EC z2 (fun i => Fp w.heap.size [(b6, .cells #[.int .i64 10, .int .i64 (E.pl sa.i), .slice none 0 0, .slice none 0 0, .slice none 0 0] 34)] i ∧ (Value.slice A N cap).ownBlock ≠ some i) (.cons (.st 10 (E.pl sa.i) [] .nil .nil) .nil) 2 [.int .i64 10, .int .i64 (E.pl sa.i), .slice none 0 0, .slice none 0 0, .slice none 0 0] from EC_st.2 ⟨_, _, _, [], rfl, .inl ⟨rfl, rfl⟩, .nil, .nil, EC_nil.2 rfl⟩) (.cells #[.int .i64 10, .int .i64 (E.pl sa.i), .slice none 0 0, .slice none 0 0, .slice none 0 0] 34))
       go_wp2_with (first | (at_builtin; refine append_OF _ rfl _ _ 2 34 23 88 _ rfl und23 i34n rfl (by decide) (by decide) w.heap.size _ (.slice A N cap) (out.map E.gl) N (by rw [T.len_map]; exact PP.out.2.2.2.1) rfl (G3.out.get (.head _)) _ _ _ rfl nB.out HY.out (Nat.le_trans hN.out (by decide)) G3.out.kp.size G3.out.fresh ?_; intro g' cap' y3 h1 h2 h3; have G4 := hid (G3.out.appended (G3.out.get (.head _)) (Nat.le_refl _) h2 h1); clear h1 h2 h3 HY nB G3 a0 a1 a2 a3 a4))
       go_ret
       exact ⟨_, rfl, by
        rw [map_snoc E.gl _ PP.out.2.2.1, show (T.st 10 (sa.i : Int) [] _ .nil).map E.gl = .st 10 (E.pl sa.i) [] .nil .nil from by rw [← E.gl_nat]; rfl]
        exact SL.keep (fun _ _ _ => rfl) (Nat.le_refl _) (fun i hi _ => hi.1) _ _ _ (OF.sl (show OF _ _ _ _ (Fp w.heap.size _) _ _ from G4.out.get (.head _))), G4.out.ps, G4.out.kp⟩
      | false =>
       rw [if_neg (by rw [e3]; decide)] at P3
       rw [e3] at EC2
       subst P3
       clear RW P2 e3
       go_wp2_with (first | (go_at_call 46; (with_reducible refine (EC2.out _ J1.out.ps).mono ?_); rintro e z2 ⟨rfl, h1, h2⟩; have J1a := hid (J1.out.below2 h1 h2); clear h1 h2) | (go_at_call 18; refine Hid.out ?_))
       refine hid ?_
       refine (FA2.out _ J1a.out.ps).mono ?_
       rintro e z3 ⟨rfl, h1, h2⟩
       have J3 := hid (J1a.out.call h1 h2)
       clear h1 h2 J1 J1a
       obtain ⟨⟨a0, a1, a2, a3, a4⟩, _⟩ := cells5 (J3.out.blk _ (.head _))
       have G3 := hid (J3.out.newF (.cells #[.int .i64 10, .int .i64 (E.pl sa.i), .slice none 0 0, .slice none 0 0, .slice none 0 0] 34))
       have nB := hid (heap_alloc_new z3 (.cells #[.int .i64 10, .int .i64 (E.pl sa.i), .slice none 0 0, .slice none 0 0, .slice none 0 0] 34))
       have HY := hid (EC.allocd (show EC z3 (fun i => Fp w.heap.size [(b6, .cells #[.int .i64 10, .int .i64 (E.pl sa.i), .slice none 0 0, .slice none 0 0, .slice none 0 0] 34)] i ∧ (Value.slice A N cap).ownBlock ≠ some i) (.cons (.st 10 (E.pl sa.i) [] .nil .nil) .nil) 2 [.int .i64 10, .int .i64 (E.pl sa.i), .slice none 0 0, .slice none 0 0, .slice none 0 0] from EC_st.2 ⟨_, _, _, [], rfl, .inl ⟨rfl, rfl⟩, .nil, .nil, EC_nil.2 rfl⟩) (.cells #[.int .i64 10, .int .i64 (E.pl sa.i), .slice none 0 0, .slice none 0 0, .slice none 0 0] 34))
       go_wp2_with (first | (at_builtin; refine append_OF _ rfl _ _ 2 34 23 88 _ rfl und23 i34n rfl (by decide) (by decide) w.heap.size _ (.slice A N cap) (out.map E.gl) N (by rw [T.len_map]; exact PP.out.2.2.2.1) rfl (G3.out.get (.head _)) _ _ _ rfl nB.out HY.out (Nat.le_trans hN.out (by decide)) G3.out.kp.size G3.out.fresh ?_; intro g' cap' y3 h1 h2 h3; have G4 := hid (G3.out.appended (G3.out.get (.head _)) (Nat.le_refl _) h2 h1); clear h1 h2 h3 HY nB G3 a0 a1 a2 a3 a4))
       go_ret
       exact ⟨_, rfl, by
        rw [map_snoc E.gl _ PP.out.2.2.1, show (T.st 10 (sa.i : Int) [] _ .nil).map E.gl = .st 10 (E.pl sa.i) [] .nil .nil from by rw [← E.gl_nat]; rfl]
        exact SL.keep (fun _ _ _ => rfl) (Nat.le_refl _) (fun i hi _ => hi.1) _ _ _ (OF.sl (show OF _ _ _ _ (Fp w.heap.size _) _ _ from G4.out.get (.head _))), G4.out.ps, G4.out.kp⟩
     | false =>
      have RP2 : retPart E.ts ex (adv sa) = (T.of [(ex (adv sa)).1], (ex (adv sa)).2) := by rw [RP, if_pos (by rw [e2, b2]; rfl)]
      have P3 := P2.out
      rw [RP2] at P3
      have P2 := hid P3
      have GX := hid (HH.out.2.1 (adv sa) hA.out.2.1)
      have hu := hid (hA.out.trans GX.out)
      rw [b2] at IS2
      clear P3 RP RP2 e2 b2 EN2
      go_wp2_with (first | (go_at_call 49; (with_reducible refine (IS2.out _ F6.out.ps).mono ?_); rintro e x6 ⟨rfl, h1⟩; have F7 := hid (F6.out.below h1); clear h1) | (go_at_call 50; refine Hid.out ?_))
      refine hid ?_
      refine (HH.out.2.2.2.1 (adv sa) _ hA.out.2.1 F7.out.ps).mono ?_
      rintro e x7 ⟨v, rfl, hx, h1, h2⟩
      obtain ⟨k', a', n', x', op', Cl, rl, el, Cf, rf, ef, rfl⟩ := hx.form
      have F8 := F7.out.call h1 h2
      have own := F7.out.rowlt (.head _)
      have F9 := F8.set1 0 rfl 3 (.slice (some ⟨x7.heap.size, 0, none⟩) 1 1)
      obtain ⟨⟨a0, a1, a2, a3, a4⟩, ⟨f0, f1, f2, f3, f4⟩⟩ := cells5 (F8.blk _ (.head _))
      have l6 := F8.lt (.head _)
      have m6 := Nat.ne_of_lt l6
      have F10 := hid (show Fr E (fun i => i = E.p) w.heap.size w _ _ [(b6, .cells #[.int .i64 10, .int .i64 (E.pl sa.i), .slice none 0 0, .slice (some ⟨x7.heap.size, 0, none⟩) 1 1, .slice none 0 0] 34)] _ from F9.litW (e := 38) (b := x7.heap.size) (own := (Value.slice A N cap).ownBlock) (fun g hg => by have := own g hg; have := h2.size; rw [World.size_setCell]; omega) (by rw [World.size_setCell]) (t := .cons ((ex (adv sa)).1.map E.gl) .nil) (n := 1) (by intro e; cases e) rfl (by decide) (EC.keep (F := fun i => x6.heap.size ≤ i) (fun i hi _ => Below.heap_setCell _ ⟨b6, 3, none⟩ _ _ (fun e => by have h7 := F7.out.lt (.head _); have e' : i = b6 := e; have hi' : x6.heap.size ≤ i := hi; omega)) (by rw [World.size_setCell]; exact Nat.le_refl _) (fun i hi _ => ⟨(F7.out.fp hi).swap _, fun e => by have := own i e; omega⟩) _ _ _ hx.ec1))
      clear h1 h2 hx own F8 F7 F6 IS2
      have OS := hid (fun X (hX : PS E X (ex (adv sa)).2) => opt_is E HH.out.1 _ hu.out.2.1 (B [59]) X hX)
      have GO := hid ((Go.refl hu.out.2.1).opt HH.out.1.ends (B [59]))
      have EC2 := hid (fun X (hX : PS E X (optS E.ts (B [59]) (ex (adv sa)).2)) => ends_is E HH.out.1 _ GO.out.2.1 X hX)
      have FA2 := hid (fun X (hX : PS E X (optS E.ts (B [59]) (ex (adv sa)).2)) => fail_is E HH.out.1 _ GO.out.2.1 14 X hX)
      go_wp2_with (first | (go_at_call 48; refine Hid.out ?_))
      refine hid ?_
      refine (OS.out _ F10.out.ps).mono ?_
      rintro e z1 ⟨rfl, h1, h2⟩
      have J1 := hid (F10.out.call h1 h2)
      clear h1 h2
      have RW : TP.closeB E.ts (optS E.ts (B [59]) (ex (adv sa)).2) = if TP.ends E.ts (optS E.ts (B [59]) (ex (adv sa)).2) then optS E.ts (B [59]) (ex (adv sa)).2 else TP.fail 14 (optS E.ts (B [59]) (ex (adv sa)).2) := rfl
      have P3 := P2.out
      rw [RW] at P3
      cases e3 : TP.ends E.ts (optS E.ts (B [59]) (ex (adv sa)).2) with
      | true =>
       rw [if_pos e3] at P3
       rw [e3] at EC2
       subst P3
       clear RW P2 e3
       go_wp2_with (first | (go_at_call 46; refine Hid.out ?_))
       refine hid ?_
       refine (EC2.out _ J1.out.ps).mono ?_
       rintro e z2 ⟨rfl, h1, h2⟩
       have J2 := hid (J1.out.below2 h1 h2)
       clear h1 h2 J1
       obtain ⟨⟨a0, a1, a2, a3, a4⟩, _⟩ := cells5 (J2.out.blk _ (.head _))
       have G3 := hid (J2.out.newF (.cells #[.int .i64 10, .int .i64 (E.pl sa.i), .slice none 0 0, .slice (some ⟨x7.heap.size, 0, none⟩) 1 1, .slice none 0 0] 34))
       have nB := hid (heap_alloc_new z2 (.cells #[.int .i64 10, .int .i64 (E.pl sa.i), .slice none 0 0, .slice (some ⟨x7.heap.size, 0, none⟩) 1 1, .slice none 0 0] 34))
       have HY := hid (EC.allocd (show EC z2 (fun i => Fp w.heap.size [(b6, .cells #[.int .i64 10, .int .i64 (E.pl sa.i), .slice none 0 0, .slice (some ⟨x7.heap.size, 0, none⟩) 1 1, .slice none 0 0] 34)] i ∧ (Value.slice A N cap).ownBlock ≠ some i) (.cons (.st 10 (E.pl sa.i) [] (.cons ((ex (adv sa)).1.map E.gl) .nil) .nil) .nil) 2 [.int .i64 10, .int .i64 (E.pl sa.i), .slice none 0 0, .slice (some ⟨x7.heap.size, 0, none⟩) 1 1, .slice none 0 0] from EC_st.2 ⟨_, _, _, [], rfl, .inl ⟨rfl, rfl⟩, J2.out.get (.head _), .nil, EC_nil.2 rfl⟩) (.cells #[.int .i64 10, .int .i64 (E.pl sa.i), .slice none 0 0, .slice (some ⟨x7.heap.size, 0, none⟩) 1 1, .slice none 0 0] 34))
       go_wp2_with (first | (at_builtin; refine append_OF _ rfl _ _ 2 34 23 88 _ rfl und23 i34n rfl (by decide) (by decide) w.heap.size _ (.slice A N cap) (out.map E.gl) N (by rw [T.len_map]; exact PP.out.2.2.2.1) rfl (G3.out.get (.tail _ (.head _))) _ _ _ rfl nB.out HY.out (Nat.le_trans hN.out (by decide)) G3.out.kp.size G3.out.fresh ?_; intro g' cap' y3 h1 h2 h3; have G4 := hid (G3.out.appended (G3.out.get (.tail _ (.head _))) (Nat.le_refl _) h2 h1); clear h1 h2 h3 HY nB G3 a0 a1 a2 a3 a4))
       go_ret
       exact ⟨_, rfl, by
        rw [map_snoc E.gl _ PP.out.2.2.1, show (T.st 10 (sa.i : Int) [] _ .nil).map E.gl = .st 10 (E.pl sa.i) [] (.cons ((ex (adv sa)).1.map E.gl) .nil) .nil from by rw [← E.gl_nat]; rfl]
        exact SL.keep (fun _ _ _ => rfl) (Nat.le_refl _) (fun i hi _ => hi.1) _ _ _ (OF.sl (show OF _ _ _ _ (Fp w.heap.size _) _ _ from G4.out.get (.head _))), G4.out.ps, G4.out.kp⟩
      | false =>
       rw [if_neg (by rw [e3]; decide)] at P3
       rw [e3] at EC2
       subst P3
       clear RW P2 e3
       go_wp2_with (first | (go_at_call 46; (with_reducible refine (EC2.out _ J1.out.ps).mono ?_); rintro e z2 ⟨rfl, h1, h2⟩; have J1a := hid (J1.out.below2 h1 h2); clear h1 h2) | (go_at_call 18; refine Hid.out ?_))
       refine hid ?_
       refine (FA2.out _ J1a.out.ps).mono ?_
       rintro e z3 ⟨rfl, h1, h2⟩
       have J3 := hid (J1a.out.call h1 h2)
       clear h1 h2 J1 J1a
       obtain ⟨⟨a0, a1, a2, a3, a4⟩, _⟩ := cells5 (J3.out.blk _ (.head _))
       have G3 := hid (J3.out.newF (.cells #[.int .i64 10, .int .i64 (E.pl sa.i), .slice none 0 0, .slice (some ⟨x7.heap.size, 0, none⟩) 1 1, .slice none 0 0] 34))
       have nB := hid (heap_alloc_new z3 (.cells #[.int .i64 10, .int .i64 (E.pl sa.i), .slice none 0 0, .slice (some ⟨x7.heap.size, 0, none⟩) 1 1, .slice none 0 0] 34))
       have HY := hid (EC.allocd (show EC z3 (fun i => Fp w.heap.size [(b6, .cells #[.int .i64 10, .int .i64 (E.pl sa.i), .slice none 0 0, .slice (some ⟨x7.heap.size, 0, none⟩) 1 1, .slice none 0 0] 34)] i ∧ (Value.slice A N cap).ownBlock ≠ some i) (.cons (.st 10 (E.pl sa.i) [] (.cons ((ex (adv sa)).1.map E.gl) .nil) .nil) .nil) 2 [.int .i64 10, .int .i64 (E.pl sa.i), .slice none 0 0, .slice (some ⟨x7.heap.size, 0, none⟩) 1 1, .slice none 0 0] from EC_st.2 ⟨_, _, _, [], rfl, .inl ⟨rfl, rfl⟩, J3.out.get (.head _), .nil, EC_nil.2 rfl⟩) (.cells #[.int .i64 10, .int .i64 (E.pl sa.i), .slice none 0 0, .slice (some ⟨x7.heap.size, 0, none⟩) 1 1, .slice none 0 0] 34))
       go_wp2_with (first | (at_builtin; refine append_OF _ rfl _ _ 2 34 23 88 _ rfl und23 i34n rfl (by decide) (by decide) w.heap.size _ (.slice A N cap) (out.map E.gl) N (by rw [T.len_map]; exact PP.out.2.2.2.1) rfl (G3.out.get (.tail _ (.head _))) _ _ _ rfl nB.out HY.out (Nat.le_trans hN.out (by decide)) G3.out.kp.size G3.out.fresh ?_; intro g' cap' y3 h1 h2 h3; have G4 := hid (G3.out.appended (G3.out.get (.tail _ (.head _))) (Nat.le_refl _) h2 h1); clear h1 h2 h3 HY nB G3 a0 a1 a2 a3 a4))
       go_ret
       exact ⟨_, rfl, by
        rw [map_snoc E.gl _ PP.out.2.2.1, show (T.st 10 (sa.i : Int) [] _ .nil).map E.gl = .st 10 (E.pl sa.i) [] (.cons ((ex (adv sa)).1.map E.gl) .nil) .nil from by rw [← E.gl_nat]; rfl]
        exact SL.keep (fun _ _ _ => rfl) (Nat.le_refl _) (fun i hi _ => hi.1) _ _ _ (OF.sl (show OF _ _ _ _ (Fp w.heap.size _) _ _ from G4.out.get (.head _))), G4.out.ps, G4.out.kp⟩
   | false =>
    rw [if_neg (by rw [b1]; decide)] at p2
    have P2 := hid p2
    have O1 := hid (fun X (hX : PS E X sa) => opt_no E HH.out.1 sa p3 (B [114, 101, 116, 117, 114, 110]) b1 X hX)
    have SC := hid (fun X b (hX : PS E X sa) => HH.out.2.2.2.2.1 sa.i sa X b p3 hX)
    have GS := hid (stat_go HH.out.1.ends HH.out.2.1 HH.out.2.2.1 sa.i (Go.refl p3))
    have SO := hid (stat_on HH.out.1.ends HH.out.2.1 HH.out.2.2.1 sa.i p3)
    clear b1 p2 p3
    go_wp2_with (first | (go_at_call 46; (with_reducible refine (EN.out).mono ?_); rintro e x1 ⟨rfl, h1, h2⟩; have F1 := hid (FA.out.below2 h1 h2); clear h1 h2) | (go_at_call 47; (with_reducible refine (PL.out _ F1.out.ps).mono ?_); rintro e x2 ⟨rfl, h1, h2⟩; have F2 := hid (F1.out.below2 h1 h2); have F3 := hid (F2.out.new (.cells #[.int .i64 0, .int .i64 (E.pl sa.i), .slice none 0 0, .slice none 0 0, .slice none 0 0] 34)); clear h1 h2) | (go_at_call 48; (with_reducible refine (O1.out _ F3.out.ps).mono ?_); rintro e x3 ⟨rfl, h1, h2⟩; have F4 := hid (F3.out.call h1 h2); clear h1 h2) | (go_at_call 51; refine Hid.out ?_))
    refine hid ?_
    clear F1 F2 F3 EN PL O1
    generalize x2.heap.size = b6 at F4 ⊢
    refine (SC.out _ b6 F4.out.ps (F4.out.own _ (.head _)).2.1 (F4.out.own _ (.head _)).2.2 (F4.out.blk _ (.head _))).mono ?_
    rintro e x4 ⟨rfl, ⟨k, ns, l, bd, vn, vl, vd, hst, hb, hn, hl, hbd⟩, h1, h2⟩
    have F5 := hid (F4.out.stat h1 h2 hb)
    have on := hn.one
    have ol := hl.one
    have od := hbd.one
    obtain ⟨An, nn, cn, rfl⟩ := hn.form
    obtain ⟨Al, nl, cl, rfl⟩ := hl.form
    obtain ⟨Ad, nd, cd, rfl⟩ := hbd.form
    have HY := hid (EC.keep (F' := fun i => Fp w.heap.size [(b6, .cells #[.int .i64 k, .int .i64 (E.pl sa.i), .slice An nn cn, .slice Al nl cl, .slice Ad nd cd] 34)] i ∧ (Value.slice A N cap).ownBlock ≠ some i) (fun _ _ _ => rfl) (Nat.le_refl _) (fun i hi _ => ⟨hi.1.swap _, hi.2⟩) _ _ _ ((F4.out.apart (v := .slice A N cap) (y := .cons (.st k (E.pl sa.i) ns (l.map E.gl) (bd.map E.gl)) .nil) (F4.out.rowlt (.head _)) (EC_st.2 ⟨_, _, _, [], rfl, hn, hl, hbd, EC_nil.2 rfl⟩)).allocd (.cells #[.int .i64 k, .int .i64 (E.pl sa.i), .slice An nn cn, .slice Al nl cl, .slice Ad nd cd] 34)))
    have HST := hid hst
    clear h1 h2 hn hl hbd hst on ol od SC
    obtain ⟨⟨a0, a1, a2, a3, a4⟩, _⟩ := cells5 hb
    clear hb
    have G3 := hid (F5.out.newF (.cells #[.int .i64 k, .int .i64 (E.pl sa.i), .slice An nn cn, .slice Al nl cl, .slice Ad nd cd] 34))
    have nB := hid (heap_alloc_new x4 (.cells #[.int .i64 k, .int .i64 (E.pl sa.i), .slice An nn cn, .slice Al nl cl, .slice Ad nd cd] 34))
    clear F4 F5
    go_wp2_with (first | (at_builtin; refine append_OF (x4.alloc (.cells #[.int .i64 k, .int .i64 (E.pl sa.i), .slice An nn cn, .slice Al nl cl, .slice Ad nd cd] 34)) rfl _ _ 2 34 23 88 _ rfl und23 i34n rfl (by decide) (by decide) w.heap.size _ (.slice A N cap) (out.map E.gl) N (by rw [T.len_map]; exact PP.out.2.2.2.1) rfl (G3.out.get (.head _)) _ _ x4.heap.size rfl nB.out HY.out (Nat.le_trans hN.out (by decide)) G3.out.kp.size G3.out.fresh ?_; intro g' cap' y3 h1 h2 h3; have G4 := hid (G3.out.appended (G3.out.get (.head _)) (Nat.le_refl _) h2 h1); clear h1 h2 h3 HY nB G3 a0 a1 a2 a3 a4; refine Hid.out ?_))
    refine hid ?_
    have GM := hid (show (out.map E.gl).snoc (.st k (E.pl sa.i) ns (l.map E.gl) (bd.map E.gl)) = (out.snoc (TP.stat E.ts ex bl sa.i sa).1).map E.gl from by rw [map_snoc E.gl _ PP.out.2.2.1]; congr 1; rw [show (TP.stat E.ts ex bl sa.i sa).1 = _ from HST.out, ← E.gl_nat]; rfl)
    have OS := hid (fun X (hX : PS E X (TP.stat E.ts ex bl sa.i sa).2) => opt_is E HH.out.1 _ GS.out.2.1 (B [59]) X hX)
    have GO := hid ((Go.refl GS.out.2.1).opt HH.out.1.ends (B [59]))
    go_wp2_with (first | (go_at_call 48; (with_reducible refine (OS.out _ G4.out.ps).mono ?_); rintro e y4 ⟨rfl, h1, h2⟩; have G5 := hid (G4.out.call h1 h2); clear h1 h2))
    have H6 := G5.out.drop [] [_] (.cons _ (.refl _)) (fun it hi => by rw [List.mem_singleton.1 hi]; exact .head _)
    have on1 : sa.i + 1 ≤ (optS E.ts (B [59]) (TP.stat E.ts ex bl sa.i sa).2).i ∨ (optS E.ts (B [59]) (TP.stat E.ts ex bl sa.i sa).2).c ≠ 0 := by
     rcases SO.out with h | h
     ·exact .inl (Nat.le_trans h GO.out.1)
     ·exact .inr (GO.out.2.2 h)
    exact ⟨hid ⟨fa', _, _, N + 1, some ⟨g', 0, none⟩, cap', on1.elim (fun h => .inl (by have := PP.out.1.resolve_right (fun h1 => h1 HC.out.1); omega)) .inr, P2.out, GO.out.2.1, isList_snoc _ PP.out.2.2.1, by rw [len_snoc _ PP.out.2.2.1, PP.out.2.2.2.1], on1.elim (fun h => .inl (by have := PP.out.2.2.2.2.resolve_right (fun h1 => h1 HC.out.1); omega)) .inr, rfl, by rw [← GM.out]; exact H6⟩, by
     rw [PA, PC, H6.ps.pos, H6.ps.cz, if_pos HC.out.1]
     have := GS.out.1
     have := GO.out.1
     have := GO.out.2.1
     have := PP.out.2.1
     rcases on1 with h | h
     ·split <;> omega
     ·rw [if_neg h]; omega⟩
end Go.Proofs.YtgkejkgailnbmaaGreatDoor
