/- Texts joined: B6 -/
import Derived.Test.YtgkejkgailnbmaaGreatDoorQt18
import Derived.Test.YtgkejkgailnbmaaGreatDoorQt15
import Derived.Test.YtgkejkgailnbmaaGreatDoorQt19
set_option linter.unusedVariables false
set_option linter.unusedSimpArgs false
namespace Go.Proofs.YtgkejkgailnbmaaGreatDoor
open Lib (hid)
open Go.ChangeShapes Go.WideShapes Go.ChangeAt Go.RowKit TP
section
variable (ts : List Tk) (ex bl : St → R)
def stLocal (a : Nat) (s : St) : R :=
 if isT ts (B [102, 117, 110, 99, 116, 105, 111, 110]) s then (.st 12 a [(TP.name ts (adv s)).1] (T.of [.ex 7 (TP.name ts (adv s)).2.i 0 ⟨#[]⟩ 0 .nil (T.of [(TP.body ts bl (TP.name ts (adv s)).2).1])]) .nil, (TP.body ts bl (TP.name ts (adv s)).2).2)
 else if isT ts (B [61]) (TP.name ts s).2 then (.st 1 a [(TP.name ts s).1] (T.of [(ex (adv (TP.name ts s).2)).1]) .nil, (ex (adv (TP.name ts s).2)).2)
 else (.st 1 a [(TP.name ts s).1] .nil .nil, (TP.name ts s).2)
def stIf (a : Nat) (r : T × T × St) : R :=
 if isT ts (B [101, 108, 115, 101]) r.2.2 then (.st 4 a [] r.1 (r.2.1.snoc (bl (adv r.2.2)).1), TP.take ts (B [101, 110, 100]) (bl (adv r.2.2)).2)
 else (.st 4 a [] r.1 r.2.1, TP.take ts (B [101, 110, 100]) r.2.2)
def stWhile (a : Nat) (s : St) : R := (.st 5 a [] (T.of [(ex s).1]) (T.of [(bl (TP.take ts (B [100, 111]) (ex s).2)).1]), TP.take ts (B [101, 110, 100]) (bl (TP.take ts (B [100, 111]) (ex s).2)).2)
def stRepeat (a : Nat) (s : St) : R := (.st 8 a [] (T.of [(ex (TP.take ts (B [117, 110, 116, 105, 108]) (bl s).2)).1]) (T.of [(bl s).1]), (ex (TP.take ts (B [117, 110, 116, 105, 108]) (bl s).2)).2)
def stDo (a : Nat) (s : St) : R := (.st 11 a [] .nil (T.of [(bl s).1]), TP.take ts (B [101, 110, 100]) (bl s).2)
def stEach (a : Nat) (n : ByteArray) (m : ByteArray) (s : St) : R := (.st 7 a [n, m] (T.of [(ex s).1]) (T.of [(bl (TP.take ts (B [100, 111]) (ex s).2)).1]), TP.take ts (B [101, 110, 100]) (bl (TP.take ts (B [100, 111]) (ex s).2)).2)
def stFor (a : Nat) (n : ByteArray) (x y : T) (s : St) : R :=
 if isT ts (B [44]) s then (.st 6 a [n] (T.of [x, y, (ex (adv s)).1]) (T.of [(bl (TP.take ts (B [100, 111]) (ex (adv s)).2)).1]), TP.take ts (B [101, 110, 100]) (bl (TP.take ts (B [100, 111]) (ex (adv s)).2)).2)
 else (.st 6 a [n] (T.of [x, y]) (T.of [(bl (TP.take ts (B [100, 111]) s)).1]), TP.take ts (B [101, 110, 100]) (bl (TP.take ts (B [100, 111]) s)).2)
def stFors (a : Nat) (n : ByteArray) (s : St) : R :=
 if isT ts (B [44]) s then stEach ts ex bl a n (TP.name ts (adv s)).1 (TP.take ts (B [105, 110]) (TP.name ts (adv s)).2)
 else stFor ts ex bl a n (ex (TP.take ts (B [61]) s)).1 (ex (TP.take ts (B [44]) (ex (TP.take ts (B [61]) s)).2)).1 (ex (TP.take ts (B [44]) (ex (TP.take ts (B [61]) s)).2)).2
def stElse (a : Nat) (e : T) (s : St) : R :=
 if isCall e && !isT ts (B [61]) s then (.st 3 a [] (T.of [e]) .nil, s)
 else (.st 2 a [] (T.of [e, (ex (TP.take ts (B [61]) (if isCall e then TP.fail 14 s else s))).1]) .nil, (ex (TP.take ts (B [61]) (if isCall e then TP.fail 14 s else s))).2)
theorem stat_eq (a : Nat) (s : St) : TP.stat ts ex bl a s = if isT ts (B [108, 111, 99, 97, 108]) s then stLocal ts ex bl a (adv s)
 else if isT ts (B [105, 102]) s then stIf ts bl a (ifLoop ts ex bl (ts.length + 1) .nil .nil (adv s))
 else if isT ts (B [119, 104, 105, 108, 101]) s then stWhile ts ex bl a (adv s)
 else if isT ts (B [114, 101, 112, 101, 97, 116]) s then stRepeat ts ex bl a (adv s)
 else if isT ts (B [102, 111, 114]) s then stFors ts ex bl a (TP.name ts (adv s)).1 (TP.name ts (adv s)).2
 else if isT ts (B [98, 114, 101, 97, 107]) s then (.st 9 a [] .nil .nil, adv s)
 else if isT ts (B [100, 111]) s then stDo ts bl a (adv s)
 else stElse ts ex a (TP.behind ts ex (.ex 6 s.i 0 (TP.name ts s).1 0 .nil .nil) (TP.name ts s).2).1 (TP.behind ts ex (.ex 6 s.i 0 (TP.name ts s).1 0 .nil .nil) (TP.name ts s).2).2 := rfl
end
theorem XR.call {w : World} {F : Nat → Prop} {g : Int → Int} {t : T} {k : Int} {a1 a2 a3 a4 a5 a6 : Value} (h : XR w F (t.map g) (.agg #[.int .i64 k, a1, a2, a3, a4, a5, a6])) : isCall t = decide (k = 10) := by
 obtain ⟨k', a, n, s, op, l, f, vl, vf, h1, h2, _⟩ := h
 simp only [Value.agg.injEq, Array.mk.injEq, List.cons.injEq, Value.int.injEq, and_true, true_and] at h2
 cases t <;> simp only [T.map] at h1 <;> try cases h1
 rw [h2.1]
 rfl
theorem und32 : Tryz.prog.underlying 32 = some (.slice 23) := by kernel_rfl
theorem ifLoop_eq (ts : List Tk) (ex bl : St → R) (f : Nat) (l b : T) (s : St) : ifLoop ts ex bl (f + 1) l b s = if isT ts (B [101, 108, 115, 101, 105, 102]) (bl (TP.take ts (B [116, 104, 101, 110]) (ex s).2)).2 then ifLoop ts ex bl f (l.snoc (ex s).1) (b.snoc (bl (TP.take ts (B [116, 104, 101, 110]) (ex s).2)).1) (adv (bl (TP.take ts (B [116, 104, 101, 110]) (ex s).2)).2) else (l.snoc (ex s).1, b.snoc (bl (TP.take ts (B [116, 104, 101, 110]) (ex s).2)).1, (bl (TP.take ts (B [116, 104, 101, 110]) (ex s).2)).2) := rfl
def LIf (E : Env) (ex bl : St → R) (I0 : T × T × St) (w : World) (a b i0 : Nat) (wr : World) : Prop :=
 ∃ fa l bk sa nL Al cl nB Ab cb, E.ts.length + 1 ≤ fa + sa.i ∧ ifLoop E.ts ex bl fa l bk sa = I0 ∧ sa.i < E.ts.length ∧ l.isList ∧ bk.isList ∧ l.len = nL ∧ bk.len = nB ∧ nL ≤ sa.i ∧ nB ≤ sa.i ∧ i0 ≤ sa.i ∧
  Fr E (fun i => i = E.p ∨ i = b) w.heap.size w wr sa [(b, .cells #[.int .i64 4, .int .i64 (E.pl a), .slice none 0 0, .slice Al nL cl, .slice Ab nB cb] 34)] [.w (Value.slice Ab nB cb).ownBlock (.r 0 38 w.heap.size (l.map E.gl) (.slice Al nL cl)), .w (Value.slice Al nL cl).ownBlock (.r 3 23 w.heap.size (bk.map E.gl) (.slice Ab nB cb))]
def StP (E : Env) (a : Nat) (r : R) (b : Nat) (w w' : World) : Prop :=
 (∃ k ns l bd vn vl vd, r.1 = .st k a ns l bd ∧ w'.heap[b]? = some (.cells #[.int .i64 k, .int .i64 (E.pl a), vn, vl, vd] 34) ∧ NL w' (fun i => w.heap.size ≤ i) vn ns ∧ SL w' (fun i => w.heap.size ≤ i) 0 vl (l.map E.gl) ∧ SL w' (fun i => w.heap.size ≤ i) 3 vd (bd.map E.gl)) ∧
  PS E w' r.2 ∧ Kp w.heap.size (fun i => i ≠ E.p ∧ i ≠ b) w w'
theorem StP.mk {E : Env} {a : Nat} {r : R} {b : Nat} {w w' : World} {k : Int} {ns : List ByteArray} {l bd : T} {vn vl vd : Value} (h1 : r.1 = .st k a ns l bd) (h2 : w'.heap[b]? = some (.cells #[.int .i64 k, .int .i64 (E.pl a), vn, vl, vd] 34)) (h3 : NL w' (fun i => w.heap.size ≤ i) vn ns) (h4 : SL w' (fun i => w.heap.size ≤ i) 0 vl (l.map E.gl)) (h5 : SL w' (fun i => w.heap.size ≤ i) 3 vd (bd.map E.gl)) (h6 : PS E w' r.2) (h7 : Kp w.heap.size (fun i => i ≠ E.p ∧ i ≠ b) w w') : StP E a r b w w' := ⟨⟨k, ns, l, bd, vn, vl, vd, h1, h2, h3, h4, h5⟩, h6, h7⟩
set_option maxRecDepth 100000 in
set_option maxHeartbeats 16000000 in
theorem stat_is (E : Env) (hE : E.Ok) (d : Int) (ex bl : St → R) (hG : TP.Good E.ts ex) (hGb : TP.Good E.ts bl) (hL : ExC E 50 #[.int .i64 d] ex) (hB : BlC E 17 #[.int .i64 d] bl) (hN : BhC E d (TP.behind E.ts ex)) (hF : FnC E d (TP.body E.ts bl)) : StC E d (fun a s => TP.stat E.ts ex bl a s) := by
 intro a s w b hi h hp hg hb
 obtain ⟨R0, q⟩ : ∃ R0, TP.stat E.ts ex bl a s = R0 := ⟨_, rfl⟩
 simp only [q]
 rw [stat_eq] at q
 show Calls _ _ _ _ (fun e w' => e = .returned (.tuple #[]) ∧ StP E a R0 b w w')
 have F0 := hid (Fr.startS h hp hg hb)
 have HH := hid (And.intro hE (And.intro hG (And.intro hGb (And.intro hL (And.intro hB (And.intro hN hF))))))
 have go0 := hid (Go.refl hi)
 have PE0 := hid (And.intro h.lt h.2.1)
 clear hE hG hGb hL hB hN hF h hp hg hb hi
 go_enter Tryz.func51, Tryz.ntmps51
 cases b_local : isT E.ts (B [108, 111, 99, 97, 108]) s with
 | true =>
  rw [if_pos b_local] at q
  unfold stLocal at q
  obtain ⟨⟨a0, a1, a2, a3, a4⟩, ⟨f0, f1, f2, f3, f4⟩⟩ := cells5 (F0.out.blk _ (.head _))
  have lb := F0.out.lt (.head _)
  have mb := Nat.ne_of_lt lb
  go_wp2_with (first | (go_at_call 48; refine Hid.out ?_))
  refine hid ?_
  refine (opt_yes E HH.out.1 _ go0.out.2.1 (B [108, 111, 99, 97, 108]) b_local _ (F0.out).ps).mono ?_
  rintro e x1 ⟨rfl, h1, h2⟩
  have G2 := hid (show Fr E (fun i => i = E.p ∨ i = b) w.heap.size w x1 _ [(b, .cells #[.int .i64 0, .int .i64 (E.pl a), .slice none 0 0, .slice none 0 0, .slice none 0 0] 34)] [] from (F0.out).call h1 h2)
  clear h1 h2
  clear a0 a1 a2 a3 a4 f0 f1 f2 f3 f4 lb mb
  have go3 := hid (go0.out.is HH.out.1.ends b_local)
  cases b_fn : isT E.ts (B [102, 117, 110, 99, 116, 105, 111, 110]) (adv s) with
  | true =>
   rw [if_pos b_fn] at q
   subst q
   obtain ⟨⟨a0, a1, a2, a3, a4⟩, ⟨f0, f1, f2, f3, f4⟩⟩ := cells5 (G2.out.blk _ (.head _))
   have lb := G2.out.lt (.head _)
   have mb := Nat.ne_of_lt lb
   go_wp2_with (first | (go_at_call 48; refine Hid.out ?_))
   refine hid ?_
   refine (opt_yes E HH.out.1 _ go3.out.2.1 (B [102, 117, 110, 99, 116, 105, 111, 110]) b_fn _ (G2.out).ps).mono ?_
   rintro e x4 ⟨rfl, h1, h2⟩
   have G5 := hid (show Fr E (fun i => i = E.p ∨ i = b) w.heap.size w x4 _ [(b, .cells #[.int .i64 0, .int .i64 (E.pl a), .slice none 0 0, .slice none 0 0, .slice none 0 0] 34)] [] from (G2.out).call h1 h2)
   clear h1 h2
   clear a0 a1 a2 a3 a4 f0 f1 f2 f3 f4 lb mb
   have go6 := hid (go3.out.is HH.out.1.ends b_fn)
   obtain ⟨⟨a0, a1, a2, a3, a4⟩, ⟨f0, f1, f2, f3, f4⟩⟩ := cells5 (G5.out.blk _ (.head _))
   have lb := G5.out.lt (.head _)
   have mb := Nat.ne_of_lt lb
   go_wp2_with (first | (go_at_call 69; refine Hid.out ?_))
   refine hid ?_
   refine (name_is E HH.out.1 _ go6.out.2.1 _ (G5.out).ps).mono ?_
   rintro e x7 ⟨rfl, h1, h2⟩
   have G8 := hid (show Fr E (fun i => i = E.p ∨ i = b) w.heap.size w x7 _ [(b, .cells #[.int .i64 0, .int .i64 (E.pl a), .slice none 0 0, .slice none 0 0, .slice none 0 0] 34)] [] from (G5.out).call h1 h2)
   have go9 := hid (go6.out.name HH.out.1.ends)
   clear h1 h2
   clear a0 a1 a2 a3 a4 f0 f1 f2 f3 f4 lb mb
   obtain ⟨⟨a0, a1, a2, a3, a4⟩, ⟨f0, f1, f2, f3, f4⟩⟩ := cells5 (G8.out.blk _ (.head _))
   have lb := G8.out.lt (.head _)
   have mb := Nat.ne_of_lt lb
   go_wp2_with (first | (go_at_call 47; refine Hid.out ?_))
   refine hid ?_
   have P10 : Fr E (fun i => i = E.p ∨ i = b) w.heap.size w _ _ [(b, .cells #[.int .i64 0, .int .i64 (E.pl a), .slice (some ⟨x7.heap.size, 0, none⟩) 1 1, .slice none 0 0, .slice none 0 0] 34)] [] := (G8.out).set1 0 rfl 2 (.slice (some ⟨x7.heap.size, 0, none⟩) 1 1)
   have P11 : Fr E (fun i => i = E.p ∨ i = b) w.heap.size w _ _ [(b, .cells #[.int .i64 0, .int .i64 (E.pl a), .slice (some ⟨x7.heap.size, 0, none⟩) 1 1, .slice none 0 0, .slice none 0 0] 34)] [.o w.heap.size [(TP.name E.ts (adv (adv s))).1] (.slice (some ⟨x7.heap.size, 0, none⟩) 1 1)] := P10.litN (by simp [World.setCell]) w.heap.size P10.kp.size (TP.name E.ts (adv (adv s))).1
   refine (place_is E _ go9.out.2.1 _ (P11).ps).mono ?_
   rintro e x12 ⟨rfl, h1, h2⟩
   have G13 := hid (show Fr E (fun i => i = E.p ∨ i = b) w.heap.size w x12 _ [(b, .cells #[.int .i64 0, .int .i64 (E.pl a), .slice (some ⟨x7.heap.size, 0, none⟩) 1 1, .slice none 0 0, .slice none 0 0] 34)] [.o w.heap.size [(TP.name E.ts (adv (adv s))).1] (.slice (some ⟨x7.heap.size, 0, none⟩) 1 1)] from (P11).below2 h1 h2)
   clear h1 h2
   clear a0 a1 a2 a3 a4 f0 f1 f2 f3 f4 lb mb
   obtain ⟨⟨a0, a1, a2, a3, a4⟩, ⟨f0, f1, f2, f3, f4⟩⟩ := cells5 (G13.out.blk _ (.head _))
   have lb := G13.out.lt (.head _)
   have mb := Nat.ne_of_lt lb
   go_wp2_with (first | (go_at_call 70; refine Hid.out ?_))
   refine hid ?_
   refine (HH.out.2.2.2.2.2.2 (TP.name E.ts (adv (adv s))).2 _ go9.out.2.1 (G13.out).ps).mono ?_
   rintro e x14 ⟨v, rfl, hx, h1, h2⟩
   obtain ⟨fps, fd, A1, n1, m1, A2, n2, m2, hfe, rfl, hn, hs⟩ := FR.form hx
   have G15 := hid (((G13.out).callI (it := .s 2 fd (.slice A2 n2 m2)) h1 h2 hs).add (it := .n fps (.slice A1 n1 m1)) (NL.keep hn (fun _ _ _ => rfl) (Nat.le_refl _) (fun i hi _ => (G13.out).fp hi)))
   have HFE := hid hfe
   clear h1 h2 hx hn hs hfe
   clear a0 a1 a2 a3 a4 f0 f1 f2 f3 f4 lb mb
   obtain ⟨⟨a0, a1, a2, a3, a4⟩, ⟨f0, f1, f2, f3, f4⟩⟩ := cells5 (G15.out.blk _ (.head _))
   have lb := G15.out.lt (.head _)
   have mb := Nat.ne_of_lt lb
   go_wp2
   have Q1 := (((G15.out.set1 0 rfl 0 (.int .i64 12)).set1 0 rfl 3 (.slice (some ⟨x14.heap.size + 1, 0, none⟩) 1 1)).litA (kd := 1) (e := 88) (t := .cons (.fn fps fd) .nil) (b := x14.heap.size) (n := 1) (cs := [.slice A1 n1 m1, .slice A2 n2 m2]) (by simp [World.setCell]) (by intro e; cases e) rfl (by decide) (EC_fn.2 ⟨_, _, [], rfl, Fr.get ((G15.out.set1 0 rfl 0 (.int .i64 12)).set1 0 rfl 3 (.slice (some ⟨x14.heap.size + 1, 0, none⟩) 1 1)) (.head _), Fr.get ((G15.out.set1 0 rfl 0 (.int .i64 12)).set1 0 rfl 3 (.slice (some ⟨x14.heap.size + 1, 0, none⟩) 1 1)) (.tail _ (.head _)), EC_nil.2 rfl⟩))
   have Q2 := Q1.litA (kd := 0) (e := 38) (t := .cons (.ex 7 (E.pl (TP.name E.ts (adv (adv s))).2.i) 0 ⟨#[]⟩ 0 .nil (.cons (.fn fps fd) .nil)) .nil) (b := x14.heap.size + 1) (n := 1) (cs := [.int .i64 7, .int .i64 (E.pl (TP.name E.ts (adv (adv s))).2.i), .int .i64 0, .string ⟨#[]⟩, .int .i64 0, .slice none 0 0, .slice (some ⟨x14.heap.size, 0, none⟩) 1 1]) (by simp [World.setCell, go_sem]) (by intro e; cases e) rfl (by decide) (XR.ec1 (XR.of 7 (E.pl (TP.name E.ts (adv (adv s))).2.i) 0 0 ⟨#[]⟩ .nil (Q1.get (.head _))))
   first | go_end0 | refine bodyPost_ret (results_none rfl _ _ _) rfl ?_
   exact ⟨rfl, StP.mk rfl (Q2.blk _ (.head _)) (NL.keep (NF.nl (Q2.get (.tail _ (.tail _ (.tail _ (.tail _ (.head _))))))) (fun _ _ _ => rfl) (Nat.le_refl _) (fun i hi _ => hi.1)) (by rw [show (T.of [T.ex 7 (((TP.name E.ts (adv (adv s))).2.i : Nat) : Int) 0 ⟨#[]⟩ 0 .nil (T.of [(TP.body E.ts bl (TP.name E.ts (adv (adv s))).2).1])]).map E.gl = .cons (.ex 7 (E.pl (TP.name E.ts (adv (adv s))).2.i) 0 ⟨#[]⟩ 0 .nil (.cons ((TP.body E.ts bl (TP.name E.ts (adv (adv s))).2).1.map E.gl) .nil)) .nil from by rw [← E.gl_nat]; rfl, HFE.out]; exact SL.keep (fun _ _ _ => rfl) (Nat.le_refl _) (fun i hi _ => hi.1) _ _ _ (Q2.get (.head _))) .nil Q2.ps Q2.finS⟩
  | false =>
   rw [if_neg (by rw [b_fn]; decide)] at q
   obtain ⟨⟨a0, a1, a2, a3, a4⟩, ⟨f0, f1, f2, f3, f4⟩⟩ := cells5 (G2.out.blk _ (.head _))
   have lb := G2.out.lt (.head _)
   have mb := Nat.ne_of_lt lb
   go_wp2_with (first | (go_at_call 48; refine Hid.out ?_))
   refine hid ?_
   refine (opt_no E HH.out.1 _ go3.out.2.1 (B [102, 117, 110, 99, 116, 105, 111, 110]) b_fn _ (G2.out).ps).mono ?_
   rintro e x4 ⟨rfl, h1, h2⟩
   have G5 := hid (show Fr E (fun i => i = E.p ∨ i = b) w.heap.size w x4 _ [(b, .cells #[.int .i64 0, .int .i64 (E.pl a), .slice none 0 0, .slice none 0 0, .slice none 0 0] 34)] [] from (G2.out).call h1 h2)
   clear h1 h2
   clear a0 a1 a2 a3 a4 f0 f1 f2 f3 f4 lb mb
   obtain ⟨⟨a0, a1, a2, a3, a4⟩, ⟨f0, f1, f2, f3, f4⟩⟩ := cells5 (G5.out.blk _ (.head _))
   have lb := G5.out.lt (.head _)
   have mb := Nat.ne_of_lt lb
   go_wp2_with (first | (go_at_call 69; refine Hid.out ?_))
   refine hid ?_
   refine (name_is E HH.out.1 _ go3.out.2.1 _ (G5.out).ps).mono ?_
   rintro e x6 ⟨rfl, h1, h2⟩
   have G7 := hid (show Fr E (fun i => i = E.p ∨ i = b) w.heap.size w x6 _ [(b, .cells #[.int .i64 0, .int .i64 (E.pl a), .slice none 0 0, .slice none 0 0, .slice none 0 0] 34)] [] from (G5.out).call h1 h2)
   have go8 := hid (go3.out.name HH.out.1.ends)
   clear h1 h2
   clear a0 a1 a2 a3 a4 f0 f1 f2 f3 f4 lb mb
   cases b_eq : isT E.ts (B [61]) (TP.name E.ts (adv s)).2 with
   | true =>
    rw [if_pos b_eq] at q
    subst q
    obtain ⟨⟨a0, a1, a2, a3, a4⟩, ⟨f0, f1, f2, f3, f4⟩⟩ := cells5 (G7.out.blk _ (.head _))
    have lb := G7.out.lt (.head _)
    have mb := Nat.ne_of_lt lb
    go_wp2_with (first | (go_at_call 48; refine Hid.out ?_))
    refine hid ?_
    have P9 : Fr E (fun i => i = E.p ∨ i = b) w.heap.size w _ _ [(b, .cells #[.int .i64 1, .int .i64 (E.pl a), .slice (some ⟨x6.heap.size, 0, none⟩) 1 1, .slice none 0 0, .slice none 0 0] 34)] [] := ((G7.out).set1 0 rfl 0 (.int .i64 1)).set1 0 rfl 2 (.slice (some ⟨x6.heap.size, 0, none⟩) 1 1)
    have P10 : Fr E (fun i => i = E.p ∨ i = b) w.heap.size w _ _ [(b, .cells #[.int .i64 1, .int .i64 (E.pl a), .slice (some ⟨x6.heap.size, 0, none⟩) 1 1, .slice none 0 0, .slice none 0 0] 34)] [.o w.heap.size [(TP.name E.ts (adv s)).1] (.slice (some ⟨x6.heap.size, 0, none⟩) 1 1)] := P9.litN (by simp [World.setCell]) w.heap.size P9.kp.size (TP.name E.ts (adv s)).1
    refine (opt_yes E HH.out.1 _ go8.out.2.1 (B [61]) b_eq _ (P10).ps).mono ?_
    rintro e x11 ⟨rfl, h1, h2⟩
    have G12 := hid (show Fr E (fun i => i = E.p ∨ i = b) w.heap.size w x11 _ [(b, .cells #[.int .i64 1, .int .i64 (E.pl a), .slice (some ⟨x6.heap.size, 0, none⟩) 1 1, .slice none 0 0, .slice none 0 0] 34)] [.o w.heap.size [(TP.name E.ts (adv s)).1] (.slice (some ⟨x6.heap.size, 0, none⟩) 1 1)] from (P10).call h1 h2)
    clear h1 h2
    clear a0 a1 a2 a3 a4 f0 f1 f2 f3 f4 lb mb
    have go13 := hid (go8.out.is HH.out.1.ends b_eq)
    obtain ⟨⟨a0, a1, a2, a3, a4⟩, ⟨f0, f1, f2, f3, f4⟩⟩ := cells5 (G12.out.blk _ (.head _))
    have lb := G12.out.lt (.head _)
    have mb := Nat.ne_of_lt lb
    go_wp2_with (first | (go_at_call 50; refine Hid.out ?_))
    refine hid ?_
    refine (HH.out.2.2.2.1 (adv (TP.name E.ts (adv s)).2) _ go13.out.2.1 (G12.out).ps).mono ?_
    rintro e x14 ⟨v, rfl, hx, h1, h2⟩
    obtain ⟨k', a', n', x', op', Cl, rl, el, Cf, rf, ef, rfl⟩ := hx.form
    have G15 := hid (show Fr E (fun i => i = E.p ∨ i = b) w.heap.size w x14 _ [(b, .cells #[.int .i64 1, .int .i64 (E.pl a), .slice (some ⟨x6.heap.size, 0, none⟩) 1 1, .slice none 0 0, .slice none 0 0] 34)] [.x ((ex (adv (TP.name E.ts (adv s)).2)).1.map E.gl) (.agg #[.int .i64 k', .int .i64 a', .int .i64 n', .string x', .int .i64 op', .slice Cl rl el, .slice Cf rf ef]), .o w.heap.size [(TP.name E.ts (adv s)).1] (.slice (some ⟨x6.heap.size, 0, none⟩) 1 1)] from (G12.out).callI h1 h2 (it := .x _ _) hx)
    have go16 := hid (go13.out.by HH.out.2.1)
    clear h1 h2 hx
    clear a0 a1 a2 a3 a4 f0 f1 f2 f3 f4 lb mb
    obtain ⟨⟨a0, a1, a2, a3, a4⟩, ⟨f0, f1, f2, f3, f4⟩⟩ := cells5 (G15.out.blk _ (.head _))
    have lb := G15.out.lt (.head _)
    have mb := Nat.ne_of_lt lb
    go_wp2
    have P17 : Fr E (fun i => i = E.p ∨ i = b) w.heap.size w _ _ [(b, .cells #[.int .i64 1, .int .i64 (E.pl a), .slice (some ⟨x6.heap.size, 0, none⟩) 1 1, .slice (some ⟨x14.heap.size, 0, none⟩) 1 1, .slice none 0 0] 34)] [.x ((ex (adv (TP.name E.ts (adv s)).2)).1.map E.gl) (.agg #[.int .i64 k', .int .i64 a', .int .i64 n', .string x', .int .i64 op', .slice Cl rl el, .slice Cf rf ef]), .o w.heap.size [(TP.name E.ts (adv s)).1] (.slice (some ⟨x6.heap.size, 0, none⟩) 1 1)] := (G15.out).set1 0 rfl 3 (.slice (some ⟨x14.heap.size, 0, none⟩) 1 1)
    have P18 : Fr E (fun i => i = E.p ∨ i = b) w.heap.size w _ _ [(b, .cells #[.int .i64 1, .int .i64 (E.pl a), .slice (some ⟨x6.heap.size, 0, none⟩) 1 1, .slice (some ⟨x14.heap.size, 0, none⟩) 1 1, .slice none 0 0] 34)] [.s 0 (.cons ((ex (adv (TP.name E.ts (adv s)).2)).1.map E.gl) .nil) (.slice (some ⟨x14.heap.size, 0, none⟩) 1 1), .x ((ex (adv (TP.name E.ts (adv s)).2)).1.map E.gl) (.agg #[.int .i64 k', .int .i64 a', .int .i64 n', .string x', .int .i64 op', .slice Cl rl el, .slice Cf rf ef]), .o w.heap.size [(TP.name E.ts (adv s)).1] (.slice (some ⟨x6.heap.size, 0, none⟩) 1 1)] := P17.litA (e := 38) (b := x14.heap.size) (by simp [World.setCell]) (n := 1) (by intro e; cases e) rfl (by decide) (XR.ec1 (P17.get (.head _)))
    first | go_end0 | refine bodyPost_ret (results_none rfl _ _ _) rfl ?_
    exact ⟨rfl, StP.mk rfl ((P18).blk _ (.head _)) (NL.keep (NF.nl ((P18).get (.tail _ (.tail _ (.head _))))) (fun _ _ _ => rfl) (Nat.le_refl _) (fun i hi _ => hi.1)) (SL.keep (fun _ _ _ => rfl) (Nat.le_refl _) (fun i hi _ => hi.1) _ _ _ ((P18).get (.head _))) (.nil) (P18).ps (P18).finS⟩
   | false =>
    rw [if_neg (by rw [b_eq]; decide)] at q
    subst q
    obtain ⟨⟨a0, a1, a2, a3, a4⟩, ⟨f0, f1, f2, f3, f4⟩⟩ := cells5 (G7.out.blk _ (.head _))
    have lb := G7.out.lt (.head _)
    have mb := Nat.ne_of_lt lb
    go_wp2_with (first | (go_at_call 48; refine Hid.out ?_))
    refine hid ?_
    have P9 : Fr E (fun i => i = E.p ∨ i = b) w.heap.size w _ _ [(b, .cells #[.int .i64 1, .int .i64 (E.pl a), .slice (some ⟨x6.heap.size, 0, none⟩) 1 1, .slice none 0 0, .slice none 0 0] 34)] [] := ((G7.out).set1 0 rfl 0 (.int .i64 1)).set1 0 rfl 2 (.slice (some ⟨x6.heap.size, 0, none⟩) 1 1)
    have P10 : Fr E (fun i => i = E.p ∨ i = b) w.heap.size w _ _ [(b, .cells #[.int .i64 1, .int .i64 (E.pl a), .slice (some ⟨x6.heap.size, 0, none⟩) 1 1, .slice none 0 0, .slice none 0 0] 34)] [.o w.heap.size [(TP.name E.ts (adv s)).1] (.slice (some ⟨x6.heap.size, 0, none⟩) 1 1)] := P9.litN (by simp [World.setCell]) w.heap.size P9.kp.size (TP.name E.ts (adv s)).1
    refine (opt_no E HH.out.1 _ go8.out.2.1 (B [61]) b_eq _ (P10).ps).mono ?_
    rintro e x11 ⟨rfl, h1, h2⟩
    have G12 := hid (show Fr E (fun i => i = E.p ∨ i = b) w.heap.size w x11 _ [(b, .cells #[.int .i64 1, .int .i64 (E.pl a), .slice (some ⟨x6.heap.size, 0, none⟩) 1 1, .slice none 0 0, .slice none 0 0] 34)] [.o w.heap.size [(TP.name E.ts (adv s)).1] (.slice (some ⟨x6.heap.size, 0, none⟩) 1 1)] from (P10).call h1 h2)
    clear h1 h2
    clear a0 a1 a2 a3 a4 f0 f1 f2 f3 f4 lb mb
    obtain ⟨⟨a0, a1, a2, a3, a4⟩, ⟨f0, f1, f2, f3, f4⟩⟩ := cells5 (G12.out.blk _ (.head _))
    have lb := G12.out.lt (.head _)
    have mb := Nat.ne_of_lt lb
    go_wp2
    first | go_end0 | refine bodyPost_ret (results_none rfl _ _ _) rfl ?_
    exact ⟨rfl, StP.mk rfl ((G12.out).blk _ (.head _)) (NL.keep (NF.nl ((G12.out).get (.head _))) (fun _ _ _ => rfl) (Nat.le_refl _) (fun i hi _ => hi.1)) (.nil) (.nil) (G12.out).ps (G12.out).finS⟩
 | false =>
  rw [if_neg (by rw [b_local]; decide)] at q
  obtain ⟨⟨a0, a1, a2, a3, a4⟩, ⟨f0, f1, f2, f3, f4⟩⟩ := cells5 (F0.out.blk _ (.head _))
  have lb := F0.out.lt (.head _)
  have mb := Nat.ne_of_lt lb
  go_wp2_with (first | (go_at_call 48; refine Hid.out ?_))
  refine hid ?_
  refine (opt_no E HH.out.1 _ go0.out.2.1 (B [108, 111, 99, 97, 108]) b_local _ (F0.out).ps).mono ?_
  rintro e x1 ⟨rfl, h1, h2⟩
  have G2 := hid (show Fr E (fun i => i = E.p ∨ i = b) w.heap.size w x1 _ [(b, .cells #[.int .i64 0, .int .i64 (E.pl a), .slice none 0 0, .slice none 0 0, .slice none 0 0] 34)] [] from (F0.out).call h1 h2)
  clear h1 h2
  clear a0 a1 a2 a3 a4 f0 f1 f2 f3 f4 lb mb
  cases b_if : isT E.ts (B [105, 102]) s with
  | true =>
   rw [if_pos b_if] at q
   obtain ⟨⟨a0, a1, a2, a3, a4⟩, ⟨f0, f1, f2, f3, f4⟩⟩ := cells5 (G2.out.blk _ (.head _))
   have lb := G2.out.lt (.head _)
   have mb := Nat.ne_of_lt lb
   go_wp2_with (first | (go_at_call 48; refine Hid.out ?_))
   refine hid ?_
   refine (opt_yes E HH.out.1 _ go0.out.2.1 (B [105, 102]) b_if _ (G2.out).ps).mono ?_
   rintro e x3 ⟨rfl, h1, h2⟩
   have G4 := hid (show Fr E (fun i => i = E.p ∨ i = b) w.heap.size w x3 _ [(b, .cells #[.int .i64 0, .int .i64 (E.pl a), .slice none 0 0, .slice none 0 0, .slice none 0 0] 34)] [] from (G2.out).call h1 h2)
   clear h1 h2
   clear a0 a1 a2 a3 a4 f0 f1 f2 f3 f4 lb mb
   have go5 := hid (go0.out.is HH.out.1.ends b_if)
   obtain ⟨I0, hI0⟩ : ∃ I0, ifLoop E.ts ex bl (E.ts.length + 1) .nil .nil (adv s) = I0 := ⟨_, rfl⟩
   rw [hI0] at q
   have gI := ifLoop_go HH.out.1.ends HH.out.2.1 HH.out.2.2.1 (E.ts.length + 1) .nil .nil s (adv s) go5.out
   rw [hI0] at gI
   have GI := hid gI
   have HI0 := hid hI0
   clear gI hI0
   unfold stIf at q
   have q0 := hid q
   clear q
   obtain ⟨⟨a0, a1, a2, a3, a4⟩, ⟨f0, f1, f2, f3, f4⟩⟩ := cells5 (G4.out.blk _ (.head _))
   have lb := G4.out.lt (.head _)
   have mb := Nat.ne_of_lt lb
   go_wp2
   have P6 : Fr E (fun i => i = E.p ∨ i = b) w.heap.size w _ _ [(b, .cells #[.int .i64 4, .int .i64 (E.pl a), .slice none 0 0, .slice none 0 0, .slice none 0 0] 34)] [] := (G4.out).set1 0 rfl 0 (.int .i64 4)
   have G7 := hid (P6)
   clear a0 a1 a2 a3 a4 f0 f1 f2 f3 f4 lb mb
   generalize x3.setCell ⟨b, 0, none⟩ (.int .i64 4) = X7 at G7 ⊢
   go_loopw [105] (fun _ wr => Hid (LIf E ex bl I0 w a b (adv s).i wr)) (fun _ wr => E.ts.length - posOf E wr)
   case atStart => exact hid ⟨E.ts.length + 1, .nil, .nil, (adv s), 0, none, 0, 0, none, 0, by omega, HI0.out, go5.out.2.1, trivial, trivial, rfl, rfl, Nat.zero_le _, Nat.zero_le _, Nat.le_refl _, G7.out.with _ (List.forall_mem_cons.2 ⟨OF.nil _ _ _ _ _, List.forall_mem_cons.2 ⟨OF.nil _ _ _ _ _, fun _ h => by cases h⟩⟩)⟩
   case round =>
    clear G7
    obtain ⟨fa, l, bk, sa, mL, Al, cl, mB, Ab, cb, p1, p2, p3, p4, p5, p6, p7, p8, p9, p10, p11⟩ := hrel.out
    obtain ⟨fa', rfl⟩ : ∃ fa', fa = fa' + 1 := ⟨fa - 1, by omega⟩
    rw [ifLoop_eq] at p2
    have FA := hid p11
    have PA := p11.ps.pos
    have PP := hid (And.intro p1 (And.intro p3 (And.intro p8 (And.intro p9 p10))))
    have iL := hid p4
    have iB := hid p5
    have jL := hid (isList_map E.gl p4)
    have jB := hid (isList_map E.gl p5)
    have mLE := hid (show (l.map E.gl).len = mL from by rw [T.len_map]; exact p6)
    have mBE := hid (show (bk.map E.gl).len = mB from by rw [T.len_map]; exact p7)
    have hLN := hid (show mL ≤ 100000 ∧ mB ≤ 100000 from by have := HH.out.1.len; omega)
    have hlen := hid (And.intro p6 p7)
    have ltL : (mL : Int) < (mL : Int) + 1 := by omega
    have P2 := hid p2
    have gS := hid (Go.refl p3)
    clear p1 p2 p3 p4 p5 p6 p7 p8 p9 p10 p11 hrel
    obtain ⟨⟨a0, a1, a2, a3, a4⟩, ⟨f0, f1, f2, f3, f4⟩⟩ := cells5 (FA.out.blk _ (.head _))
    have lb := FA.out.lt (.head _)
    have mb := Nat.ne_of_lt lb
    have XC := hid (HH.out.2.2.2.1 sa _ gS.out.2.1 FA.out.drew.ps)
    go_wp2
    apply once2
    ·intro HREST
     have KD := hid (FA.out.newF (.cells #[.int .i64 0, .int .i64 0, .int .i64 0, .string ⟨#[]⟩, .int .i64 0, .slice none 0 0, .slice none 0 0] 38))
     have XD := hid (HH.out.2.2.2.1 sa _ gS.out.2.1 KD.out.drew.ps)
     go_region_law (first | (refine step_OF _ rfl _ _ 0 38 31 96 _ rfl Tryz.underlying31 i38n rfl (by decide) (by decide) w.heap.size (fun i => Fp w.heap.size [(b, .cells #[.int .i64 4, .int .i64 (E.pl a), .slice none 0 0, .slice Al mL cl, .slice Ab mB cb] 34)] i ∧ (Value.slice Ab mB cb).ownBlock ≠ some i) (.slice Al mL cl) (l.map E.gl) mL mLE.out rfl (K3.out.get (.head _)) (.ex 0 0 0 ⟨#[]⟩ 0 .nil .nil) [.int .i64 0, .int .i64 0, .int .i64 0, .string ⟨#[]⟩, .int .i64 0, .slice none 0 0, .slice none 0 0] _ rfl nB.out (XR.ec1 (XR.leaf _ _ _ _ _ _ _)) hLN.out.1 K3.out.kp.size ⟨K3.out.fresh, hfr.out⟩ ?_; intro ga ca y3 h1 h2 h3; have K4 := hid (K3.out.appendedO (g := ga) [.w (Value.slice Ab mB cb).ownBlock (.x ((ex sa).1.map E.gl) (.agg #[.int .i64 k', .int .i64 a', .int .i64 n', .string x', .int .i64 op', .slice Cl rl el, .slice Cf rf ef])), .r 3 23 w.heap.size (bk.map E.gl) (.slice Ab mB cb)] (K3.out.get (.head _)) (List.forall_mem_cons.2 ⟨HX.out, List.forall_mem_cons.2 ⟨K3.out.get (.tail _ (.head _)), fun _ h => by cases h⟩⟩) (Nat.le_refl _) h2 h1 h3); obtain ⟨⟨z0, z1, z2, z3, z4, z5, z6⟩, ⟨zf0, zf1, zf2, zf3, zf4, zf5, zf6⟩⟩ := OF.last7 (F := fun i => Fp w.heap.size [(b, .cells #[.int .i64 4, .int .i64 (E.pl a), .slice none 0 0, .slice Al mL cl, .slice Ab mB cb] 34)] i ∧ (Value.slice Ab mB cb).ownBlock ≠ some i) (t := (l.map E.gl)) (N := mL) jL.out mLE.out (K4.out.get (.head _)); obtain ⟨⟨ba, bb, bc, bd, be⟩, ⟨fa, fb, fc, fd, fe⟩⟩ := cells5 (K4.out.blk _ (.head _)); have nbg := (OF.blk (h1) ga rfl).2.2.1.2 _ (.head _); have nbg2 := Ne.symm nbg; clear h2 h3) | (go_simp; go_at_call 50; refine (XC.out).mono ?_; rintro e y2 ⟨v, rfl, hx, h1, h2⟩; obtain ⟨k', a', n', x', op', Cl, rl, el, Cf, rf, ef, rfl⟩ := XR.form hx; have hxa := FA.out.drew.apart2 (it := .x _ _) (o1 := (Value.slice Al mL cl).ownBlock) (o2 := (Value.slice Ab mB cb).ownBlock) (FA.out.drew.ownlt (.head _)) (FA.out.drew.ownlt (.tail _ (.head _))) hx; have K2 := FA.out.drew.call h1 h2; have K3 := hid (K2.newF (.cells #[.int .i64 0, .int .i64 0, .int .i64 0, .string ⟨#[]⟩, .int .i64 0, .slice none 0 0, .slice none 0 0] 38)); have nB := hid (heap_alloc_new y2 (.cells #[.int .i64 0, .int .i64 0, .int .i64 0, .string ⟨#[]⟩, .int .i64 0, .slice none 0 0, .slice none 0 0] 38)); have HX := hid (show It.ok (y2.alloc (.cells #[.int .i64 0, .int .i64 0, .int .i64 0, .string ⟨#[]⟩, .int .i64 0, .slice none 0 0, .slice none 0 0] 38)) (fun i => Fp w.heap.size [(b, .cells #[.int .i64 4, .int .i64 (E.pl a), .slice none 0 0, .slice Al mL cl, .slice Ab mB cb] 34)] i ∧ (Value.slice Al mL cl).ownBlock ≠ some i) (.w (Value.slice Ab mB cb).ownBlock (.x ((ex sa).1.map E.gl) (.agg #[.int .i64 k', .int .i64 a', .int .i64 n', .string x', .int .i64 op', .slice Cl rl el, .slice Cf rf ef]))) from It.keep (it := .w (Value.slice Ab mB cb).ownBlock (.x _ _)) (fun i _ hl => alloc_old.block i hl) (by rw [World.size_alloc]; omega) (fun _ hi _ => hi) hxa); have hfr := hid (show (Value.slice Ab mB cb).ownBlock ≠ some (y2.alloc (.cells #[.int .i64 0, .int .i64 0, .int .i64 0, .string ⟨#[]⟩, .int .i64 0, .slice none 0 0, .slice none 0 0] 38)).heap.size from fun e => by have h9 := FA.out.ownlt (.tail _ (.head _)) _ e; have h8 := h2.size; have h7 : (wr.drew).heap.size = wr.heap.size := rfl; rw [World.size_alloc] at h9; omega); have cbf := (cells5 (K2.blk _ (.head _))).1.2.2.2.1; have lby := K2.lt (.head _); have mby := Nat.ne_of_lt lby; obtain ⟨ad, hAd⟩ : ∃ ad, ad = y2.heap.size := ⟨_, rfl⟩; clear h1 h2 hx hxa K2) | (go_simp; go_at_call 50; refine (XD.out).mono ?_; rintro e y2 ⟨v, rfl, hx, h1, h2⟩; obtain ⟨k', a', n', x', op', Cl, rl, el, Cf, rf, ef, rfl⟩ := XR.form hx; have K3 := hid (KD.out.drew.call h1 h2); have nB := hid (show y2.heap[wr.heap.size]? = some (.cells #[.int .i64 0, .int .i64 0, .int .i64 0, .string ⟨#[]⟩, .int .i64 0, .slice none 0 0, .slice none 0 0] 38) from (h2.block _ (by show wr.heap.size < (wr.alloc (.cells #[.int .i64 0, .int .i64 0, .int .i64 0, .string ⟨#[]⟩, .int .i64 0, .slice none 0 0, .slice none 0 0] 38)).heap.size; rw [World.size_alloc]; omega) (by have := FA.out.ps.lt; omega)).trans (heap_alloc_new wr (.cells #[.int .i64 0, .int .i64 0, .int .i64 0, .string ⟨#[]⟩, .int .i64 0, .slice none 0 0, .slice none 0 0] 38))); have HX := hid (show It.ok y2 (fun i => Fp w.heap.size [(b, .cells #[.int .i64 4, .int .i64 (E.pl a), .slice none 0 0, .slice Al mL cl, .slice Ab mB cb] 34)] i ∧ (Value.slice Al mL cl).ownBlock ≠ some i) (.w (Value.slice Ab mB cb).ownBlock (.x ((ex sa).1.map E.gl) (.agg #[.int .i64 k', .int .i64 a', .int .i64 n', .string x', .int .i64 op', .slice Cl rl el, .slice Cf rf ef]))) from KD.out.drew.apart2 (it := .x _ _) (o1 := (Value.slice Al mL cl).ownBlock) (o2 := (Value.slice Ab mB cb).ownBlock) (KD.out.drew.ownlt (.head _)) (KD.out.drew.ownlt (.tail _ (.head _))) hx); have hfr := hid (show (Value.slice Ab mB cb).ownBlock ≠ some y2.heap.size from fun e => by have h9 := FA.out.ownlt (.tail _ (.head _)) _ e; have h8 := h2.size; have h7 : (wr.alloc (.cells #[.int .i64 0, .int .i64 0, .int .i64 0, .string ⟨#[]⟩, .int .i64 0, .slice none 0 0, .slice none 0 0] 38)).drew.heap.size = wr.heap.size + 1 := World.size_alloc _ _; omega); have cbf := (cells5 (K3.out.blk _ (.head _))).1.2.2.2.1; have lby := K3.out.lt (.head _); have mby := Nat.ne_of_lt lby; obtain ⟨ad, hAd⟩ : ∃ ad, ad = wr.heap.size := ⟨_, rfl⟩; clear h1 h2 hx))
     all_goals
      obtain ⟨y5, K6, hy5⟩ : ∃ y5, Hid (Fr E (fun i => i = E.p ∨ i = b) w.heap.size w y5 (ex sa).2 [(b, .cells #[.int .i64 4, .int .i64 (E.pl a), .slice none 0 0, .slice (some ⟨ga, 0, none⟩) (mL + 1) ca, .slice Ab mB cb] 34)] [.w (Value.slice Ab mB cb).ownBlock (.r 0 38 w.heap.size (((l.map E.gl) : T).snoc ((ex sa).1.map E.gl)) (.slice (some ⟨ga, 0, none⟩) (mL + 1) ca)), .w (some ga) (.r 3 23 w.heap.size (bk.map E.gl) (.slice Ab mB cb))]) ∧ (y5 = ((((((((y3.setCell ⟨b, 3, none⟩ (.slice (some ⟨ga, 0, none⟩) (mL + 1) ca)).setCell ⟨ga, mL * 7, none⟩ (.int .i64 k')).setCell ⟨ga, mL * 7 + 1, none⟩ (.int .i64 a')).setCell ⟨ga, mL * 7 + 2, none⟩ (.int .i64 n')).setCell ⟨ga, mL * 7 + 3, none⟩ (.string x')).setCell ⟨ga, mL * 7 + 4, none⟩ (.int .i64 op')).setCell ⟨ga, mL * 7 + 5, none⟩ (.slice Cl rl el)).setCell ⟨ga, mL * 7 + 6, none⟩ (.slice Cf rf ef)) ∧ y5 = ((((((((y3.setCell ⟨ga, mL * 7, none⟩ (.int .i64 k')).setCell ⟨ga, mL * 7 + 1, none⟩ (.int .i64 a')).setCell ⟨ga, mL * 7 + 2, none⟩ (.int .i64 n')).setCell ⟨ga, mL * 7 + 3, none⟩ (.string x')).setCell ⟨ga, mL * 7 + 4, none⟩ (.int .i64 op')).setCell ⟨ga, mL * 7 + 5, none⟩ (.slice Cl rl el)).setCell ⟨ga, mL * 7 + 6, none⟩ (.slice Cf rf ef)).setCell ⟨b, 3, none⟩ (.slice (some ⟨ga, 0, none⟩) (mL + 1) ca))) := by
       have K5 : Fr E (fun i => i = E.p ∨ i = b) w.heap.size w _ _ [(b, .cells #[.int .i64 4, .int .i64 (E.pl a), .slice none 0 0, .slice (some ⟨ga, 0, none⟩) (mL + 1) ca, .slice Ab mB cb] 34)] _ := K4.out.set1 0 rfl 3 (.slice (some ⟨ga, 0, none⟩) (mL + 1) ca)
       refine ⟨((((((((y3.setCell ⟨b, 3, none⟩ (.slice (some ⟨ga, 0, none⟩) (mL + 1) ca)).setCell ⟨ga, mL * 7, none⟩ (.int .i64 k')).setCell ⟨ga, mL * 7 + 1, none⟩ (.int .i64 a')).setCell ⟨ga, mL * 7 + 2, none⟩ (.int .i64 n')).setCell ⟨ga, mL * 7 + 3, none⟩ (.string x')).setCell ⟨ga, mL * 7 + 4, none⟩ (.int .i64 op')).setCell ⟨ga, mL * 7 + 5, none⟩ (.slice Cl rl el)).setCell ⟨ga, mL * 7 + 6, none⟩ (.slice Cf rf ef)), hid (K5.setLast (N := mL) (own := (Value.slice Ab mB cb).ownBlock) [.r 3 23 w.heap.size (bk.map E.gl) (.slice Ab mB cb)] (K5.get (.head _)) (Nat.le_refl _) jL.out mLE.out (XR.keep (F := fun i => (Fp w.heap.size [(b, .cells #[.int .i64 4, .int .i64 (E.pl a), .slice none 0 0, .slice (some ⟨ga, 0, none⟩) (mL + 1) ca, .slice Ab mB cb] 34)] i ∧ some ga ≠ some i) ∧ (Value.slice Ab mB cb).ownBlock ≠ some i) (K5.get (.tail _ (.head _))) (fun _ _ _ => rfl) (Nat.le_refl _) (fun i hi _ => ⟨⟨hi.1.1, hi.2⟩, hi.1.2⟩)) (List.forall_mem_cons.2 ⟨K5.get (.tail _ (.tail _ (.head _))), fun _ h => by cases h⟩)), rfl, ?_⟩
       exact comm7 nbg _ _ _ _ _ _ _ _ _ _ _ _ _ _ _ _
      first | rw [← hy5.1] | rw [← hy5.2]
      clear hy5
      rw [← hAd]
      clear hAd K4 K3 nB HX hfr cbf lby mby z0 z1 z2 z3 z4 z5 z6 zf0 zf1 zf2 zf3 zf4 zf5 zf6 ba bb bc bd be fa fb fc fd fe nbg nbg2 XD KD h1
      generalize (Value.agg #[.int .i64 k', .int .i64 a', .int .i64 n', .string x', .int .i64 op', .slice Cl rl el, .slice Cf rf ef]) = va
      revert K6 y5 ga ca ad va
      exact HREST.out
    intro ad8 g8 c8 y8 K8 va8
    clear a0 a1 a2 a3 a4 f0 f1 f2 f3 f4 lb mb XC
    have go9 := hid (gS.out.by HH.out.2.1)
    obtain ⟨⟨a0, a1, a2, a3, a4⟩, ⟨f0, f1, f2, f3, f4⟩⟩ := cells5 (K8.out.blk _ (.head _))
    have lb := K8.out.lt (.head _)
    have mb := Nat.ne_of_lt lb
    go_wp2_with (first | (go_at_call 71; refine Hid.out ?_))
    refine hid ?_
    refine (take_is E HH.out.1 _ go9.out.2.1 (B [116, 104, 101, 110]) _ (K8.out).ps).mono ?_
    rintro e x10 ⟨rfl, h1, h2⟩
    have G11 := hid (show Fr E (fun i => i = E.p ∨ i = b) w.heap.size w x10 _ [(b, .cells #[.int .i64 4, .int .i64 (E.pl a), .slice none 0 0, .slice (some ⟨g8, 0, none⟩) (mL + 1) c8, .slice Ab mB cb] 34)] [.w (Value.slice Ab mB cb).ownBlock (.r 0 38 w.heap.size (((l.map E.gl) : T).snoc ((ex sa).1.map E.gl)) (.slice (some ⟨g8, 0, none⟩) (mL + 1) c8)), .w (some g8) (.r 3 23 w.heap.size (bk.map E.gl) (.slice Ab mB cb))] from (K8.out).call h1 h2)
    have go12 := hid (go9.out.take HH.out.1.ends (B [116, 104, 101, 110]))
    clear h1 h2
    clear a0 a1 a2 a3 a4 f0 f1 f2 f3 f4 lb mb
    obtain ⟨⟨a0, a1, a2, a3, a4⟩, ⟨f0, f1, f2, f3, f4⟩⟩ := cells5 (G11.out.blk _ (.head _))
    have lb := G11.out.lt (.head _)
    have mb := Nat.ne_of_lt lb
    have BC := hid (HH.out.2.2.2.2.1 (TP.take E.ts (B [116, 104, 101, 110]) (ex sa).2) _ go12.out.2.1 G11.out.drew.ps)
    go_wp2
    apply once2
    ·intro HREST
     go_region_law (first | (refine step_OF _ rfl _ _ 3 23 32 24 _ rfl und32 i23n rfl (by decide) (by decide) w.heap.size (fun i => Fp w.heap.size [(b, .cells #[.int .i64 4, .int .i64 (E.pl a), .slice none 0 0, .slice (some ⟨g8, 0, none⟩) (mL + 1) c8, .slice Ab mB cb] 34)] i ∧ (some g8) ≠ some i) (.slice Ab mB cb) (bk.map E.gl) mB mBE.out rfl (K3.out.get (.tail _ (.head _))) ((bl (TP.take E.ts (B [116, 104, 101, 110]) (ex sa).2)).1.map E.gl) [.slice A' n' c'] _ rfl nB.out HY.out hLN.out.2 K3.out.kp.size ⟨K3.out.fresh, hfr.out⟩ ?_; intro gb cb y3 h1 h2 h3; have K4 := hid (K3.out.appendedO (g := gb) [.r 0 38 w.heap.size (((l.map E.gl) : T).snoc ((ex sa).1.map E.gl)) (.slice (some ⟨g8, 0, none⟩) (mL + 1) c8)] (K3.out.get (.tail _ (.head _))) (List.forall_mem_cons.2 ⟨K3.out.get (.head _), fun _ h => by cases h⟩) (Nat.le_refl _) h2 h1 h3); obtain ⟨⟨ba, bb, bc, bd, be⟩, ⟨fa, fb, fc, fd, fe⟩⟩ := cells5 (K4.out.blk _ (.head _)); clear h1 h2 h3) | (go_simp; go_at_call 17; refine (BC.out).mono ?_; rintro e y2 ⟨v, rfl, hx, h1, h2⟩; obtain ⟨A', n', c', rfl⟩ := SL.form hx; have hxa := G11.out.drew.apart2 (it := .s 2 _ _) (o1 := (some g8)) (o2 := (Value.slice Ab mB cb).ownBlock) (G11.out.drew.ownlt (.head _)) (G11.out.drew.ownlt (.tail _ (.head _))) hx; have K2 := G11.out.drew.call h1 h2; have K3 := hid (K2.newF (.cells #[.slice A' n' c'] 23)); have nB := hid (heap_alloc_new y2 (.cells #[.slice A' n' c'] 23)); have HY := hid (EC.allocd (show EC y2 (fun i => (Fp w.heap.size [(b, .cells #[.int .i64 4, .int .i64 (E.pl a), .slice none 0 0, .slice (some ⟨g8, 0, none⟩) (mL + 1) c8, .slice Ab mB cb] 34)] i ∧ (some g8) ≠ some i) ∧ (Value.slice Ab mB cb).ownBlock ≠ some i) (.cons ((bl (TP.take E.ts (B [116, 104, 101, 110]) (ex sa).2)).1.map E.gl) .nil) 3 [.slice A' n' c'] from EC_bl.2 ⟨_, [], rfl, hxa, EC_nil.2 rfl⟩) (.cells #[.slice A' n' c'] 23)); have hfr := hid (show (some g8) ≠ some (y2.alloc (.cells #[.slice A' n' c'] 23)).heap.size from fun e => by have h9 := G11.out.ownlt (.head _) _ e; have h8 := h2.size; have h7 : (x10.drew).heap.size = x10.heap.size := rfl; rw [World.size_alloc] at h9; omega); have c4 := (cells5 (K2.blk _ (.head _))).1.2.2.2.2; have lby := K2.lt (.head _); have mby := Nat.ne_of_lt lby; obtain ⟨ad, hAd⟩ : ∃ ad, ad = y2.heap.size := ⟨_, rfl⟩; clear h1 h2 hx hxa K2))
     all_goals
      have K6 := hid (show Fr E (fun i => i = E.p ∨ i = b) w.heap.size w _ (bl (TP.take E.ts (B [116, 104, 101, 110]) (ex sa).2)).2 [(b, .cells #[.int .i64 4, .int .i64 (E.pl a), .slice none 0 0, .slice (some ⟨g8, 0, none⟩) (mL + 1) c8, .slice (some ⟨gb, 0, none⟩) (mB + 1) cb] 34)] [.w (some g8) (.r 3 23 w.heap.size (((bk.map E.gl) : T).snoc ((bl (TP.take E.ts (B [116, 104, 101, 110]) (ex sa).2)).1.map E.gl)) (.slice (some ⟨gb, 0, none⟩) (mB + 1) cb)), .w (some gb) (.r 0 38 w.heap.size (((l.map E.gl) : T).snoc ((ex sa).1.map E.gl)) (.slice (some ⟨g8, 0, none⟩) (mL + 1) c8))] from K4.out.set1 0 rfl 4 (.slice (some ⟨gb, 0, none⟩) (mB + 1) cb))
      rw [← hAd]
      clear hAd K4 K3 nB HY hfr c4 lby mby ba bb bc bd be fa fb fc fd fe
      generalize y3.setCell ⟨b, 4, none⟩ (.slice (some ⟨gb, 0, none⟩) (mB + 1) cb) = y5 at K6 ⊢
      generalize (Value.slice A' n' c') = va
      revert K6 y5 gb cb ad va
      exact HREST.out
    intro ad13 g13 c13 y13 K13 va13
    clear a0 a1 a2 a3 a4 f0 f1 f2 f3 f4 lb mb BC
    have go14 := hid (go12.out.by HH.out.2.2.1)
    have GM := hid (show (((l.map E.gl) : T).snoc ((ex sa).1.map E.gl)) = (l.snoc (ex sa).1).map E.gl ∧ (((bk.map E.gl) : T).snoc ((bl (TP.take E.ts (B [116, 104, 101, 110]) (ex sa).2)).1.map E.gl)) = (bk.snoc (bl (TP.take E.ts (B [116, 104, 101, 110]) (ex sa).2)).1).map E.gl from ⟨by rw [map_snoc E.gl _ iL.out], by rw [map_snoc E.gl _ iB.out]⟩)
    cases b_ei : isT E.ts (B [101, 108, 115, 101, 105, 102]) (bl (TP.take E.ts (B [116, 104, 101, 110]) (ex sa).2)).2 with
    | true =>
     have P3 := P2.out
     rw [if_pos b_ei] at P3
     have P4 := hid P3
     clear P3
     have hC := hid (is_adv HH.out.1.ends go14.out.2.1 b_ei)
     obtain ⟨⟨a0, a1, a2, a3, a4⟩, ⟨f0, f1, f2, f3, f4⟩⟩ := cells5 (K13.out.blk _ (.head _))
     have lb := K13.out.lt (.head _)
     have mb := Nat.ne_of_lt lb
     go_wp2_with (first | (go_at_call 48; refine Hid.out ?_))
     refine hid ?_
     refine (opt_yes E HH.out.1 _ go14.out.2.1 (B [101, 108, 115, 101, 105, 102]) b_ei _ (K13.out).ps).mono ?_
     rintro e x15 ⟨rfl, h1, h2⟩
     have KZ := K13.out.call h1 h2
     have KW := KZ.with [.w (Value.slice (some ⟨g13, 0, none⟩) (mB + 1) c13).ownBlock (.r 0 38 w.heap.size (((l.map E.gl) : T).snoc ((ex sa).1.map E.gl)) (.slice (some ⟨g8, 0, none⟩) (mL + 1) c8)), .w (Value.slice (some ⟨g8, 0, none⟩) (mL + 1) c8).ownBlock (.r 3 23 w.heap.size (((bk.map E.gl) : T).snoc ((bl (TP.take E.ts (B [116, 104, 101, 110]) (ex sa).2)).1.map E.gl)) (.slice (some ⟨g13, 0, none⟩) (mB + 1) c13))] (List.forall_mem_cons.2 ⟨KZ.get (.tail _ (.head _)), List.forall_mem_cons.2 ⟨KZ.get (.head _), fun _ h => by cases h⟩⟩)
     rw [GM.out.1, GM.out.2] at KW
     have KV := hid KW
     clear KW KZ h1 h2
     clear a0 a1 a2 a3 a4 f0 f1 f2 f3 f4 lb mb
     go_wp2
     exact ⟨hid ⟨fa', _, _, _, mL + 1, _, _, mB + 1, _, _, by have := PP.out; have := hC.out.1; have := go14.out.1; have e : (adv (bl (TP.take E.ts (B [116, 104, 101, 110]) (ex sa).2)).2).i = (bl (TP.take E.ts (B [116, 104, 101, 110]) (ex sa).2)).2.i + 1 := rfl; omega, P4.out, hC.out.2.1, isList_snoc _ iL.out, isList_snoc _ iB.out, by rw [len_snoc _ iL.out, hlen.out.1], by rw [len_snoc _ iB.out, hlen.out.2], by have := PP.out; have := hC.out.1; have := go14.out.1; have e : (adv (bl (TP.take E.ts (B [116, 104, 101, 110]) (ex sa).2)).2).i = (bl (TP.take E.ts (B [116, 104, 101, 110]) (ex sa).2)).2.i + 1 := rfl; omega, by have := PP.out; have := hC.out.1; have := go14.out.1; have e : (adv (bl (TP.take E.ts (B [116, 104, 101, 110]) (ex sa).2)).2).i = (bl (TP.take E.ts (B [116, 104, 101, 110]) (ex sa).2)).2.i + 1 := rfl; omega, by have := PP.out; have := hC.out.1; have := go14.out.1; have e : (adv (bl (TP.take E.ts (B [116, 104, 101, 110]) (ex sa).2)).2).i = (bl (TP.take E.ts (B [116, 104, 101, 110]) (ex sa).2)).2.i + 1 := rfl; omega, KV.out⟩, by rw [PA, KV.out.ps.pos]; have := hC.out.2.1; have := PP.out; have := hC.out.1; have := go14.out.1; have e : (adv (bl (TP.take E.ts (B [116, 104, 101, 110]) (ex sa).2)).2).i = (bl (TP.take E.ts (B [116, 104, 101, 110]) (ex sa).2)).2.i + 1 := rfl; omega⟩
    | false =>
     have P3 := P2.out
     rw [if_neg (by rw [b_ei]; decide)] at P3
     subst P3
     obtain ⟨⟨a0, a1, a2, a3, a4⟩, ⟨f0, f1, f2, f3, f4⟩⟩ := cells5 (K13.out.blk _ (.head _))
     have lb := K13.out.lt (.head _)
     have mb := Nat.ne_of_lt lb
     go_wp2_with (first | (go_at_call 48; refine Hid.out ?_))
     refine hid ?_
     refine (opt_no E HH.out.1 _ go14.out.2.1 (B [101, 108, 115, 101, 105, 102]) b_ei _ (K13.out).ps).mono ?_
     rintro e x15 ⟨rfl, h1, h2⟩
     have G16 := hid (show Fr E (fun i => i = E.p ∨ i = b) w.heap.size w x15 _ [(b, .cells #[.int .i64 4, .int .i64 (E.pl a), .slice none 0 0, .slice (some ⟨g8, 0, none⟩) (mL + 1) c8, .slice (some ⟨g13, 0, none⟩) (mB + 1) c13] 34)] [.w (some g8) (.r 3 23 w.heap.size (((bk.map E.gl) : T).snoc ((bl (TP.take E.ts (B [116, 104, 101, 110]) (ex sa).2)).1.map E.gl)) (.slice (some ⟨g13, 0, none⟩) (mB + 1) c13)), .w (some g13) (.r 0 38 w.heap.size (((l.map E.gl) : T).snoc ((ex sa).1.map E.gl)) (.slice (some ⟨g8, 0, none⟩) (mL + 1) c8))] from (K13.out).call h1 h2)
     clear h1 h2
     clear a0 a1 a2 a3 a4 f0 f1 f2 f3 f4 lb mb
     have q := q0.out
     have mBF := hid (show ((((bk.map E.gl) : T).snoc ((bl (TP.take E.ts (B [116, 104, 101, 110]) (ex sa).2)).1.map E.gl)) : T).len = mB + 1 from by rw [len_snoc _ jB.out, mBE.out])
     have hLM := hid (show mB + 1 ≤ 100000 from by have := PP.out; have := HH.out.1.len; omega)
     cases b_el : isT E.ts (B [101, 108, 115, 101]) (bl (TP.take E.ts (B [116, 104, 101, 110]) (ex sa).2)).2 with
     | true =>
      rw [if_pos b_el] at q
      subst q
      obtain ⟨⟨a0, a1, a2, a3, a4⟩, ⟨f0, f1, f2, f3, f4⟩⟩ := cells5 (G16.out.blk _ (.head _))
      have lb := G16.out.lt (.head _)
      have mb := Nat.ne_of_lt lb
      go_wp2_with (first | (go_at_call 48; refine Hid.out ?_))
      refine hid ?_
      refine (opt_yes E HH.out.1 _ go14.out.2.1 (B [101, 108, 115, 101]) b_el _ (G16.out).ps).mono ?_
      rintro e x17 ⟨rfl, h1, h2⟩
      have G18 := hid (show Fr E (fun i => i = E.p ∨ i = b) w.heap.size w x17 _ [(b, .cells #[.int .i64 4, .int .i64 (E.pl a), .slice none 0 0, .slice (some ⟨g8, 0, none⟩) (mL + 1) c8, .slice (some ⟨g13, 0, none⟩) (mB + 1) c13] 34)] [.w (some g8) (.r 3 23 w.heap.size (((bk.map E.gl) : T).snoc ((bl (TP.take E.ts (B [116, 104, 101, 110]) (ex sa).2)).1.map E.gl)) (.slice (some ⟨g13, 0, none⟩) (mB + 1) c13)), .w (some g13) (.r 0 38 w.heap.size (((l.map E.gl) : T).snoc ((ex sa).1.map E.gl)) (.slice (some ⟨g8, 0, none⟩) (mL + 1) c8))] from (G16.out).call h1 h2)
      clear h1 h2
      clear a0 a1 a2 a3 a4 f0 f1 f2 f3 f4 lb mb
      have go19 := hid (go14.out.is HH.out.1.ends b_el)
      obtain ⟨⟨a0, a1, a2, a3, a4⟩, ⟨f0, f1, f2, f3, f4⟩⟩ := cells5 (G18.out.blk _ (.head _))
      have lb := G18.out.lt (.head _)
      have mb := Nat.ne_of_lt lb
      have BC := hid (HH.out.2.2.2.2.1 (adv (bl (TP.take E.ts (B [116, 104, 101, 110]) (ex sa).2)).2) _ go19.out.2.1 G18.out.drew.ps)
      go_wp2
      apply once2
      ·intro HREST
       go_region_law (first | (refine step_OF _ rfl _ _ 3 23 32 24 _ rfl und32 i23n rfl (by decide) (by decide) w.heap.size (fun i => Fp w.heap.size [(b, .cells #[.int .i64 4, .int .i64 (E.pl a), .slice none 0 0, .slice (some ⟨g8, 0, none⟩) (mL + 1) c8, .slice (some ⟨g13, 0, none⟩) (mB + 1) c13] 34)] i ∧ (some g8) ≠ some i) (.slice (some ⟨g13, 0, none⟩) (mB + 1) c13) (((bk.map E.gl) : T).snoc ((bl (TP.take E.ts (B [116, 104, 101, 110]) (ex sa).2)).1.map E.gl)) (mB + 1) mBF.out rfl (K3.out.get (.head _)) ((bl (adv (bl (TP.take E.ts (B [116, 104, 101, 110]) (ex sa).2)).2)).1.map E.gl) [.slice A' n' c'] _ rfl nB.out HY.out hLM.out K3.out.kp.size ⟨K3.out.fresh, hfr.out⟩ ?_; intro gb cb y3 h1 h2 h3; have K4 := hid (K3.out.appendedO (g := gb) [.r 0 38 w.heap.size (((l.map E.gl) : T).snoc ((ex sa).1.map E.gl)) (.slice (some ⟨g8, 0, none⟩) (mL + 1) c8)] (K3.out.get (.head _)) (List.forall_mem_cons.2 ⟨K3.out.get (.tail _ (.head _)), fun _ h => by cases h⟩) (Nat.le_refl _) h2 h1 h3); obtain ⟨⟨ba, bb, bc, bd, be⟩, ⟨fa, fb, fc, fd, fe⟩⟩ := cells5 (K4.out.blk _ (.head _)); clear h1 h2 h3) | (go_simp; go_at_call 17; refine (BC.out).mono ?_; rintro e y2 ⟨v, rfl, hx, h1, h2⟩; obtain ⟨A', n', c', rfl⟩ := SL.form hx; have hxa := G18.out.drew.apart2 (it := .s 2 _ _) (o1 := (some g8)) (o2 := (some g13)) (G18.out.drew.ownlt (.tail _ (.head _))) (G18.out.drew.ownlt (.head _)) hx; have K2 := G18.out.drew.call h1 h2; have K3 := hid (K2.newF (.cells #[.slice A' n' c'] 23)); have nB := hid (heap_alloc_new y2 (.cells #[.slice A' n' c'] 23)); have HY := hid (EC.allocd (show EC y2 (fun i => (Fp w.heap.size [(b, .cells #[.int .i64 4, .int .i64 (E.pl a), .slice none 0 0, .slice (some ⟨g8, 0, none⟩) (mL + 1) c8, .slice (some ⟨g13, 0, none⟩) (mB + 1) c13] 34)] i ∧ (some g8) ≠ some i) ∧ (some g13) ≠ some i) (.cons ((bl (adv (bl (TP.take E.ts (B [116, 104, 101, 110]) (ex sa).2)).2)).1.map E.gl) .nil) 3 [.slice A' n' c'] from EC_bl.2 ⟨_, [], rfl, hxa, EC_nil.2 rfl⟩) (.cells #[.slice A' n' c'] 23)); have hfr := hid (show (some g8) ≠ some (y2.alloc (.cells #[.slice A' n' c'] 23)).heap.size from fun e => by have h9 := G18.out.ownlt (.tail _ (.head _)) _ e; have h8 := h2.size; have h7 : (x17.drew).heap.size = x17.heap.size := rfl; rw [World.size_alloc] at h9; omega); have c4 := (cells5 (K2.blk _ (.head _))).1.2.2.2.2; have lby := K2.lt (.head _); have mby := Nat.ne_of_lt lby; obtain ⟨ad, hAd⟩ : ∃ ad, ad = y2.heap.size := ⟨_, rfl⟩; clear h1 h2 hx hxa K2))
       all_goals
        have K6 := hid (show Fr E (fun i => i = E.p ∨ i = b) w.heap.size w _ (bl (adv (bl (TP.take E.ts (B [116, 104, 101, 110]) (ex sa).2)).2)).2 [(b, .cells #[.int .i64 4, .int .i64 (E.pl a), .slice none 0 0, .slice (some ⟨g8, 0, none⟩) (mL + 1) c8, .slice (some ⟨gb, 0, none⟩) ((mB + 1) + 1) cb] 34)] [.w (some g8) (.r 3 23 w.heap.size (((((bk.map E.gl) : T).snoc ((bl (TP.take E.ts (B [116, 104, 101, 110]) (ex sa).2)).1.map E.gl)) : T).snoc ((bl (adv (bl (TP.take E.ts (B [116, 104, 101, 110]) (ex sa).2)).2)).1.map E.gl)) (.slice (some ⟨gb, 0, none⟩) ((mB + 1) + 1) cb)), .w (some gb) (.r 0 38 w.heap.size (((l.map E.gl) : T).snoc ((ex sa).1.map E.gl)) (.slice (some ⟨g8, 0, none⟩) (mL + 1) c8))] from K4.out.set1 0 rfl 4 (.slice (some ⟨gb, 0, none⟩) ((mB + 1) + 1) cb))
        rw [← hAd]
        clear hAd K4 K3 nB HY hfr c4 lby mby ba bb bc bd be fa fb fc fd fe
        generalize y3.setCell ⟨b, 4, none⟩ (.slice (some ⟨gb, 0, none⟩) ((mB + 1) + 1) cb) = y5 at K6 ⊢
        generalize (Value.slice A' n' c') = va
        revert K6 y5 gb cb ad va
        exact HREST.out
      intro ad20 g20 c20 y20 K20 va20
      clear a0 a1 a2 a3 a4 f0 f1 f2 f3 f4 lb mb BC
      have go21 := hid (go19.out.by HH.out.2.2.1)
      have GM2 := hid (show (((((bk.map E.gl) : T).snoc ((bl (TP.take E.ts (B [116, 104, 101, 110]) (ex sa).2)).1.map E.gl)) : T).snoc ((bl (adv (bl (TP.take E.ts (B [116, 104, 101, 110]) (ex sa).2)).2)).1.map E.gl)) = ((bk.snoc (bl (TP.take E.ts (B [116, 104, 101, 110]) (ex sa).2)).1).snoc (bl (adv (bl (TP.take E.ts (B [116, 104, 101, 110]) (ex sa).2)).2)).1).map E.gl from by rw [GM.out.2, ← map_snoc E.gl _ (isList_snoc _ iB.out)])
      obtain ⟨⟨a0, a1, a2, a3, a4⟩, ⟨f0, f1, f2, f3, f4⟩⟩ := cells5 (K20.out.blk _ (.head _))
      have lb := K20.out.lt (.head _)
      have mb := Nat.ne_of_lt lb
      go_wp2_with (first | (go_at_call 71; refine Hid.out ?_))
      refine hid ?_
      refine (take_is E HH.out.1 _ go21.out.2.1 (B [101, 110, 100]) _ (K20.out).ps).mono ?_
      rintro e x22 ⟨rfl, h1, h2⟩
      have G23 := hid (show Fr E (fun i => i = E.p ∨ i = b) w.heap.size w x22 _ [(b, .cells #[.int .i64 4, .int .i64 (E.pl a), .slice none 0 0, .slice (some ⟨g8, 0, none⟩) (mL + 1) c8, .slice (some ⟨g20, 0, none⟩) ((mB + 1) + 1) c20] 34)] [.w (some g8) (.r 3 23 w.heap.size (((((bk.map E.gl) : T).snoc ((bl (TP.take E.ts (B [116, 104, 101, 110]) (ex sa).2)).1.map E.gl)) : T).snoc ((bl (adv (bl (TP.take E.ts (B [116, 104, 101, 110]) (ex sa).2)).2)).1.map E.gl)) (.slice (some ⟨g20, 0, none⟩) ((mB + 1) + 1) c20)), .w (some g20) (.r 0 38 w.heap.size (((l.map E.gl) : T).snoc ((ex sa).1.map E.gl)) (.slice (some ⟨g8, 0, none⟩) (mL + 1) c8))] from (K20.out).call h1 h2)
      have go24 := hid (go21.out.take HH.out.1.ends (B [101, 110, 100]))
      clear h1 h2
      clear a0 a1 a2 a3 a4 f0 f1 f2 f3 f4 lb mb
      obtain ⟨⟨a0, a1, a2, a3, a4⟩, ⟨f0, f1, f2, f3, f4⟩⟩ := cells5 (G23.out.blk _ (.head _))
      have lb := G23.out.lt (.head _)
      have mb := Nat.ne_of_lt lb
      go_wp2
      first | go_end0 | refine bodyPost_ret (results_none rfl _ _ _) rfl ?_
      exact ⟨rfl, StP.mk rfl (G23.out.blk _ (.head _)) (.inl ⟨rfl, rfl⟩) (by rw [← GM.out.1]; exact SL.keep (fun _ _ _ => rfl) (Nat.le_refl _) (fun i hi _ => hi.1.1) _ _ _ (OF.sl (show OF _ _ _ _ (fun i => Fp w.heap.size _ i ∧ _) _ _ from G23.out.get (.tail _ (.head _))))) (by rw [← GM2.out]; exact SL.keep (fun _ _ _ => rfl) (Nat.le_refl _) (fun i hi _ => hi.1.1) _ _ _ (OF.sl (show OF _ _ _ _ (fun i => Fp w.heap.size _ i ∧ _) _ _ from G23.out.get (.head _)))) G23.out.ps G23.out.finS⟩
     | false =>
      rw [if_neg (by rw [b_el]; decide)] at q
      subst q
      obtain ⟨⟨a0, a1, a2, a3, a4⟩, ⟨f0, f1, f2, f3, f4⟩⟩ := cells5 (G16.out.blk _ (.head _))
      have lb := G16.out.lt (.head _)
      have mb := Nat.ne_of_lt lb
      go_wp2_with (first | (go_at_call 48; refine Hid.out ?_))
      refine hid ?_
      refine (opt_no E HH.out.1 _ go14.out.2.1 (B [101, 108, 115, 101]) b_el _ (G16.out).ps).mono ?_
      rintro e x17 ⟨rfl, h1, h2⟩
      have G18 := hid (show Fr E (fun i => i = E.p ∨ i = b) w.heap.size w x17 _ [(b, .cells #[.int .i64 4, .int .i64 (E.pl a), .slice none 0 0, .slice (some ⟨g8, 0, none⟩) (mL + 1) c8, .slice (some ⟨g13, 0, none⟩) (mB + 1) c13] 34)] [.w (some g8) (.r 3 23 w.heap.size (((bk.map E.gl) : T).snoc ((bl (TP.take E.ts (B [116, 104, 101, 110]) (ex sa).2)).1.map E.gl)) (.slice (some ⟨g13, 0, none⟩) (mB + 1) c13)), .w (some g13) (.r 0 38 w.heap.size (((l.map E.gl) : T).snoc ((ex sa).1.map E.gl)) (.slice (some ⟨g8, 0, none⟩) (mL + 1) c8))] from (G16.out).call h1 h2)
      clear h1 h2
      clear a0 a1 a2 a3 a4 f0 f1 f2 f3 f4 lb mb
      obtain ⟨⟨a0, a1, a2, a3, a4⟩, ⟨f0, f1, f2, f3, f4⟩⟩ := cells5 (G18.out.blk _ (.head _))
      have lb := G18.out.lt (.head _)
      have mb := Nat.ne_of_lt lb
      go_wp2_with (first | (go_at_call 71; refine Hid.out ?_))
      refine hid ?_
      refine (take_is E HH.out.1 _ go14.out.2.1 (B [101, 110, 100]) _ (G18.out).ps).mono ?_
      rintro e x19 ⟨rfl, h1, h2⟩
      have G20 := hid (show Fr E (fun i => i = E.p ∨ i = b) w.heap.size w x19 _ [(b, .cells #[.int .i64 4, .int .i64 (E.pl a), .slice none 0 0, .slice (some ⟨g8, 0, none⟩) (mL + 1) c8, .slice (some ⟨g13, 0, none⟩) (mB + 1) c13] 34)] [.w (some g8) (.r 3 23 w.heap.size (((bk.map E.gl) : T).snoc ((bl (TP.take E.ts (B [116, 104, 101, 110]) (ex sa).2)).1.map E.gl)) (.slice (some ⟨g13, 0, none⟩) (mB + 1) c13)), .w (some g13) (.r 0 38 w.heap.size (((l.map E.gl) : T).snoc ((ex sa).1.map E.gl)) (.slice (some ⟨g8, 0, none⟩) (mL + 1) c8))] from (G18.out).call h1 h2)
      have go21 := hid (go14.out.take HH.out.1.ends (B [101, 110, 100]))
      clear h1 h2
      clear a0 a1 a2 a3 a4 f0 f1 f2 f3 f4 lb mb
      obtain ⟨⟨a0, a1, a2, a3, a4⟩, ⟨f0, f1, f2, f3, f4⟩⟩ := cells5 (G20.out.blk _ (.head _))
      have lb := G20.out.lt (.head _)
      have mb := Nat.ne_of_lt lb
      go_wp2
      first | go_end0 | refine bodyPost_ret (results_none rfl _ _ _) rfl ?_
      exact ⟨rfl, StP.mk rfl (G20.out.blk _ (.head _)) (.inl ⟨rfl, rfl⟩) (by rw [← GM.out.1]; exact SL.keep (fun _ _ _ => rfl) (Nat.le_refl _) (fun i hi _ => hi.1.1) _ _ _ (OF.sl (show OF _ _ _ _ (fun i => Fp w.heap.size _ i ∧ _) _ _ from G20.out.get (.tail _ (.head _))))) (by rw [← GM.out.2]; exact SL.keep (fun _ _ _ => rfl) (Nat.le_refl _) (fun i hi _ => hi.1.1) _ _ _ (OF.sl (show OF _ _ _ _ (fun i => Fp w.heap.size _ i ∧ _) _ _ from G20.out.get (.head _)))) G20.out.ps G20.out.finS⟩
  | false =>
   rw [if_neg (by rw [b_if]; decide)] at q
   obtain ⟨⟨a0, a1, a2, a3, a4⟩, ⟨f0, f1, f2, f3, f4⟩⟩ := cells5 (G2.out.blk _ (.head _))
   have lb := G2.out.lt (.head _)
   have mb := Nat.ne_of_lt lb
   go_wp2_with (first | (go_at_call 48; refine Hid.out ?_))
   refine hid ?_
   refine (opt_no E HH.out.1 _ go0.out.2.1 (B [105, 102]) b_if _ (G2.out).ps).mono ?_
   rintro e x3 ⟨rfl, h1, h2⟩
   have G4 := hid (show Fr E (fun i => i = E.p ∨ i = b) w.heap.size w x3 _ [(b, .cells #[.int .i64 0, .int .i64 (E.pl a), .slice none 0 0, .slice none 0 0, .slice none 0 0] 34)] [] from (G2.out).call h1 h2)
   clear h1 h2
   clear a0 a1 a2 a3 a4 f0 f1 f2 f3 f4 lb mb
   cases b_while : isT E.ts (B [119, 104, 105, 108, 101]) s with
   | true =>
    rw [if_pos b_while] at q
    subst q
    obtain ⟨⟨a0, a1, a2, a3, a4⟩, ⟨f0, f1, f2, f3, f4⟩⟩ := cells5 (G4.out.blk _ (.head _))
    have lb := G4.out.lt (.head _)
    have mb := Nat.ne_of_lt lb
    go_wp2_with (first | (go_at_call 48; refine Hid.out ?_))
    refine hid ?_
    refine (opt_yes E HH.out.1 _ go0.out.2.1 (B [119, 104, 105, 108, 101]) b_while _ (G4.out).ps).mono ?_
    rintro e x5 ⟨rfl, h1, h2⟩
    have G6 := hid (show Fr E (fun i => i = E.p ∨ i = b) w.heap.size w x5 _ [(b, .cells #[.int .i64 0, .int .i64 (E.pl a), .slice none 0 0, .slice none 0 0, .slice none 0 0] 34)] [] from (G4.out).call h1 h2)
    clear h1 h2
    clear a0 a1 a2 a3 a4 f0 f1 f2 f3 f4 lb mb
    have go7 := hid (go0.out.is HH.out.1.ends b_while)
    obtain ⟨⟨a0, a1, a2, a3, a4⟩, ⟨f0, f1, f2, f3, f4⟩⟩ := cells5 (G6.out.blk _ (.head _))
    have lb := G6.out.lt (.head _)
    have mb := Nat.ne_of_lt lb
    go_wp2_with (first | (go_at_call 50; refine Hid.out ?_))
    refine hid ?_
    refine (HH.out.2.2.2.1 (adv s) _ go7.out.2.1 (G6.out).ps).mono ?_
    rintro e x8 ⟨v, rfl, hx, h1, h2⟩
    obtain ⟨k', a', n', x', op', Cl, rl, el, Cf, rf, ef, rfl⟩ := hx.form
    have G9 := hid (show Fr E (fun i => i = E.p ∨ i = b) w.heap.size w x8 _ [(b, .cells #[.int .i64 0, .int .i64 (E.pl a), .slice none 0 0, .slice none 0 0, .slice none 0 0] 34)] [.x ((ex (adv s)).1.map E.gl) (.agg #[.int .i64 k', .int .i64 a', .int .i64 n', .string x', .int .i64 op', .slice Cl rl el, .slice Cf rf ef])] from (G6.out).callI h1 h2 (it := .x _ _) hx)
    have go10 := hid (go7.out.by HH.out.2.1)
    clear h1 h2 hx
    clear a0 a1 a2 a3 a4 f0 f1 f2 f3 f4 lb mb
    obtain ⟨⟨a0, a1, a2, a3, a4⟩, ⟨f0, f1, f2, f3, f4⟩⟩ := cells5 (G9.out.blk _ (.head _))
    have lb := G9.out.lt (.head _)
    have mb := Nat.ne_of_lt lb
    go_wp2_with (first | (go_at_call 71; refine Hid.out ?_))
    refine hid ?_
    have P11 : Fr E (fun i => i = E.p ∨ i = b) w.heap.size w _ _ [(b, .cells #[.int .i64 5, .int .i64 (E.pl a), .slice none 0 0, .slice (some ⟨x8.heap.size, 0, none⟩) 1 1, .slice none 0 0] 34)] [.x ((ex (adv s)).1.map E.gl) (.agg #[.int .i64 k', .int .i64 a', .int .i64 n', .string x', .int .i64 op', .slice Cl rl el, .slice Cf rf ef])] := ((G9.out).set1 0 rfl 0 (.int .i64 5)).set1 0 rfl 3 (.slice (some ⟨x8.heap.size, 0, none⟩) 1 1)
    have P12 : Fr E (fun i => i = E.p ∨ i = b) w.heap.size w _ _ [(b, .cells #[.int .i64 5, .int .i64 (E.pl a), .slice none 0 0, .slice (some ⟨x8.heap.size, 0, none⟩) 1 1, .slice none 0 0] 34)] [.s 0 (.cons ((ex (adv s)).1.map E.gl) .nil) (.slice (some ⟨x8.heap.size, 0, none⟩) 1 1), .x ((ex (adv s)).1.map E.gl) (.agg #[.int .i64 k', .int .i64 a', .int .i64 n', .string x', .int .i64 op', .slice Cl rl el, .slice Cf rf ef])] := P11.litA (e := 38) (b := x8.heap.size) (by simp [World.setCell]) (n := 1) (by intro e; cases e) rfl (by decide) (XR.ec1 (P11.get (.head _)))
    refine (take_is E HH.out.1 _ go10.out.2.1 (B [100, 111]) _ (P12).ps).mono ?_
    rintro e x13 ⟨rfl, h1, h2⟩
    have G14 := hid (show Fr E (fun i => i = E.p ∨ i = b) w.heap.size w x13 _ [(b, .cells #[.int .i64 5, .int .i64 (E.pl a), .slice none 0 0, .slice (some ⟨x8.heap.size, 0, none⟩) 1 1, .slice none 0 0] 34)] [.s 0 (.cons ((ex (adv s)).1.map E.gl) .nil) (.slice (some ⟨x8.heap.size, 0, none⟩) 1 1), .x ((ex (adv s)).1.map E.gl) (.agg #[.int .i64 k', .int .i64 a', .int .i64 n', .string x', .int .i64 op', .slice Cl rl el, .slice Cf rf ef])] from (P12).call h1 h2)
    have go15 := hid (go10.out.take HH.out.1.ends (B [100, 111]))
    clear h1 h2
    clear a0 a1 a2 a3 a4 f0 f1 f2 f3 f4 lb mb
    obtain ⟨⟨a0, a1, a2, a3, a4⟩, ⟨f0, f1, f2, f3, f4⟩⟩ := cells5 (G14.out.blk _ (.head _))
    have lb := G14.out.lt (.head _)
    have mb := Nat.ne_of_lt lb
    go_wp2_with (first | (go_at_call 17; refine Hid.out ?_))
    refine hid ?_
    refine (HH.out.2.2.2.2.1 (TP.take E.ts (B [100, 111]) (ex (adv s)).2) _ go15.out.2.1 (G14.out).ps).mono ?_
    rintro e x16 ⟨v, rfl, hx, h1, h2⟩
    obtain ⟨Ab, nb, cb, rfl⟩ := hx.form
    have G17 := hid (show Fr E (fun i => i = E.p ∨ i = b) w.heap.size w x16 _ [(b, .cells #[.int .i64 5, .int .i64 (E.pl a), .slice none 0 0, .slice (some ⟨x8.heap.size, 0, none⟩) 1 1, .slice none 0 0] 34)] [.s 2 ((bl (TP.take E.ts (B [100, 111]) (ex (adv s)).2)).1.map E.gl) (.slice Ab nb cb), .s 0 (.cons ((ex (adv s)).1.map E.gl) .nil) (.slice (some ⟨x8.heap.size, 0, none⟩) 1 1), .x ((ex (adv s)).1.map E.gl) (.agg #[.int .i64 k', .int .i64 a', .int .i64 n', .string x', .int .i64 op', .slice Cl rl el, .slice Cf rf ef])] from (G14.out).callI h1 h2 (it := .s 2 _ _) hx)
    have go18 := hid (go15.out.by HH.out.2.2.1)
    clear h1 h2 hx
    clear a0 a1 a2 a3 a4 f0 f1 f2 f3 f4 lb mb
    obtain ⟨⟨a0, a1, a2, a3, a4⟩, ⟨f0, f1, f2, f3, f4⟩⟩ := cells5 (G17.out.blk _ (.head _))
    have lb := G17.out.lt (.head _)
    have mb := Nat.ne_of_lt lb
    go_wp2_with (first | (go_at_call 71; refine Hid.out ?_))
    refine hid ?_
    have P19 : Fr E (fun i => i = E.p ∨ i = b) w.heap.size w _ _ [(b, .cells #[.int .i64 5, .int .i64 (E.pl a), .slice none 0 0, .slice (some ⟨x8.heap.size, 0, none⟩) 1 1, .slice (some ⟨x16.heap.size, 0, none⟩) 1 1] 34)] [.s 2 ((bl (TP.take E.ts (B [100, 111]) (ex (adv s)).2)).1.map E.gl) (.slice Ab nb cb), .s 0 (.cons ((ex (adv s)).1.map E.gl) .nil) (.slice (some ⟨x8.heap.size, 0, none⟩) 1 1), .x ((ex (adv s)).1.map E.gl) (.agg #[.int .i64 k', .int .i64 a', .int .i64 n', .string x', .int .i64 op', .slice Cl rl el, .slice Cf rf ef])] := (G17.out).set1 0 rfl 4 (.slice (some ⟨x16.heap.size, 0, none⟩) 1 1)
    have P20 : Fr E (fun i => i = E.p ∨ i = b) w.heap.size w _ _ [(b, .cells #[.int .i64 5, .int .i64 (E.pl a), .slice none 0 0, .slice (some ⟨x8.heap.size, 0, none⟩) 1 1, .slice (some ⟨x16.heap.size, 0, none⟩) 1 1] 34)] [.s 3 (.cons ((bl (TP.take E.ts (B [100, 111]) (ex (adv s)).2)).1.map E.gl) .nil) (.slice (some ⟨x16.heap.size, 0, none⟩) 1 1), .s 2 ((bl (TP.take E.ts (B [100, 111]) (ex (adv s)).2)).1.map E.gl) (.slice Ab nb cb), .s 0 (.cons ((ex (adv s)).1.map E.gl) .nil) (.slice (some ⟨x8.heap.size, 0, none⟩) 1 1), .x ((ex (adv s)).1.map E.gl) (.agg #[.int .i64 k', .int .i64 a', .int .i64 n', .string x', .int .i64 op', .slice Cl rl el, .slice Cf rf ef])] := P19.litA (e := 23) (b := x16.heap.size) (by simp [World.setCell]) (n := 1) (by intro e; cases e) rfl (by decide) (EC_bl.2 ⟨_, [], rfl, P19.get (.head _), EC_nil.2 rfl⟩)
    refine (take_is E HH.out.1 _ go18.out.2.1 (B [101, 110, 100]) _ (P20).ps).mono ?_
    rintro e x21 ⟨rfl, h1, h2⟩
    have G22 := hid (show Fr E (fun i => i = E.p ∨ i = b) w.heap.size w x21 _ [(b, .cells #[.int .i64 5, .int .i64 (E.pl a), .slice none 0 0, .slice (some ⟨x8.heap.size, 0, none⟩) 1 1, .slice (some ⟨x16.heap.size, 0, none⟩) 1 1] 34)] [.s 3 (.cons ((bl (TP.take E.ts (B [100, 111]) (ex (adv s)).2)).1.map E.gl) .nil) (.slice (some ⟨x16.heap.size, 0, none⟩) 1 1), .s 2 ((bl (TP.take E.ts (B [100, 111]) (ex (adv s)).2)).1.map E.gl) (.slice Ab nb cb), .s 0 (.cons ((ex (adv s)).1.map E.gl) .nil) (.slice (some ⟨x8.heap.size, 0, none⟩) 1 1), .x ((ex (adv s)).1.map E.gl) (.agg #[.int .i64 k', .int .i64 a', .int .i64 n', .string x', .int .i64 op', .slice Cl rl el, .slice Cf rf ef])] from (P20).call h1 h2)
    have go23 := hid (go18.out.take HH.out.1.ends (B [101, 110, 100]))
    clear h1 h2
    clear a0 a1 a2 a3 a4 f0 f1 f2 f3 f4 lb mb
    obtain ⟨⟨a0, a1, a2, a3, a4⟩, ⟨f0, f1, f2, f3, f4⟩⟩ := cells5 (G22.out.blk _ (.head _))
    have lb := G22.out.lt (.head _)
    have mb := Nat.ne_of_lt lb
    go_wp2
    first | go_end0 | refine bodyPost_ret (results_none rfl _ _ _) rfl ?_
    exact ⟨rfl, StP.mk rfl ((G22.out).blk _ (.head _)) (.inl ⟨rfl, rfl⟩) (SL.keep (fun _ _ _ => rfl) (Nat.le_refl _) (fun i hi _ => hi.1) _ _ _ ((G22.out).get (.tail _ (.tail _ (.head _))))) (SL.keep (fun _ _ _ => rfl) (Nat.le_refl _) (fun i hi _ => hi.1) _ _ _ ((G22.out).get (.head _))) (G22.out).ps (G22.out).finS⟩
   | false =>
    rw [if_neg (by rw [b_while]; decide)] at q
    obtain ⟨⟨a0, a1, a2, a3, a4⟩, ⟨f0, f1, f2, f3, f4⟩⟩ := cells5 (G4.out.blk _ (.head _))
    have lb := G4.out.lt (.head _)
    have mb := Nat.ne_of_lt lb
    go_wp2_with (first | (go_at_call 48; refine Hid.out ?_))
    refine hid ?_
    refine (opt_no E HH.out.1 _ go0.out.2.1 (B [119, 104, 105, 108, 101]) b_while _ (G4.out).ps).mono ?_
    rintro e x5 ⟨rfl, h1, h2⟩
    have G6 := hid (show Fr E (fun i => i = E.p ∨ i = b) w.heap.size w x5 _ [(b, .cells #[.int .i64 0, .int .i64 (E.pl a), .slice none 0 0, .slice none 0 0, .slice none 0 0] 34)] [] from (G4.out).call h1 h2)
    clear h1 h2
    clear a0 a1 a2 a3 a4 f0 f1 f2 f3 f4 lb mb
    cases b_repeat : isT E.ts (B [114, 101, 112, 101, 97, 116]) s with
    | true =>
     rw [if_pos b_repeat] at q
     subst q
     obtain ⟨⟨a0, a1, a2, a3, a4⟩, ⟨f0, f1, f2, f3, f4⟩⟩ := cells5 (G6.out.blk _ (.head _))
     have lb := G6.out.lt (.head _)
     have mb := Nat.ne_of_lt lb
     go_wp2_with (first | (go_at_call 48; refine Hid.out ?_))
     refine hid ?_
     refine (opt_yes E HH.out.1 _ go0.out.2.1 (B [114, 101, 112, 101, 97, 116]) b_repeat _ (G6.out).ps).mono ?_
     rintro e x7 ⟨rfl, h1, h2⟩
     have G8 := hid (show Fr E (fun i => i = E.p ∨ i = b) w.heap.size w x7 _ [(b, .cells #[.int .i64 0, .int .i64 (E.pl a), .slice none 0 0, .slice none 0 0, .slice none 0 0] 34)] [] from (G6.out).call h1 h2)
     clear h1 h2
     clear a0 a1 a2 a3 a4 f0 f1 f2 f3 f4 lb mb
     have go9 := hid (go0.out.is HH.out.1.ends b_repeat)
     obtain ⟨⟨a0, a1, a2, a3, a4⟩, ⟨f0, f1, f2, f3, f4⟩⟩ := cells5 (G8.out.blk _ (.head _))
     have lb := G8.out.lt (.head _)
     have mb := Nat.ne_of_lt lb
     go_wp2_with (first | (go_at_call 17; refine Hid.out ?_))
     refine hid ?_
     refine (HH.out.2.2.2.2.1 (adv s) _ go9.out.2.1 (G8.out).ps).mono ?_
     rintro e x10 ⟨v, rfl, hx, h1, h2⟩
     obtain ⟨Ab, nb, cb, rfl⟩ := hx.form
     have G11 := hid (show Fr E (fun i => i = E.p ∨ i = b) w.heap.size w x10 _ [(b, .cells #[.int .i64 0, .int .i64 (E.pl a), .slice none 0 0, .slice none 0 0, .slice none 0 0] 34)] [.s 2 ((bl (adv s)).1.map E.gl) (.slice Ab nb cb)] from (G8.out).callI h1 h2 (it := .s 2 _ _) hx)
     have go12 := hid (go9.out.by HH.out.2.2.1)
     clear h1 h2 hx
     clear a0 a1 a2 a3 a4 f0 f1 f2 f3 f4 lb mb
     obtain ⟨⟨a0, a1, a2, a3, a4⟩, ⟨f0, f1, f2, f3, f4⟩⟩ := cells5 (G11.out.blk _ (.head _))
     have lb := G11.out.lt (.head _)
     have mb := Nat.ne_of_lt lb
     go_wp2_with (first | (go_at_call 71; refine Hid.out ?_))
     refine hid ?_
     have P13 : Fr E (fun i => i = E.p ∨ i = b) w.heap.size w _ _ [(b, .cells #[.int .i64 0, .int .i64 (E.pl a), .slice none 0 0, .slice none 0 0, .slice (some ⟨x10.heap.size, 0, none⟩) 1 1] 34)] [.s 2 ((bl (adv s)).1.map E.gl) (.slice Ab nb cb)] := (G11.out).set1 0 rfl 4 (.slice (some ⟨x10.heap.size, 0, none⟩) 1 1)
     have P14 : Fr E (fun i => i = E.p ∨ i = b) w.heap.size w _ _ [(b, .cells #[.int .i64 0, .int .i64 (E.pl a), .slice none 0 0, .slice none 0 0, .slice (some ⟨x10.heap.size, 0, none⟩) 1 1] 34)] [.s 3 (.cons ((bl (adv s)).1.map E.gl) .nil) (.slice (some ⟨x10.heap.size, 0, none⟩) 1 1), .s 2 ((bl (adv s)).1.map E.gl) (.slice Ab nb cb)] := P13.litA (e := 23) (b := x10.heap.size) (by simp [World.setCell]) (n := 1) (by intro e; cases e) rfl (by decide) (EC_bl.2 ⟨_, [], rfl, P13.get (.head _), EC_nil.2 rfl⟩)
     refine (take_is E HH.out.1 _ go12.out.2.1 (B [117, 110, 116, 105, 108]) _ (P14).ps).mono ?_
     rintro e x15 ⟨rfl, h1, h2⟩
     have G16 := hid (show Fr E (fun i => i = E.p ∨ i = b) w.heap.size w x15 _ [(b, .cells #[.int .i64 0, .int .i64 (E.pl a), .slice none 0 0, .slice none 0 0, .slice (some ⟨x10.heap.size, 0, none⟩) 1 1] 34)] [.s 3 (.cons ((bl (adv s)).1.map E.gl) .nil) (.slice (some ⟨x10.heap.size, 0, none⟩) 1 1), .s 2 ((bl (adv s)).1.map E.gl) (.slice Ab nb cb)] from (P14).call h1 h2)
     have go17 := hid (go12.out.take HH.out.1.ends (B [117, 110, 116, 105, 108]))
     clear h1 h2
     clear a0 a1 a2 a3 a4 f0 f1 f2 f3 f4 lb mb
     obtain ⟨⟨a0, a1, a2, a3, a4⟩, ⟨f0, f1, f2, f3, f4⟩⟩ := cells5 (G16.out.blk _ (.head _))
     have lb := G16.out.lt (.head _)
     have mb := Nat.ne_of_lt lb
     go_wp2_with (first | (go_at_call 50; refine Hid.out ?_))
     refine hid ?_
     refine (HH.out.2.2.2.1 (TP.take E.ts (B [117, 110, 116, 105, 108]) (bl (adv s)).2) _ go17.out.2.1 (G16.out).ps).mono ?_
     rintro e x18 ⟨v, rfl, hx, h1, h2⟩
     obtain ⟨k', a', n', x', op', Cl, rl, el, Cf, rf, ef, rfl⟩ := hx.form
     have G19 := hid (show Fr E (fun i => i = E.p ∨ i = b) w.heap.size w x18 _ [(b, .cells #[.int .i64 0, .int .i64 (E.pl a), .slice none 0 0, .slice none 0 0, .slice (some ⟨x10.heap.size, 0, none⟩) 1 1] 34)] [.x ((ex (TP.take E.ts (B [117, 110, 116, 105, 108]) (bl (adv s)).2)).1.map E.gl) (.agg #[.int .i64 k', .int .i64 a', .int .i64 n', .string x', .int .i64 op', .slice Cl rl el, .slice Cf rf ef]), .s 3 (.cons ((bl (adv s)).1.map E.gl) .nil) (.slice (some ⟨x10.heap.size, 0, none⟩) 1 1), .s 2 ((bl (adv s)).1.map E.gl) (.slice Ab nb cb)] from (G16.out).callI h1 h2 (it := .x _ _) hx)
     have go20 := hid (go17.out.by HH.out.2.1)
     clear h1 h2 hx
     clear a0 a1 a2 a3 a4 f0 f1 f2 f3 f4 lb mb
     obtain ⟨⟨a0, a1, a2, a3, a4⟩, ⟨f0, f1, f2, f3, f4⟩⟩ := cells5 (G19.out.blk _ (.head _))
     have lb := G19.out.lt (.head _)
     have mb := Nat.ne_of_lt lb
     go_wp2
     have P21 : Fr E (fun i => i = E.p ∨ i = b) w.heap.size w _ _ [(b, .cells #[.int .i64 8, .int .i64 (E.pl a), .slice none 0 0, .slice (some ⟨x18.heap.size, 0, none⟩) 1 1, .slice (some ⟨x10.heap.size, 0, none⟩) 1 1] 34)] [.x ((ex (TP.take E.ts (B [117, 110, 116, 105, 108]) (bl (adv s)).2)).1.map E.gl) (.agg #[.int .i64 k', .int .i64 a', .int .i64 n', .string x', .int .i64 op', .slice Cl rl el, .slice Cf rf ef]), .s 3 (.cons ((bl (adv s)).1.map E.gl) .nil) (.slice (some ⟨x10.heap.size, 0, none⟩) 1 1), .s 2 ((bl (adv s)).1.map E.gl) (.slice Ab nb cb)] := ((G19.out).set1 0 rfl 0 (.int .i64 8)).set1 0 rfl 3 (.slice (some ⟨x18.heap.size, 0, none⟩) 1 1)
     have P22 : Fr E (fun i => i = E.p ∨ i = b) w.heap.size w _ _ [(b, .cells #[.int .i64 8, .int .i64 (E.pl a), .slice none 0 0, .slice (some ⟨x18.heap.size, 0, none⟩) 1 1, .slice (some ⟨x10.heap.size, 0, none⟩) 1 1] 34)] [.s 0 (.cons ((ex (TP.take E.ts (B [117, 110, 116, 105, 108]) (bl (adv s)).2)).1.map E.gl) .nil) (.slice (some ⟨x18.heap.size, 0, none⟩) 1 1), .x ((ex (TP.take E.ts (B [117, 110, 116, 105, 108]) (bl (adv s)).2)).1.map E.gl) (.agg #[.int .i64 k', .int .i64 a', .int .i64 n', .string x', .int .i64 op', .slice Cl rl el, .slice Cf rf ef]), .s 3 (.cons ((bl (adv s)).1.map E.gl) .nil) (.slice (some ⟨x10.heap.size, 0, none⟩) 1 1), .s 2 ((bl (adv s)).1.map E.gl) (.slice Ab nb cb)] := P21.litA (e := 38) (b := x18.heap.size) (by simp [World.setCell]) (n := 1) (by intro e; cases e) rfl (by decide) (XR.ec1 (P21.get (.head _)))
     first | go_end0 | refine bodyPost_ret (results_none rfl _ _ _) rfl ?_
     exact ⟨rfl, StP.mk rfl ((P22).blk _ (.head _)) (.inl ⟨rfl, rfl⟩) (SL.keep (fun _ _ _ => rfl) (Nat.le_refl _) (fun i hi _ => hi.1) _ _ _ ((P22).get (.head _))) (SL.keep (fun _ _ _ => rfl) (Nat.le_refl _) (fun i hi _ => hi.1) _ _ _ ((P22).get (.tail _ (.tail _ (.head _))))) (P22).ps (P22).finS⟩
    | false =>
     rw [if_neg (by rw [b_repeat]; decide)] at q
     obtain ⟨⟨a0, a1, a2, a3, a4⟩, ⟨f0, f1, f2, f3, f4⟩⟩ := cells5 (G6.out.blk _ (.head _))
     have lb := G6.out.lt (.head _)
     have mb := Nat.ne_of_lt lb
     go_wp2_with (first | (go_at_call 48; refine Hid.out ?_))
     refine hid ?_
     refine (opt_no E HH.out.1 _ go0.out.2.1 (B [114, 101, 112, 101, 97, 116]) b_repeat _ (G6.out).ps).mono ?_
     rintro e x7 ⟨rfl, h1, h2⟩
     have G8 := hid (show Fr E (fun i => i = E.p ∨ i = b) w.heap.size w x7 _ [(b, .cells #[.int .i64 0, .int .i64 (E.pl a), .slice none 0 0, .slice none 0 0, .slice none 0 0] 34)] [] from (G6.out).call h1 h2)
     clear h1 h2
     clear a0 a1 a2 a3 a4 f0 f1 f2 f3 f4 lb mb
     cases b_for : isT E.ts (B [102, 111, 114]) s with
     | true =>
      rw [if_pos b_for] at q
      obtain ⟨⟨a0, a1, a2, a3, a4⟩, ⟨f0, f1, f2, f3, f4⟩⟩ := cells5 (G8.out.blk _ (.head _))
      have lb := G8.out.lt (.head _)
      have mb := Nat.ne_of_lt lb
      go_wp2_with (first | (go_at_call 48; refine Hid.out ?_))
      refine hid ?_
      refine (opt_yes E HH.out.1 _ go0.out.2.1 (B [102, 111, 114]) b_for _ (G8.out).ps).mono ?_
      rintro e x9 ⟨rfl, h1, h2⟩
      have G10 := hid (show Fr E (fun i => i = E.p ∨ i = b) w.heap.size w x9 _ [(b, .cells #[.int .i64 0, .int .i64 (E.pl a), .slice none 0 0, .slice none 0 0, .slice none 0 0] 34)] [] from (G8.out).call h1 h2)
      clear h1 h2
      clear a0 a1 a2 a3 a4 f0 f1 f2 f3 f4 lb mb
      have go11 := hid (go0.out.is HH.out.1.ends b_for)
      obtain ⟨⟨a0, a1, a2, a3, a4⟩, ⟨f0, f1, f2, f3, f4⟩⟩ := cells5 (G10.out.blk _ (.head _))
      have lb := G10.out.lt (.head _)
      have mb := Nat.ne_of_lt lb
      go_wp2_with (first | (go_at_call 69; refine Hid.out ?_))
      refine hid ?_
      refine (name_is E HH.out.1 _ go11.out.2.1 _ (G10.out).ps).mono ?_
      rintro e x12 ⟨rfl, h1, h2⟩
      have G13 := hid (show Fr E (fun i => i = E.p ∨ i = b) w.heap.size w x12 _ [(b, .cells #[.int .i64 0, .int .i64 (E.pl a), .slice none 0 0, .slice none 0 0, .slice none 0 0] 34)] [] from (G10.out).call h1 h2)
      have go14 := hid (go11.out.name HH.out.1.ends)
      clear h1 h2
      clear a0 a1 a2 a3 a4 f0 f1 f2 f3 f4 lb mb
      unfold stFors at q
      cases b_c : isT E.ts (B [44]) (TP.name E.ts (adv s)).2 with
      | true =>
       rw [if_pos b_c] at q
       unfold stEach at q
       subst q
       obtain ⟨⟨a0, a1, a2, a3, a4⟩, ⟨f0, f1, f2, f3, f4⟩⟩ := cells5 (G13.out.blk _ (.head _))
       have lb := G13.out.lt (.head _)
       have mb := Nat.ne_of_lt lb
       go_wp2_with (first | (go_at_call 48; refine Hid.out ?_))
       refine hid ?_
       have P15 : Fr E (fun i => i = E.p ∨ i = b) w.heap.size w _ _ [(b, .cells #[.int .i64 6, .int .i64 (E.pl a), .slice (some ⟨x12.heap.size, 0, none⟩) 1 1, .slice none 0 0, .slice none 0 0] 34)] [] := ((G13.out).set1 0 rfl 2 (.slice (some ⟨x12.heap.size, 0, none⟩) 1 1)).set1 0 rfl 0 (.int .i64 6)
       have P16 : Fr E (fun i => i = E.p ∨ i = b) w.heap.size w _ _ [(b, .cells #[.int .i64 6, .int .i64 (E.pl a), .slice (some ⟨x12.heap.size, 0, none⟩) 1 1, .slice none 0 0, .slice none 0 0] 34)] [.o w.heap.size [(TP.name E.ts (adv s)).1] (.slice (some ⟨x12.heap.size, 0, none⟩) 1 1)] := P15.litN (by simp [World.setCell]) w.heap.size P15.kp.size (TP.name E.ts (adv s)).1
       refine (opt_yes E HH.out.1 _ go14.out.2.1 (B [44]) b_c _ (P16).ps).mono ?_
       rintro e x17 ⟨rfl, h1, h2⟩
       have G18 := hid (show Fr E (fun i => i = E.p ∨ i = b) w.heap.size w x17 _ [(b, .cells #[.int .i64 6, .int .i64 (E.pl a), .slice (some ⟨x12.heap.size, 0, none⟩) 1 1, .slice none 0 0, .slice none 0 0] 34)] [.o w.heap.size [(TP.name E.ts (adv s)).1] (.slice (some ⟨x12.heap.size, 0, none⟩) 1 1)] from (P16).call h1 h2)
       clear h1 h2
       clear a0 a1 a2 a3 a4 f0 f1 f2 f3 f4 lb mb
       have go19 := hid (go14.out.is HH.out.1.ends b_c)
       obtain ⟨⟨a0, a1, a2, a3, a4⟩, ⟨f0, f1, f2, f3, f4⟩⟩ := cells5 (G18.out.blk _ (.head _))
       have lb := G18.out.lt (.head _)
       have mb := Nat.ne_of_lt lb
       have NMC := hid (fun X (hX : PS E X (adv (TP.name E.ts (adv s)).2)) => name_is E HH.out.1 _ go19.out.2.1 X hX)
       go_wp2
       have P20 : Fr E (fun i => i = E.p ∨ i = b) w.heap.size w _ _ [(b, .cells #[.int .i64 7, .int .i64 (E.pl a), .slice (some ⟨x12.heap.size, 0, none⟩) 1 1, .slice none 0 0, .slice none 0 0] 34)] [.o w.heap.size [(TP.name E.ts (adv s)).1] (.slice (some ⟨x12.heap.size, 0, none⟩) 1 1)] := (G18.out).set1 0 rfl 0 (.int .i64 7)
       have G21 := hid (P20)
       clear a0 a1 a2 a3 a4 f0 f1 f2 f3 f4 lb mb
       generalize x17.setCell ⟨b, 0, none⟩ (.int .i64 7) = X7 at G21 ⊢
       obtain ⟨⟨a0, a1, a2, a3, a4⟩, ⟨f0, f1, f2, f3, f4⟩⟩ := cells5 (G21.out.blk _ (.head _))
       have lb := G21.out.lt (.head _)
       have mb := Nat.ne_of_lt lb
       apply once2
       ·intro HREST
        go_region_law (first | (refine step_NF (y2.alloc (.cells #[.string (TP.name E.ts (adv (TP.name E.ts (adv s)).2)).1] 9)) rfl _ _ rfl w.heap.size _ (.slice (some ⟨x12.heap.size, 0, none⟩) 1 1) [(TP.name E.ts (adv s)).1] 1 rfl rfl (K3.out.get (.head _)) (TP.name E.ts (adv (TP.name E.ts (adv s)).2)).1 y2.heap.size rfl nB.out (by decide) K3.out.kp.size K3.out.fresh ?_; intro g cap' y3 h1 h2 h3; have K4 := hid (K3.out.appendedN (K3.out.get (.head _)) (Nat.le_refl _) h2 h1); obtain ⟨⟨ba, bb, bc, bd, be⟩, ⟨fa, fb, fc, fd, fe⟩⟩ := cells5 (K4.out.blk _ (.head _)); clear h1 h2 h3) | (go_simp; go_at_call 69; refine (NMC.out _ G21.out.drew.ps).mono ?_; rintro e y2 ⟨rfl, h1, h2⟩; have K2 := hid (G21.out.drew.call h1 h2); have K3 := hid (K2.out.newF (.cells #[.string (TP.name E.ts (adv (TP.name E.ts (adv s)).2)).1] 9)); have nB := hid (heap_alloc_new y2 (.cells #[.string (TP.name E.ts (adv (TP.name E.ts (adv s)).2)).1] 9)); have cbf := (cells5 (K2.out.blk _ (.head _))).1.2.2.1; have lby := K2.out.lt (.head _); have mby := Nat.ne_of_lt lby; clear h1 h2))
        all_goals
         have K5 := hid (show Fr E (fun i => i = E.p ∨ i = b) w.heap.size w _ (TP.name E.ts (adv (TP.name E.ts (adv s)).2)).2 [(b, .cells #[.int .i64 7, .int .i64 (E.pl a), .slice (some ⟨g, 0, none⟩) 2 cap', .slice none 0 0, .slice none 0 0] 34)] [.o w.heap.size [(TP.name E.ts (adv s)).1, (TP.name E.ts (adv (TP.name E.ts (adv s)).2)).1] (.slice (some ⟨g, 0, none⟩) 2 cap')] from K4.out.set1 0 rfl 2 (.slice (some ⟨g, 0, none⟩) 2 cap'))
         clear K4 K3 K2 nB cbf lby mby ba bb bc bd be fa fb fc fd fe
         generalize y2.heap.size = n2
         generalize y3.setCell ⟨b, 2, none⟩ (.slice (some ⟨g, 0, none⟩) (1 + 1) cap') = y5 at K5 ⊢
         revert K5 y5 n2 g cap'
         exact HREST.out
       ·intro g cap' n2 y5 K5
        clear a0 a1 a2 a3 a4 f0 f1 f2 f3 f4 lb mb
        have go23 := hid (go19.out.name HH.out.1.ends)
        obtain ⟨⟨a0, a1, a2, a3, a4⟩, ⟨f0, f1, f2, f3, f4⟩⟩ := cells5 (K5.out.blk _ (.head _))
        have lb := K5.out.lt (.head _)
        have mb := Nat.ne_of_lt lb
        go_wp2_with (first | (go_at_call 71; refine Hid.out ?_))
        refine hid ?_
        refine (take_is E HH.out.1 _ go23.out.2.1 (B [105, 110]) _ (K5.out).ps).mono ?_
        rintro e x24 ⟨rfl, h1, h2⟩
        have G25 := hid (show Fr E (fun i => i = E.p ∨ i = b) w.heap.size w x24 _ [(b, .cells #[.int .i64 7, .int .i64 (E.pl a), .slice (some ⟨g, 0, none⟩) 2 cap', .slice none 0 0, .slice none 0 0] 34)] [.o w.heap.size [(TP.name E.ts (adv s)).1, (TP.name E.ts (adv (TP.name E.ts (adv s)).2)).1] (.slice (some ⟨g, 0, none⟩) 2 cap')] from (K5.out).call h1 h2)
        have go26 := hid (go23.out.take HH.out.1.ends (B [105, 110]))
        clear h1 h2
        clear a0 a1 a2 a3 a4 f0 f1 f2 f3 f4 lb mb
        obtain ⟨⟨a0, a1, a2, a3, a4⟩, ⟨f0, f1, f2, f3, f4⟩⟩ := cells5 (G25.out.blk _ (.head _))
        have lb := G25.out.lt (.head _)
        have mb := Nat.ne_of_lt lb
        go_wp2_with (first | (go_at_call 50; refine Hid.out ?_))
        refine hid ?_
        refine (HH.out.2.2.2.1 (TP.take E.ts (B [105, 110]) (TP.name E.ts (adv (TP.name E.ts (adv s)).2)).2) _ go26.out.2.1 (G25.out).ps).mono ?_
        rintro e x27 ⟨v, rfl, hx, h1, h2⟩
        obtain ⟨k', a', n', x', op', Cl, rl, el, Cf, rf, ef, rfl⟩ := hx.form
        have G28 := hid (show Fr E (fun i => i = E.p ∨ i = b) w.heap.size w x27 _ [(b, .cells #[.int .i64 7, .int .i64 (E.pl a), .slice (some ⟨g, 0, none⟩) 2 cap', .slice none 0 0, .slice none 0 0] 34)] [.x ((ex (TP.take E.ts (B [105, 110]) (TP.name E.ts (adv (TP.name E.ts (adv s)).2)).2)).1.map E.gl) (.agg #[.int .i64 k', .int .i64 a', .int .i64 n', .string x', .int .i64 op', .slice Cl rl el, .slice Cf rf ef]), .o w.heap.size [(TP.name E.ts (adv s)).1, (TP.name E.ts (adv (TP.name E.ts (adv s)).2)).1] (.slice (some ⟨g, 0, none⟩) 2 cap')] from (G25.out).callI h1 h2 (it := .x _ _) hx)
        have go29 := hid (go26.out.by HH.out.2.1)
        clear h1 h2 hx
        clear a0 a1 a2 a3 a4 f0 f1 f2 f3 f4 lb mb
        obtain ⟨⟨a0, a1, a2, a3, a4⟩, ⟨f0, f1, f2, f3, f4⟩⟩ := cells5 (G28.out.blk _ (.head _))
        have lb := G28.out.lt (.head _)
        have mb := Nat.ne_of_lt lb
        go_wp2_with (first | (go_at_call 71; refine Hid.out ?_))
        refine hid ?_
        have P30 : Fr E (fun i => i = E.p ∨ i = b) w.heap.size w _ _ [(b, .cells #[.int .i64 7, .int .i64 (E.pl a), .slice (some ⟨g, 0, none⟩) 2 cap', .slice (some ⟨x27.heap.size, 0, none⟩) 1 1, .slice none 0 0] 34)] [.x ((ex (TP.take E.ts (B [105, 110]) (TP.name E.ts (adv (TP.name E.ts (adv s)).2)).2)).1.map E.gl) (.agg #[.int .i64 k', .int .i64 a', .int .i64 n', .string x', .int .i64 op', .slice Cl rl el, .slice Cf rf ef]), .o w.heap.size [(TP.name E.ts (adv s)).1, (TP.name E.ts (adv (TP.name E.ts (adv s)).2)).1] (.slice (some ⟨g, 0, none⟩) 2 cap')] := (G28.out).set1 0 rfl 3 (.slice (some ⟨x27.heap.size, 0, none⟩) 1 1)
        have P31 : Fr E (fun i => i = E.p ∨ i = b) w.heap.size w _ _ [(b, .cells #[.int .i64 7, .int .i64 (E.pl a), .slice (some ⟨g, 0, none⟩) 2 cap', .slice (some ⟨x27.heap.size, 0, none⟩) 1 1, .slice none 0 0] 34)] [.s 0 (.cons ((ex (TP.take E.ts (B [105, 110]) (TP.name E.ts (adv (TP.name E.ts (adv s)).2)).2)).1.map E.gl) .nil) (.slice (some ⟨x27.heap.size, 0, none⟩) 1 1), .x ((ex (TP.take E.ts (B [105, 110]) (TP.name E.ts (adv (TP.name E.ts (adv s)).2)).2)).1.map E.gl) (.agg #[.int .i64 k', .int .i64 a', .int .i64 n', .string x', .int .i64 op', .slice Cl rl el, .slice Cf rf ef]), .o w.heap.size [(TP.name E.ts (adv s)).1, (TP.name E.ts (adv (TP.name E.ts (adv s)).2)).1] (.slice (some ⟨g, 0, none⟩) 2 cap')] := P30.litA (e := 38) (b := x27.heap.size) (by simp [World.setCell]) (n := 1) (by intro e; cases e) rfl (by decide) (XR.ec1 (P30.get (.head _)))
        refine (take_is E HH.out.1 _ go29.out.2.1 (B [100, 111]) _ (P31).ps).mono ?_
        rintro e x32 ⟨rfl, h1, h2⟩
        have G33 := hid (show Fr E (fun i => i = E.p ∨ i = b) w.heap.size w x32 _ [(b, .cells #[.int .i64 7, .int .i64 (E.pl a), .slice (some ⟨g, 0, none⟩) 2 cap', .slice (some ⟨x27.heap.size, 0, none⟩) 1 1, .slice none 0 0] 34)] [.s 0 (.cons ((ex (TP.take E.ts (B [105, 110]) (TP.name E.ts (adv (TP.name E.ts (adv s)).2)).2)).1.map E.gl) .nil) (.slice (some ⟨x27.heap.size, 0, none⟩) 1 1), .x ((ex (TP.take E.ts (B [105, 110]) (TP.name E.ts (adv (TP.name E.ts (adv s)).2)).2)).1.map E.gl) (.agg #[.int .i64 k', .int .i64 a', .int .i64 n', .string x', .int .i64 op', .slice Cl rl el, .slice Cf rf ef]), .o w.heap.size [(TP.name E.ts (adv s)).1, (TP.name E.ts (adv (TP.name E.ts (adv s)).2)).1] (.slice (some ⟨g, 0, none⟩) 2 cap')] from (P31).call h1 h2)
        have go34 := hid (go29.out.take HH.out.1.ends (B [100, 111]))
        clear h1 h2
        clear a0 a1 a2 a3 a4 f0 f1 f2 f3 f4 lb mb
        obtain ⟨⟨a0, a1, a2, a3, a4⟩, ⟨f0, f1, f2, f3, f4⟩⟩ := cells5 (G33.out.blk _ (.head _))
        have lb := G33.out.lt (.head _)
        have mb := Nat.ne_of_lt lb
        go_wp2_with (first | (go_at_call 17; refine Hid.out ?_))
        refine hid ?_
        refine (HH.out.2.2.2.2.1 (TP.take E.ts (B [100, 111]) (ex (TP.take E.ts (B [105, 110]) (TP.name E.ts (adv (TP.name E.ts (adv s)).2)).2)).2) _ go34.out.2.1 (G33.out).ps).mono ?_
        rintro e x35 ⟨v, rfl, hx, h1, h2⟩
        obtain ⟨Ab, nb, cb, rfl⟩ := hx.form
        have G36 := hid (show Fr E (fun i => i = E.p ∨ i = b) w.heap.size w x35 _ [(b, .cells #[.int .i64 7, .int .i64 (E.pl a), .slice (some ⟨g, 0, none⟩) 2 cap', .slice (some ⟨x27.heap.size, 0, none⟩) 1 1, .slice none 0 0] 34)] [.s 2 ((bl (TP.take E.ts (B [100, 111]) (ex (TP.take E.ts (B [105, 110]) (TP.name E.ts (adv (TP.name E.ts (adv s)).2)).2)).2)).1.map E.gl) (.slice Ab nb cb), .s 0 (.cons ((ex (TP.take E.ts (B [105, 110]) (TP.name E.ts (adv (TP.name E.ts (adv s)).2)).2)).1.map E.gl) .nil) (.slice (some ⟨x27.heap.size, 0, none⟩) 1 1), .x ((ex (TP.take E.ts (B [105, 110]) (TP.name E.ts (adv (TP.name E.ts (adv s)).2)).2)).1.map E.gl) (.agg #[.int .i64 k', .int .i64 a', .int .i64 n', .string x', .int .i64 op', .slice Cl rl el, .slice Cf rf ef]), .o w.heap.size [(TP.name E.ts (adv s)).1, (TP.name E.ts (adv (TP.name E.ts (adv s)).2)).1] (.slice (some ⟨g, 0, none⟩) 2 cap')] from (G33.out).callI h1 h2 (it := .s 2 _ _) hx)
        have go37 := hid (go34.out.by HH.out.2.2.1)
        clear h1 h2 hx
        clear a0 a1 a2 a3 a4 f0 f1 f2 f3 f4 lb mb
        obtain ⟨⟨a0, a1, a2, a3, a4⟩, ⟨f0, f1, f2, f3, f4⟩⟩ := cells5 (G36.out.blk _ (.head _))
        have lb := G36.out.lt (.head _)
        have mb := Nat.ne_of_lt lb
        go_wp2_with (first | (go_at_call 71; refine Hid.out ?_))
        refine hid ?_
        have P38 : Fr E (fun i => i = E.p ∨ i = b) w.heap.size w _ _ [(b, .cells #[.int .i64 7, .int .i64 (E.pl a), .slice (some ⟨g, 0, none⟩) 2 cap', .slice (some ⟨x27.heap.size, 0, none⟩) 1 1, .slice (some ⟨x35.heap.size, 0, none⟩) 1 1] 34)] [.s 2 ((bl (TP.take E.ts (B [100, 111]) (ex (TP.take E.ts (B [105, 110]) (TP.name E.ts (adv (TP.name E.ts (adv s)).2)).2)).2)).1.map E.gl) (.slice Ab nb cb), .s 0 (.cons ((ex (TP.take E.ts (B [105, 110]) (TP.name E.ts (adv (TP.name E.ts (adv s)).2)).2)).1.map E.gl) .nil) (.slice (some ⟨x27.heap.size, 0, none⟩) 1 1), .x ((ex (TP.take E.ts (B [105, 110]) (TP.name E.ts (adv (TP.name E.ts (adv s)).2)).2)).1.map E.gl) (.agg #[.int .i64 k', .int .i64 a', .int .i64 n', .string x', .int .i64 op', .slice Cl rl el, .slice Cf rf ef]), .o w.heap.size [(TP.name E.ts (adv s)).1, (TP.name E.ts (adv (TP.name E.ts (adv s)).2)).1] (.slice (some ⟨g, 0, none⟩) 2 cap')] := (G36.out).set1 0 rfl 4 (.slice (some ⟨x35.heap.size, 0, none⟩) 1 1)
        have P39 : Fr E (fun i => i = E.p ∨ i = b) w.heap.size w _ _ [(b, .cells #[.int .i64 7, .int .i64 (E.pl a), .slice (some ⟨g, 0, none⟩) 2 cap', .slice (some ⟨x27.heap.size, 0, none⟩) 1 1, .slice (some ⟨x35.heap.size, 0, none⟩) 1 1] 34)] [.s 3 (.cons ((bl (TP.take E.ts (B [100, 111]) (ex (TP.take E.ts (B [105, 110]) (TP.name E.ts (adv (TP.name E.ts (adv s)).2)).2)).2)).1.map E.gl) .nil) (.slice (some ⟨x35.heap.size, 0, none⟩) 1 1), .s 2 ((bl (TP.take E.ts (B [100, 111]) (ex (TP.take E.ts (B [105, 110]) (TP.name E.ts (adv (TP.name E.ts (adv s)).2)).2)).2)).1.map E.gl) (.slice Ab nb cb), .s 0 (.cons ((ex (TP.take E.ts (B [105, 110]) (TP.name E.ts (adv (TP.name E.ts (adv s)).2)).2)).1.map E.gl) .nil) (.slice (some ⟨x27.heap.size, 0, none⟩) 1 1), .x ((ex (TP.take E.ts (B [105, 110]) (TP.name E.ts (adv (TP.name E.ts (adv s)).2)).2)).1.map E.gl) (.agg #[.int .i64 k', .int .i64 a', .int .i64 n', .string x', .int .i64 op', .slice Cl rl el, .slice Cf rf ef]), .o w.heap.size [(TP.name E.ts (adv s)).1, (TP.name E.ts (adv (TP.name E.ts (adv s)).2)).1] (.slice (some ⟨g, 0, none⟩) 2 cap')] := P38.litA (e := 23) (b := x35.heap.size) (by simp [World.setCell]) (n := 1) (by intro e; cases e) rfl (by decide) (EC_bl.2 ⟨_, [], rfl, P38.get (.head _), EC_nil.2 rfl⟩)
        refine (take_is E HH.out.1 _ go37.out.2.1 (B [101, 110, 100]) _ (P39).ps).mono ?_
        rintro e x40 ⟨rfl, h1, h2⟩
        have G41 := hid (show Fr E (fun i => i = E.p ∨ i = b) w.heap.size w x40 _ [(b, .cells #[.int .i64 7, .int .i64 (E.pl a), .slice (some ⟨g, 0, none⟩) 2 cap', .slice (some ⟨x27.heap.size, 0, none⟩) 1 1, .slice (some ⟨x35.heap.size, 0, none⟩) 1 1] 34)] [.s 3 (.cons ((bl (TP.take E.ts (B [100, 111]) (ex (TP.take E.ts (B [105, 110]) (TP.name E.ts (adv (TP.name E.ts (adv s)).2)).2)).2)).1.map E.gl) .nil) (.slice (some ⟨x35.heap.size, 0, none⟩) 1 1), .s 2 ((bl (TP.take E.ts (B [100, 111]) (ex (TP.take E.ts (B [105, 110]) (TP.name E.ts (adv (TP.name E.ts (adv s)).2)).2)).2)).1.map E.gl) (.slice Ab nb cb), .s 0 (.cons ((ex (TP.take E.ts (B [105, 110]) (TP.name E.ts (adv (TP.name E.ts (adv s)).2)).2)).1.map E.gl) .nil) (.slice (some ⟨x27.heap.size, 0, none⟩) 1 1), .x ((ex (TP.take E.ts (B [105, 110]) (TP.name E.ts (adv (TP.name E.ts (adv s)).2)).2)).1.map E.gl) (.agg #[.int .i64 k', .int .i64 a', .int .i64 n', .string x', .int .i64 op', .slice Cl rl el, .slice Cf rf ef]), .o w.heap.size [(TP.name E.ts (adv s)).1, (TP.name E.ts (adv (TP.name E.ts (adv s)).2)).1] (.slice (some ⟨g, 0, none⟩) 2 cap')] from (P39).call h1 h2)
        have go42 := hid (go37.out.take HH.out.1.ends (B [101, 110, 100]))
        clear h1 h2
        clear a0 a1 a2 a3 a4 f0 f1 f2 f3 f4 lb mb
        obtain ⟨⟨a0, a1, a2, a3, a4⟩, ⟨f0, f1, f2, f3, f4⟩⟩ := cells5 (G41.out.blk _ (.head _))
        have lb := G41.out.lt (.head _)
        have mb := Nat.ne_of_lt lb
        go_wp2
        first | go_end0 | refine bodyPost_ret (results_none rfl _ _ _) rfl ?_
        exact ⟨rfl, StP.mk rfl ((G41.out).blk _ (.head _)) (NL.keep (NF.nl ((G41.out).get (.tail _ (.tail _ (.tail _ (.tail _ (.head _))))))) (fun _ _ _ => rfl) (Nat.le_refl _) (fun i hi _ => hi.1)) (SL.keep (fun _ _ _ => rfl) (Nat.le_refl _) (fun i hi _ => hi.1) _ _ _ ((G41.out).get (.tail _ (.tail _ (.head _))))) (SL.keep (fun _ _ _ => rfl) (Nat.le_refl _) (fun i hi _ => hi.1) _ _ _ ((G41.out).get (.head _))) (G41.out).ps (G41.out).finS⟩
      | false =>
       rw [if_neg (by rw [b_c]; decide)] at q
       obtain ⟨⟨a0, a1, a2, a3, a4⟩, ⟨f0, f1, f2, f3, f4⟩⟩ := cells5 (G13.out.blk _ (.head _))
       have lb := G13.out.lt (.head _)
       have mb := Nat.ne_of_lt lb
       go_wp2_with (first | (go_at_call 48; refine Hid.out ?_))
       refine hid ?_
       have P15 : Fr E (fun i => i = E.p ∨ i = b) w.heap.size w _ _ [(b, .cells #[.int .i64 6, .int .i64 (E.pl a), .slice (some ⟨x12.heap.size, 0, none⟩) 1 1, .slice none 0 0, .slice none 0 0] 34)] [] := ((G13.out).set1 0 rfl 2 (.slice (some ⟨x12.heap.size, 0, none⟩) 1 1)).set1 0 rfl 0 (.int .i64 6)
       have P16 : Fr E (fun i => i = E.p ∨ i = b) w.heap.size w _ _ [(b, .cells #[.int .i64 6, .int .i64 (E.pl a), .slice (some ⟨x12.heap.size, 0, none⟩) 1 1, .slice none 0 0, .slice none 0 0] 34)] [.o w.heap.size [(TP.name E.ts (adv s)).1] (.slice (some ⟨x12.heap.size, 0, none⟩) 1 1)] := P15.litN (by simp [World.setCell]) w.heap.size P15.kp.size (TP.name E.ts (adv s)).1
       refine (opt_no E HH.out.1 _ go14.out.2.1 (B [44]) b_c _ (P16).ps).mono ?_
       rintro e x17 ⟨rfl, h1, h2⟩
       have G18 := hid (show Fr E (fun i => i = E.p ∨ i = b) w.heap.size w x17 _ [(b, .cells #[.int .i64 6, .int .i64 (E.pl a), .slice (some ⟨x12.heap.size, 0, none⟩) 1 1, .slice none 0 0, .slice none 0 0] 34)] [.o w.heap.size [(TP.name E.ts (adv s)).1] (.slice (some ⟨x12.heap.size, 0, none⟩) 1 1)] from (P16).call h1 h2)
       clear h1 h2
       clear a0 a1 a2 a3 a4 f0 f1 f2 f3 f4 lb mb
       obtain ⟨⟨a0, a1, a2, a3, a4⟩, ⟨f0, f1, f2, f3, f4⟩⟩ := cells5 (G18.out.blk _ (.head _))
       have lb := G18.out.lt (.head _)
       have mb := Nat.ne_of_lt lb
       go_wp2_with (first | (go_at_call 71; refine Hid.out ?_))
       refine hid ?_
       refine (take_is E HH.out.1 _ go14.out.2.1 (B [61]) _ (G18.out).ps).mono ?_
       rintro e x19 ⟨rfl, h1, h2⟩
       have G20 := hid (show Fr E (fun i => i = E.p ∨ i = b) w.heap.size w x19 _ [(b, .cells #[.int .i64 6, .int .i64 (E.pl a), .slice (some ⟨x12.heap.size, 0, none⟩) 1 1, .slice none 0 0, .slice none 0 0] 34)] [.o w.heap.size [(TP.name E.ts (adv s)).1] (.slice (some ⟨x12.heap.size, 0, none⟩) 1 1)] from (G18.out).call h1 h2)
       have go21 := hid (go14.out.take HH.out.1.ends (B [61]))
       clear h1 h2
       clear a0 a1 a2 a3 a4 f0 f1 f2 f3 f4 lb mb
       obtain ⟨⟨a0, a1, a2, a3, a4⟩, ⟨f0, f1, f2, f3, f4⟩⟩ := cells5 (G20.out.blk _ (.head _))
       have lb := G20.out.lt (.head _)
       have mb := Nat.ne_of_lt lb
       go_wp2_with (first | (go_at_call 50; refine Hid.out ?_))
       refine hid ?_
       refine (HH.out.2.2.2.1 (TP.take E.ts (B [61]) (TP.name E.ts (adv s)).2) _ go21.out.2.1 (G20.out).ps).mono ?_
       rintro e x22 ⟨v, rfl, hx, h1, h2⟩
       obtain ⟨k', a', n', x', op', Cl, rl, el, Cf, rf, ef, rfl⟩ := hx.form
       have G23 := hid (show Fr E (fun i => i = E.p ∨ i = b) w.heap.size w x22 _ [(b, .cells #[.int .i64 6, .int .i64 (E.pl a), .slice (some ⟨x12.heap.size, 0, none⟩) 1 1, .slice none 0 0, .slice none 0 0] 34)] [.x ((ex (TP.take E.ts (B [61]) (TP.name E.ts (adv s)).2)).1.map E.gl) (.agg #[.int .i64 k', .int .i64 a', .int .i64 n', .string x', .int .i64 op', .slice Cl rl el, .slice Cf rf ef]), .o w.heap.size [(TP.name E.ts (adv s)).1] (.slice (some ⟨x12.heap.size, 0, none⟩) 1 1)] from (G20.out).callI h1 h2 (it := .x _ _) hx)
       have go24 := hid (go21.out.by HH.out.2.1)
       clear h1 h2 hx
       clear a0 a1 a2 a3 a4 f0 f1 f2 f3 f4 lb mb
       obtain ⟨⟨a0, a1, a2, a3, a4⟩, ⟨f0, f1, f2, f3, f4⟩⟩ := cells5 (G23.out.blk _ (.head _))
       have lb := G23.out.lt (.head _)
       have mb := Nat.ne_of_lt lb
       go_wp2_with (first | (go_at_call 71; refine Hid.out ?_))
       refine hid ?_
       have R1 := G23.out.set1 0 rfl 3 (.slice (some ⟨x22.heap.size, 0, none⟩) 1 1)
       have R2 : Fr E (fun i => i = E.p ∨ i = b) w.heap.size w _ _ [(b, .cells #[.int .i64 6, .int .i64 (E.pl a), .slice (some ⟨x12.heap.size, 0, none⟩) 1 1, .slice (some ⟨x22.heap.size, 0, none⟩) 1 1, .slice none 0 0] 34)] [.w none (.r 0 38 w.heap.size (.cons ((ex (TP.take E.ts (B [61]) (TP.name E.ts (adv s)).2)).1.map E.gl) .nil) (.slice (some ⟨x22.heap.size, 0, none⟩) 1 1)), .w (some x22.heap.size) (.o w.heap.size [(TP.name E.ts (adv s)).1] (.slice (some ⟨x12.heap.size, 0, none⟩) 1 1))] := R1.litRow (e := 38) (.tail _ (.head _)) (by simp [World.setCell]) w.heap.size R1.kp.size (t := .cons ((ex (TP.take E.ts (B [61]) (TP.name E.ts (adv s)).2)).1.map E.gl) .nil) (n := 1) (by intro e; cases e) rfl (by decide) (XR.ec1 (R1.get (.head _)))
       refine (take_is E HH.out.1 _ go24.out.2.1 (B [44]) _ R2.ps).mono ?_
       rintro e x25 ⟨rfl, h1, h2⟩
       have G26 := hid (show Fr E (fun i => i = E.p ∨ i = b) w.heap.size w x25 _ [(b, .cells #[.int .i64 6, .int .i64 (E.pl a), .slice (some ⟨x12.heap.size, 0, none⟩) 1 1, .slice (some ⟨x22.heap.size, 0, none⟩) 1 1, .slice none 0 0] 34)] [.w none (.r 0 38 w.heap.size (.cons ((ex (TP.take E.ts (B [61]) (TP.name E.ts (adv s)).2)).1.map E.gl) .nil) (.slice (some ⟨x22.heap.size, 0, none⟩) 1 1)), .w (some x22.heap.size) (.o w.heap.size [(TP.name E.ts (adv s)).1] (.slice (some ⟨x12.heap.size, 0, none⟩) 1 1))] from R2.call h1 h2)
       have go27 := hid (go24.out.take HH.out.1.ends (B [44]))
       clear h1 h2
       clear a0 a1 a2 a3 a4 f0 f1 f2 f3 f4 lb mb
       obtain ⟨⟨a0, a1, a2, a3, a4⟩, ⟨f0, f1, f2, f3, f4⟩⟩ := cells5 (G26.out.blk _ (.head _))
       have lb := G26.out.lt (.head _)
       have mb := Nat.ne_of_lt lb
       have XC := hid (HH.out.2.2.2.1 (TP.take E.ts (B [44]) (ex (TP.take E.ts (B [61]) (TP.name E.ts (adv s)).2)).2) _ go27.out.2.1 G26.out.drew.ps)
       go_wp2
       apply once2
       ·intro HREST
        have KD := hid (G26.out.newF (.cells #[.int .i64 0, .int .i64 0, .int .i64 0, .string ⟨#[]⟩, .int .i64 0, .slice none 0 0, .slice none 0 0] 38))
        have XD := hid (HH.out.2.2.2.1 (TP.take E.ts (B [44]) (ex (TP.take E.ts (B [61]) (TP.name E.ts (adv s)).2)).2) _ go27.out.2.1 KD.out.drew.ps)
        go_region_law (first | (refine step_OF _ rfl _ _ 0 38 31 96 _ rfl Tryz.underlying31 i38n rfl (by decide) (by decide) w.heap.size (fun i => Fp w.heap.size [(b, .cells #[.int .i64 6, .int .i64 (E.pl a), .slice (some ⟨x12.heap.size, 0, none⟩) 1 1, .slice (some ⟨x22.heap.size, 0, none⟩) 1 1, .slice none 0 0] 34)] i ∧ none ≠ some i) (.slice (some ⟨x22.heap.size, 0, none⟩) 1 1) (.cons ((ex (TP.take E.ts (B [61]) (TP.name E.ts (adv s)).2)).1.map E.gl) .nil) 1 rfl rfl (K3.out.get (.head _)) (.ex 0 0 0 ⟨#[]⟩ 0 .nil .nil) [.int .i64 0, .int .i64 0, .int .i64 0, .string ⟨#[]⟩, .int .i64 0, .slice none 0 0, .slice none 0 0] _ rfl nB.out (XR.ec1 (XR.leaf _ _ _ _ _ _ _)) (by decide) K3.out.kp.size ⟨K3.out.fresh, hfr.out⟩ ?_; intro ga ca y3 h1 h2 h3; have K4 := hid (K3.out.appendedO (g := ga) [.w none (.x ((ex (TP.take E.ts (B [44]) (ex (TP.take E.ts (B [61]) (TP.name E.ts (adv s)).2)).2)).1.map E.gl) (.agg #[.int .i64 k', .int .i64 a', .int .i64 n', .string x', .int .i64 op', .slice Cl rl el, .slice Cf rf ef])), .o w.heap.size [(TP.name E.ts (adv s)).1] (.slice (some ⟨x12.heap.size, 0, none⟩) 1 1)] (K3.out.get (.head _)) (List.forall_mem_cons.2 ⟨HX.out, List.forall_mem_cons.2 ⟨K3.out.get (.tail _ (.head _)), fun _ h => by cases h⟩⟩) (Nat.le_refl _) h2 h1 h3); obtain ⟨⟨z0, z1, z2, z3, z4, z5, z6⟩, ⟨zf0, zf1, zf2, zf3, zf4, zf5, zf6⟩⟩ := OF.last7 (F := fun i => Fp w.heap.size [(b, .cells #[.int .i64 6, .int .i64 (E.pl a), .slice (some ⟨x12.heap.size, 0, none⟩) 1 1, .slice (some ⟨x22.heap.size, 0, none⟩) 1 1, .slice none 0 0] 34)] i ∧ none ≠ some i) (t := (.cons ((ex (TP.take E.ts (B [61]) (TP.name E.ts (adv s)).2)).1.map E.gl) .nil)) (N := 1) trivial rfl (K4.out.get (.head _)); simp only [Nat.reduceMul, Nat.reduceAdd] at z0 z1 z2 z3 z4 z5 z6 zf0 zf1 zf2 zf3 zf4 zf5 zf6; obtain ⟨⟨ba, bb, bc, bd, be⟩, ⟨fa, fb, fc, fd, fe⟩⟩ := cells5 (K4.out.blk _ (.head _)); have nbg := (OF.blk (h1) ga rfl).2.2.1.2 _ (.head _); have nbg2 := Ne.symm nbg; clear h2 h3) | (go_simp; go_at_call 50; refine (XC.out).mono ?_; rintro e y2 ⟨v, rfl, hx, h1, h2⟩; obtain ⟨k', a', n', x', op', Cl, rl, el, Cf, rf, ef, rfl⟩ := XR.form hx; have hxa := G26.out.drew.apart2 (it := .x _ _) (o1 := (some x22.heap.size)) (o2 := none) (G26.out.drew.ownlt (.head _)) (fun _ h => by cases h) hx; have K2 := G26.out.drew.call h1 h2; have K3 := hid (K2.newF (.cells #[.int .i64 0, .int .i64 0, .int .i64 0, .string ⟨#[]⟩, .int .i64 0, .slice none 0 0, .slice none 0 0] 38)); have nB := hid (heap_alloc_new y2 (.cells #[.int .i64 0, .int .i64 0, .int .i64 0, .string ⟨#[]⟩, .int .i64 0, .slice none 0 0, .slice none 0 0] 38)); have HX := hid (show It.ok (y2.alloc (.cells #[.int .i64 0, .int .i64 0, .int .i64 0, .string ⟨#[]⟩, .int .i64 0, .slice none 0 0, .slice none 0 0] 38)) (fun i => Fp w.heap.size [(b, .cells #[.int .i64 6, .int .i64 (E.pl a), .slice (some ⟨x12.heap.size, 0, none⟩) 1 1, .slice (some ⟨x22.heap.size, 0, none⟩) 1 1, .slice none 0 0] 34)] i ∧ (some x22.heap.size) ≠ some i) (.w none (.x ((ex (TP.take E.ts (B [44]) (ex (TP.take E.ts (B [61]) (TP.name E.ts (adv s)).2)).2)).1.map E.gl) (.agg #[.int .i64 k', .int .i64 a', .int .i64 n', .string x', .int .i64 op', .slice Cl rl el, .slice Cf rf ef]))) from It.keep (it := .w none (.x _ _)) (fun i _ hl => alloc_old.block i hl) (by rw [World.size_alloc]; omega) (fun _ hi _ => hi) hxa); have hfr := hid (show none ≠ some (y2.alloc (.cells #[.int .i64 0, .int .i64 0, .int .i64 0, .string ⟨#[]⟩, .int .i64 0, .slice none 0 0, .slice none 0 0] 38)).heap.size from fun e => by cases e); have cbf := (cells5 (K2.blk _ (.head _))).1.2.2.2.1; have lby := K2.lt (.head _); have mby := Nat.ne_of_lt lby; obtain ⟨ad, hAd⟩ : ∃ ad, ad = y2.heap.size := ⟨_, rfl⟩; clear h1 h2 hx hxa K2) | (go_simp; go_at_call 50; refine (XD.out).mono ?_; rintro e y2 ⟨v, rfl, hx, h1, h2⟩; obtain ⟨k', a', n', x', op', Cl, rl, el, Cf, rf, ef, rfl⟩ := XR.form hx; have K3 := hid (KD.out.drew.call h1 h2); have nB := hid (show y2.heap[x25.heap.size]? = some (.cells #[.int .i64 0, .int .i64 0, .int .i64 0, .string ⟨#[]⟩, .int .i64 0, .slice none 0 0, .slice none 0 0] 38) from (h2.block _ (by show x25.heap.size < (x25.alloc (.cells #[.int .i64 0, .int .i64 0, .int .i64 0, .string ⟨#[]⟩, .int .i64 0, .slice none 0 0, .slice none 0 0] 38)).heap.size; rw [World.size_alloc]; omega) (by have := G26.out.ps.lt; omega)).trans (heap_alloc_new x25 (.cells #[.int .i64 0, .int .i64 0, .int .i64 0, .string ⟨#[]⟩, .int .i64 0, .slice none 0 0, .slice none 0 0] 38))); have HX := hid (show It.ok y2 (fun i => Fp w.heap.size [(b, .cells #[.int .i64 6, .int .i64 (E.pl a), .slice (some ⟨x12.heap.size, 0, none⟩) 1 1, .slice (some ⟨x22.heap.size, 0, none⟩) 1 1, .slice none 0 0] 34)] i ∧ (some x22.heap.size) ≠ some i) (.w none (.x ((ex (TP.take E.ts (B [44]) (ex (TP.take E.ts (B [61]) (TP.name E.ts (adv s)).2)).2)).1.map E.gl) (.agg #[.int .i64 k', .int .i64 a', .int .i64 n', .string x', .int .i64 op', .slice Cl rl el, .slice Cf rf ef]))) from KD.out.drew.apart2 (it := .x _ _) (o1 := (some x22.heap.size)) (o2 := none) (KD.out.drew.ownlt (.head _)) (fun _ h => by cases h) hx); have hfr := hid (show none ≠ some y2.heap.size from fun e => by cases e); have cbf := (cells5 (K3.out.blk _ (.head _))).1.2.2.2.1; have lby := K3.out.lt (.head _); have mby := Nat.ne_of_lt lby; obtain ⟨ad, hAd⟩ : ∃ ad, ad = x25.heap.size := ⟨_, rfl⟩; clear h1 h2 hx))
        all_goals
         obtain ⟨y5, K6, hy5⟩ : ∃ y5, Hid (Fr E (fun i => i = E.p ∨ i = b) w.heap.size w y5 (ex (TP.take E.ts (B [44]) (ex (TP.take E.ts (B [61]) (TP.name E.ts (adv s)).2)).2)).2 [(b, .cells #[.int .i64 6, .int .i64 (E.pl a), .slice (some ⟨x12.heap.size, 0, none⟩) 1 1, .slice (some ⟨ga, 0, none⟩) (1 + 1) ca, .slice none 0 0] 34)] [.w none (.r 0 38 w.heap.size (((.cons ((ex (TP.take E.ts (B [61]) (TP.name E.ts (adv s)).2)).1.map E.gl) .nil) : T).snoc ((ex (TP.take E.ts (B [44]) (ex (TP.take E.ts (B [61]) (TP.name E.ts (adv s)).2)).2)).1.map E.gl)) (.slice (some ⟨ga, 0, none⟩) (1 + 1) ca)), .w (some ga) (.o w.heap.size [(TP.name E.ts (adv s)).1] (.slice (some ⟨x12.heap.size, 0, none⟩) 1 1))]) ∧ (y5 = ((((((((y3.setCell ⟨b, 3, none⟩ (.slice (some ⟨ga, 0, none⟩) 2 ca)).setCell ⟨ga, 7, none⟩ (.int .i64 k')).setCell ⟨ga, 8, none⟩ (.int .i64 a')).setCell ⟨ga, 9, none⟩ (.int .i64 n')).setCell ⟨ga, 10, none⟩ (.string x')).setCell ⟨ga, 11, none⟩ (.int .i64 op')).setCell ⟨ga, 12, none⟩ (.slice Cl rl el)).setCell ⟨ga, 13, none⟩ (.slice Cf rf ef)) ∧ y5 = ((((((((y3.setCell ⟨ga, 7, none⟩ (.int .i64 k')).setCell ⟨ga, 8, none⟩ (.int .i64 a')).setCell ⟨ga, 9, none⟩ (.int .i64 n')).setCell ⟨ga, 10, none⟩ (.string x')).setCell ⟨ga, 11, none⟩ (.int .i64 op')).setCell ⟨ga, 12, none⟩ (.slice Cl rl el)).setCell ⟨ga, 13, none⟩ (.slice Cf rf ef)).setCell ⟨b, 3, none⟩ (.slice (some ⟨ga, 0, none⟩) 2 ca))) := by
          have K5 : Fr E (fun i => i = E.p ∨ i = b) w.heap.size w _ _ [(b, .cells #[.int .i64 6, .int .i64 (E.pl a), .slice (some ⟨x12.heap.size, 0, none⟩) 1 1, .slice (some ⟨ga, 0, none⟩) (1 + 1) ca, .slice none 0 0] 34)] _ := K4.out.set1 0 rfl 3 (.slice (some ⟨ga, 0, none⟩) 2 ca)
          refine ⟨((((((((y3.setCell ⟨b, 3, none⟩ (.slice (some ⟨ga, 0, none⟩) 2 ca)).setCell ⟨ga, 7, none⟩ (.int .i64 k')).setCell ⟨ga, 8, none⟩ (.int .i64 a')).setCell ⟨ga, 9, none⟩ (.int .i64 n')).setCell ⟨ga, 10, none⟩ (.string x')).setCell ⟨ga, 11, none⟩ (.int .i64 op')).setCell ⟨ga, 12, none⟩ (.slice Cl rl el)).setCell ⟨ga, 13, none⟩ (.slice Cf rf ef)), hid (K5.setLast (N := 1) (own := none) [.o w.heap.size [(TP.name E.ts (adv s)).1] (.slice (some ⟨x12.heap.size, 0, none⟩) 1 1)] (K5.get (.head _)) (Nat.le_refl _) trivial rfl (XR.keep (F := fun i => (Fp w.heap.size [(b, .cells #[.int .i64 6, .int .i64 (E.pl a), .slice (some ⟨x12.heap.size, 0, none⟩) 1 1, .slice (some ⟨ga, 0, none⟩) (1 + 1) ca, .slice none 0 0] 34)] i ∧ some ga ≠ some i) ∧ none ≠ some i) (K5.get (.tail _ (.head _))) (fun _ _ _ => rfl) (Nat.le_refl _) (fun i hi _ => ⟨⟨hi.1.1, hi.2⟩, hi.1.2⟩)) (List.forall_mem_cons.2 ⟨K5.get (.tail _ (.tail _ (.head _))), fun _ h => by cases h⟩)), rfl, ?_⟩
          exact comm7 nbg _ _ _ _ _ _ _ _ _ _ _ _ _ _ _ _
         first | rw [← hy5.1] | rw [← hy5.2]
         clear hy5
         rw [← hAd]
         clear hAd K4 K3 nB HX hfr cbf lby mby z0 z1 z2 z3 z4 z5 z6 zf0 zf1 zf2 zf3 zf4 zf5 zf6 ba bb bc bd be fa fb fc fd fe nbg nbg2 XD KD h1
         generalize (Value.agg #[.int .i64 k', .int .i64 a', .int .i64 n', .string x', .int .i64 op', .slice Cl rl el, .slice Cf rf ef]) = va
         revert K6 y5 ga ca ad va
         exact HREST.out
       intro ad28 g28 c28 y28 K28 va28
       clear a0 a1 a2 a3 a4 f0 f1 f2 f3 f4 lb mb XC
       have go29 := hid (go27.out.by HH.out.2.1)
       unfold stFor at q
       cases b_d : isT E.ts (B [44]) (ex (TP.take E.ts (B [44]) (ex (TP.take E.ts (B [61]) (TP.name E.ts (adv s)).2)).2)).2 with
       | true =>
        rw [if_pos b_d] at q
        subst q
        obtain ⟨⟨a0, a1, a2, a3, a4⟩, ⟨f0, f1, f2, f3, f4⟩⟩ := cells5 (K28.out.blk _ (.head _))
        have lb := K28.out.lt (.head _)
        have mb := Nat.ne_of_lt lb
        go_wp2_with (first | (go_at_call 48; refine Hid.out ?_))
        refine hid ?_
        refine (opt_yes E HH.out.1 _ go29.out.2.1 (B [44]) b_d _ (K28.out).ps).mono ?_
        rintro e x30 ⟨rfl, h1, h2⟩
        have G31 := hid (show Fr E (fun i => i = E.p ∨ i = b) w.heap.size w x30 _ [(b, .cells #[.int .i64 6, .int .i64 (E.pl a), .slice (some ⟨x12.heap.size, 0, none⟩) 1 1, .slice (some ⟨g28, 0, none⟩) (1 + 1) c28, .slice none 0 0] 34)] [.w none (.r 0 38 w.heap.size (((.cons ((ex (TP.take E.ts (B [61]) (TP.name E.ts (adv s)).2)).1.map E.gl) .nil) : T).snoc ((ex (TP.take E.ts (B [44]) (ex (TP.take E.ts (B [61]) (TP.name E.ts (adv s)).2)).2)).1.map E.gl)) (.slice (some ⟨g28, 0, none⟩) (1 + 1) c28)), .w (some g28) (.o w.heap.size [(TP.name E.ts (adv s)).1] (.slice (some ⟨x12.heap.size, 0, none⟩) 1 1))] from (K28.out).call h1 h2)
        clear h1 h2
        clear a0 a1 a2 a3 a4 f0 f1 f2 f3 f4 lb mb
        have go32 := hid (go29.out.is HH.out.1.ends b_d)
        obtain ⟨⟨a0, a1, a2, a3, a4⟩, ⟨f0, f1, f2, f3, f4⟩⟩ := cells5 (G31.out.blk _ (.head _))
        have lb := G31.out.lt (.head _)
        have mb := Nat.ne_of_lt lb
        have XC := hid (HH.out.2.2.2.1 (adv (ex (TP.take E.ts (B [44]) (ex (TP.take E.ts (B [61]) (TP.name E.ts (adv s)).2)).2)).2) _ go32.out.2.1 G31.out.drew.ps)
        go_wp2
        apply once2
        ·intro HREST
         have KD := hid (G31.out.newF (.cells #[.int .i64 0, .int .i64 0, .int .i64 0, .string ⟨#[]⟩, .int .i64 0, .slice none 0 0, .slice none 0 0] 38))
         have XD := hid (HH.out.2.2.2.1 (adv (ex (TP.take E.ts (B [44]) (ex (TP.take E.ts (B [61]) (TP.name E.ts (adv s)).2)).2)).2) _ go32.out.2.1 KD.out.drew.ps)
         go_region_law (first | (refine step_OF _ rfl _ _ 0 38 31 96 _ rfl Tryz.underlying31 i38n rfl (by decide) (by decide) w.heap.size (fun i => Fp w.heap.size [(b, .cells #[.int .i64 6, .int .i64 (E.pl a), .slice (some ⟨x12.heap.size, 0, none⟩) 1 1, .slice (some ⟨g28, 0, none⟩) (1 + 1) c28, .slice none 0 0] 34)] i ∧ none ≠ some i) (.slice (some ⟨g28, 0, none⟩) 2 c28) (((.cons ((ex (TP.take E.ts (B [61]) (TP.name E.ts (adv s)).2)).1.map E.gl) .nil) : T).snoc ((ex (TP.take E.ts (B [44]) (ex (TP.take E.ts (B [61]) (TP.name E.ts (adv s)).2)).2)).1.map E.gl)) 2 rfl rfl (K3.out.get (.head _)) (.ex 0 0 0 ⟨#[]⟩ 0 .nil .nil) [.int .i64 0, .int .i64 0, .int .i64 0, .string ⟨#[]⟩, .int .i64 0, .slice none 0 0, .slice none 0 0] _ rfl nB.out (XR.ec1 (XR.leaf _ _ _ _ _ _ _)) (by decide) K3.out.kp.size ⟨K3.out.fresh, hfr.out⟩ ?_; intro ga ca y3 h1 h2 h3; have K4 := hid (K3.out.appendedO (g := ga) [.w none (.x ((ex (adv (ex (TP.take E.ts (B [44]) (ex (TP.take E.ts (B [61]) (TP.name E.ts (adv s)).2)).2)).2)).1.map E.gl) (.agg #[.int .i64 k', .int .i64 a', .int .i64 n', .string x', .int .i64 op', .slice Cl rl el, .slice Cf rf ef])), .o w.heap.size [(TP.name E.ts (adv s)).1] (.slice (some ⟨x12.heap.size, 0, none⟩) 1 1)] (K3.out.get (.head _)) (List.forall_mem_cons.2 ⟨HX.out, List.forall_mem_cons.2 ⟨K3.out.get (.tail _ (.head _)), fun _ h => by cases h⟩⟩) (Nat.le_refl _) h2 h1 h3); obtain ⟨⟨z0, z1, z2, z3, z4, z5, z6⟩, ⟨zf0, zf1, zf2, zf3, zf4, zf5, zf6⟩⟩ := OF.last7 (F := fun i => Fp w.heap.size [(b, .cells #[.int .i64 6, .int .i64 (E.pl a), .slice (some ⟨x12.heap.size, 0, none⟩) 1 1, .slice (some ⟨g28, 0, none⟩) (1 + 1) c28, .slice none 0 0] 34)] i ∧ none ≠ some i) (t := (((.cons ((ex (TP.take E.ts (B [61]) (TP.name E.ts (adv s)).2)).1.map E.gl) .nil) : T).snoc ((ex (TP.take E.ts (B [44]) (ex (TP.take E.ts (B [61]) (TP.name E.ts (adv s)).2)).2)).1.map E.gl))) (N := 2) trivial rfl (K4.out.get (.head _)); simp only [Nat.reduceMul, Nat.reduceAdd] at z0 z1 z2 z3 z4 z5 z6 zf0 zf1 zf2 zf3 zf4 zf5 zf6; obtain ⟨⟨ba, bb, bc, bd, be⟩, ⟨fa, fb, fc, fd, fe⟩⟩ := cells5 (K4.out.blk _ (.head _)); have nbg := (OF.blk (h1) ga rfl).2.2.1.2 _ (.head _); have nbg2 := Ne.symm nbg; clear h2 h3) | (go_simp; go_at_call 50; refine (XC.out).mono ?_; rintro e y2 ⟨v, rfl, hx, h1, h2⟩; obtain ⟨k', a', n', x', op', Cl, rl, el, Cf, rf, ef, rfl⟩ := XR.form hx; have hxa := G31.out.drew.apart2 (it := .x _ _) (o1 := (some g28)) (o2 := none) (G31.out.drew.ownlt (.head _)) (fun _ h => by cases h) hx; have K2 := G31.out.drew.call h1 h2; have K3 := hid (K2.newF (.cells #[.int .i64 0, .int .i64 0, .int .i64 0, .string ⟨#[]⟩, .int .i64 0, .slice none 0 0, .slice none 0 0] 38)); have nB := hid (heap_alloc_new y2 (.cells #[.int .i64 0, .int .i64 0, .int .i64 0, .string ⟨#[]⟩, .int .i64 0, .slice none 0 0, .slice none 0 0] 38)); have HX := hid (show It.ok (y2.alloc (.cells #[.int .i64 0, .int .i64 0, .int .i64 0, .string ⟨#[]⟩, .int .i64 0, .slice none 0 0, .slice none 0 0] 38)) (fun i => Fp w.heap.size [(b, .cells #[.int .i64 6, .int .i64 (E.pl a), .slice (some ⟨x12.heap.size, 0, none⟩) 1 1, .slice (some ⟨g28, 0, none⟩) (1 + 1) c28, .slice none 0 0] 34)] i ∧ (some g28) ≠ some i) (.w none (.x ((ex (adv (ex (TP.take E.ts (B [44]) (ex (TP.take E.ts (B [61]) (TP.name E.ts (adv s)).2)).2)).2)).1.map E.gl) (.agg #[.int .i64 k', .int .i64 a', .int .i64 n', .string x', .int .i64 op', .slice Cl rl el, .slice Cf rf ef]))) from It.keep (it := .w none (.x _ _)) (fun i _ hl => alloc_old.block i hl) (by rw [World.size_alloc]; omega) (fun _ hi _ => hi) hxa); have hfr := hid (show none ≠ some (y2.alloc (.cells #[.int .i64 0, .int .i64 0, .int .i64 0, .string ⟨#[]⟩, .int .i64 0, .slice none 0 0, .slice none 0 0] 38)).heap.size from fun e => by cases e); have cbf := (cells5 (K2.blk _ (.head _))).1.2.2.2.1; have lby := K2.lt (.head _); have mby := Nat.ne_of_lt lby; obtain ⟨ad, hAd⟩ : ∃ ad, ad = y2.heap.size := ⟨_, rfl⟩; clear h1 h2 hx hxa K2) | (go_simp; go_at_call 50; refine (XD.out).mono ?_; rintro e y2 ⟨v, rfl, hx, h1, h2⟩; obtain ⟨k', a', n', x', op', Cl, rl, el, Cf, rf, ef, rfl⟩ := XR.form hx; have K3 := hid (KD.out.drew.call h1 h2); have nB := hid (show y2.heap[x30.heap.size]? = some (.cells #[.int .i64 0, .int .i64 0, .int .i64 0, .string ⟨#[]⟩, .int .i64 0, .slice none 0 0, .slice none 0 0] 38) from (h2.block _ (by show x30.heap.size < (x30.alloc (.cells #[.int .i64 0, .int .i64 0, .int .i64 0, .string ⟨#[]⟩, .int .i64 0, .slice none 0 0, .slice none 0 0] 38)).heap.size; rw [World.size_alloc]; omega) (by have := G31.out.ps.lt; omega)).trans (heap_alloc_new x30 (.cells #[.int .i64 0, .int .i64 0, .int .i64 0, .string ⟨#[]⟩, .int .i64 0, .slice none 0 0, .slice none 0 0] 38))); have HX := hid (show It.ok y2 (fun i => Fp w.heap.size [(b, .cells #[.int .i64 6, .int .i64 (E.pl a), .slice (some ⟨x12.heap.size, 0, none⟩) 1 1, .slice (some ⟨g28, 0, none⟩) (1 + 1) c28, .slice none 0 0] 34)] i ∧ (some g28) ≠ some i) (.w none (.x ((ex (adv (ex (TP.take E.ts (B [44]) (ex (TP.take E.ts (B [61]) (TP.name E.ts (adv s)).2)).2)).2)).1.map E.gl) (.agg #[.int .i64 k', .int .i64 a', .int .i64 n', .string x', .int .i64 op', .slice Cl rl el, .slice Cf rf ef]))) from KD.out.drew.apart2 (it := .x _ _) (o1 := (some g28)) (o2 := none) (KD.out.drew.ownlt (.head _)) (fun _ h => by cases h) hx); have hfr := hid (show none ≠ some y2.heap.size from fun e => by cases e); have cbf := (cells5 (K3.out.blk _ (.head _))).1.2.2.2.1; have lby := K3.out.lt (.head _); have mby := Nat.ne_of_lt lby; obtain ⟨ad, hAd⟩ : ∃ ad, ad = x30.heap.size := ⟨_, rfl⟩; clear h1 h2 hx))
         all_goals
          obtain ⟨y5, K6, hy5⟩ : ∃ y5, Hid (Fr E (fun i => i = E.p ∨ i = b) w.heap.size w y5 (ex (adv (ex (TP.take E.ts (B [44]) (ex (TP.take E.ts (B [61]) (TP.name E.ts (adv s)).2)).2)).2)).2 [(b, .cells #[.int .i64 6, .int .i64 (E.pl a), .slice (some ⟨x12.heap.size, 0, none⟩) 1 1, .slice (some ⟨ga, 0, none⟩) (2 + 1) ca, .slice none 0 0] 34)] [.w none (.r 0 38 w.heap.size (((((.cons ((ex (TP.take E.ts (B [61]) (TP.name E.ts (adv s)).2)).1.map E.gl) .nil) : T).snoc ((ex (TP.take E.ts (B [44]) (ex (TP.take E.ts (B [61]) (TP.name E.ts (adv s)).2)).2)).1.map E.gl)) : T).snoc ((ex (adv (ex (TP.take E.ts (B [44]) (ex (TP.take E.ts (B [61]) (TP.name E.ts (adv s)).2)).2)).2)).1.map E.gl)) (.slice (some ⟨ga, 0, none⟩) (2 + 1) ca)), .w (some ga) (.o w.heap.size [(TP.name E.ts (adv s)).1] (.slice (some ⟨x12.heap.size, 0, none⟩) 1 1))]) ∧ (y5 = ((((((((y3.setCell ⟨b, 3, none⟩ (.slice (some ⟨ga, 0, none⟩) 3 ca)).setCell ⟨ga, 14, none⟩ (.int .i64 k')).setCell ⟨ga, 15, none⟩ (.int .i64 a')).setCell ⟨ga, 16, none⟩ (.int .i64 n')).setCell ⟨ga, 17, none⟩ (.string x')).setCell ⟨ga, 18, none⟩ (.int .i64 op')).setCell ⟨ga, 19, none⟩ (.slice Cl rl el)).setCell ⟨ga, 20, none⟩ (.slice Cf rf ef)) ∧ y5 = ((((((((y3.setCell ⟨ga, 14, none⟩ (.int .i64 k')).setCell ⟨ga, 15, none⟩ (.int .i64 a')).setCell ⟨ga, 16, none⟩ (.int .i64 n')).setCell ⟨ga, 17, none⟩ (.string x')).setCell ⟨ga, 18, none⟩ (.int .i64 op')).setCell ⟨ga, 19, none⟩ (.slice Cl rl el)).setCell ⟨ga, 20, none⟩ (.slice Cf rf ef)).setCell ⟨b, 3, none⟩ (.slice (some ⟨ga, 0, none⟩) 3 ca))) := by
           have K5 : Fr E (fun i => i = E.p ∨ i = b) w.heap.size w _ _ [(b, .cells #[.int .i64 6, .int .i64 (E.pl a), .slice (some ⟨x12.heap.size, 0, none⟩) 1 1, .slice (some ⟨ga, 0, none⟩) (2 + 1) ca, .slice none 0 0] 34)] _ := K4.out.set1 0 rfl 3 (.slice (some ⟨ga, 0, none⟩) 3 ca)
           refine ⟨((((((((y3.setCell ⟨b, 3, none⟩ (.slice (some ⟨ga, 0, none⟩) 3 ca)).setCell ⟨ga, 14, none⟩ (.int .i64 k')).setCell ⟨ga, 15, none⟩ (.int .i64 a')).setCell ⟨ga, 16, none⟩ (.int .i64 n')).setCell ⟨ga, 17, none⟩ (.string x')).setCell ⟨ga, 18, none⟩ (.int .i64 op')).setCell ⟨ga, 19, none⟩ (.slice Cl rl el)).setCell ⟨ga, 20, none⟩ (.slice Cf rf ef)), hid (K5.setLast (N := 2) (own := none) [.o w.heap.size [(TP.name E.ts (adv s)).1] (.slice (some ⟨x12.heap.size, 0, none⟩) 1 1)] (K5.get (.head _)) (Nat.le_refl _) trivial rfl (XR.keep (F := fun i => (Fp w.heap.size [(b, .cells #[.int .i64 6, .int .i64 (E.pl a), .slice (some ⟨x12.heap.size, 0, none⟩) 1 1, .slice (some ⟨ga, 0, none⟩) (2 + 1) ca, .slice none 0 0] 34)] i ∧ some ga ≠ some i) ∧ none ≠ some i) (K5.get (.tail _ (.head _))) (fun _ _ _ => rfl) (Nat.le_refl _) (fun i hi _ => ⟨⟨hi.1.1, hi.2⟩, hi.1.2⟩)) (List.forall_mem_cons.2 ⟨K5.get (.tail _ (.tail _ (.head _))), fun _ h => by cases h⟩)), rfl, ?_⟩
           exact comm7 nbg _ _ _ _ _ _ _ _ _ _ _ _ _ _ _ _
          first | rw [← hy5.1] | rw [← hy5.2]
          clear hy5
          rw [← hAd]
          clear hAd K4 K3 nB HX hfr cbf lby mby z0 z1 z2 z3 z4 z5 z6 zf0 zf1 zf2 zf3 zf4 zf5 zf6 ba bb bc bd be fa fb fc fd fe nbg nbg2 XD KD h1
          generalize (Value.agg #[.int .i64 k', .int .i64 a', .int .i64 n', .string x', .int .i64 op', .slice Cl rl el, .slice Cf rf ef]) = va
          revert K6 y5 ga ca ad va
          exact HREST.out
        intro ad33 g33 c33 y33 K33 va33
        clear a0 a1 a2 a3 a4 f0 f1 f2 f3 f4 lb mb XC
        have go34 := hid (go32.out.by HH.out.2.1)
        obtain ⟨⟨a0, a1, a2, a3, a4⟩, ⟨f0, f1, f2, f3, f4⟩⟩ := cells5 (K33.out.blk _ (.head _))
        have lb := K33.out.lt (.head _)
        have mb := Nat.ne_of_lt lb
        go_wp2_with (first | (go_at_call 71; refine Hid.out ?_))
        refine hid ?_
        refine (take_is E HH.out.1 _ go34.out.2.1 (B [100, 111]) _ (K33.out).ps).mono ?_
        rintro e x35 ⟨rfl, h1, h2⟩
        have G36 := hid (show Fr E (fun i => i = E.p ∨ i = b) w.heap.size w x35 _ [(b, .cells #[.int .i64 6, .int .i64 (E.pl a), .slice (some ⟨x12.heap.size, 0, none⟩) 1 1, .slice (some ⟨g33, 0, none⟩) (2 + 1) c33, .slice none 0 0] 34)] [.w none (.r 0 38 w.heap.size (((((.cons ((ex (TP.take E.ts (B [61]) (TP.name E.ts (adv s)).2)).1.map E.gl) .nil) : T).snoc ((ex (TP.take E.ts (B [44]) (ex (TP.take E.ts (B [61]) (TP.name E.ts (adv s)).2)).2)).1.map E.gl)) : T).snoc ((ex (adv (ex (TP.take E.ts (B [44]) (ex (TP.take E.ts (B [61]) (TP.name E.ts (adv s)).2)).2)).2)).1.map E.gl)) (.slice (some ⟨g33, 0, none⟩) (2 + 1) c33)), .w (some g33) (.o w.heap.size [(TP.name E.ts (adv s)).1] (.slice (some ⟨x12.heap.size, 0, none⟩) 1 1))] from (K33.out).call h1 h2)
        have go37 := hid (go34.out.take HH.out.1.ends (B [100, 111]))
        clear h1 h2
        clear a0 a1 a2 a3 a4 f0 f1 f2 f3 f4 lb mb
        obtain ⟨⟨a0, a1, a2, a3, a4⟩, ⟨f0, f1, f2, f3, f4⟩⟩ := cells5 (G36.out.blk _ (.head _))
        have lb := G36.out.lt (.head _)
        have mb := Nat.ne_of_lt lb
        go_wp2_with (first | (go_at_call 17; refine Hid.out ?_))
        refine hid ?_
        refine (HH.out.2.2.2.2.1 (TP.take E.ts (B [100, 111]) (ex (adv (ex (TP.take E.ts (B [44]) (ex (TP.take E.ts (B [61]) (TP.name E.ts (adv s)).2)).2)).2)).2) _ go37.out.2.1 (G36.out).ps).mono ?_
        rintro e x38 ⟨v, rfl, hx, h1, h2⟩
        obtain ⟨Ab, nb, cb, rfl⟩ := hx.form
        have G39 := hid (show Fr E (fun i => i = E.p ∨ i = b) w.heap.size w x38 _ [(b, .cells #[.int .i64 6, .int .i64 (E.pl a), .slice (some ⟨x12.heap.size, 0, none⟩) 1 1, .slice (some ⟨g33, 0, none⟩) (2 + 1) c33, .slice none 0 0] 34)] [.s 2 ((bl (TP.take E.ts (B [100, 111]) (ex (adv (ex (TP.take E.ts (B [44]) (ex (TP.take E.ts (B [61]) (TP.name E.ts (adv s)).2)).2)).2)).2)).1.map E.gl) (.slice Ab nb cb), .w none (.r 0 38 w.heap.size (((((.cons ((ex (TP.take E.ts (B [61]) (TP.name E.ts (adv s)).2)).1.map E.gl) .nil) : T).snoc ((ex (TP.take E.ts (B [44]) (ex (TP.take E.ts (B [61]) (TP.name E.ts (adv s)).2)).2)).1.map E.gl)) : T).snoc ((ex (adv (ex (TP.take E.ts (B [44]) (ex (TP.take E.ts (B [61]) (TP.name E.ts (adv s)).2)).2)).2)).1.map E.gl)) (.slice (some ⟨g33, 0, none⟩) (2 + 1) c33)), .w (some g33) (.o w.heap.size [(TP.name E.ts (adv s)).1] (.slice (some ⟨x12.heap.size, 0, none⟩) 1 1))] from (G36.out).callI h1 h2 (it := .s 2 _ _) hx)
        have go40 := hid (go37.out.by HH.out.2.2.1)
        clear h1 h2 hx
        clear a0 a1 a2 a3 a4 f0 f1 f2 f3 f4 lb mb
        obtain ⟨⟨a0, a1, a2, a3, a4⟩, ⟨f0, f1, f2, f3, f4⟩⟩ := cells5 (G39.out.blk _ (.head _))
        have lb := G39.out.lt (.head _)
        have mb := Nat.ne_of_lt lb
        go_wp2_with (first | (go_at_call 71; refine Hid.out ?_))
        refine hid ?_
        have P41 : Fr E (fun i => i = E.p ∨ i = b) w.heap.size w _ _ [(b, .cells #[.int .i64 6, .int .i64 (E.pl a), .slice (some ⟨x12.heap.size, 0, none⟩) 1 1, .slice (some ⟨g33, 0, none⟩) (2 + 1) c33, .slice (some ⟨x38.heap.size, 0, none⟩) 1 1] 34)] [.s 2 ((bl (TP.take E.ts (B [100, 111]) (ex (adv (ex (TP.take E.ts (B [44]) (ex (TP.take E.ts (B [61]) (TP.name E.ts (adv s)).2)).2)).2)).2)).1.map E.gl) (.slice Ab nb cb), .w none (.r 0 38 w.heap.size (((((.cons ((ex (TP.take E.ts (B [61]) (TP.name E.ts (adv s)).2)).1.map E.gl) .nil) : T).snoc ((ex (TP.take E.ts (B [44]) (ex (TP.take E.ts (B [61]) (TP.name E.ts (adv s)).2)).2)).1.map E.gl)) : T).snoc ((ex (adv (ex (TP.take E.ts (B [44]) (ex (TP.take E.ts (B [61]) (TP.name E.ts (adv s)).2)).2)).2)).1.map E.gl)) (.slice (some ⟨g33, 0, none⟩) (2 + 1) c33)), .w (some g33) (.o w.heap.size [(TP.name E.ts (adv s)).1] (.slice (some ⟨x12.heap.size, 0, none⟩) 1 1))] := (G39.out).set1 0 rfl 4 (.slice (some ⟨x38.heap.size, 0, none⟩) 1 1)
        have P42 : Fr E (fun i => i = E.p ∨ i = b) w.heap.size w _ _ [(b, .cells #[.int .i64 6, .int .i64 (E.pl a), .slice (some ⟨x12.heap.size, 0, none⟩) 1 1, .slice (some ⟨g33, 0, none⟩) (2 + 1) c33, .slice (some ⟨x38.heap.size, 0, none⟩) 1 1] 34)] [.s 3 (.cons ((bl (TP.take E.ts (B [100, 111]) (ex (adv (ex (TP.take E.ts (B [44]) (ex (TP.take E.ts (B [61]) (TP.name E.ts (adv s)).2)).2)).2)).2)).1.map E.gl) .nil) (.slice (some ⟨x38.heap.size, 0, none⟩) 1 1), .s 2 ((bl (TP.take E.ts (B [100, 111]) (ex (adv (ex (TP.take E.ts (B [44]) (ex (TP.take E.ts (B [61]) (TP.name E.ts (adv s)).2)).2)).2)).2)).1.map E.gl) (.slice Ab nb cb), .w none (.r 0 38 w.heap.size (((((.cons ((ex (TP.take E.ts (B [61]) (TP.name E.ts (adv s)).2)).1.map E.gl) .nil) : T).snoc ((ex (TP.take E.ts (B [44]) (ex (TP.take E.ts (B [61]) (TP.name E.ts (adv s)).2)).2)).1.map E.gl)) : T).snoc ((ex (adv (ex (TP.take E.ts (B [44]) (ex (TP.take E.ts (B [61]) (TP.name E.ts (adv s)).2)).2)).2)).1.map E.gl)) (.slice (some ⟨g33, 0, none⟩) (2 + 1) c33)), .w (some g33) (.o w.heap.size [(TP.name E.ts (adv s)).1] (.slice (some ⟨x12.heap.size, 0, none⟩) 1 1))] := P41.litA (e := 23) (b := x38.heap.size) (by simp [World.setCell]) (n := 1) (by intro e; cases e) rfl (by decide) (EC_bl.2 ⟨_, [], rfl, P41.get (.head _), EC_nil.2 rfl⟩)
        refine (take_is E HH.out.1 _ go40.out.2.1 (B [101, 110, 100]) _ (P42).ps).mono ?_
        rintro e x43 ⟨rfl, h1, h2⟩
        have G44 := hid (show Fr E (fun i => i = E.p ∨ i = b) w.heap.size w x43 _ [(b, .cells #[.int .i64 6, .int .i64 (E.pl a), .slice (some ⟨x12.heap.size, 0, none⟩) 1 1, .slice (some ⟨g33, 0, none⟩) (2 + 1) c33, .slice (some ⟨x38.heap.size, 0, none⟩) 1 1] 34)] [.s 3 (.cons ((bl (TP.take E.ts (B [100, 111]) (ex (adv (ex (TP.take E.ts (B [44]) (ex (TP.take E.ts (B [61]) (TP.name E.ts (adv s)).2)).2)).2)).2)).1.map E.gl) .nil) (.slice (some ⟨x38.heap.size, 0, none⟩) 1 1), .s 2 ((bl (TP.take E.ts (B [100, 111]) (ex (adv (ex (TP.take E.ts (B [44]) (ex (TP.take E.ts (B [61]) (TP.name E.ts (adv s)).2)).2)).2)).2)).1.map E.gl) (.slice Ab nb cb), .w none (.r 0 38 w.heap.size (((((.cons ((ex (TP.take E.ts (B [61]) (TP.name E.ts (adv s)).2)).1.map E.gl) .nil) : T).snoc ((ex (TP.take E.ts (B [44]) (ex (TP.take E.ts (B [61]) (TP.name E.ts (adv s)).2)).2)).1.map E.gl)) : T).snoc ((ex (adv (ex (TP.take E.ts (B [44]) (ex (TP.take E.ts (B [61]) (TP.name E.ts (adv s)).2)).2)).2)).1.map E.gl)) (.slice (some ⟨g33, 0, none⟩) (2 + 1) c33)), .w (some g33) (.o w.heap.size [(TP.name E.ts (adv s)).1] (.slice (some ⟨x12.heap.size, 0, none⟩) 1 1))] from (P42).call h1 h2)
        have go45 := hid (go40.out.take HH.out.1.ends (B [101, 110, 100]))
        clear h1 h2
        clear a0 a1 a2 a3 a4 f0 f1 f2 f3 f4 lb mb
        obtain ⟨⟨a0, a1, a2, a3, a4⟩, ⟨f0, f1, f2, f3, f4⟩⟩ := cells5 (G44.out.blk _ (.head _))
        have lb := G44.out.lt (.head _)
        have mb := Nat.ne_of_lt lb
        go_wp2
        first | go_end0 | refine bodyPost_ret (results_none rfl _ _ _) rfl ?_
        exact ⟨rfl, StP.mk rfl (G44.out.blk _ (.head _)) (NL.keep (NF.nl (show NF _ _ (fun i => Fp w.heap.size _ i ∧ _) _ _ from G44.out.get (.tail _ (.tail _ (.tail _ (.head _)))))) (fun _ _ _ => rfl) (Nat.le_refl _) (fun i hi _ => hi.1.1)) (SL.keep (fun _ _ _ => rfl) (Nat.le_refl _) (fun i hi _ => hi.1.1) _ _ _ (OF.sl (show OF _ _ _ _ (fun i => Fp w.heap.size _ i ∧ _) _ _ from G44.out.get (.tail _ (.tail _ (.head _)))))) (SL.keep (fun _ _ _ => rfl) (Nat.le_refl _) (fun i hi _ => hi.1) _ _ _ (G44.out.get (.head _))) G44.out.ps G44.out.finS⟩
       | false =>
        rw [if_neg (by rw [b_d]; decide)] at q
        subst q
        obtain ⟨⟨a0, a1, a2, a3, a4⟩, ⟨f0, f1, f2, f3, f4⟩⟩ := cells5 (K28.out.blk _ (.head _))
        have lb := K28.out.lt (.head _)
        have mb := Nat.ne_of_lt lb
        go_wp2_with (first | (go_at_call 48; refine Hid.out ?_))
        refine hid ?_
        refine (opt_no E HH.out.1 _ go29.out.2.1 (B [44]) b_d _ (K28.out).ps).mono ?_
        rintro e x30 ⟨rfl, h1, h2⟩
        have G31 := hid (show Fr E (fun i => i = E.p ∨ i = b) w.heap.size w x30 _ [(b, .cells #[.int .i64 6, .int .i64 (E.pl a), .slice (some ⟨x12.heap.size, 0, none⟩) 1 1, .slice (some ⟨g28, 0, none⟩) (1 + 1) c28, .slice none 0 0] 34)] [.w none (.r 0 38 w.heap.size (((.cons ((ex (TP.take E.ts (B [61]) (TP.name E.ts (adv s)).2)).1.map E.gl) .nil) : T).snoc ((ex (TP.take E.ts (B [44]) (ex (TP.take E.ts (B [61]) (TP.name E.ts (adv s)).2)).2)).1.map E.gl)) (.slice (some ⟨g28, 0, none⟩) (1 + 1) c28)), .w (some g28) (.o w.heap.size [(TP.name E.ts (adv s)).1] (.slice (some ⟨x12.heap.size, 0, none⟩) 1 1))] from (K28.out).call h1 h2)
        clear h1 h2
        clear a0 a1 a2 a3 a4 f0 f1 f2 f3 f4 lb mb
        obtain ⟨⟨a0, a1, a2, a3, a4⟩, ⟨f0, f1, f2, f3, f4⟩⟩ := cells5 (G31.out.blk _ (.head _))
        have lb := G31.out.lt (.head _)
        have mb := Nat.ne_of_lt lb
        go_wp2_with (first | (go_at_call 71; refine Hid.out ?_))
        refine hid ?_
        refine (take_is E HH.out.1 _ go29.out.2.1 (B [100, 111]) _ (G31.out).ps).mono ?_
        rintro e x32 ⟨rfl, h1, h2⟩
        have G33 := hid (show Fr E (fun i => i = E.p ∨ i = b) w.heap.size w x32 _ [(b, .cells #[.int .i64 6, .int .i64 (E.pl a), .slice (some ⟨x12.heap.size, 0, none⟩) 1 1, .slice (some ⟨g28, 0, none⟩) (1 + 1) c28, .slice none 0 0] 34)] [.w none (.r 0 38 w.heap.size (((.cons ((ex (TP.take E.ts (B [61]) (TP.name E.ts (adv s)).2)).1.map E.gl) .nil) : T).snoc ((ex (TP.take E.ts (B [44]) (ex (TP.take E.ts (B [61]) (TP.name E.ts (adv s)).2)).2)).1.map E.gl)) (.slice (some ⟨g28, 0, none⟩) (1 + 1) c28)), .w (some g28) (.o w.heap.size [(TP.name E.ts (adv s)).1] (.slice (some ⟨x12.heap.size, 0, none⟩) 1 1))] from (G31.out).call h1 h2)
        have go34 := hid (go29.out.take HH.out.1.ends (B [100, 111]))
        clear h1 h2
        clear a0 a1 a2 a3 a4 f0 f1 f2 f3 f4 lb mb
        obtain ⟨⟨a0, a1, a2, a3, a4⟩, ⟨f0, f1, f2, f3, f4⟩⟩ := cells5 (G33.out.blk _ (.head _))
        have lb := G33.out.lt (.head _)
        have mb := Nat.ne_of_lt lb
        go_wp2_with (first | (go_at_call 17; refine Hid.out ?_))
        refine hid ?_
        refine (HH.out.2.2.2.2.1 (TP.take E.ts (B [100, 111]) (ex (TP.take E.ts (B [44]) (ex (TP.take E.ts (B [61]) (TP.name E.ts (adv s)).2)).2)).2) _ go34.out.2.1 (G33.out).ps).mono ?_
        rintro e x35 ⟨v, rfl, hx, h1, h2⟩
        obtain ⟨Ab, nb, cb, rfl⟩ := hx.form
        have G36 := hid (show Fr E (fun i => i = E.p ∨ i = b) w.heap.size w x35 _ [(b, .cells #[.int .i64 6, .int .i64 (E.pl a), .slice (some ⟨x12.heap.size, 0, none⟩) 1 1, .slice (some ⟨g28, 0, none⟩) (1 + 1) c28, .slice none 0 0] 34)] [.s 2 ((bl (TP.take E.ts (B [100, 111]) (ex (TP.take E.ts (B [44]) (ex (TP.take E.ts (B [61]) (TP.name E.ts (adv s)).2)).2)).2)).1.map E.gl) (.slice Ab nb cb), .w none (.r 0 38 w.heap.size (((.cons ((ex (TP.take E.ts (B [61]) (TP.name E.ts (adv s)).2)).1.map E.gl) .nil) : T).snoc ((ex (TP.take E.ts (B [44]) (ex (TP.take E.ts (B [61]) (TP.name E.ts (adv s)).2)).2)).1.map E.gl)) (.slice (some ⟨g28, 0, none⟩) (1 + 1) c28)), .w (some g28) (.o w.heap.size [(TP.name E.ts (adv s)).1] (.slice (some ⟨x12.heap.size, 0, none⟩) 1 1))] from (G33.out).callI h1 h2 (it := .s 2 _ _) hx)
        have go37 := hid (go34.out.by HH.out.2.2.1)
        clear h1 h2 hx
        clear a0 a1 a2 a3 a4 f0 f1 f2 f3 f4 lb mb
        obtain ⟨⟨a0, a1, a2, a3, a4⟩, ⟨f0, f1, f2, f3, f4⟩⟩ := cells5 (G36.out.blk _ (.head _))
        have lb := G36.out.lt (.head _)
        have mb := Nat.ne_of_lt lb
        go_wp2_with (first | (go_at_call 71; refine Hid.out ?_))
        refine hid ?_
        have P38 : Fr E (fun i => i = E.p ∨ i = b) w.heap.size w _ _ [(b, .cells #[.int .i64 6, .int .i64 (E.pl a), .slice (some ⟨x12.heap.size, 0, none⟩) 1 1, .slice (some ⟨g28, 0, none⟩) (1 + 1) c28, .slice (some ⟨x35.heap.size, 0, none⟩) 1 1] 34)] [.s 2 ((bl (TP.take E.ts (B [100, 111]) (ex (TP.take E.ts (B [44]) (ex (TP.take E.ts (B [61]) (TP.name E.ts (adv s)).2)).2)).2)).1.map E.gl) (.slice Ab nb cb), .w none (.r 0 38 w.heap.size (((.cons ((ex (TP.take E.ts (B [61]) (TP.name E.ts (adv s)).2)).1.map E.gl) .nil) : T).snoc ((ex (TP.take E.ts (B [44]) (ex (TP.take E.ts (B [61]) (TP.name E.ts (adv s)).2)).2)).1.map E.gl)) (.slice (some ⟨g28, 0, none⟩) (1 + 1) c28)), .w (some g28) (.o w.heap.size [(TP.name E.ts (adv s)).1] (.slice (some ⟨x12.heap.size, 0, none⟩) 1 1))] := (G36.out).set1 0 rfl 4 (.slice (some ⟨x35.heap.size, 0, none⟩) 1 1)
        have P39 : Fr E (fun i => i = E.p ∨ i = b) w.heap.size w _ _ [(b, .cells #[.int .i64 6, .int .i64 (E.pl a), .slice (some ⟨x12.heap.size, 0, none⟩) 1 1, .slice (some ⟨g28, 0, none⟩) (1 + 1) c28, .slice (some ⟨x35.heap.size, 0, none⟩) 1 1] 34)] [.s 3 (.cons ((bl (TP.take E.ts (B [100, 111]) (ex (TP.take E.ts (B [44]) (ex (TP.take E.ts (B [61]) (TP.name E.ts (adv s)).2)).2)).2)).1.map E.gl) .nil) (.slice (some ⟨x35.heap.size, 0, none⟩) 1 1), .s 2 ((bl (TP.take E.ts (B [100, 111]) (ex (TP.take E.ts (B [44]) (ex (TP.take E.ts (B [61]) (TP.name E.ts (adv s)).2)).2)).2)).1.map E.gl) (.slice Ab nb cb), .w none (.r 0 38 w.heap.size (((.cons ((ex (TP.take E.ts (B [61]) (TP.name E.ts (adv s)).2)).1.map E.gl) .nil) : T).snoc ((ex (TP.take E.ts (B [44]) (ex (TP.take E.ts (B [61]) (TP.name E.ts (adv s)).2)).2)).1.map E.gl)) (.slice (some ⟨g28, 0, none⟩) (1 + 1) c28)), .w (some g28) (.o w.heap.size [(TP.name E.ts (adv s)).1] (.slice (some ⟨x12.heap.size, 0, none⟩) 1 1))] := P38.litA (e := 23) (b := x35.heap.size) (by simp [World.setCell]) (n := 1) (by intro e; cases e) rfl (by decide) (EC_bl.2 ⟨_, [], rfl, P38.get (.head _), EC_nil.2 rfl⟩)
        refine (take_is E HH.out.1 _ go37.out.2.1 (B [101, 110, 100]) _ (P39).ps).mono ?_
        rintro e x40 ⟨rfl, h1, h2⟩
        have G41 := hid (show Fr E (fun i => i = E.p ∨ i = b) w.heap.size w x40 _ [(b, .cells #[.int .i64 6, .int .i64 (E.pl a), .slice (some ⟨x12.heap.size, 0, none⟩) 1 1, .slice (some ⟨g28, 0, none⟩) (1 + 1) c28, .slice (some ⟨x35.heap.size, 0, none⟩) 1 1] 34)] [.s 3 (.cons ((bl (TP.take E.ts (B [100, 111]) (ex (TP.take E.ts (B [44]) (ex (TP.take E.ts (B [61]) (TP.name E.ts (adv s)).2)).2)).2)).1.map E.gl) .nil) (.slice (some ⟨x35.heap.size, 0, none⟩) 1 1), .s 2 ((bl (TP.take E.ts (B [100, 111]) (ex (TP.take E.ts (B [44]) (ex (TP.take E.ts (B [61]) (TP.name E.ts (adv s)).2)).2)).2)).1.map E.gl) (.slice Ab nb cb), .w none (.r 0 38 w.heap.size (((.cons ((ex (TP.take E.ts (B [61]) (TP.name E.ts (adv s)).2)).1.map E.gl) .nil) : T).snoc ((ex (TP.take E.ts (B [44]) (ex (TP.take E.ts (B [61]) (TP.name E.ts (adv s)).2)).2)).1.map E.gl)) (.slice (some ⟨g28, 0, none⟩) (1 + 1) c28)), .w (some g28) (.o w.heap.size [(TP.name E.ts (adv s)).1] (.slice (some ⟨x12.heap.size, 0, none⟩) 1 1))] from (P39).call h1 h2)
        have go42 := hid (go37.out.take HH.out.1.ends (B [101, 110, 100]))
        clear h1 h2
        clear a0 a1 a2 a3 a4 f0 f1 f2 f3 f4 lb mb
        obtain ⟨⟨a0, a1, a2, a3, a4⟩, ⟨f0, f1, f2, f3, f4⟩⟩ := cells5 (G41.out.blk _ (.head _))
        have lb := G41.out.lt (.head _)
        have mb := Nat.ne_of_lt lb
        go_wp2
        first | go_end0 | refine bodyPost_ret (results_none rfl _ _ _) rfl ?_
        exact ⟨rfl, StP.mk rfl (G41.out.blk _ (.head _)) (NL.keep (NF.nl (show NF _ _ (fun i => Fp w.heap.size _ i ∧ _) _ _ from G41.out.get (.tail _ (.tail _ (.tail _ (.head _)))))) (fun _ _ _ => rfl) (Nat.le_refl _) (fun i hi _ => hi.1.1)) (SL.keep (fun _ _ _ => rfl) (Nat.le_refl _) (fun i hi _ => hi.1.1) _ _ _ (OF.sl (show OF _ _ _ _ (fun i => Fp w.heap.size _ i ∧ _) _ _ from G41.out.get (.tail _ (.tail _ (.head _)))))) (SL.keep (fun _ _ _ => rfl) (Nat.le_refl _) (fun i hi _ => hi.1) _ _ _ (G41.out.get (.head _))) G41.out.ps G41.out.finS⟩
     | false =>
      rw [if_neg (by rw [b_for]; decide)] at q
      obtain ⟨⟨a0, a1, a2, a3, a4⟩, ⟨f0, f1, f2, f3, f4⟩⟩ := cells5 (G8.out.blk _ (.head _))
      have lb := G8.out.lt (.head _)
      have mb := Nat.ne_of_lt lb
      go_wp2_with (first | (go_at_call 48; refine Hid.out ?_))
      refine hid ?_
      refine (opt_no E HH.out.1 _ go0.out.2.1 (B [102, 111, 114]) b_for _ (G8.out).ps).mono ?_
      rintro e x9 ⟨rfl, h1, h2⟩
      have G10 := hid (show Fr E (fun i => i = E.p ∨ i = b) w.heap.size w x9 _ [(b, .cells #[.int .i64 0, .int .i64 (E.pl a), .slice none 0 0, .slice none 0 0, .slice none 0 0] 34)] [] from (G8.out).call h1 h2)
      clear h1 h2
      clear a0 a1 a2 a3 a4 f0 f1 f2 f3 f4 lb mb
      cases b_break : isT E.ts (B [98, 114, 101, 97, 107]) s with
      | true =>
       rw [if_pos b_break] at q
       subst q
       obtain ⟨⟨a0, a1, a2, a3, a4⟩, ⟨f0, f1, f2, f3, f4⟩⟩ := cells5 (G10.out.blk _ (.head _))
       have lb := G10.out.lt (.head _)
       have mb := Nat.ne_of_lt lb
       go_wp2_with (first | (go_at_call 48; refine Hid.out ?_))
       refine hid ?_
       refine (opt_yes E HH.out.1 _ go0.out.2.1 (B [98, 114, 101, 97, 107]) b_break _ (G10.out).ps).mono ?_
       rintro e x11 ⟨rfl, h1, h2⟩
       have G12 := hid (show Fr E (fun i => i = E.p ∨ i = b) w.heap.size w x11 _ [(b, .cells #[.int .i64 0, .int .i64 (E.pl a), .slice none 0 0, .slice none 0 0, .slice none 0 0] 34)] [] from (G10.out).call h1 h2)
       clear h1 h2
       clear a0 a1 a2 a3 a4 f0 f1 f2 f3 f4 lb mb
       have go13 := hid (go0.out.is HH.out.1.ends b_break)
       obtain ⟨⟨a0, a1, a2, a3, a4⟩, ⟨f0, f1, f2, f3, f4⟩⟩ := cells5 (G12.out.blk _ (.head _))
       have lb := G12.out.lt (.head _)
       have mb := Nat.ne_of_lt lb
       go_wp2
       have P14 : Fr E (fun i => i = E.p ∨ i = b) w.heap.size w _ _ [(b, .cells #[.int .i64 9, .int .i64 (E.pl a), .slice none 0 0, .slice none 0 0, .slice none 0 0] 34)] [] := (G12.out).set1 0 rfl 0 (.int .i64 9)
       first | go_end0 | refine bodyPost_ret (results_none rfl _ _ _) rfl ?_
       exact ⟨rfl, StP.mk rfl ((P14).blk _ (.head _)) (.inl ⟨rfl, rfl⟩) (.nil) (.nil) (P14).ps (P14).finS⟩
      | false =>
       rw [if_neg (by rw [b_break]; decide)] at q
       obtain ⟨⟨a0, a1, a2, a3, a4⟩, ⟨f0, f1, f2, f3, f4⟩⟩ := cells5 (G10.out.blk _ (.head _))
       have lb := G10.out.lt (.head _)
       have mb := Nat.ne_of_lt lb
       go_wp2_with (first | (go_at_call 48; refine Hid.out ?_))
       refine hid ?_
       refine (opt_no E HH.out.1 _ go0.out.2.1 (B [98, 114, 101, 97, 107]) b_break _ (G10.out).ps).mono ?_
       rintro e x11 ⟨rfl, h1, h2⟩
       have G12 := hid (show Fr E (fun i => i = E.p ∨ i = b) w.heap.size w x11 _ [(b, .cells #[.int .i64 0, .int .i64 (E.pl a), .slice none 0 0, .slice none 0 0, .slice none 0 0] 34)] [] from (G10.out).call h1 h2)
       clear h1 h2
       clear a0 a1 a2 a3 a4 f0 f1 f2 f3 f4 lb mb
       cases b_do : isT E.ts (B [100, 111]) s with
       | true =>
        rw [if_pos b_do] at q
        subst q
        obtain ⟨⟨a0, a1, a2, a3, a4⟩, ⟨f0, f1, f2, f3, f4⟩⟩ := cells5 (G12.out.blk _ (.head _))
        have lb := G12.out.lt (.head _)
        have mb := Nat.ne_of_lt lb
        go_wp2_with (first | (go_at_call 48; refine Hid.out ?_))
        refine hid ?_
        refine (opt_yes E HH.out.1 _ go0.out.2.1 (B [100, 111]) b_do _ (G12.out).ps).mono ?_
        rintro e x13 ⟨rfl, h1, h2⟩
        have G14 := hid (show Fr E (fun i => i = E.p ∨ i = b) w.heap.size w x13 _ [(b, .cells #[.int .i64 0, .int .i64 (E.pl a), .slice none 0 0, .slice none 0 0, .slice none 0 0] 34)] [] from (G12.out).call h1 h2)
        clear h1 h2
        clear a0 a1 a2 a3 a4 f0 f1 f2 f3 f4 lb mb
        have go15 := hid (go0.out.is HH.out.1.ends b_do)
        obtain ⟨⟨a0, a1, a2, a3, a4⟩, ⟨f0, f1, f2, f3, f4⟩⟩ := cells5 (G14.out.blk _ (.head _))
        have lb := G14.out.lt (.head _)
        have mb := Nat.ne_of_lt lb
        go_wp2_with (first | (go_at_call 17; refine Hid.out ?_))
        refine hid ?_
        have P16 : Fr E (fun i => i = E.p ∨ i = b) w.heap.size w _ _ [(b, .cells #[.int .i64 11, .int .i64 (E.pl a), .slice none 0 0, .slice none 0 0, .slice none 0 0] 34)] [] := (G14.out).set1 0 rfl 0 (.int .i64 11)
        refine (HH.out.2.2.2.2.1 (adv s) _ go15.out.2.1 (P16).ps).mono ?_
        rintro e x17 ⟨v, rfl, hx, h1, h2⟩
        obtain ⟨Ab, nb, cb, rfl⟩ := hx.form
        have G18 := hid (show Fr E (fun i => i = E.p ∨ i = b) w.heap.size w x17 _ [(b, .cells #[.int .i64 11, .int .i64 (E.pl a), .slice none 0 0, .slice none 0 0, .slice none 0 0] 34)] [.s 2 ((bl (adv s)).1.map E.gl) (.slice Ab nb cb)] from (P16).callI h1 h2 (it := .s 2 _ _) hx)
        have go19 := hid (go15.out.by HH.out.2.2.1)
        clear h1 h2 hx
        clear a0 a1 a2 a3 a4 f0 f1 f2 f3 f4 lb mb
        obtain ⟨⟨a0, a1, a2, a3, a4⟩, ⟨f0, f1, f2, f3, f4⟩⟩ := cells5 (G18.out.blk _ (.head _))
        have lb := G18.out.lt (.head _)
        have mb := Nat.ne_of_lt lb
        go_wp2_with (first | (go_at_call 71; refine Hid.out ?_))
        refine hid ?_
        have P20 : Fr E (fun i => i = E.p ∨ i = b) w.heap.size w _ _ [(b, .cells #[.int .i64 11, .int .i64 (E.pl a), .slice none 0 0, .slice none 0 0, .slice (some ⟨x17.heap.size, 0, none⟩) 1 1] 34)] [.s 2 ((bl (adv s)).1.map E.gl) (.slice Ab nb cb)] := (G18.out).set1 0 rfl 4 (.slice (some ⟨x17.heap.size, 0, none⟩) 1 1)
        have P21 : Fr E (fun i => i = E.p ∨ i = b) w.heap.size w _ _ [(b, .cells #[.int .i64 11, .int .i64 (E.pl a), .slice none 0 0, .slice none 0 0, .slice (some ⟨x17.heap.size, 0, none⟩) 1 1] 34)] [.s 3 (.cons ((bl (adv s)).1.map E.gl) .nil) (.slice (some ⟨x17.heap.size, 0, none⟩) 1 1), .s 2 ((bl (adv s)).1.map E.gl) (.slice Ab nb cb)] := P20.litA (e := 23) (b := x17.heap.size) (by simp [World.setCell]) (n := 1) (by intro e; cases e) rfl (by decide) (EC_bl.2 ⟨_, [], rfl, P20.get (.head _), EC_nil.2 rfl⟩)
        refine (take_is E HH.out.1 _ go19.out.2.1 (B [101, 110, 100]) _ (P21).ps).mono ?_
        rintro e x22 ⟨rfl, h1, h2⟩
        have G23 := hid (show Fr E (fun i => i = E.p ∨ i = b) w.heap.size w x22 _ [(b, .cells #[.int .i64 11, .int .i64 (E.pl a), .slice none 0 0, .slice none 0 0, .slice (some ⟨x17.heap.size, 0, none⟩) 1 1] 34)] [.s 3 (.cons ((bl (adv s)).1.map E.gl) .nil) (.slice (some ⟨x17.heap.size, 0, none⟩) 1 1), .s 2 ((bl (adv s)).1.map E.gl) (.slice Ab nb cb)] from (P21).call h1 h2)
        have go24 := hid (go19.out.take HH.out.1.ends (B [101, 110, 100]))
        clear h1 h2
        clear a0 a1 a2 a3 a4 f0 f1 f2 f3 f4 lb mb
        obtain ⟨⟨a0, a1, a2, a3, a4⟩, ⟨f0, f1, f2, f3, f4⟩⟩ := cells5 (G23.out.blk _ (.head _))
        have lb := G23.out.lt (.head _)
        have mb := Nat.ne_of_lt lb
        go_wp2
        first | go_end0 | refine bodyPost_ret (results_none rfl _ _ _) rfl ?_
        exact ⟨rfl, StP.mk rfl ((G23.out).blk _ (.head _)) (.inl ⟨rfl, rfl⟩) (.nil) (SL.keep (fun _ _ _ => rfl) (Nat.le_refl _) (fun i hi _ => hi.1) _ _ _ ((G23.out).get (.head _))) (G23.out).ps (G23.out).finS⟩
       | false =>
        rw [if_neg (by rw [b_do]; decide)] at q
        obtain ⟨⟨a0, a1, a2, a3, a4⟩, ⟨f0, f1, f2, f3, f4⟩⟩ := cells5 (G12.out.blk _ (.head _))
        have lb := G12.out.lt (.head _)
        have mb := Nat.ne_of_lt lb
        go_wp2_with (first | (go_at_call 48; refine Hid.out ?_))
        refine hid ?_
        refine (opt_no E HH.out.1 _ go0.out.2.1 (B [100, 111]) b_do _ (G12.out).ps).mono ?_
        rintro e x13 ⟨rfl, h1, h2⟩
        have G14 := hid (show Fr E (fun i => i = E.p ∨ i = b) w.heap.size w x13 _ [(b, .cells #[.int .i64 0, .int .i64 (E.pl a), .slice none 0 0, .slice none 0 0, .slice none 0 0] 34)] [] from (G12.out).call h1 h2)
        clear h1 h2
        clear a0 a1 a2 a3 a4 f0 f1 f2 f3 f4 lb mb
        obtain ⟨⟨a0, a1, a2, a3, a4⟩, ⟨f0, f1, f2, f3, f4⟩⟩ := cells5 (G14.out.blk _ (.head _))
        have lb := G14.out.lt (.head _)
        have mb := Nat.ne_of_lt lb
        go_wp2_with (first | (go_at_call 47; refine Hid.out ?_))
        refine hid ?_
        refine (place_is E _ go0.out.2.1 _ (G14.out).ps).mono ?_
        rintro e x15 ⟨rfl, h1, h2⟩
        have G16 := hid (show Fr E (fun i => i = E.p ∨ i = b) w.heap.size w x15 _ [(b, .cells #[.int .i64 0, .int .i64 (E.pl a), .slice none 0 0, .slice none 0 0, .slice none 0 0] 34)] [] from (G14.out).below2 h1 h2)
        clear h1 h2
        clear a0 a1 a2 a3 a4 f0 f1 f2 f3 f4 lb mb
        obtain ⟨⟨a0, a1, a2, a3, a4⟩, ⟨f0, f1, f2, f3, f4⟩⟩ := cells5 (G16.out.blk _ (.head _))
        have lb := G16.out.lt (.head _)
        have mb := Nat.ne_of_lt lb
        go_wp2_with (first | (go_at_call 69; refine Hid.out ?_))
        refine hid ?_
        refine (name_is E HH.out.1 _ go0.out.2.1 _ (G16.out).ps).mono ?_
        rintro e x17 ⟨rfl, h1, h2⟩
        have G18 := hid (show Fr E (fun i => i = E.p ∨ i = b) w.heap.size w x17 _ [(b, .cells #[.int .i64 0, .int .i64 (E.pl a), .slice none 0 0, .slice none 0 0, .slice none 0 0] 34)] [] from (G16.out).call h1 h2)
        have go19 := hid (go0.out.name HH.out.1.ends)
        clear h1 h2
        clear a0 a1 a2 a3 a4 f0 f1 f2 f3 f4 lb mb
        obtain ⟨r, hr⟩ : ∃ r, TP.behind E.ts ex (.ex 6 s.i 0 (TP.name E.ts s).1 0 .nil .nil) (TP.name E.ts s).2 = r := ⟨_, rfl⟩
        rw [hr] at q
        have gb := behind_go HH.out.1.ends HH.out.2.1 (E.ts.length + 1) (.ex 6 s.i 0 (TP.name E.ts s).1 0 .nil .nil) s (TP.name E.ts s).2 go19.out
        have gb2 : Go E.ts s r.2 := by rw [← hr]; exact gb
        have gB := hid gb2
        have BH := hid (HH.out.2.2.2.2.2.1 (.ex 6 s.i 0 (TP.name E.ts s).1 0 .nil .nil) (.agg #[.int .i64 6, .int .i64 (E.pl s.i), .int .i64 0, .string (TP.name E.ts s).1, .int .i64 0, .slice none 0 0, .slice none 0 0]) (TP.name E.ts s).2 x17 x17.heap.size go19.out.2.1 G18.out.ps G18.out.ps.lt (Nat.le_refl _) (by rw [map_leaf]; exact XR.leaf _ _ _ _ _ _ _))
        rw [hr] at BH
        clear gb gb2 hr
        go_wp2_with (first | (go_at_call 72; refine Hid.out ?_))
        refine hid ?_
        refine (BH.out).mono ?_
        rintro e x20 ⟨v, rfl, hx, h1, h2⟩
        obtain ⟨k', a', n', x', op', Cl, rl, el, Cf, rf, ef, rfl⟩ := XR.form hx
        have HC := hid (XR.call hx)
        have K1 := hid ((G18.out.callI h1 h2 (it := .x _ _) hx).new (.cells #[.int .i64 k', .int .i64 a', .int .i64 n', .string x', .int .i64 op', .slice Cl rl el, .slice Cf rf ef] 38))
        clear h1 h2 hx BH
        have q0 := hid q
        clear q
        have l8 : x20.heap.size < (x20.alloc (.cells #[.int .i64 k', .int .i64 a', .int .i64 n', .string x', .int .i64 op', .slice Cl rl el, .slice Cf rf ef] 38)).heap.size := by rw [World.size_alloc]; omega
        obtain ⟨⟨k0, k1, k2, k3, k4, k5, k6⟩, _⟩ := cells7 (K1.out.blk _ (.head _))
        by_cases hk : k' = 10
        ·subst hk
         have q := q0.out
         unfold stElse at q
         have IE := hid (fun X (hX : PS E X r.2) => is_is E HH.out.1 _ gB.out.2.1 (B [61]) X hX)
         cases b_e : isT E.ts (B [61]) r.2 with
         | false =>
          rw [b_e] at IE
          rw [if_pos (by rw [HC.out, b_e]; rfl)] at q
          subst q
          go_wp2_with (first | (go_at_call 49; refine Hid.out ?_))
          refine hid ?_
          refine (IE.out _ K1.out.ps).mono ?_
          rintro e y1 ⟨rfl, h1⟩
          have K4 := hid (K1.out.below h1)
          clear h1 k0 k1 k2 k3 k4 k5 k6 l8
          generalize x20.heap.size = b8 at K4 ⊢
          obtain ⟨⟨k0, k1, k2, k3, k4, k5, k6⟩, _⟩ := cells7 (K4.out.blk _ (.head _))
          have l8 := K4.out.lt (.head _)
          have m8 := Nat.ne_of_lt l8
          have lb := K4.out.lt (.tail _ (.head _))
          have mb := Nat.ne_of_lt lb
          have nd := K4.out.nd
          simp only [List.map_cons, List.map_nil, List.nodup_cons, List.mem_cons, List.mem_nil_iff, or_false, not_or, List.nodup_nil, and_true] at nd
          have nd1 := nd.1
          have nd2 := Ne.symm nd1
          clear nd
          obtain ⟨⟨a0, a1, a2, a3, a4⟩, ⟨f0, f1, f2, f3, f4⟩⟩ := cells5 (K4.out.blk _ (.tail _ (.head _)))
          go_wp2
          go_region
          all_goals
           have K6 := ((K4.out.set1 1 rfl 0 (.int .i64 3)).set1 1 rfl 3 (.slice (some ⟨y1.heap.size, 0, none⟩) 1 1)).litA (e := 38) (b := y1.heap.size) (by simp [World.setCell]) (n := 1) (by intro e; cases e) rfl (by decide) (XR.ec1 (Fr.get ((K4.out.set1 1 rfl 0 (.int .i64 3)).set1 1 rfl 3 (.slice (some ⟨y1.heap.size, 0, none⟩) 1 1)) (.head _)))
           have K7 := hid (show StP E a _ b w _ from StP.mk (r := (.st 3 a [] (T.of [r.1]) .nil, r.2)) rfl (K6.drew.blk _ (.tail _ (.head _))) (.inl ⟨rfl, rfl⟩) (SL.keep (fun _ _ _ => rfl) (Nat.le_refl _) (fun i hi _ => hi.1) _ _ _ (K6.drew.get (.head _))) .nil K6.drew.ps K6.drew.finS)
           clear K6
           go_wp2
           first | go_end0 | refine bodyPost_ret (results_none rfl _ _ _) rfl ?_
           exact ⟨rfl, K7.out⟩
         | true =>
          rw [b_e] at IE
          rw [if_neg (by rw [b_e]; simp)] at q
          rw [if_pos (by rw [HC.out]; rfl)] at q
          have gu := hid (gB.out.fail 14 (by decide))
          go_wp2_with (first | (go_at_call 49; (with_reducible refine (IE.out _ K1.out.ps).mono ?_); rintro e x40 ⟨rfl, h1⟩; have K2 := hid (K1.out.below h1); clear k0 k1 k2 k3 k4 k5 k6; obtain ⟨⟨k0, k1, k2, k3, k4, k5, k6⟩, _⟩ := cells7 (K2.out.blk _ (.head _)); clear h1) | (go_at_call 18; refine Hid.out ?_))
          refine hid ?_
          refine (fail_is E HH.out.1 _ gB.out.2.1 14 _ K2.out.ps).mono ?_
          rintro e x41 ⟨rfl, h1, h2⟩
          have K3 := hid (K2.out.call h1 h2)
          have lp := 0
          clear h1 h2 K1 K2 k0 k1 k2 k3 k4 k5 k6 l8
          subst q
          go_wp2_with (first | (go_at_call 71; refine Hid.out ?_))
          refine hid ?_
          refine (take_is E HH.out.1 _ gu.out.2.1 (B [61]) _ K3.out.ps).mono ?_
          rintro e y1 ⟨rfl, h1, h2⟩
          have K4 := hid (K3.out.call h1 h2)
          have gT := hid (gu.out.take HH.out.1.ends (B [61]))
          have XC := hid (HH.out.2.2.2.1 (TP.take E.ts (B [61]) (TP.fail 14 r.2)) _ gT.out.2.1 K4.out.drew.ps)
          have gX := hid (gT.out.by HH.out.2.1)
          clear h1 h2
          generalize x20.heap.size = b8 at K4 ⊢
          obtain ⟨⟨k0, k1, k2, k3, k4, k5, k6⟩, _⟩ := cells7 (K4.out.blk _ (.head _))
          have l8 := K4.out.lt (.head _)
          have m8 := Nat.ne_of_lt l8
          have lb := K4.out.lt (.tail _ (.head _))
          have mb := Nat.ne_of_lt lb
          have nd := K4.out.nd
          simp only [List.map_cons, List.map_nil, List.nodup_cons, List.mem_cons, List.mem_nil_iff, or_false, not_or, List.nodup_nil, and_true] at nd
          have nd1 := nd.1
          have nd2 := Ne.symm nd1
          clear nd
          obtain ⟨⟨a0, a1, a2, a3, a4⟩, ⟨f0, f1, f2, f3, f4⟩⟩ := cells5 (K4.out.blk _ (.tail _ (.head _)))
          clear lp
          go_wp2
          go_region_law (first | (go_simp; go_at_call 50; refine (XC.out).mono ?_; rintro e y2 ⟨v, rfl, hx, h1, h2⟩; obtain ⟨zk, za, zn, zx, zop, Zl, zr, ze, Zf, zf, zg, rfl⟩ := XR.form hx; have K5 := hid (K4.out.drew.callI h1 h2 (it := .x _ _) hx); clear h1 h2 hx; obtain ⟨⟨ka, kb, kc, kd, ke, kf, kg⟩, _⟩ := cells7 (K5.out.blk _ (.head _)); obtain ⟨⟨ba, bb, bc, bd, be⟩, ⟨fa, fb, fc, fd, fe⟩⟩ := cells5 (K5.out.blk _ (.tail _ (.head _))); have l8y := K5.out.lt (.head _); have m8y := Nat.ne_of_lt l8y; have lby := K5.out.lt (.tail _ (.head _)); have mby := Nat.ne_of_lt lby))
          all_goals
           have K6 := ((K5.out.set1 1 rfl 0 (.int .i64 2)).set1 1 rfl 3 (.slice (some ⟨y2.heap.size, 0, none⟩) 2 2)).litA (e := 38) (b := y2.heap.size) (by simp [World.setCell]) (n := 2) (by intro e; cases e) rfl (by decide) (XR.ec2 (Fr.get ((K5.out.set1 1 rfl 0 (.int .i64 2)).set1 1 rfl 3 (.slice (some ⟨y2.heap.size, 0, none⟩) 2 2)) (.tail _ (.head _))) (Fr.get ((K5.out.set1 1 rfl 0 (.int .i64 2)).set1 1 rfl 3 (.slice (some ⟨y2.heap.size, 0, none⟩) 2 2)) (.head _)))
           have K7 := hid (show StP E a _ b w _ from StP.mk (r := (.st 2 a [] (T.of [r.1, (ex (TP.take E.ts (B [61]) (TP.fail 14 r.2))).1]) .nil, (ex (TP.take E.ts (B [61]) (TP.fail 14 r.2))).2)) rfl (K6.blk _ (.tail _ (.head _))) (.inl ⟨rfl, rfl⟩) (SL.keep (fun _ _ _ => rfl) (Nat.le_refl _) (fun i hi _ => hi.1) _ _ _ (K6.get (.head _))) .nil K6.ps K6.finS)
           clear K6 K5
           go_wp2
           first | go_end0 | refine bodyPost_ret (results_none rfl _ _ _) rfl ?_
           exact ⟨rfl, K7.out⟩
        ·have q := q0.out
         unfold stElse at q
         rw [if_neg (by rw [HC.out, decide_eq_false hk]; simp)] at q
         rw [if_neg (by rw [HC.out, decide_eq_false hk]; simp)] at q
         have gu := gB
         have lp := 0
         subst q
         go_wp2_with (first | (go_at_call 71; refine Hid.out ?_))
         refine hid ?_
         refine (take_is E HH.out.1 _ gu.out.2.1 (B [61]) _ K1.out.ps).mono ?_
         rintro e y1 ⟨rfl, h1, h2⟩
         have K4 := hid (K1.out.call h1 h2)
         have gT := hid (gu.out.take HH.out.1.ends (B [61]))
         have XC := hid (HH.out.2.2.2.1 (TP.take E.ts (B [61]) r.2) _ gT.out.2.1 K4.out.drew.ps)
         have gX := hid (gT.out.by HH.out.2.1)
         clear h1 h2
         generalize x20.heap.size = b8 at K4 ⊢
         obtain ⟨⟨k0, k1, k2, k3, k4, k5, k6⟩, _⟩ := cells7 (K4.out.blk _ (.head _))
         have l8 := K4.out.lt (.head _)
         have m8 := Nat.ne_of_lt l8
         have lb := K4.out.lt (.tail _ (.head _))
         have mb := Nat.ne_of_lt lb
         have nd := K4.out.nd
         simp only [List.map_cons, List.map_nil, List.nodup_cons, List.mem_cons, List.mem_nil_iff, or_false, not_or, List.nodup_nil, and_true] at nd
         have nd1 := nd.1
         have nd2 := Ne.symm nd1
         clear nd
         obtain ⟨⟨a0, a1, a2, a3, a4⟩, ⟨f0, f1, f2, f3, f4⟩⟩ := cells5 (K4.out.blk _ (.tail _ (.head _)))
         clear lp
         go_wp2
         go_region_law (first | (go_simp; go_at_call 50; refine (XC.out).mono ?_; rintro e y2 ⟨v, rfl, hx, h1, h2⟩; obtain ⟨zk, za, zn, zx, zop, Zl, zr, ze, Zf, zf, zg, rfl⟩ := XR.form hx; have K5 := hid (K4.out.drew.callI h1 h2 (it := .x _ _) hx); clear h1 h2 hx; obtain ⟨⟨ka, kb, kc, kd, ke, kf, kg⟩, _⟩ := cells7 (K5.out.blk _ (.head _)); obtain ⟨⟨ba, bb, bc, bd, be⟩, ⟨fa, fb, fc, fd, fe⟩⟩ := cells5 (K5.out.blk _ (.tail _ (.head _))); have l8y := K5.out.lt (.head _); have m8y := Nat.ne_of_lt l8y; have lby := K5.out.lt (.tail _ (.head _)); have mby := Nat.ne_of_lt lby))
         all_goals
          have K6 := ((K5.out.set1 1 rfl 0 (.int .i64 2)).set1 1 rfl 3 (.slice (some ⟨y2.heap.size, 0, none⟩) 2 2)).litA (e := 38) (b := y2.heap.size) (by simp [World.setCell]) (n := 2) (by intro e; cases e) rfl (by decide) (XR.ec2 (Fr.get ((K5.out.set1 1 rfl 0 (.int .i64 2)).set1 1 rfl 3 (.slice (some ⟨y2.heap.size, 0, none⟩) 2 2)) (.tail _ (.head _))) (Fr.get ((K5.out.set1 1 rfl 0 (.int .i64 2)).set1 1 rfl 3 (.slice (some ⟨y2.heap.size, 0, none⟩) 2 2)) (.head _)))
          have K7 := hid (show StP E a _ b w _ from StP.mk (r := (.st 2 a [] (T.of [r.1, (ex (TP.take E.ts (B [61]) r.2)).1]) .nil, (ex (TP.take E.ts (B [61]) r.2)).2)) rfl (K6.blk _ (.tail _ (.head _))) (.inl ⟨rfl, rfl⟩) (SL.keep (fun _ _ _ => rfl) (Nat.le_refl _) (fun i hi _ => hi.1) _ _ _ (K6.get (.head _))) .nil K6.ps K6.finS)
          clear K6 K5
          go_wp2
          first | go_end0 | refine bodyPost_ret (results_none rfl _ _ _) rfl ?_
          exact ⟨rfl, K7.out⟩
end Go.Proofs.YtgkejkgailnbmaaGreatDoor
