/- Texts joined: B7, S2, S4 -/
import Derived.Test.YtgkejkgailnbmaaGreatDoorQt17
import Derived.Test.YtgkejkgailnbmaaGreatDoorQt18
import Derived.Test.YtgkejkgailnbmaaGreatDoorQt20
set_option linter.unusedVariables false
set_option linter.unusedSimpArgs false
namespace Go.Proofs.YtgkejkgailnbmaaGreatDoor
open Lib (hid)
open Go.ChangeShapes Go.WideShapes Go.ChangeAt Go.RowKit TP
set_option maxRecDepth 100000 in
set_option maxHeartbeats 4000000 in
theorem block100_is (E : Env) (hE : E.Ok) : BlC E 17 #[.int .i64 100] (fun s => (.nil, TP.fail 8 s)) := by
 intro s w hi h
 have DP := hid (deep_is E hE s hi 101 w h)
 rw [if_pos (by decide)] at DP
 have hf : (TP.fail 8 s).c ≠ 0 ∧ (TP.fail 8 s).i < E.ts.length := by
  unfold TP.fail
  split
  ·exact ⟨(by decide : (8 : Int) ≠ 0), hi⟩
  ·exact ⟨‹_›, hi⟩
 have EN := hid (fun X (hX : PS E X (TP.fail 8 s)) => ends_is E hE (TP.fail 8 s) hf.2 X hX)
 rw [ends_bad hf.1] at EN
 show Calls _ _ #[.pointer (some ⟨E.p, 0, none⟩), .int .i64 100] _ (fun e w' => ∃ v, e = .returned v ∧ SL w' (fun i => w.heap.size ≤ i) 2 v .nil ∧ PS E w' (TP.fail 8 s) ∧ KpP E w w')
 clear h hE hi hf
 go_enter Tryz.func17, Tryz.ntmps17
 go_wp2_with (first | (go_at_call 45; (with_reducible refine (DP.out).mono ?_); rintro e x1 ⟨rfl, h1, h2⟩; have P1 := hid h1; have K1 := hid h2; clear h1 h2))
 go_loopw [5] (fun ov wr => Hid (ov = .slice none 0 0 ∧ wr = x1)) (fun _ _ => 0)
 case atStart => exact hid ⟨rfl, rfl⟩
 case round =>
  obtain ⟨rfl, rfl⟩ := hrel.out
  go_wp2_with (first | (go_at_call 46; (with_reducible refine (EN.out _ P1.out).mono ?_); rintro e x2 ⟨rfl, h1, h2⟩; have P2 := hid h1; have K2 := hid (K1.out.trans (.of (h2.mono K1.out.size))); clear h1 h2))
  go_ret
  exact ⟨_, rfl, .nil, P2.out, K2.out⟩
def AtD (E : Env) (d : Int) (q : PK) : Prop := ExC E 50 #[.int .i64 d] q.ex ∧ BlC E 17 #[.int .i64 d] q.bl ∧ ExC E 79 #[.int .i64 d] q.un ∧ ExC E 78 #[.int .i64 d] q.jn
theorem post_at (E : Env) (hE : E.Ok) (d : Int) (ex bl : St → R) (hG : TP.Good E.ts ex) (hGb : TP.Good E.ts bl) (hL : ExC E 50 #[.int .i64 d] ex) (hB : BlC E 17 #[.int .i64 d] bl) : ExC E 101 #[.int .i64 d] (TP.post E.ts ex bl) :=
 post_is E hE d ex bl hG hL (behind_is E hE d ex hG hL) (body_is E hE d bl hGb hB) (table_is E hE d ex hG hL)
theorem stat_at (E : Env) (hE : E.Ok) (d : Int) (ex bl : St → R) (hG : TP.Good E.ts ex) (hGb : TP.Good E.ts bl) (hL : ExC E 50 #[.int .i64 d] ex) (hB : BlC E 17 #[.int .i64 d] bl) : StC E d (fun a s => TP.stat E.ts ex bl a s) :=
 stat_is E hE d ex bl hG hGb hL hB (behind_is E hE d ex hG hL) (body_is E hE d bl hGb hB)
theorem atD (E : Env) (hE : E.Ok) : ∀ k : Nat, k ≤ 100 → AtD E (100 - (k : Int)) (pk E.ts k)
 | 0, _ => by
  have hx : ExC E 50 #[.int .i64 100] (fun s => (T0, TP.fail 8 s)) := Exp100_is E hE
  have hb : BlC E 17 #[.int .i64 100] (fun s => (.nil, TP.fail 8 s)) := block100_is E hE
  have hu : ExC E 79 #[.int .i64 100] (TP.unary E.ts (fun s => (T0, TP.fail 8 s)) (fun s => (.nil, TP.fail 8 s)) none) :=
   unary_is E hE 100 ⟨by decide, by decide⟩ _ _ none (post_at E hE 100 _ _ good_fail good_fail2 hx hb) (fun _ e => by cases e) (fun _ => rfl)
  refine ⟨hx, hb, hu, ?_⟩
  exact join_is E hE 100 ⟨by decide, by decide⟩ _ (good_bin hE.ends (good_bin hE.ends (good_pass (good_pk hE.ends 0).2.2.1) 5) 4) (lev4 E hE 100 _ (good_pk hE.ends 0).2.2.1 hu) none (fun _ e => by cases e) (fun _ => rfl)
 | k + 1, hk => by
  obtain ⟨h1, h2, h3, h4⟩ := atD E hE k (by omega)
  obtain ⟨g1, g2, g3, g4⟩ := good_pk hE.ends k
  obtain ⟨g5, g6, g7, g8⟩ := good_pk hE.ends (k + 1)
  have e : (100 : Int) - (k : Int) = 100 - ((k + 1 : Nat) : Int) + 1 := by omega
  rw [e] at h1 h2 h3 h4
  have hd : 0 ≤ (100 : Int) - ((k + 1 : Nat) : Int) ∧ (100 : Int) - ((k + 1 : Nat) : Int) + 1 ≤ 100 := by omega
  generalize (100 : Int) - ((k + 1 : Nat) : Int) = d at h1 h2 h3 h4 hd ⊢
  have hx : ExC E 50 #[.int .i64 d] (pk E.ts (k + 1)).ex := exp_lt E hE d hd _ g4 h4
  have hb : BlC E 17 #[.int .i64 d] (pk E.ts (k + 1)).bl := block_is E hE d hd _ _ g1 g2 h1 (stat_at E hE (d + 1) _ _ g1 g2 h1 h2)
  have hu : ExC E 79 #[.int .i64 d] (pk E.ts (k + 1)).un := unary_is E hE d ⟨hd.1, by omega⟩ _ _ (some (pk E.ts k).un) (post_at E hE d _ _ g5 g6 hx hb) (fun u e => by cases e; exact ⟨hd.2, h3⟩) (fun e => by cases e)
  exact ⟨hx, hb, hu, join_is E hE d ⟨hd.1, by omega⟩ _ (good_bin hE.ends (good_bin hE.ends (good_pass g7) 5) 4) (lev4 E hE d _ g7 hu) (some (pk E.ts k).jn) (fun u e => by cases e; exact ⟨hd.2, h4⟩) (fun e => by cases e)⟩
end Go.Proofs.YtgkejkgailnbmaaGreatDoor
namespace TP
def T.drop : T → Nat → T
 | t, 0 => t
 | .cons _ t, n + 1 => t.drop n
 | _, _ + 1 => .nil
theorem T.drop_zero (t : T) : t.drop 0 = t := by cases t <;> rfl
theorem T.drop_cons : ∀ {t : T}, t.isList → ∀ {j : Nat}, j < t.len → t.drop j = .cons (Go.Proofs.YtgkejkgailnbmaaGreatDoor.nth t j) (t.drop (j + 1))
 | .nil, _, _, h => by simp [T.len] at h
 | .cons x r, _, 0, _ => by
  rw [T.drop_zero]
  show _ = T.cons x (r.drop 0)
  rw [T.drop_zero]
 | .cons x r, hl, j + 1, h => T.drop_cons (t := r) hl (by simp only [T.len] at h; omega)
 | .ex _ _ _ _ _ _ _, h, _, _ => h.elim
 | .fn _ _, h, _, _ => h.elim
 | .st _ _ _ _ _, h, _, _ => h.elim
theorem T.drop_len : ∀ {t : T}, t.isList → t.drop t.len = .nil
 | .nil, _ => rfl
 | .cons x r, hl => T.drop_len (t := r) hl
 | .ex _ _ _ _ _ _ _, h => h.elim
 | .fn _ _, h => h.elim
 | .st _ _ _ _ _, h => h.elim
theorem T.drop_isList : ∀ {t : T} (j : Nat), t.isList → (t.drop j).isList
 | t, 0, h => by rw [T.drop_zero]; exact h
 | .nil, _ + 1, _ => trivial
 | .cons x r, j + 1, h => T.drop_isList (t := r) j h
 | .ex _ _ _ _ _ _ _, _ + 1, h => h.elim
 | .fn _ _, _ + 1, h => h.elim
 | .st _ _ _ _ _, _ + 1, h => h.elim
def T.sz : T → Nat
 | .nil => 1
 | .cons h t => h.sz + t.sz + 1
 | .ex _ _ _ _ _ l f => l.sz + f.sz + 1
 | .fn _ b => b.sz + 1
 | .st _ _ _ l b => l.sz + b.sz + 1
theorem T.sz_nth : ∀ {t : T}, t.isList → ∀ {j : Nat}, j < t.len → (Go.Proofs.YtgkejkgailnbmaaGreatDoor.nth t j).sz < t.sz
 | .nil, _, _, h => by simp [T.len] at h
 | .cons x r, _, 0, _ => by show x.sz < x.sz + r.sz + 1; omega
 | .cons x r, hl, j + 1, h => by
  have := T.sz_nth (t := r) hl (j := j) (by simp only [T.len] at h; omega)
  show (Go.Proofs.YtgkejkgailnbmaaGreatDoor.nth r j).sz < x.sz + r.sz + 1
  omega
 | .ex _ _ _ _ _ _ _, h, _, _ => h.elim
 | .fn _ _, h, _, _ => h.elim
 | .st _ _ _ _ _, h, _, _ => h.elim
theorem eqb_ne_len {a b : T} (ha : a.isList) (hb : b.isList) (h : ¬ a.len = b.len) : eqb a b = false := by
 cases he : eqb a b with
 | false => rfl
 | true => exact absurd (eqb_len ha hb he) h
end TP
namespace Go.Proofs.YtgkejkgailnbmaaGreatDoor
open Lib (hid)
open Go.ChangeShapes Go.WideShapes Go.ChangeAt Go.RowKit TP
abbrev FT : Nat → Prop := fun _ => True
theorem SL.wide {w : World} {F : Nat → Prop} {kd : Nat} {v : Value} {t : T} (h : SL w F kd v t) : SL w FT kd v t := SL.keep (fun _ _ _ => rfl) (Nat.le_refl _) (fun _ _ _ => trivial) _ _ _ h
theorem SL.below {w w' : World} {F : Nat → Prop} {kd : Nat} {v : Value} {t : T} (h : SL w F kd v t) (hb : Below w.heap.size w w') : SL w' FT kd v t := SL.keep (fun i _ hl => hb.block i hl) (Below.size hb) (fun _ _ _ => trivial) _ _ _ h
theorem NL.below {w w' : World} {F : Nat → Prop} {v : Value} {l : List ByteArray} (h : NL w F v l) (hb : Below w.heap.size w w') : NL w' FT v l := h.keep (fun i _ hl => hb.block i hl) (Below.size hb) (fun _ _ _ => trivial)
theorem SL.isList {w : World} {F : Nat → Prop} {kd : Nat} {v : Value} {t : T} (h : SL w F kd v t) : t.isList := by
 rcases h with ⟨rfl, _⟩ | ⟨_, _, _, _, _, _, _, _, _, _, h⟩
 ·trivial
 ·exact h.isList
theorem SL.view {w : World} {F : Nat → Prop} {kd : Nat} {v : Value} {t : T} (h : SL w F kd v t) : ∃ A n c, v = .slice A n c ∧ t.len = n ∧ n ≤ maxLen := by
 rcases h with ⟨rfl, rfl⟩ | ⟨_, b, c, _, rfl, h1, h2, _⟩
 ·exact ⟨_, _, _, rfl, rfl, Nat.zero_le _⟩
 ·exact ⟨_, _, _, rfl, rfl, by omega⟩
theorem NL.view {w : World} {F : Nat → Prop} {v : Value} {l : List ByteArray} (h : NL w F v l) : ∃ A n c, v = .slice A n c ∧ l.length = n ∧ n ≤ maxLen := by
 rcases h with ⟨rfl, rfl⟩ | ⟨_, b, c, rfl, h1, h2, _⟩
 ·exact ⟨_, _, _, rfl, rfl, Nat.zero_le _⟩
 ·exact ⟨_, _, _, rfl, rfl, by omega⟩
theorem NL.el {w : World} {F : Nat → Prop} {A : Option Addr} {n c : Nat} {l : List ByteArray} (h : NL w F (.slice A n c) l) (hn : l.length = n) {j : Nat} (hj : j < n) : ∃ b x, A = some ⟨b, 0, none⟩ ∧ l[j]? = some x ∧ w.cell? ⟨b, j, none⟩ = some (.string x) := by
 rcases h with ⟨rfl, _⟩ | ⟨_, b, c', e, h1, h2, _, _, h6⟩
 ·simp at hn; omega
 ·cases e
  obtain ⟨x, hx⟩ : ∃ x, l[j]? = some x := ⟨_, List.getElem?_eq_getElem hj⟩
  exact ⟨b, x, rfl, hx, h6 j x hx⟩
theorem SL.row {w : World} {F : Nat → Prop} {kd : Nat} {A : Option Addr} {n c : Nat} {t : T} (h : SL w F kd (.slice A n c) t) (hn : t.len = n) {j : Nat} (hj : j < n) : ∃ b xs, A = some ⟨b, 0, none⟩ ∧ (∀ j u, xs[j]? = some u → w.cell? ⟨b, j, none⟩ = some u) ∧ EC w F t kd xs := by
 rcases h with ⟨rfl, _⟩ | ⟨_, b, c', xs, e, h1, h2, _, _, h5, h6⟩
 ·simp [T.len] at hn; omega
 ·cases e
  exact ⟨b, xs, rfl, h5, h6⟩
structure ExR (w : World) (F : Nat → Prop) (t : T) (k a n op : Int) (s : ByteArray) (vl vf : Value) (l f : T) : Prop where
 t : t = .ex k a n s op l f
 l : SL w F 0 vl l
 f : SL w F 1 vf f
structure FnR (w : World) (F : Nat → Prop) (t : T) (vp vd : Value) (ps : List ByteArray) (d : T) : Prop where
 t : t = .fn ps d
 p : NL w F vp ps
 d : SL w F 2 vd d
structure StR (w : World) (F : Nat → Prop) (t : T) (k a : Int) (vn vl vd : Value) (ns : List ByteArray) (l d : T) : Prop where
 t : t = .st k a ns l d
 n : NL w F vn ns
 l : SL w F 0 vl l
 d : SL w F 3 vd d
theorem ExR.below {w w' : World} {F : Nat → Prop} {t : T} {k a n op : Int} {s : ByteArray} {vl vf : Value} {l f : T} (h : ExR w F t k a n op s vl vf l f) (hb : Below w.heap.size w w') : ExR w' FT t k a n op s vl vf l f := ⟨h.t, h.l.below hb, h.f.below hb⟩
theorem FnR.below {w w' : World} {F : Nat → Prop} {t : T} {vp vd : Value} {ps : List ByteArray} {d : T} (h : FnR w F t vp vd ps d) (hb : Below w.heap.size w w') : FnR w' FT t vp vd ps d := ⟨h.t, h.p.below hb, h.d.below hb⟩
theorem StR.below {w w' : World} {F : Nat → Prop} {t : T} {k a : Int} {vn vl vd : Value} {ns : List ByteArray} {l d : T} (h : StR w F t k a vn vl vd ns l d) (hb : Below w.heap.size w w') : StR w' FT t k a vn vl vd ns l d := ⟨h.t, h.n.below hb, h.l.below hb, h.d.below hb⟩
theorem SL.el0 {w : World} {F : Nat → Prop} {A : Option Addr} {N c : Nat} {t : T} (h : SL w F 0 (.slice A N c) t) (hn : t.len = N) {j : Nat} (hj : j < N) : ∃ b k a n op s vl vf l f, A = some ⟨b, 0, none⟩ ∧ ExR w F (nth t j) k a n op s vl vf l f ∧ w.cell? ⟨b, j * 7, none⟩ = some (.int .i64 k) ∧ w.cell? ⟨b, j * 7 + 1, none⟩ = some (.int .i64 a) ∧ w.cell? ⟨b, j * 7 + 2, none⟩ = some (.int .i64 n) ∧ w.cell? ⟨b, j * 7 + 3, none⟩ = some (.string s) ∧ w.cell? ⟨b, j * 7 + 4, none⟩ = some (.int .i64 op) ∧ w.cell? ⟨b, j * 7 + 5, none⟩ = some vl ∧ w.cell? ⟨b, j * 7 + 6, none⟩ = some vf := by
 obtain ⟨b, xs, rfl, h1, h2⟩ := h.row hn hj
 obtain ⟨k, a, n, s, op, l, f, vl, vf, e0, e1, e2, e3, e4, e5, e6, e7, e8, e9⟩ := EC.at0 h2 j (by omega)
 exact ⟨b, k, a, n, op, s, vl, vf, l, f, rfl, ⟨e0, e8, e9⟩, h1 _ _ e1, h1 _ _ e2, h1 _ _ e3, h1 _ _ e4, h1 _ _ e5, h1 _ _ e6, h1 _ _ e7⟩
theorem SL.el1 {w : World} {F : Nat → Prop} {A : Option Addr} {N c : Nat} {t : T} (h : SL w F 1 (.slice A N c) t) (hn : t.len = N) {j : Nat} (hj : j < N) : ∃ b vp vd ps d, A = some ⟨b, 0, none⟩ ∧ FnR w F (nth t j) vp vd ps d ∧ w.cell? ⟨b, j * 2, none⟩ = some vp ∧ w.cell? ⟨b, j * 2 + 1, none⟩ = some vd := by
 obtain ⟨b, xs, rfl, h1, h2⟩ := h.row hn hj
 obtain ⟨ps, d, vp, vd, e0, e1, e2, e3, e4⟩ := EC.at1 h2 j (by omega)
 exact ⟨b, vp, vd, ps, d, rfl, ⟨e0, e3, e4⟩, h1 _ _ e1, h1 _ _ e2⟩
theorem SL.el2 {w : World} {F : Nat → Prop} {A : Option Addr} {N c : Nat} {t : T} (h : SL w F 2 (.slice A N c) t) (hn : t.len = N) {j : Nat} (hj : j < N) : ∃ b k a vn vl vd ns l d, A = some ⟨b, 0, none⟩ ∧ StR w F (nth t j) k a vn vl vd ns l d ∧ w.cell? ⟨b, j * 5, none⟩ = some (.int .i64 k) ∧ w.cell? ⟨b, j * 5 + 1, none⟩ = some (.int .i64 a) ∧ w.cell? ⟨b, j * 5 + 2, none⟩ = some vn ∧ w.cell? ⟨b, j * 5 + 3, none⟩ = some vl ∧ w.cell? ⟨b, j * 5 + 4, none⟩ = some vd := by
 obtain ⟨b, xs, rfl, h1, h2⟩ := h.row hn hj
 obtain ⟨k, a, ns, l, d, vn, vl, vd, e0, e1, e2, e3, e4, e5, e6, e7, e8⟩ := EC.at2 h2 j (by omega)
 exact ⟨b, k, a, vn, vl, vd, ns, l, d, rfl, ⟨e0, e6, e7, e8⟩, h1 _ _ e1, h1 _ _ e2, h1 _ _ e3, h1 _ _ e4, h1 _ _ e5⟩
theorem SL.el3 {w : World} {F : Nat → Prop} {A : Option Addr} {N c : Nat} {t : T} (h : SL w F 3 (.slice A N c) t) (hn : t.len = N) {j : Nat} (hj : j < N) : ∃ b vd, A = some ⟨b, 0, none⟩ ∧ SL w F 2 vd (nth t j) ∧ w.cell? ⟨b, j, none⟩ = some vd := by
 obtain ⟨b, xs, rfl, h1, h2⟩ := h.row hn hj
 obtain ⟨vd, e1, e2⟩ := EC.at3 h2 j (by omega)
 exact ⟨b, vd, rfl, e2, h1 _ _ e1⟩
theorem wrap_succ {j n : Nat} (hj : j < n) (hn : n ≤ maxLen) : IntKind.i64.wrap ((j : Int) + 1) = ((j + 1 : Nat) : Int) ∧ wrap64 ((j : Int) + 1) = ((j + 1 : Nat) : Int) := by
 rw [IntKind.wrap_i64]
 unfold wrap64
 unfold maxLen at hn
 constructor <;> omega
theorem dec_lt {j n : Nat} (hj : j < n) {x : Int} (hx : x = ((j + 1 : Nat) : Int)) : n - (intOf (.int .i64 x)).toNat < n - (intOf (.int .i64 (j : Int))).toNat := by
 subst hx
 show n - (((j + 1 : Nat) : Int)).toNat < n - ((j : Int)).toNat
 rw [Int.toNat_natCast, Int.toNat_natCast]
 omega
end Go.Proofs.YtgkejkgailnbmaaGreatDoor
namespace Go.Proofs.YtgkejkgailnbmaaGreatDoor
open Lib (hid)
open Go.ChangeShapes Go.WideShapes Go.ChangeAt Go.RowKit TP
def EqEl0 (x y : T) : Prop := ∀ (w : World) (k1 a1 n1 op1 : Int) (s1 : ByteArray) (vl1 vf1 : Value) (l1 f1 : T) (k2 a2 n2 op2 : Int) (s2 : ByteArray) (vl2 vf2 : Value) (l2 f2 : T), ExR w FT x k1 a1 n1 op1 s1 vl1 vf1 l1 f1 → ExR w FT y k2 a2 n2 op2 s2 vl2 vf2 l2 f2 → Calls Tryz.prog 54 #[.agg #[.int .i64 k1, .int .i64 a1, .int .i64 n1, .string s1, .int .i64 op1, vl1, vf1], .agg #[.int .i64 k2, .int .i64 a2, .int .i64 n2, .string s2, .int .i64 op2, vl2, vf2]] w fun e w' => e = .returned (.bool (eqb x y)) ∧ Below w.heap.size w w'
set_option maxRecDepth 100000 in
set_option maxHeartbeats 16000000 in
theorem EqualFunc0 (a0 b0 : T) (va vb : Value) (w : World) (ha : SL w FT 0 va a0) (hb : SL w FT 0 vb b0) (HE : ∀ j, j < a0.len → EqEl0 (nth a0 j) (nth b0 j)) : Calls Tryz.prog 53 #[va, vb, .func (.func 54) #[] #[]] w fun e w' => e = .returned (.bool (eqb a0 b0)) ∧ Below w.heap.size w w' := by
 have la := ha.isList
 have lb := hb.isList
 obtain ⟨A, n, c, rfl, hn, hm⟩ := ha.view
 obtain ⟨A2, n2, c2, rfl, hn2, hm2⟩ := hb.view
 have HA := hid ha
 have HB := hid hb
 clear ha hb
 by_cases h : n = n2
 ·subst h
  have HN := hid (And.intro hn hn2)
  have HM := hid hm
  have HL := hid (And.intro la lb)
  have HEE := hid HE
  clear hn hn2 hm hm2 la lb HE
  obtain ⟨R, hR⟩ : ∃ R, eqb a0 b0 = R := ⟨_, rfl⟩
  rw [hR]
  have HR0 := hid hR
  clear hR
  go_enter Tryz.func53, Tryz.ntmps53
  go_wp2
  go_loopw [17] (fun iv wr => ∃ j : Nat, j ≤ n ∧ iv = .int .i64 j ∧ Hid (Below w.heap.size w wr ∧ eqb (a0.drop j) (b0.drop j) = R)) (fun iv _ => n - (intOf iv).toNat)
  case atStart => exact ⟨0, Nat.zero_le _, rfl, hid ⟨Below.refl _ _, by rw [T.drop_zero, T.drop_zero]; exact HR0.out⟩⟩
  case round =>
   obtain ⟨j, hj, rfl, HQ⟩ := hrel
   by_cases hlt : j < n
   ·have q0 : (j : Int) < (n : Int) := by omega
    have A1 := HA.out.below HQ.out.1
    obtain ⟨g1, k1, a1, n1, op1, s1, vl1, vf1, l1, f1, rfl, hs1, c01, c11, c21, c31, c41, c51, c61⟩ := A1.el0 HN.out.1 hlt
    obtain ⟨Avl1, nvl1, cvl1, rfl, _⟩ := hs1.l.view
    obtain ⟨Avf1, nvf1, cvf1, rfl, _⟩ := hs1.f.view
    obtain ⟨z1, hz1⟩ : ∃ z1, wr.heap.size = z1 := ⟨_, rfl⟩
    obtain ⟨W1, hW1⟩ : ∃ W1, wr.alloc (.cells #[.int .i64 k1, .int .i64 a1, .int .i64 n1, .string s1, .int .i64 op1, .slice Avl1 nvl1 cvl1, .slice Avf1 nvf1 cvf1] 38) = W1 := ⟨_, rfl⟩
    have X1 := hid (show W1.heap[z1]? = some (.cells #[.int .i64 k1, .int .i64 a1, .int .i64 n1, .string s1, .int .i64 op1, .slice Avl1 nvl1 cvl1, .slice Avf1 nvf1 cvf1] 38) from by rw [← hW1, ← hz1]; exact heap_alloc_new _ _)
    have E1 := hid (show Below wr.heap.size wr W1 from by rw [← hW1]; exact alloc_old)
    have W1B := hid (HQ.out.1.trans (E1.out.mono (Below.size HQ.out.1)))
    have B1 := HB.out.below W1B.out
    obtain ⟨g2, k2, a2, n2, op2, s2, vl2, vf2, l2, f2, rfl, hs2, c02, c12, c22, c32, c42, c52, c62⟩ := B1.el0 HN.out.2 hlt
    obtain ⟨Avl2, nvl2, cvl2, rfl, _⟩ := hs2.l.view
    obtain ⟨Avf2, nvf2, cvf2, rfl, _⟩ := hs2.f.view
    obtain ⟨z2, hz2⟩ : ∃ z2, W1.heap.size = z2 := ⟨_, rfl⟩
    obtain ⟨W2, hW2⟩ : ∃ W2, W1.alloc (.cells #[.int .i64 k2, .int .i64 a2, .int .i64 n2, .string s2, .int .i64 op2, .slice Avl2 nvl2 cvl2, .slice Avf2 nvf2 cvf2] 38) = W2 := ⟨_, rfl⟩
    have X2 := hid (show W2.heap[z2]? = some (.cells #[.int .i64 k2, .int .i64 a2, .int .i64 n2, .string s2, .int .i64 op2, .slice Avl2 nvl2 cvl2, .slice Avf2 nvf2 cvf2] 38) from by rw [← hW2, ← hz2]; exact heap_alloc_new _ _)
    have E2 := hid (show Below W1.heap.size W1 W2 from by rw [← hW2]; exact alloc_old)
    have W2B := hid (W1B.out.trans (E2.out.mono (Below.size W1B.out)))
    have X1b := hid (blk_below X1.out E2.out)
    obtain ⟨⟨d01, d11, d21, d31, d41, d51, d61⟩, _⟩ := cells7 X1b.out
    obtain ⟨⟨d02, d12, d22, d32, d42, d52, d62⟩, _⟩ := cells7 X2.out
    have HC := hid (HEE.out j (by rw [HN.out.1]; exact hlt) W2 k1 a1 n1 op1 s1 (.slice Avl1 nvl1 cvl1) (.slice Avf1 nvf1 cvf1) l1 f1 k2 a2 n2 op2 s2 (.slice Avl2 nvl2 cvl2) (.slice Avf2 nvf2 cvf2) l2 f2 (hs1.below (E1.out.trans (E2.out.mono (Below.size E1.out)))) (hs2.below E2.out))
    obtain ⟨r, hr⟩ : ∃ r, eqb (nth a0 j) (nth b0 j) = r := ⟨_, rfl⟩
    rw [hr] at HC
    have HR := hid (show (r && eqb (a0.drop (j + 1)) (b0.drop (j + 1))) = R from by
     rw [← HQ.out.2, T.drop_cons (t := a0) (j := j) HL.out.1 (by rw [HN.out.1]; exact hlt), T.drop_cons (t := b0) (j := j) HL.out.2 (by rw [HN.out.2]; exact hlt), ← hr]
     rfl)
    have HW := hid (wrap_succ hlt HM.out)
    clear A1 B1 hs1 hs2 hr
    cases r with
    | true =>
     rw [Bool.true_and] at HR
     go_wp2_with (first | (go_at_call 54; (with_reducible refine (HC.out).mono ?_); rintro e w3 ⟨rfl, h1⟩; have B3 := hid (W2B.out.trans (h1.mono (Below.size W2B.out))); clear h1))
     exact ⟨⟨j + 1, hlt, by rw [HW.out.2], hid ⟨B3.out, HR.out⟩⟩, dec_lt hlt HW.out.2⟩
    | false =>
     rw [Bool.false_and] at HR
     obtain rfl := HR.out
     go_wp2_with (first | (go_at_call 54; (with_reducible refine (HC.out).mono ?_); rintro e w3 ⟨rfl, h1⟩; have B3 := hid (W2B.out.trans (h1.mono (Below.size W2B.out))); clear h1))
     exact bodyPost_ret (v := .bool false) (by simp [results, Tryz.results53, go_sem]) rfl ⟨rfl, B3.out⟩
   ·have q0 : ¬ (j : Int) < (n : Int) := by omega
    have hr : true = R := by
     have hjn : j = n := by omega
     have e1 := T.drop_len HL.out.1
     have e2 := T.drop_len HL.out.2
     rw [HN.out.1] at e1
     rw [HN.out.2] at e2
     rw [← HQ.out.2, hjn, e1, e2]
     rfl
    subst hr
    go_wp2
    exact bodyPost_ret (v := .bool true) (by simp [results, Tryz.results53, go_sem]) rfl ⟨rfl, HQ.out.1⟩
 ·rw [eqb_ne_len la lb (by omega)]
  have hne : ¬ (n : Int) = (n2 : Int) := by omega
  clear la lb HE
  go_enter Tryz.func53, Tryz.ntmps53
  go_wp2
  go_ret
  exact ⟨rfl, Below.refl _ _⟩
def EqEl1 (x y : T) : Prop := ∀ (w : World) (vp1 vd1 : Value) (ps1 : List ByteArray) (d1 : T) (vp2 vd2 : Value) (ps2 : List ByteArray) (d2 : T), FnR w FT x vp1 vd1 ps1 d1 → FnR w FT y vp2 vd2 ps2 d2 → Calls Tryz.prog 74 #[.agg #[vp1, vd1], .agg #[vp2, vd2]] w fun e w' => e = .returned (.bool (eqb x y)) ∧ Below w.heap.size w w'
set_option maxRecDepth 100000 in
set_option maxHeartbeats 16000000 in
theorem EqualFunc1 (a0 b0 : T) (va vb : Value) (w : World) (ha : SL w FT 1 va a0) (hb : SL w FT 1 vb b0) (HE : ∀ j, j < a0.len → EqEl1 (nth a0 j) (nth b0 j)) : Calls Tryz.prog 73 #[va, vb, .func (.func 74) #[] #[]] w fun e w' => e = .returned (.bool (eqb a0 b0)) ∧ Below w.heap.size w w' := by
 have la := ha.isList
 have lb := hb.isList
 obtain ⟨A, n, c, rfl, hn, hm⟩ := ha.view
 obtain ⟨A2, n2, c2, rfl, hn2, hm2⟩ := hb.view
 have HA := hid ha
 have HB := hid hb
 clear ha hb
 by_cases h : n = n2
 ·subst h
  have HN := hid (And.intro hn hn2)
  have HM := hid hm
  have HL := hid (And.intro la lb)
  have HEE := hid HE
  clear hn hn2 hm hm2 la lb HE
  obtain ⟨R, hR⟩ : ∃ R, eqb a0 b0 = R := ⟨_, rfl⟩
  rw [hR]
  have HR0 := hid hR
  clear hR
  go_enter Tryz.func73, Tryz.ntmps73
  go_wp2
  go_loopw [17] (fun iv wr => ∃ j : Nat, j ≤ n ∧ iv = .int .i64 j ∧ Hid (Below w.heap.size w wr ∧ eqb (a0.drop j) (b0.drop j) = R)) (fun iv _ => n - (intOf iv).toNat)
  case atStart => exact ⟨0, Nat.zero_le _, rfl, hid ⟨Below.refl _ _, by rw [T.drop_zero, T.drop_zero]; exact HR0.out⟩⟩
  case round =>
   obtain ⟨j, hj, rfl, HQ⟩ := hrel
   by_cases hlt : j < n
   ·have q0 : (j : Int) < (n : Int) := by omega
    have A1 := HA.out.below HQ.out.1
    obtain ⟨g1, vp1, vd1, ps1, d1, rfl, hs1, c01, c11⟩ := A1.el1 HN.out.1 hlt
    obtain ⟨Avp1, nvp1, cvp1, rfl, _⟩ := hs1.p.view
    obtain ⟨Avd1, nvd1, cvd1, rfl, _⟩ := hs1.d.view
    obtain ⟨z1, hz1⟩ : ∃ z1, wr.heap.size = z1 := ⟨_, rfl⟩
    obtain ⟨W1, hW1⟩ : ∃ W1, wr.alloc (.cells #[.slice Avp1 nvp1 cvp1, .slice Avd1 nvd1 cvd1] 88) = W1 := ⟨_, rfl⟩
    have X1 := hid (show W1.heap[z1]? = some (.cells #[.slice Avp1 nvp1 cvp1, .slice Avd1 nvd1 cvd1] 88) from by rw [← hW1, ← hz1]; exact heap_alloc_new _ _)
    have E1 := hid (show Below wr.heap.size wr W1 from by rw [← hW1]; exact alloc_old)
    have W1B := hid (HQ.out.1.trans (E1.out.mono (Below.size HQ.out.1)))
    have B1 := HB.out.below W1B.out
    obtain ⟨g2, vp2, vd2, ps2, d2, rfl, hs2, c02, c12⟩ := B1.el1 HN.out.2 hlt
    obtain ⟨Avp2, nvp2, cvp2, rfl, _⟩ := hs2.p.view
    obtain ⟨Avd2, nvd2, cvd2, rfl, _⟩ := hs2.d.view
    obtain ⟨z2, hz2⟩ : ∃ z2, W1.heap.size = z2 := ⟨_, rfl⟩
    obtain ⟨W2, hW2⟩ : ∃ W2, W1.alloc (.cells #[.slice Avp2 nvp2 cvp2, .slice Avd2 nvd2 cvd2] 88) = W2 := ⟨_, rfl⟩
    have X2 := hid (show W2.heap[z2]? = some (.cells #[.slice Avp2 nvp2 cvp2, .slice Avd2 nvd2 cvd2] 88) from by rw [← hW2, ← hz2]; exact heap_alloc_new _ _)
    have E2 := hid (show Below W1.heap.size W1 W2 from by rw [← hW2]; exact alloc_old)
    have W2B := hid (W1B.out.trans (E2.out.mono (Below.size W1B.out)))
    have X1b := hid (blk_below X1.out E2.out)
    obtain ⟨⟨d01, d11⟩, _⟩ := cells2 X1b.out
    obtain ⟨⟨d02, d12⟩, _⟩ := cells2 X2.out
    have HC := hid (HEE.out j (by rw [HN.out.1]; exact hlt) W2 (.slice Avp1 nvp1 cvp1) (.slice Avd1 nvd1 cvd1) ps1 d1 (.slice Avp2 nvp2 cvp2) (.slice Avd2 nvd2 cvd2) ps2 d2 (hs1.below (E1.out.trans (E2.out.mono (Below.size E1.out)))) (hs2.below E2.out))
    obtain ⟨r, hr⟩ : ∃ r, eqb (nth a0 j) (nth b0 j) = r := ⟨_, rfl⟩
    rw [hr] at HC
    have HR := hid (show (r && eqb (a0.drop (j + 1)) (b0.drop (j + 1))) = R from by
     rw [← HQ.out.2, T.drop_cons (t := a0) (j := j) HL.out.1 (by rw [HN.out.1]; exact hlt), T.drop_cons (t := b0) (j := j) HL.out.2 (by rw [HN.out.2]; exact hlt), ← hr]
     rfl)
    have HW := hid (wrap_succ hlt HM.out)
    clear A1 B1 hs1 hs2 hr
    cases r with
    | true =>
     rw [Bool.true_and] at HR
     go_wp2_with (first | (go_at_call 74; (with_reducible refine (HC.out).mono ?_); rintro e w3 ⟨rfl, h1⟩; have B3 := hid (W2B.out.trans (h1.mono (Below.size W2B.out))); clear h1))
     exact ⟨⟨j + 1, hlt, by rw [HW.out.2], hid ⟨B3.out, HR.out⟩⟩, dec_lt hlt HW.out.2⟩
    | false =>
     rw [Bool.false_and] at HR
     obtain rfl := HR.out
     go_wp2_with (first | (go_at_call 74; (with_reducible refine (HC.out).mono ?_); rintro e w3 ⟨rfl, h1⟩; have B3 := hid (W2B.out.trans (h1.mono (Below.size W2B.out))); clear h1))
     exact bodyPost_ret (v := .bool false) (by simp [results, Tryz.results73, go_sem]) rfl ⟨rfl, B3.out⟩
   ·have q0 : ¬ (j : Int) < (n : Int) := by omega
    have hr : true = R := by
     have hjn : j = n := by omega
     have e1 := T.drop_len HL.out.1
     have e2 := T.drop_len HL.out.2
     rw [HN.out.1] at e1
     rw [HN.out.2] at e2
     rw [← HQ.out.2, hjn, e1, e2]
     rfl
    subst hr
    go_wp2
    exact bodyPost_ret (v := .bool true) (by simp [results, Tryz.results73, go_sem]) rfl ⟨rfl, HQ.out.1⟩
 ·rw [eqb_ne_len la lb (by omega)]
  have hne : ¬ (n : Int) = (n2 : Int) := by omega
  clear la lb HE
  go_enter Tryz.func73, Tryz.ntmps73
  go_wp2
  go_ret
  exact ⟨rfl, Below.refl _ _⟩
def EqEl2 (x y : T) : Prop := ∀ (w : World) (k1 a1 : Int) (vn1 vl1 vd1 : Value) (ns1 : List ByteArray) (l1 d1 : T) (k2 a2 : Int) (vn2 vl2 vd2 : Value) (ns2 : List ByteArray) (l2 d2 : T), StR w FT x k1 a1 vn1 vl1 vd1 ns1 l1 d1 → StR w FT y k2 a2 vn2 vl2 vd2 ns2 l2 d2 → Calls Tryz.prog 20 #[.agg #[.int .i64 k1, .int .i64 a1, vn1, vl1, vd1], .agg #[.int .i64 k2, .int .i64 a2, vn2, vl2, vd2]] w fun e w' => e = .returned (.bool (eqb x y)) ∧ Below w.heap.size w w'
set_option maxRecDepth 100000 in
set_option maxHeartbeats 16000000 in
theorem EqualFunc2 (a0 b0 : T) (va vb : Value) (w : World) (ha : SL w FT 2 va a0) (hb : SL w FT 2 vb b0) (HE : ∀ j, j < a0.len → EqEl2 (nth a0 j) (nth b0 j)) : Calls Tryz.prog 19 #[va, vb, .func (.func 20) #[] #[]] w fun e w' => e = .returned (.bool (eqb a0 b0)) ∧ Below w.heap.size w w' := by
 have la := ha.isList
 have lb := hb.isList
 obtain ⟨A, n, c, rfl, hn, hm⟩ := ha.view
 obtain ⟨A2, n2, c2, rfl, hn2, hm2⟩ := hb.view
 have HA := hid ha
 have HB := hid hb
 clear ha hb
 by_cases h : n = n2
 ·subst h
  have HN := hid (And.intro hn hn2)
  have HM := hid hm
  have HL := hid (And.intro la lb)
  have HEE := hid HE
  clear hn hn2 hm hm2 la lb HE
  obtain ⟨R, hR⟩ : ∃ R, eqb a0 b0 = R := ⟨_, rfl⟩
  rw [hR]
  have HR0 := hid hR
  clear hR
  go_enter Tryz.func19, Tryz.ntmps19
  go_wp2
  go_loopw [17] (fun iv wr => ∃ j : Nat, j ≤ n ∧ iv = .int .i64 j ∧ Hid (Below w.heap.size w wr ∧ eqb (a0.drop j) (b0.drop j) = R)) (fun iv _ => n - (intOf iv).toNat)
  case atStart => exact ⟨0, Nat.zero_le _, rfl, hid ⟨Below.refl _ _, by rw [T.drop_zero, T.drop_zero]; exact HR0.out⟩⟩
  case round =>
   obtain ⟨j, hj, rfl, HQ⟩ := hrel
   by_cases hlt : j < n
   ·have q0 : (j : Int) < (n : Int) := by omega
    have A1 := HA.out.below HQ.out.1
    obtain ⟨g1, k1, a1, vn1, vl1, vd1, ns1, l1, d1, rfl, hs1, c01, c11, c21, c31, c41⟩ := A1.el2 HN.out.1 hlt
    obtain ⟨Avn1, nvn1, cvn1, rfl, _⟩ := hs1.n.view
    obtain ⟨Avl1, nvl1, cvl1, rfl, _⟩ := hs1.l.view
    obtain ⟨Avd1, nvd1, cvd1, rfl, _⟩ := hs1.d.view
    obtain ⟨z1, hz1⟩ : ∃ z1, wr.heap.size = z1 := ⟨_, rfl⟩
    obtain ⟨W1, hW1⟩ : ∃ W1, wr.alloc (.cells #[.int .i64 k1, .int .i64 a1, .slice Avn1 nvn1 cvn1, .slice Avl1 nvl1 cvl1, .slice Avd1 nvd1 cvd1] 34) = W1 := ⟨_, rfl⟩
    have X1 := hid (show W1.heap[z1]? = some (.cells #[.int .i64 k1, .int .i64 a1, .slice Avn1 nvn1 cvn1, .slice Avl1 nvl1 cvl1, .slice Avd1 nvd1 cvd1] 34) from by rw [← hW1, ← hz1]; exact heap_alloc_new _ _)
    have E1 := hid (show Below wr.heap.size wr W1 from by rw [← hW1]; exact alloc_old)
    have W1B := hid (HQ.out.1.trans (E1.out.mono (Below.size HQ.out.1)))
    have B1 := HB.out.below W1B.out
    obtain ⟨g2, k2, a2, vn2, vl2, vd2, ns2, l2, d2, rfl, hs2, c02, c12, c22, c32, c42⟩ := B1.el2 HN.out.2 hlt
    obtain ⟨Avn2, nvn2, cvn2, rfl, _⟩ := hs2.n.view
    obtain ⟨Avl2, nvl2, cvl2, rfl, _⟩ := hs2.l.view
    obtain ⟨Avd2, nvd2, cvd2, rfl, _⟩ := hs2.d.view
    obtain ⟨z2, hz2⟩ : ∃ z2, W1.heap.size = z2 := ⟨_, rfl⟩
    obtain ⟨W2, hW2⟩ : ∃ W2, W1.alloc (.cells #[.int .i64 k2, .int .i64 a2, .slice Avn2 nvn2 cvn2, .slice Avl2 nvl2 cvl2, .slice Avd2 nvd2 cvd2] 34) = W2 := ⟨_, rfl⟩
    have X2 := hid (show W2.heap[z2]? = some (.cells #[.int .i64 k2, .int .i64 a2, .slice Avn2 nvn2 cvn2, .slice Avl2 nvl2 cvl2, .slice Avd2 nvd2 cvd2] 34) from by rw [← hW2, ← hz2]; exact heap_alloc_new _ _)
    have E2 := hid (show Below W1.heap.size W1 W2 from by rw [← hW2]; exact alloc_old)
    have W2B := hid (W1B.out.trans (E2.out.mono (Below.size W1B.out)))
    have X1b := hid (blk_below X1.out E2.out)
    obtain ⟨⟨d01, d11, d21, d31, d41⟩, _⟩ := cells5 X1b.out
    obtain ⟨⟨d02, d12, d22, d32, d42⟩, _⟩ := cells5 X2.out
    have HC := hid (HEE.out j (by rw [HN.out.1]; exact hlt) W2 k1 a1 (.slice Avn1 nvn1 cvn1) (.slice Avl1 nvl1 cvl1) (.slice Avd1 nvd1 cvd1) ns1 l1 d1 k2 a2 (.slice Avn2 nvn2 cvn2) (.slice Avl2 nvl2 cvl2) (.slice Avd2 nvd2 cvd2) ns2 l2 d2 (hs1.below (E1.out.trans (E2.out.mono (Below.size E1.out)))) (hs2.below E2.out))
    obtain ⟨r, hr⟩ : ∃ r, eqb (nth a0 j) (nth b0 j) = r := ⟨_, rfl⟩
    rw [hr] at HC
    have HR := hid (show (r && eqb (a0.drop (j + 1)) (b0.drop (j + 1))) = R from by
     rw [← HQ.out.2, T.drop_cons (t := a0) (j := j) HL.out.1 (by rw [HN.out.1]; exact hlt), T.drop_cons (t := b0) (j := j) HL.out.2 (by rw [HN.out.2]; exact hlt), ← hr]
     rfl)
    have HW := hid (wrap_succ hlt HM.out)
    clear A1 B1 hs1 hs2 hr
    cases r with
    | true =>
     rw [Bool.true_and] at HR
     go_wp2_with (first | (go_at_call 20; (with_reducible refine (HC.out).mono ?_); rintro e w3 ⟨rfl, h1⟩; have B3 := hid (W2B.out.trans (h1.mono (Below.size W2B.out))); clear h1))
     exact ⟨⟨j + 1, hlt, by rw [HW.out.2], hid ⟨B3.out, HR.out⟩⟩, dec_lt hlt HW.out.2⟩
    | false =>
     rw [Bool.false_and] at HR
     obtain rfl := HR.out
     go_wp2_with (first | (go_at_call 20; (with_reducible refine (HC.out).mono ?_); rintro e w3 ⟨rfl, h1⟩; have B3 := hid (W2B.out.trans (h1.mono (Below.size W2B.out))); clear h1))
     exact bodyPost_ret (v := .bool false) (by simp [results, Tryz.results19, go_sem]) rfl ⟨rfl, B3.out⟩
   ·have q0 : ¬ (j : Int) < (n : Int) := by omega
    have hr : true = R := by
     have hjn : j = n := by omega
     have e1 := T.drop_len HL.out.1
     have e2 := T.drop_len HL.out.2
     rw [HN.out.1] at e1
     rw [HN.out.2] at e2
     rw [← HQ.out.2, hjn, e1, e2]
     rfl
    subst hr
    go_wp2
    exact bodyPost_ret (v := .bool true) (by simp [results, Tryz.results19, go_sem]) rfl ⟨rfl, HQ.out.1⟩
 ·rw [eqb_ne_len la lb (by omega)]
  have hne : ¬ (n : Int) = (n2 : Int) := by omega
  clear la lb HE
  go_enter Tryz.func19, Tryz.ntmps19
  go_wp2
  go_ret
  exact ⟨rfl, Below.refl _ _⟩
def EqEl3 (x y : T) : Prop := ∀ (w : World) (v1 v2 : Value), SL w FT 2 v1 x → SL w FT 2 v2 y → Calls Tryz.prog 7 #[v1, v2] w fun e w' => e = .returned (.bool (eqb x y)) ∧ Below w.heap.size w w'
set_option maxRecDepth 100000 in
set_option maxHeartbeats 16000000 in
theorem EqualFunc3 (a0 b0 : T) (va vb : Value) (w : World) (ha : SL w FT 3 va a0) (hb : SL w FT 3 vb b0) (HE : ∀ j, j < a0.len → EqEl3 (nth a0 j) (nth b0 j)) : Calls Tryz.prog 55 #[va, vb, .func (.func 7) #[] #[]] w fun e w' => e = .returned (.bool (eqb a0 b0)) ∧ Below w.heap.size w w' := by
 have la := ha.isList
 have lb := hb.isList
 obtain ⟨A, n, c, rfl, hn, hm⟩ := ha.view
 obtain ⟨A2, n2, c2, rfl, hn2, hm2⟩ := hb.view
 have HA := hid ha
 have HB := hid hb
 clear ha hb
 by_cases h : n = n2
 ·subst h
  have HN := hid (And.intro hn hn2)
  have HM := hid hm
  have HL := hid (And.intro la lb)
  have HEE := hid HE
  clear hn hn2 hm hm2 la lb HE
  obtain ⟨R, hR⟩ : ∃ R, eqb a0 b0 = R := ⟨_, rfl⟩
  rw [hR]
  have HR0 := hid hR
  clear hR
  go_enter Tryz.func55, Tryz.ntmps55
  go_wp2
  go_loopw [17] (fun iv wr => ∃ j : Nat, j ≤ n ∧ iv = .int .i64 j ∧ Hid (Below w.heap.size w wr ∧ eqb (a0.drop j) (b0.drop j) = R)) (fun iv _ => n - (intOf iv).toNat)
  case atStart => exact ⟨0, Nat.zero_le _, rfl, hid ⟨Below.refl _ _, by rw [T.drop_zero, T.drop_zero]; exact HR0.out⟩⟩
  case round =>
   obtain ⟨j, hj, rfl, HQ⟩ := hrel
   by_cases hlt : j < n
   ·have q0 : (j : Int) < (n : Int) := by omega
    have A1 := HA.out.below HQ.out.1
    obtain ⟨g1, v1, rfl, hs1, c01⟩ := A1.el3 HN.out.1 hlt
    have B1 := HB.out.below HQ.out.1
    obtain ⟨g2, v2, rfl, hs2, c02⟩ := B1.el3 HN.out.2 hlt
    obtain ⟨Av1, nv1, cv1, rfl, _⟩ := hs1.view
    obtain ⟨Av2, nv2, cv2, rfl, _⟩ := hs2.view
    have HC := hid (HEE.out j (by rw [HN.out.1]; exact hlt) wr _ _ hs1.wide hs2.wide)
    obtain ⟨r, hr⟩ : ∃ r, eqb (nth a0 j) (nth b0 j) = r := ⟨_, rfl⟩
    rw [hr] at HC
    have HR := hid (show (r && eqb (a0.drop (j + 1)) (b0.drop (j + 1))) = R from by
     rw [← HQ.out.2, T.drop_cons (t := a0) (j := j) HL.out.1 (by rw [HN.out.1]; exact hlt), T.drop_cons (t := b0) (j := j) HL.out.2 (by rw [HN.out.2]; exact hlt), ← hr]
     rfl)
    have HW := hid (wrap_succ hlt HM.out)
    clear A1 B1 hs1 hs2 hr
    cases r with
    | true =>
     rw [Bool.true_and] at HR
     go_wp2_with (first | (go_at_call 7; (with_reducible refine (HC.out).mono ?_); rintro e w3 ⟨rfl, h1⟩; have B3 := hid (HQ.out.1.trans (h1.mono (Below.size HQ.out.1))); clear h1))
     exact ⟨⟨j + 1, hlt, by rw [HW.out.2], hid ⟨B3.out, HR.out⟩⟩, dec_lt hlt HW.out.2⟩
    | false =>
     rw [Bool.false_and] at HR
     obtain rfl := HR.out
     go_wp2_with (first | (go_at_call 7; (with_reducible refine (HC.out).mono ?_); rintro e w3 ⟨rfl, h1⟩; have B3 := hid (HQ.out.1.trans (h1.mono (Below.size HQ.out.1))); clear h1))
     exact bodyPost_ret (v := .bool false) (by simp [results, Tryz.results55, go_sem]) rfl ⟨rfl, B3.out⟩
   ·have q0 : ¬ (j : Int) < (n : Int) := by omega
    have hr : true = R := by
     have hjn : j = n := by omega
     have e1 := T.drop_len HL.out.1
     have e2 := T.drop_len HL.out.2
     rw [HN.out.1] at e1
     rw [HN.out.2] at e2
     rw [← HQ.out.2, hjn, e1, e2]
     rfl
    subst hr
    go_wp2
    exact bodyPost_ret (v := .bool true) (by simp [results, Tryz.results55, go_sem]) rfl ⟨rfl, HQ.out.1⟩
 ·rw [eqb_ne_len la lb (by omega)]
  have hne : ¬ (n : Int) = (n2 : Int) := by omega
  clear la lb HE
  go_enter Tryz.func55, Tryz.ntmps55
  go_wp2
  go_ret
  exact ⟨rfl, Below.refl _ _⟩
end Go.Proofs.YtgkejkgailnbmaaGreatDoor
