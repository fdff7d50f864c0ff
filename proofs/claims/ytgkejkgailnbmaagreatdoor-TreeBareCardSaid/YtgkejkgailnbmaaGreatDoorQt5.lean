/- Texts joined: P4, F1, F2 -/
import Derived.Test.YtgkejkgailnbmaaGreatDoorQt4
import Derived.Test.YtgkejkgailnbmaaGreatDoorQt2
set_option linter.unusedVariables false
set_option linter.unusedSimpArgs false
namespace Go.Proofs.YtgkejkgailnbmaaGreatDoor
open Lib (hid)
open Go.ChangeShapes Go.WideShapes Go.ChangeAt Go.RowKit TP
def Env.gl (E : Env) (i : Int) : Int := if i < 0 then 0 else E.pl i.toNat
theorem Env.gl_nat (E : Env) (i : Nat) : E.gl (i : Int) = E.pl i := by
 unfold Env.gl
 rw [if_neg (by omega), Int.toNat_natCast]
theorem SL.form {w : World} {F : Nat → Prop} {kd : Nat} {v : Value} {l : T} (h : SL w F kd v l) : ∃ A n c, v = .slice A n c := by
 rcases h with ⟨_, rfl⟩ | ⟨_, b, c, _, rfl, _⟩
 ·exact ⟨_, _, _, rfl⟩
 ·exact ⟨_, _, _, rfl⟩
theorem NL.form {w : World} {F : Nat → Prop} {v : Value} {l : List ByteArray} (h : NL w F v l) : ∃ A n c, v = .slice A n c := by
 rcases h with ⟨_, rfl⟩ | ⟨_, b, c, rfl, _⟩
 ·exact ⟨_, _, _, rfl⟩
 ·exact ⟨_, _, _, rfl⟩
def XR (w : World) (F : Nat → Prop) (t : T) (v : Value) : Prop := ∃ k a n s op l f vl vf, t = .ex k a n s op l f ∧ v = .agg #[.int .i64 k, .int .i64 a, .int .i64 n, .string s, .int .i64 op, vl, vf] ∧ SL w F 0 vl l ∧ SL w F 1 vf f
theorem XR.keep {w w' : World} {F F' : Nat → Prop} {t : T} {v : Value} (h : XR w F t v) (hk : ∀ i, F i → i < w.heap.size → w'.heap[i]? = w.heap[i]?) (hs : w.heap.size ≤ w'.heap.size) (hF : ∀ i, F i → i < w.heap.size → F' i) : XR w' F' t v := by
 obtain ⟨k, a, n, s, op, l, f, vl, vf, h1, h2, h3, h4⟩ := h
 exact ⟨k, a, n, s, op, l, f, vl, vf, h1, h2, SL.keep hk hs hF _ _ _ h3, SL.keep hk hs hF _ _ _ h4⟩
theorem XR.ec {w : World} {F : Nat → Prop} {k a n op : Int} {s : ByteArray} {l f : T} {vl vf : Value} (h1 : SL w F 0 vl l) (h2 : SL w F 1 vf f) : EC w F (.cons (.ex k a n s op l f) .nil) 0 [.int .i64 k, .int .i64 a, .int .i64 n, .string s, .int .i64 op, vl, vf] :=
 EC_ex.2 ⟨vl, vf, [], rfl, h1, h2, EC_nil.2 rfl⟩
theorem SL.nil {w : World} {F : Nat → Prop} {kd : Nat} : SL w F kd (.slice none 0 0) .nil := .inl ⟨rfl, rfl⟩
theorem XR.zero (E : Env) (w : World) (F : Nat → Prop) : XR w F (T0.map E.gl) (.agg #[.int .i64 0, .int .i64 0, .int .i64 0, .string ⟨#[]⟩, .int .i64 0, .slice none 0 0, .slice none 0 0]) := ⟨0, 0, 0, ⟨#[]⟩, 0, .nil, .nil, _, _, rfl, rfl, .nil, .nil⟩
theorem cells7 {X : World} {b : Nat} {a0 a1 a2 a3 a4 a5 a6 : Value} {t : TypeId} (h : X.heap[b]? = some (.cells #[a0, a1, a2, a3, a4, a5, a6] t)) : (X.cell? ⟨b, 0, none⟩ = some a0 ∧ X.cell? ⟨b, 1, none⟩ = some a1 ∧ X.cell? ⟨b, 2, none⟩ = some a2 ∧ X.cell? ⟨b, 3, none⟩ = some a3 ∧ X.cell? ⟨b, 4, none⟩ = some a4 ∧ X.cell? ⟨b, 5, none⟩ = some a5 ∧ X.cell? ⟨b, 6, none⟩ = some a6) ∧ (X.frozen? ⟨b, 0, none⟩ = false ∧ X.frozen? ⟨b, 1, none⟩ = false ∧ X.frozen? ⟨b, 2, none⟩ = false ∧ X.frozen? ⟨b, 3, none⟩ = false ∧ X.frozen? ⟨b, 4, none⟩ = false ∧ X.frozen? ⟨b, 5, none⟩ = false ∧ X.frozen? ⟨b, 6, none⟩ = false) := by
 refine ⟨⟨?_, ?_, ?_, ?_, ?_, ?_, ?_⟩, ⟨?_, ?_, ?_, ?_, ?_, ?_, ?_⟩⟩ <;> first | (rw [cell_of_row _ b _ _ t (0, 0) h]; rfl) | simp [World.frozen?, h]
theorem set7 {X : World} {b : Nat} {a0 a1 a2 a3 a4 a5 a6 : Value} {t : TypeId} (h : X.heap[b]? = some (.cells #[a0, a1, a2, a3, a4, a5, a6] t)) (v0 v1 v2 v3 v4 v5 v6 : Value) : (((((((X.setCell ⟨b, 0, none⟩ v0).setCell ⟨b, 1, none⟩ v1).setCell ⟨b, 2, none⟩ v2).setCell ⟨b, 3, none⟩ v3).setCell ⟨b, 4, none⟩ v4).setCell ⟨b, 5, none⟩ v5).setCell ⟨b, 6, none⟩ v6).heap[b]? = some (.cells #[v0, v1, v2, v3, v4, v5, v6] t) := by
 simp [World.setCell, Array.getElem?_modify, h]
theorem far7 {X : World} {b i : Nat} (v0 v1 v2 v3 v4 v5 v6 : Value) (hi : i ≠ b) : (((((((X.setCell ⟨b, 0, none⟩ v0).setCell ⟨b, 1, none⟩ v1).setCell ⟨b, 2, none⟩ v2).setCell ⟨b, 3, none⟩ v3).setCell ⟨b, 4, none⟩ v4).setCell ⟨b, 5, none⟩ v5).setCell ⟨b, 6, none⟩ v6).heap[i]? = X.heap[i]? :=
 (Below.heap_setCell _ ⟨b, 6, none⟩ _ _ hi).trans ((Below.heap_setCell _ ⟨b, 5, none⟩ _ _ hi).trans ((Below.heap_setCell _ ⟨b, 4, none⟩ _ _ hi).trans ((Below.heap_setCell _ ⟨b, 3, none⟩ _ _ hi).trans ((Below.heap_setCell _ ⟨b, 2, none⟩ _ _ hi).trans ((Below.heap_setCell _ ⟨b, 1, none⟩ _ _ hi).trans (Below.heap_setCell _ ⟨b, 0, none⟩ _ _ hi))))))
theorem Kp.set7 {c : Nat} {S : Nat → Prop} {w X : World} {b : Nat} (h : Kp c S w X) (hb : ¬ (b < c ∧ S b)) (v0 v1 v2 v3 v4 v5 v6 : Value) : Kp c S w (((((((X.setCell ⟨b, 0, none⟩ v0).setCell ⟨b, 1, none⟩ v1).setCell ⟨b, 2, none⟩ v2).setCell ⟨b, 3, none⟩ v3).setCell ⟨b, 4, none⟩ v4).setCell ⟨b, 5, none⟩ v5).setCell ⟨b, 6, none⟩ v6) :=
 ((((((h.setCell (p := ⟨b, 0, none⟩) hb _).setCell (p := ⟨b, 1, none⟩) hb _).setCell (p := ⟨b, 2, none⟩) hb _).setCell (p := ⟨b, 3, none⟩) hb _).setCell (p := ⟨b, 4, none⟩) hb _).setCell (p := ⟨b, 5, none⟩) hb _).setCell (p := ⟨b, 6, none⟩) hb _
theorem PS.far7 {E : Env} {X : World} {s : St} (h : PS E X s) {b : Nat} (hp : E.p ≠ b) (hg : E.g ≠ b) (v0 v1 v2 v3 v4 v5 v6 : Value) : PS E (((((((X.setCell ⟨b, 0, none⟩ v0).setCell ⟨b, 1, none⟩ v1).setCell ⟨b, 2, none⟩ v2).setCell ⟨b, 3, none⟩ v3).setCell ⟨b, 4, none⟩ v4).setCell ⟨b, 5, none⟩ v5).setCell ⟨b, 6, none⟩ v6) s :=
 h.kept (Go.Proofs.YtgkejkgailnbmaaGreatDoor.far7 _ _ _ _ _ _ _ hp) (Go.Proofs.YtgkejkgailnbmaaGreatDoor.far7 _ _ _ _ _ _ _ hg) (by simp [World.setCell])
def ExC (E : Env) (fn : FuncId) (ar : Array Value) (F : St → R) : Prop := ∀ (s : St) (w : World), s.i < E.ts.length → PS E w s →
 Calls Tryz.prog fn (#[.pointer (some ⟨E.p, 0, none⟩)] ++ ar) w fun e w' => ∃ v, e = .returned v ∧ XR w' (fun i => w.heap.size ≤ i) ((F s).1.map E.gl) v ∧ PS E w' (F s).2 ∧ KpP E w w'
def BlC (E : Env) (fn : FuncId) (ar : Array Value) (F : St → R) : Prop := ∀ (s : St) (w : World), s.i < E.ts.length → PS E w s →
 Calls Tryz.prog fn (#[.pointer (some ⟨E.p, 0, none⟩)] ++ ar) w fun e w' => ∃ v, e = .returned v ∧ SL w' (fun i => w.heap.size ≤ i) 2 v ((F s).1.map E.gl) ∧ PS E w' (F s).2 ∧ KpP E w w'
theorem X_end {E : Env} {w X : World} {t : T} {s : St} {v0 v1 v2 v3 v4 v5 v6 : Value} (hX : XR X (fun i => w.heap.size + 1 ≤ i) t (.agg #[v0, v1, v2, v3, v4, v5, v6])) (hP : PS E X s) (hpw : E.p < w.heap.size) (hgw : E.g < w.heap.size) (hK : KpP E w X) :
  XR (((((((X.setCell ⟨w.heap.size, 0, none⟩ v0).setCell ⟨w.heap.size, 1, none⟩ v1).setCell ⟨w.heap.size, 2, none⟩ v2).setCell ⟨w.heap.size, 3, none⟩ v3).setCell ⟨w.heap.size, 4, none⟩ v4).setCell ⟨w.heap.size, 5, none⟩ v5).setCell ⟨w.heap.size, 6, none⟩ v6) (fun i => w.heap.size ≤ i) t (.agg #[v0, v1, v2, v3, v4, v5, v6]) ∧
  PS E (((((((X.setCell ⟨w.heap.size, 0, none⟩ v0).setCell ⟨w.heap.size, 1, none⟩ v1).setCell ⟨w.heap.size, 2, none⟩ v2).setCell ⟨w.heap.size, 3, none⟩ v3).setCell ⟨w.heap.size, 4, none⟩ v4).setCell ⟨w.heap.size, 5, none⟩ v5).setCell ⟨w.heap.size, 6, none⟩ v6) s ∧
  KpP E w (((((((X.setCell ⟨w.heap.size, 0, none⟩ v0).setCell ⟨w.heap.size, 1, none⟩ v1).setCell ⟨w.heap.size, 2, none⟩ v2).setCell ⟨w.heap.size, 3, none⟩ v3).setCell ⟨w.heap.size, 4, none⟩ v4).setCell ⟨w.heap.size, 5, none⟩ v5).setCell ⟨w.heap.size, 6, none⟩ v6) :=
 ⟨hX.keep (fun i hi _ => Go.Proofs.YtgkejkgailnbmaaGreatDoor.far7 _ _ _ _ _ _ _ (by omega)) (by simp [World.setCell]) (fun i hi _ => by omega), hP.far7 (by omega) (by omega) _ _ _ _ _ _ _, Kp.set7 hK (by omega) _ _ _ _ _ _ _⟩
set_option maxRecDepth 100000 in
set_option maxHeartbeats 4000000 in
theorem Exp_is (E : Env) (hE : E.Ok) (d : Int) (hd : 0 ≤ d ∧ d < 1000) (F G : St → R) (hF : ∀ s, G s = F (if d + 1 > 100 then TP.fail 8 s else s)) (hL : ExC E 68 #[.int .i64 0, .int .i64 (d + 1)] F) (hG : ∀ s : St, s.i < E.ts.length → (if d + 1 > 100 then TP.fail 8 s else s).i < E.ts.length) : ExC E 50 #[.int .i64 d] G := by
 intro s w hi h
 rw [hF s]
 have A1 := hid (alloc_old (w := w) (o := .cells #[.int .i64 0, .int .i64 0, .int .i64 0, .string ⟨#[]⟩, .int .i64 0, .slice none 0 0, .slice none 0 0] 38))
 have r1 := hid (heap_alloc_new w (.cells #[.int .i64 0, .int .i64 0, .int .i64 0, .string ⟨#[]⟩, .int .i64 0, .slice none 0 0, .slice none 0 0] 38))
 have DP := hid (deep_is E hE s hi (d + 1) _ (h.below A1.out))
 have hlp := hid (And.intro h.lt h.2.1)
 have hi2 := hG s hi
 generalize (if d + 1 > 100 then TP.fail 8 s else s) = s1 at DP hi2 ⊢
 have LV := hid (fun X (hX : PS E X s1) => hL s1 X hi2 hX)
 have wr1 : IntKind.i64.wrap (d + 1) = d + 1 := by rw [IntKind.wrap_i64]; omega
 have wr2 : wrap64 (d + 1) = d + 1 := by unfold wrap64; omega
 clear h hE hG hL hi hi2 hF
 show Calls _ _ #[.pointer (some ⟨E.p, 0, none⟩), .int .i64 d] _ _
 go_enter Tryz.func50, Tryz.ntmps50
 go_wp2_with (first | (go_at_call 45; (with_reducible refine (DP.out).mono ?_); rintro e w1 ⟨rfl, h1, h2⟩; have P1 := hid h1; have K1 := hid h2; have L1 := hid (LV.out _ h1); clear h1 h2) | (go_at_call 68; refine Hid.out ?_))
 refine hid ?_
 refine (L1.out).mono ?_
 rintro e w2 ⟨v, rfl, ⟨k, a, n, x, op, l, f, vl, vf, ht, rfl, h3, h4⟩, h5, h6⟩
 obtain ⟨Al, nl, cl, rfl⟩ := h3.form
 obtain ⟨Af, nf, cf, rfl⟩ := h4.form
 have hz : (w.alloc (.cells #[.int .i64 0, .int .i64 0, .int .i64 0, .string ⟨#[]⟩, .int .i64 0, .slice none 0 0, .slice none 0 0] 38)).heap.size = w.heap.size + 1 := World.size_alloc _ _
 have k1 := K1.out.size
 have hl := hlp.out
 have KW := hid (show KpP E w w2 from ((Kp.of A1.out).trans (K1.out.mono (by omega) (fun _ hk => hk))).trans (h6.mono (by omega) (fun _ hk => hk)))
 have r2 := (h6.block w.heap.size (by omega) (by omega)).trans ((K1.out.block w.heap.size (by omega) (by omega)).trans r1.out)
 have XX := hid (show XR w2 (fun i => w.heap.size + 1 ≤ i) _ _ from XR.keep ⟨k, a, n, x, op, l, f, _, _, ht, rfl, h3, h4⟩ (fun _ _ _ => rfl) (Nat.le_refl _) (fun i (hi : w1.heap.size ≤ i) _ => by omega))
 have PX := hid h5
 obtain ⟨⟨c0, c1, c2, c3, c4, c5, c6⟩, ⟨f0, f1, f2, f3, f4, f5, f6⟩⟩ := cells7 r2
 clear h3 h4 h5 h6 r2 hz k1 LV L1 DP
 go_wp2
 have EN := X_end XX.out PX.out hl.1 hl.2 KW.out
 refine bodyPost_ret (v := .agg #[.int .i64 k, .int .i64 a, .int .i64 n, .string x, .int .i64 op, .slice Al nl cl, .slice Af nf cf]) (by simp [results, Tryz.results50, go_sem, c0, c1, c2, c3, c4, c5, c6]) rfl ?_
 exact ⟨_, rfl, EN⟩
end Go.Proofs.YtgkejkgailnbmaaGreatDoor
namespace Go.Proofs.YtgkejkgailnbmaaGreatDoor
open Lib (hid)
open Go.ChangeShapes Go.WideShapes Go.ChangeAt Go.RowKit TP
def OF (kd : Nat) (e : TypeId) (w : World) (c : Nat) (F : Nat → Prop) (v : Value) (t : T) : Prop :=
 (t = .nil → v = .slice none 0 0) ∧ (∀ g, v.ownBlock = some g → F g) ∧ ∃ cs, w.ownsRow c e (wd kd) v t.len cs ∧ EC w (fun i => F i ∧ v.ownBlock ≠ some i) t kd cs
def NF (w : World) (c : Nat) (F : Nat → Prop) (v : Value) (xs : List ByteArray) : Prop := NX w c v xs ∧ ∀ g, v.ownBlock = some g → F g
theorem OF.nil (kd : Nat) (e : TypeId) (w : World) (c : Nat) (F : Nat → Prop) : OF kd e w c F (.slice none 0 0) .nil := ⟨fun _ => rfl, fun _ h => (by cases h), [], World.ownsRow_nil _ _ _ _, EC_nil.2 rfl⟩
theorem NF.nil (w : World) (c : Nat) (F : Nat → Prop) : NF w c F (.slice none 0 0) [] := ⟨NX.nil w c, fun _ h => (by cases h)⟩
theorem OF.keep {kd : Nat} {e : TypeId} {w w' : World} {c : Nat} {F F' : Nat → Prop} {v : Value} {t : T} (h : OF kd e w c F v t) (hk : ∀ i, F i → i < w.heap.size → w'.heap[i]? = w.heap[i]?) (hs : w.heap.size ≤ w'.heap.size) (hF : ∀ i, F i → i < w.heap.size → F' i) : OF kd e w' c F' v t := by
 obtain ⟨h0, hg, cs, h1, h2⟩ := h
 exact ⟨h0, fun g e => hF g (hg g e) (row_own h1 g e).2, cs, row_kept h1 (fun g e => hk g (hg g e) (row_own h1 g e).2), EC.keep (fun i hi hl => hk i hi.1 hl) hs (fun i hi hl => ⟨hF i hi.1 hl, hi.2⟩) _ _ _ h2⟩
theorem NF.keep {w w' : World} {c : Nat} {F F' : Nat → Prop} {v : Value} {xs : List ByteArray} (h : NF w c F v xs) (hk : ∀ i, F i → i < w.heap.size → w'.heap[i]? = w.heap[i]?) (hF : ∀ i, F i → i < w.heap.size → F' i) : NF w' c F' v xs :=
 ⟨⟨h.1.1, row_kept h.1.2 (fun g e => hk g (h.2 g e) (row_own h.1.2 g e).2)⟩, fun g e => hF g (h.2 g e) (row_own h.1.2 g e).2⟩
theorem OF.sl {kd : Nat} {e : TypeId} {w : World} {c : Nat} {F : Nat → Prop} {v : Value} {t : T} (h : OF kd e w c F v t) : SL w F kd v t := by
 obtain ⟨h0, hF, cs, h1, h2⟩ := h
 by_cases ht : t = .nil
 ·exact .inl ⟨ht, h0 ht⟩
 ·refine .inr ⟨ht, ?_⟩
  have h1' := h1
  unfold World.ownsRow at h1
  obtain ⟨hl, ⟨_, hz⟩ | ⟨g, cap, cur, rfl, hg, hc, h3, h4, h5, h6⟩⟩ := h1
  ·exfalso
   have := h2.isList
   cases t <;> first | exact ht rfl | exact this | (simp [T.len] at hz)
  ·exact ⟨g, cap, cs, rfl, h3, h4, hF g rfl, (Array.getElem?_eq_some_iff.1 hc).1, fun j u hj => row_cell h1' j u hj, EC.keep (fun _ _ _ => rfl) (Nat.le_refl _) (fun i hi _ => hi.1) _ _ _ h2⟩
theorem NF.nl {w : World} {c : Nat} {F : Nat → Prop} {v : Value} {xs : List ByteArray} (h : NF w c F v xs) : NL w F v xs := by
 obtain ⟨⟨h0, h1⟩, hF⟩ := h
 by_cases ht : xs = []
 ·exact .inl ⟨ht, h0 ht⟩
 ·refine .inr ⟨ht, ?_⟩
  have h1' := h1
  unfold World.ownsRow at h1
  obtain ⟨hl, ⟨_, hz⟩ | ⟨g, cap, cur, rfl, hg, hc, h3, h4, h5, h6⟩⟩ := h1
  ·exact absurd (List.eq_nil_of_length_eq_zero hz) ht
  ·exact ⟨g, cap, rfl, h3, h4, hF g rfl, (Array.getElem?_eq_some_iff.1 hc).1, fun i s hi => row_cell h1' i _ (by simp [hi])⟩
theorem ownsRow_lit {w : World} {c b m n : Nat} {e : TypeId} {cs : List Value} (hb : w.heap[b]? = some (.cells cs.toArray e)) (hc : c ≤ b) (hl : cs.length = n * m) (hm : n ≤ maxLen) : w.ownsRow c e m (.slice (some ⟨b, 0, none⟩) n n) n cs := by
 unfold World.ownsRow
 exact ⟨hl, .inr ⟨b, n, cs.toArray, rfl, hc, hb, Nat.le_refl _, hm, by simpa using hl, by rw [← hl]; simp⟩⟩
inductive It
 | x (t : T) (v : Value)
 | s (kd : Nat) (t : T) (v : Value)
 | n (xs : List ByteArray) (v : Value)
 | r (kd : Nat) (e : TypeId) (c : Nat) (t : T) (v : Value)
 | o (c : Nat) (xs : List ByteArray) (v : Value)
 | a (own : Option Nat) (t : T) (v : Value)
 | w (own : Option Nat) (it : It)
def It.ok (w : World) : (Nat → Prop) → It → Prop
 | F, .x t v => XR w F t v
 | F, .s kd t v => SL w F kd v t
 | F, .n xs v => NL w F v xs
 | F, .r kd e c t v => OF kd e w c F v t
 | F, .o c xs v => NF w c F v xs
 | F, .a own t v => XR w (fun i => F i ∧ own ≠ some i) t v
 | F, .w own it => it.ok w (fun i => F i ∧ own ≠ some i)
theorem It.keep {w w' : World} {F F' : Nat → Prop} (hk : ∀ i, F i → i < w.heap.size → w'.heap[i]? = w.heap[i]?) (hs : w.heap.size ≤ w'.heap.size) (hF : ∀ i, F i → i < w.heap.size → F' i) : ∀ {it : It}, it.ok w F → it.ok w' F'
 | .x _ _, h => XR.keep h hk hs hF
 | .s _ _ _, h => SL.keep hk hs hF _ _ _ h
 | .n _ _, h => NL.keep h hk hs hF
 | .r _ _ _ _ _, h => OF.keep h hk hs hF
 | .o _ _ _, h => NF.keep h hk hF
 | .a _ _ _, h => XR.keep h (fun i hi hl => hk i hi.1 hl) hs (fun i hi hl => ⟨hF i hi.1 hl, hi.2⟩)
 | .w _ it, h => It.keep (it := it) (fun i hi hl => hk i hi.1 hl) hs (fun i hi hl => ⟨hF i hi.1 hl, hi.2⟩) h
def Fp (c : Nat) (L : List (Nat × Obj)) (i : Nat) : Prop := c ≤ i ∧ ∀ p ∈ L, p.1 ≠ i
structure Fr (E : Env) (Q : Nat → Prop) (c : Nat) (w X : World) (s : St) (L : List (Nat × Obj)) (V : List It) : Prop where
 ps : PS E X s
 kp : Kp w.heap.size (fun i => ¬ Q i) w X
 q : Q E.p
 pc : E.p < c
 lo : c ≤ w.heap.size
 lg : E.g < w.heap.size
 blk : ∀ p ∈ L, X.heap[p.1]? = some p.2
 own : ∀ p ∈ L, (w.heap.size ≤ p.1 ∨ Q p.1) ∧ p.1 ≠ E.p ∧ p.1 ≠ E.g
 nd : (L.map Prod.fst).Nodup
 v : ∀ it ∈ V, it.ok X (Fp c L)
section
variable {E : Env} {Q : Nat → Prop} {c : Nat} {w X Y : World} {s s' : St} {L : List (Nat × Obj)} {V : List It}
theorem Fr.lt (h : Fr E Q c w X s L V) {b : Nat} {o : Obj} (hb : (b, o) ∈ L) : b < X.heap.size := lt_blk (h.blk _ hb)
theorem Fr.call (h : Fr E Q c w X s L V) (hp : PS E Y s') (hk : KpP E X Y) : Fr E Q c w Y s' L V :=
 ⟨hp, h.kp.trans ⟨hk.os, hk.tape, hk.output, hk.size, fun k hl hq => hk.block k (Nat.lt_of_lt_of_le hl h.kp.size) (fun e => hq (e ▸ h.q))⟩, h.q, h.pc, h.lo, h.lg,
  fun p hp => (hk.block p.1 (lt_blk (h.blk p hp)) (h.own p hp).2.1).trans (h.blk p hp), h.own, h.nd,
  fun it hi => It.keep (fun i hi hl => hk.block i hl (fun e => by have := hi.1; have := h.pc; omega)) hk.size (fun _ hi _ => hi) (h.v it hi)⟩
theorem Fr.below (h : Fr E Q c w X s L V) (hb : Below X.heap.size X Y) : Fr E Q c w Y s L V := h.call (h.ps.below hb) (Kp.of hb)
theorem Fr.below2 (h : Fr E Q c w X s L V) (_hp : PS E Y s) (hb : Below X.heap.size X Y) : Fr E Q c w Y s L V := h.below hb
theorem Fr.drew (h : Fr E Q c w X s L V) : Fr E Q c w X.drew s L V := h.below (Below.refl _ _).drew
theorem Fr.callI (h : Fr E Q c w X s L V) (hp : PS E Y s') (hk : KpP E X Y) {it : It} (hi : it.ok Y (fun i => X.heap.size ≤ i)) : Fr E Q c w Y s' L (it :: V) := by
 have h2 := h.call hp hk
 refine ⟨h2.ps, h2.kp, h2.q, h2.pc, h2.lo, h2.lg, h2.blk, h2.own, h2.nd, fun x hx => ?_⟩
 rcases List.mem_cons.1 hx with rfl | hx
 ·exact It.keep (fun _ _ _ => rfl) (Nat.le_refl _) (fun i hi _ => ⟨Nat.le_trans (Nat.le_trans h.lo h.kp.size) hi, fun p hp e => by have := lt_blk (h.blk p hp); omega⟩) hi
 ·exact h2.v x hx
theorem Fr.add (h : Fr E Q c w X s L V) {it : It} (hi : it.ok X (Fp c L)) : Fr E Q c w X s L (it :: V) :=
 ⟨h.ps, h.kp, h.q, h.pc, h.lo, h.lg, h.blk, h.own, h.nd, fun x hx => by
  rcases List.mem_cons.1 hx with rfl | hx
  ·exact hi
  ·exact h.v x hx⟩
theorem Fr.drop (h : Fr E Q c w X s L V) (L' : List (Nat × Obj)) (V' : List It) (hL : L'.Sublist L) (hV : ∀ it ∈ V', it ∈ V) : Fr E Q c w X s L' V' :=
 ⟨h.ps, h.kp, h.q, h.pc, h.lo, h.lg, fun p hp => h.blk p (hL.subset hp), fun p hp => h.own p (hL.subset hp), h.nd.sublist (hL.map _), fun it hi => It.keep (fun _ _ _ => rfl) (Nat.le_refl _) (fun _ hi _ => ⟨hi.1, fun p hp => hi.2 p (hL.subset hp)⟩) (h.v it (hV it hi))⟩
theorem Fr.new (h : Fr E Q c w X s L V) (o : Obj) : Fr E Q c w (X.alloc o) s ((X.heap.size, o) :: L) V := by
 have h2 := h.below (alloc_old (w := X) (o := o))
 have hp := h.ps.lt
 have hg := h.ps.2.1
 refine ⟨h2.ps, h2.kp, h2.q, h2.pc, h2.lo, h2.lg, fun p hp => ?_, fun p hp => ?_, ?_, fun it hi => ?_⟩
 ·rcases List.mem_cons.1 hp with rfl | hp
  ·exact heap_alloc_new X o
  ·exact h2.blk p hp
 ·rcases List.mem_cons.1 hp with rfl | hp
  ·exact ⟨.inl h.kp.size, by simp only; omega, by simp only; omega⟩
  ·exact h2.own p hp
 ·rw [List.map_cons, List.nodup_cons]
  refine ⟨fun hm => ?_, h.nd⟩
  obtain ⟨p, hp, e⟩ := List.mem_map.1 hm
  have := lt_blk (h.blk p hp)
  simp only at e
  omega
 ·refine It.keep (fun i _ hl => (alloc_old (w := X) (o := o)).block i hl) (by rw [World.size_alloc]; omega) (fun i hi hl => ⟨hi.1, fun p hp => ?_⟩) (h.v it hi)
  rcases List.mem_cons.1 hp with rfl | hp
  ·simp only; omega
  ·exact hi.2 p hp
theorem Fr.newF (h : Fr E Q c w X s L V) (o : Obj) : Fr E Q c w (X.alloc o) s L V := h.below alloc_old
theorem nodup_inj {l : List Nat} (h : l.Nodup) {i j x : Nat} (hi : l[i]? = some x) (hj : l[j]? = some x) : i = j := by
 obtain ⟨l1, e1⟩ := List.getElem?_eq_some_iff.1 hi
 obtain ⟨l2, e2⟩ := List.getElem?_eq_some_iff.1 hj
 rcases Nat.lt_trichotomy i j with h1 | h1 | h1
 ·exact absurd (e1.trans e2.symm) (List.pairwise_iff_getElem.1 h i j l1 l2 h1)
 ·exact h1
 ·exact absurd (e2.trans e1.symm) (List.pairwise_iff_getElem.1 h j i l2 l1 h1)
structure Turn (b : Nat) (X Y : World) : Prop where
 os : Y.os = X.os
 tape : Y.tape = X.tape
 output : Y.output = X.output
 size : Y.heap.size = X.heap.size
 far : ∀ i, i ≠ b → Y.heap[i]? = X.heap[i]?
theorem Turn.cell (X : World) (b k : Nat) (v : Value) : Turn b X (X.setCell ⟨b, k, none⟩ v) := ⟨rfl, rfl, rfl, by simp [World.setCell], fun i hi => Below.heap_setCell _ ⟨b, k, none⟩ _ _ hi⟩
theorem Turn.set {b : Nat} (h : Turn b X Y) (k : Nat) (v : Value) : Turn b X (Y.setCell ⟨b, k, none⟩ v) := by
 have := Turn.cell Y b k v
 exact ⟨this.os.trans h.os, this.tape.trans h.tape, this.output.trans h.output, this.size.trans h.size, fun i hi => (this.far i hi).trans (h.far i hi)⟩
theorem Fr.turn (h : Fr E Q c w X s L V) {b : Nat} {o o' : Obj} (k : Nat) (hk : L[k]? = some (b, o)) (ht : Turn b X Y) (hb : Y.heap[b]? = some o') : Fr E Q c w Y s (L.set k (b, o')) V := by
 have hm : (b, o) ∈ L := List.mem_of_getElem? hk
 have ho := h.own _ hm
 have hfst : (L.set k (b, o')).map Prod.fst = L.map Prod.fst := by
  rw [List.map_set]
  apply List.ext_getElem?
  intro j
  rw [List.getElem?_set]
  split
  ·rename_i e
   subst e
   split
   ·rw [List.getElem?_map, hk]; rfl
   ·rename_i hl
    rw [List.getElem?_eq_none (by omega)]
  ·rfl
 have hmem : ∀ p ∈ L.set k (b, o'), p = (b, o') ∨ (p ∈ L ∧ p.1 ≠ b) := fun p hp => by
  obtain ⟨j, hj⟩ := List.mem_iff_getElem?.1 hp
  rw [List.getElem?_set] at hj
  split at hj
  ·split at hj
   ·left; exact (Option.some.inj hj).symm
   ·cases hj
  ·rename_i hne
   right
   refine ⟨List.mem_of_getElem? hj, fun e => hne ?_⟩
   have h1 : (L.map Prod.fst)[j]? = some b := by rw [List.getElem?_map, hj]; simp [e]
   have h2 : (L.map Prod.fst)[k]? = some b := by rw [List.getElem?_map, hk]; rfl
   exact nodup_inj h.nd h2 h1
 have hin : ∀ p ∈ L, ∃ q ∈ L.set k (b, o'), q.1 = p.1 := fun p hp => by
  have : p.1 ∈ (L.set k (b, o')).map Prod.fst := by rw [hfst]; exact List.mem_map_of_mem hp
  obtain ⟨q, hq, e⟩ := List.mem_map.1 this
  exact ⟨q, hq, e⟩
 refine ⟨h.ps.kept (ht.far _ (fun e => ho.2.1 e.symm)) (ht.far _ (fun e => ho.2.2 e.symm)) (Nat.le_of_eq ht.size.symm), h.kp.trans ⟨ht.os, ht.tape, ht.output, Nat.le_of_eq ht.size.symm, fun i hi hq => ht.far i (fun e => ?_)⟩, h.q, h.pc, h.lo, h.lg, fun p hp => ?_, fun p hp => ?_, by rw [hfst]; exact h.nd, fun it hi => ?_⟩
 ·subst e
  rcases ho.1 with h1 | h1
  ·simp only at h1; omega
  ·exact hq h1
 ·rcases hmem p hp with rfl | ⟨h1, h2⟩
  ·exact hb
  ·exact (ht.far _ h2).trans (h.blk p h1)
 ·rcases hmem p hp with rfl | ⟨h1, h2⟩
  ·exact ho
  ·exact h.own p h1
 ·refine It.keep (fun i hi _ => ht.far i (fun e => hi.2 _ hm e.symm)) (Nat.le_of_eq ht.size.symm) (fun i hi _ => ⟨hi.1, fun p hp => ?_⟩) (h.v it hi)
  rcases hmem p hp with rfl | ⟨h1, _⟩
  ·exact hi.2 (b, o) hm
  ·exact hi.2 p h1
theorem Fr.set7 (h : Fr E Q c w X s L V) {b : Nat} {a0 a1 a2 a3 a4 a5 a6 : Value} {t : TypeId} (k : Nat) (hk : L[k]? = some (b, .cells #[a0, a1, a2, a3, a4, a5, a6] t)) (v0 v1 v2 v3 v4 v5 v6 : Value) :
  Fr E Q c w (((((((X.setCell ⟨b, 0, none⟩ v0).setCell ⟨b, 1, none⟩ v1).setCell ⟨b, 2, none⟩ v2).setCell ⟨b, 3, none⟩ v3).setCell ⟨b, 4, none⟩ v4).setCell ⟨b, 5, none⟩ v5).setCell ⟨b, 6, none⟩ v6) s (L.set k (b, .cells #[v0, v1, v2, v3, v4, v5, v6] t)) V :=
 h.turn k hk (((((((Turn.cell X b 0 v0).set 1 v1).set 2 v2).set 3 v3).set 4 v4).set 5 v5).set 6 v6) (Go.Proofs.YtgkejkgailnbmaaGreatDoor.set7 (h.blk _ (List.mem_of_getElem? hk)) _ _ _ _ _ _ _)
theorem Fr.set1 (h : Fr E Q c w X s L V) {b : Nat} {cs : Array Value} {t : TypeId} (k : Nat) (hk : L[k]? = some (b, .cells cs t)) (j : Nat) (v : Value) :
  Fr E Q c w (X.setCell ⟨b, j, none⟩ v) s (L.set k (b, .cells (cs.setIfInBounds j v) t)) V := by
 refine h.turn k hk (Turn.cell X b j v) ?_
 have := h.blk _ (List.mem_of_getElem? hk)
 simp only at this
 simp [World.setCell, Array.getElem?_modify, this]
theorem Fr.lit (h : Fr E Q c w X s L V) {kd : Nat} {e : TypeId} {t : T} {n : Nat} {cs : List Value} (ht : t ≠ .nil) (hn : t.len = n) (hm : n ≤ maxLen) (hc : EC X (Fp c L) t kd cs) : Fr E Q c w (X.alloc (.cells cs.toArray e)) s L (.s kd t (.slice (some ⟨X.heap.size, 0, none⟩) n n) :: V) := by
 refine (h.newF _).add (it := .s _ _ _) (SL.lit (e := e) ht hn hm ⟨Nat.le_trans h.lo h.kp.size, fun p hp e => ?_⟩ (heap_alloc_new _ _) (EC.keep (fun i _ hl => alloc_old.block i hl) (by rw [World.size_alloc]; omega) (fun _ hi _ => hi) _ _ _ hc))
 have := lt_blk (h.blk p hp)
 omega
theorem Fr.litR (h : Fr E Q c w X s L V) {kd : Nat} {e : TypeId} {t : T} {n : Nat} {cs : List Value} (d : Nat) (hd : d ≤ X.heap.size) (ht : t ≠ .nil) (hn : t.len = n) (hm : n ≤ maxLen) (hc : EC X (Fp c L) t kd cs) : Fr E Q c w (X.alloc (.cells cs.toArray e)) s L (.r kd e d t (.slice (some ⟨X.heap.size, 0, none⟩) n n) :: V) := by
 have hl := hc.len
 rw [hn] at hl
 refine (h.newF _).add (it := .r _ _ _ _ _) ⟨fun e => absurd e ht, fun g hg => ?_, cs, ?_, EC.keep (fun i _ hl => alloc_old.block i hl) (by rw [World.size_alloc]; omega) (fun i hi hl => ⟨hi, fun e => ?_⟩) _ _ _ hc⟩
 ·have e : X.heap.size = g := by simpa [Value.ownBlock] using hg
  subst e
  refine ⟨Nat.le_trans h.lo h.kp.size, fun p hp e => ?_⟩
  have := lt_blk (h.blk p hp)
  omega
 ·rw [hn]
  exact ownsRow_lit (heap_alloc_new _ _) hd hl hm
 ·have e' : X.heap.size = i := by simpa [Value.ownBlock] using e
  omega
theorem Fr.get (h : Fr E Q c w X s L V) {it : It} (hi : it ∈ V) : it.ok X (Fp c L) := h.v it hi
theorem Fr.grown (h : Fr E Q c w X s L V) {row : Option Nat} (hg : X.grownBy Y row) (hr : ∀ g, row = some g → c ≤ g ∧ w.heap.size ≤ g ∧ (∀ p ∈ L, p.1 ≠ g) ∧ E.g ≠ g) (V' : List It) (hV : ∀ it ∈ V', it.ok X (fun i => Fp c L i ∧ row ≠ some i)) : Fr E Q c w Y s L V' := by
 refine ⟨h.ps.kept (hg.block _ h.ps.lt (fun e => ?_)) (hg.block _ h.ps.2.1 (fun e => ?_)) hg.size, h.kp.trans ⟨hg.os, hg.tape, hg.output, hg.size, fun i hi _ => hg.block i (Nat.lt_of_lt_of_le hi h.kp.size) (fun e => ?_)⟩, h.q, h.pc, h.lo, h.lg, fun p hp => (hg.block p.1 (lt_blk (h.blk p hp)) (fun e => (hr _ e.symm).2.2.1 p hp rfl)).trans (h.blk p hp), h.own, h.nd, fun it hi => It.keep (fun i hi hl => hg.block i hl (fun e => hi.2 e.symm)) hg.size (fun i hi _ => hi.1) (hV it hi)⟩
 ·have := (hr _ e.symm).1
  have := h.pc
  omega
 ·exact (hr _ e.symm).2.2.2 rfl
 ·have := (hr _ e.symm).2.1
  omega
theorem Fr.fin {E : Env} {c : Nat} {w X : World} {s : St} {L : List (Nat × Obj)} {V : List It} (h : Fr E (fun i => i = E.p) c w X s L V) : PS E X s ∧ KpP E w X := ⟨h.ps, h.kp⟩
theorem Fr.enter {W : World} (h : Fr E Q c w W s L V) (P : World → Prop) (k : ∀ X, Fr E Q c w X s L V → P X) : P W := k W h
end
end Go.Proofs.YtgkejkgailnbmaaGreatDoor
namespace Go.Proofs.YtgkejkgailnbmaaGreatDoor
open Lib (hid)
open Go.ChangeShapes Go.WideShapes Go.ChangeAt Go.RowKit TP
theorem OF.grow {kd : Nat} {e : TypeId} {w w' : World} {c : Nat} {F : Nat → Prop} {v : Value} {t u : T} {cs ys : List Value} {g cap N M : Nat} (hs : EC w (fun i => F i ∧ v.ownBlock ≠ some i) u kd (cs ++ ys)) (hN : u.len = N + M) (hM : 0 < M) (h1 : w'.ownsRow c e (wd kd) (.slice (some ⟨g, 0, none⟩) (N + M) cap) (N + M) (cs ++ ys)) (h2 : w.grownBy w' v.ownBlock) (h3 : v.ownBlock = some g ∨ g = w.heap.size) (hF : ∀ g, v.ownBlock = some g → F g) (hn : F w.heap.size) : OF kd e w' c F (.slice (some ⟨g, 0, none⟩) (N + M) cap) u := by
 refine ⟨fun ht => ?_, fun g' e' => ?_, cs ++ ys, ?_, EC.keep (fun i hi hl => h2.block i hl (fun e => hi.2 e.symm)) h2.size (fun i hi hl => ⟨hi.1, fun e => ?_⟩) _ _ _ hs⟩
 ·subst ht
  simp [T.len] at hN
  omega
 ·have : g = g' := by simpa [Value.ownBlock] using e'
  subst this
  rcases h3 with h3 | h3
  ·exact hF g h3
  ·rw [h3]; exact hn
 ·rw [hN]
  exact h1
 ·have e' : g = i := by simpa [Value.ownBlock] using e
  subst e'
  rcases h3 with h3 | h3
  ·exact hi.2 h3
  ·omega
theorem len_two (t k v : T) (ht : t.isList) : ((t.snoc k).snoc v).len = t.len + 2 := by rw [len_snoc _ (isList_snoc _ ht), len_snoc _ ht]
theorem append_OF {ops : Array Oper} {rest : List Oper} {o : Oper} {a : Act} {Q : Exit → Act → World → Prop} (w : World) (hg : o.guard = none) (s x : Operand) (kd : Nat) (e ty : TypeId) (bytes : Nat) (z : Value) (hop : o.op = Op.call { callee := Callee.builtin Builtin.append, args := #[s, x], argTypes := #[ty, ty] })
  (hu : Tryz.prog.underlying ty = some (.slice e)) (hi : (Tryz.prog.info? e).map (fun i => (i.zero, i.size, i.bytes)) = some (some z, wd kd, bytes)) (hzs : z.cells.size = wd kd) (hw : 0 < wd kd) (hby : bytes ≤ 200)
  (c : Nat) (F : Nat → Prop) (v : Value) (t : T) (N : Nat) (hN : t.len = N) (hs : a.eval s = v) (h : OF kd e w c F v t) (y : T) (ys : List Value) (b : Nat) (hx : a.eval x = .slice (some ⟨b, 0, none⟩) 1 1) (hb : w.heap[b]? = some (.cells ys.toArray e)) (hy : EC w (fun i => F i ∧ v.ownBlock ≠ some i) (.cons y .nil) kd ys) (hl : N ≤ 100000) (hc : c ≤ w.heap.size) (hF : F w.heap.size)
  (k : ∀ g cap w', OF kd e w' c F (.slice (some ⟨g, 0, none⟩) (N + 1) cap) (t.snoc y) → w.grownBy w' v.ownBlock → (v.ownBlock = some g ∨ g = w.heap.size) → wpList Tryz.prog ops Q rest (a.put o.dst (.slice (some ⟨g, 0, none⟩) (N + 1) cap)) w') : wpList Tryz.prog ops Q (o :: rest) a w := by
 obtain ⟨h0, hFg, cs, h1, h2⟩ := h
 rw [hN] at h1
 obtain ⟨i0, hi0, hz0, hz1, hz2⟩ := info_parts hi
 have hyl : ys.length = 1 * wd kd := by have := hy.len; simpa [T.len] using this
 refine wpList_append_lies w hg s x ty hop c e i0 z (wd kd) bytes hu hi0 hz0 hz1 hz2 hzs hw v N cs hs h1 ⟨b, 0, none⟩ 1 1 ys hx hyl (news_blk hb) hy.one (by decide) (by unfold maxLen; omega) ?_ hc _ rfl ?_
 ·have : (N + 1) * bytes ≤ 100002 * 200 := Nat.mul_le_mul (by omega) hby
  omega
 ·intro g cap w' h3 h4 h5 _
  exact k g cap w' (OF.grow (t := t) (EC.snoc h2 hy) (by rw [len_snoc y h2.isList, hN]) (by decide) h3 h4 h5 hFg hF) h4 h5
theorem step_OF {ops : Array Oper} {o : Oper} {a : Act} {K : Act → World → Prop} {Q : Exit → Act → World → Prop} {E : Prop} (w : World) (hg : o.guard = none) (s x : Operand) (kd : Nat) (e ty : TypeId) (bytes : Nat) (z : Value) (hop : o.op = Op.call { callee := Callee.builtin Builtin.append, args := #[s, x], argTypes := #[ty, ty] })
  (hu : Tryz.prog.underlying ty = some (.slice e)) (hi : (Tryz.prog.info? e).map (fun i => (i.zero, i.size, i.bytes)) = some (some z, wd kd, bytes)) (hzs : z.cells.size = wd kd) (hw : 0 < wd kd) (hby : bytes ≤ 200)
  (c : Nat) (F : Nat → Prop) (v : Value) (t : T) (N : Nat) (hN : t.len = N) (hs : a.eval s = v) (h : OF kd e w c F v t) (y : T) (ys : List Value) (b : Nat) (hx : a.eval x = .slice (some ⟨b, 0, none⟩) 1 1) (hb : w.heap[b]? = some (.cells ys.toArray e)) (hy : EC w (fun i => F i ∧ v.ownBlock ≠ some i) (.cons y .nil) kd ys) (hl : N ≤ 100000) (hc : c ≤ w.heap.size) (hF : F w.heap.size)
  (k : ∀ g cap w', OF kd e w' c F (.slice (some ⟨g, 0, none⟩) (N + 1) cap) (t.snoc y) → w.grownBy w' v.ownBlock → (v.ownBlock = some g ∨ g = w.heap.size) → K (a.put o.dst (.slice (some ⟨g, 0, none⟩) (N + 1) cap)) w') : if Region.wanted o (yielded ops a.tmps) = true then Oper.wp Tryz.prog o a w K Q else E := by
 obtain ⟨h0, hFg, cs, h1, h2⟩ := h
 rw [hN] at h1
 obtain ⟨i0, hi0, hz0, hz1, hz2⟩ := info_parts hi
 have hyl : ys.length = 1 * wd kd := by have := hy.len; simpa [T.len] using this
 refine step_append_lies w hg s x ty hop c e i0 z (wd kd) bytes hu hi0 hz0 hz1 hz2 hzs hw v N cs hs h1 ⟨b, 0, none⟩ 1 1 ys hx hyl (news_blk hb) hy.one (by decide) (by unfold maxLen; omega) ?_ hc _ rfl ?_
 ·have : (N + 1) * bytes ≤ 100002 * 200 := Nat.mul_le_mul (by omega) hby
  omega
 ·intro g cap w' h3 h4 h5 _
  exact k g cap w' (OF.grow (t := t) (EC.snoc h2 hy) (by rw [len_snoc y h2.isList, hN]) (by decide) h3 h4 h5 hFg hF) h4 h5
theorem append_OF2 {ops : Array Oper} {rest : List Oper} {o : Oper} {a : Act} {Q : Exit → Act → World → Prop} (w : World) (hg : o.guard = none) (s x : Operand) (kd : Nat) (e ty : TypeId) (bytes : Nat) (z : Value) (hop : o.op = Op.call { callee := Callee.builtin Builtin.append, args := #[s, x], argTypes := #[ty, ty] })
  (hu : Tryz.prog.underlying ty = some (.slice e)) (hi : (Tryz.prog.info? e).map (fun i => (i.zero, i.size, i.bytes)) = some (some z, wd kd, bytes)) (hzs : z.cells.size = wd kd) (hw : 0 < wd kd) (hby : bytes ≤ 200)
  (c : Nat) (F : Nat → Prop) (v : Value) (t : T) (N : Nat) (hN : t.len = N) (hs : a.eval s = v) (h : OF kd e w c F v t) (y y2 : T) (ys ys2 : List Value) (b : Nat) (hx : a.eval x = .slice (some ⟨b, 0, none⟩) 2 2) (hb : w.heap[b]? = some (.cells (ys ++ ys2).toArray e)) (hy : EC w (fun i => F i ∧ v.ownBlock ≠ some i) (.cons y .nil) kd ys) (hy2 : EC w (fun i => F i ∧ v.ownBlock ≠ some i) (.cons y2 .nil) kd ys2) (hl : N ≤ 100000) (hc : c ≤ w.heap.size) (hF : F w.heap.size)
  (k : ∀ g cap w', OF kd e w' c F (.slice (some ⟨g, 0, none⟩) (N + 2) cap) ((t.snoc y).snoc y2) → w.grownBy w' v.ownBlock → (v.ownBlock = some g ∨ g = w.heap.size) → wpList Tryz.prog ops Q rest (a.put o.dst (.slice (some ⟨g, 0, none⟩) (N + 2) cap)) w') : wpList Tryz.prog ops Q (o :: rest) a w := by
 obtain ⟨h0, hFg, cs, h1, h2⟩ := h
 rw [hN] at h1
 obtain ⟨i0, hi0, hz0, hz1, hz2⟩ := info_parts hi
 have hyl : (ys ++ ys2).length = 2 * wd kd := by have h1 := hy.len; have h2 := hy2.len; simp only [T.len, Nat.zero_add, Nat.one_mul] at h1 h2; rw [List.length_append, h1, h2]; omega
 refine wpList_append_lies w hg s x ty hop c e i0 z (wd kd) bytes hu hi0 hz0 hz1 hz2 hzs hw v N cs hs h1 ⟨b, 0, none⟩ 2 2 (ys ++ ys2) hx hyl (news_blk hb) (fun u hu => (List.mem_append.1 hu).elim (fun h => hy.one u h) (fun h => hy2.one u h)) (by decide) (by unfold maxLen; omega) ?_ hc _ rfl ?_
 ·have : (N + 2) * bytes ≤ 100002 * 200 := Nat.mul_le_mul (by omega) hby
  omega
 ·intro g cap w' h3 h4 h5 _
  exact k g cap w' (OF.grow (t := t) (by have := EC.snoc (EC.snoc h2 hy) hy2; rwa [List.append_assoc] at this) (by rw [len_two t y y2 h2.isList, hN]) (by decide) h3 h4 h5 hFg hF) h4 h5
theorem step_OF2 {ops : Array Oper} {o : Oper} {a : Act} {K : Act → World → Prop} {Q : Exit → Act → World → Prop} {E : Prop} (w : World) (hg : o.guard = none) (s x : Operand) (kd : Nat) (e ty : TypeId) (bytes : Nat) (z : Value) (hop : o.op = Op.call { callee := Callee.builtin Builtin.append, args := #[s, x], argTypes := #[ty, ty] })
  (hu : Tryz.prog.underlying ty = some (.slice e)) (hi : (Tryz.prog.info? e).map (fun i => (i.zero, i.size, i.bytes)) = some (some z, wd kd, bytes)) (hzs : z.cells.size = wd kd) (hw : 0 < wd kd) (hby : bytes ≤ 200)
  (c : Nat) (F : Nat → Prop) (v : Value) (t : T) (N : Nat) (hN : t.len = N) (hs : a.eval s = v) (h : OF kd e w c F v t) (y y2 : T) (ys ys2 : List Value) (b : Nat) (hx : a.eval x = .slice (some ⟨b, 0, none⟩) 2 2) (hb : w.heap[b]? = some (.cells (ys ++ ys2).toArray e)) (hy : EC w (fun i => F i ∧ v.ownBlock ≠ some i) (.cons y .nil) kd ys) (hy2 : EC w (fun i => F i ∧ v.ownBlock ≠ some i) (.cons y2 .nil) kd ys2) (hl : N ≤ 100000) (hc : c ≤ w.heap.size) (hF : F w.heap.size)
  (k : ∀ g cap w', OF kd e w' c F (.slice (some ⟨g, 0, none⟩) (N + 2) cap) ((t.snoc y).snoc y2) → w.grownBy w' v.ownBlock → (v.ownBlock = some g ∨ g = w.heap.size) → K (a.put o.dst (.slice (some ⟨g, 0, none⟩) (N + 2) cap)) w') : if Region.wanted o (yielded ops a.tmps) = true then Oper.wp Tryz.prog o a w K Q else E := by
 obtain ⟨h0, hFg, cs, h1, h2⟩ := h
 rw [hN] at h1
 obtain ⟨i0, hi0, hz0, hz1, hz2⟩ := info_parts hi
 have hyl : (ys ++ ys2).length = 2 * wd kd := by have h1 := hy.len; have h2 := hy2.len; simp only [T.len, Nat.zero_add, Nat.one_mul] at h1 h2; rw [List.length_append, h1, h2]; omega
 refine step_append_lies w hg s x ty hop c e i0 z (wd kd) bytes hu hi0 hz0 hz1 hz2 hzs hw v N cs hs h1 ⟨b, 0, none⟩ 2 2 (ys ++ ys2) hx hyl (news_blk hb) (fun u hu => (List.mem_append.1 hu).elim (fun h => hy.one u h) (fun h => hy2.one u h)) (by decide) (by unfold maxLen; omega) ?_ hc _ rfl ?_
 ·have : (N + 2) * bytes ≤ 100002 * 200 := Nat.mul_le_mul (by omega) hby
  omega
 ·intro g cap w' h3 h4 h5 _
  exact k g cap w' (OF.grow (t := t) (by have := EC.snoc (EC.snoc h2 hy) hy2; rwa [List.append_assoc] at this) (by rw [len_two t y y2 h2.isList, hN]) (by decide) h3 h4 h5 hFg hF) h4 h5
theorem append_NF {ops : Array Oper} {rest : List Oper} {o : Oper} {a : Act} {Q : Exit → Act → World → Prop} (w : World) (hg : o.guard = none) (s x : Operand) (hop : o.op = Op.call { callee := Callee.builtin Builtin.append, args := #[s, x], argTypes := #[30, 30] })
  (c : Nat) (F : Nat → Prop) (v : Value) (xs : List ByteArray) (N : Nat) (hN : xs.length = N) (hs : a.eval s = v) (h : NF w c F v xs) (y : ByteArray) (b : Nat) (hx : a.eval x = .slice (some ⟨b, 0, none⟩) 1 1) (hb : w.heap[b]? = some (.cells #[.string y] 9)) (hl : N ≤ 100000) (hc : c ≤ w.heap.size) (hF : F w.heap.size)
  (k : ∀ g cap w', NF w' c F (.slice (some ⟨g, 0, none⟩) (N + 1) cap) (xs ++ [y]) → w.grownBy w' v.ownBlock → (v.ownBlock = some g ∨ g = w.heap.size) → wpList Tryz.prog ops Q rest (a.put o.dst (.slice (some ⟨g, 0, none⟩) (N + 1) cap)) w') : wpList Tryz.prog ops Q (o :: rest) a w := by
 obtain ⟨⟨h0, h1⟩, hFg⟩ := h
 rw [hN] at h1
 obtain ⟨i0, hi0, hz0, hz1, hz2⟩ := info_parts i9n
 refine wpList_append_lies w hg s x 30 hop c 9 i0 _ 1 16 Tryz.underlying30 hi0 hz0 hz1 hz2 rfl (by decide) v N (xs.map Value.string) hs h1 ⟨b, 0, none⟩ 1 1 [.string y] hx rfl (news_blk hb) (fun u hu => by rw [List.mem_singleton.1 hu]; rfl) (by decide) (by unfold maxLen; omega) (by omega) hc _ rfl ?_
 intro g cap w' h3 h4 h5 _
 refine k g cap w' ⟨⟨fun e => by simp at e, ?_⟩, fun g' e' => ?_⟩ h4 h5
 ·rw [List.length_append, hN, List.map_append]
  exact h3
 ·have : g = g' := by simpa [Value.ownBlock] using e'
  subst this
  rcases h5 with h5 | h5
  ·exact hFg g h5
  ·rw [h5]; exact hF
theorem step_NF {ops : Array Oper} {o : Oper} {a : Act} {K : Act → World → Prop} {Q : Exit → Act → World → Prop} {E : Prop} (w : World) (hg : o.guard = none) (s x : Operand) (hop : o.op = Op.call { callee := Callee.builtin Builtin.append, args := #[s, x], argTypes := #[30, 30] })
  (c : Nat) (F : Nat → Prop) (v : Value) (xs : List ByteArray) (N : Nat) (hN : xs.length = N) (hs : a.eval s = v) (h : NF w c F v xs) (y : ByteArray) (b : Nat) (hx : a.eval x = .slice (some ⟨b, 0, none⟩) 1 1) (hb : w.heap[b]? = some (.cells #[.string y] 9)) (hl : N ≤ 100000) (hc : c ≤ w.heap.size) (hF : F w.heap.size)
  (k : ∀ g cap w', NF w' c F (.slice (some ⟨g, 0, none⟩) (N + 1) cap) (xs ++ [y]) → w.grownBy w' v.ownBlock → (v.ownBlock = some g ∨ g = w.heap.size) → K (a.put o.dst (.slice (some ⟨g, 0, none⟩) (N + 1) cap)) w') : if Region.wanted o (yielded ops a.tmps) = true then Oper.wp Tryz.prog o a w K Q else E := by
 obtain ⟨⟨h0, h1⟩, hFg⟩ := h
 rw [hN] at h1
 obtain ⟨i0, hi0, hz0, hz1, hz2⟩ := info_parts i9n
 refine step_append_lies w hg s x 30 hop c 9 i0 _ 1 16 Tryz.underlying30 hi0 hz0 hz1 hz2 rfl (by decide) v N (xs.map Value.string) hs h1 ⟨b, 0, none⟩ 1 1 [.string y] hx rfl (news_blk hb) (fun u hu => by rw [List.mem_singleton.1 hu]; rfl) (by decide) (by unfold maxLen; omega) (by omega) hc _ rfl ?_
 intro g cap w' h3 h4 h5 _
 refine k g cap w' ⟨⟨fun e => by simp at e, ?_⟩, fun g' e' => ?_⟩ h4 h5
 ·rw [List.length_append, hN, List.map_append]
  exact h3
 ·have : g = g' := by simpa [Value.ownBlock] using e'
  subst this
  rcases h5 with h5 | h5
  ·exact hFg g h5
  ·rw [h5]; exact hF
end Go.Proofs.YtgkejkgailnbmaaGreatDoor
