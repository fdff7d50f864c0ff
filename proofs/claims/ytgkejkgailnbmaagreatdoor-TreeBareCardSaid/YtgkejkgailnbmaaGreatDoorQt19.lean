/- Texts joined: F5, F6 -/
import Derived.Test.YtgkejkgailnbmaaGreatDoorQt14
set_option linter.unusedVariables false
set_option linter.unusedSimpArgs false
namespace Go.Proofs.YtgkejkgailnbmaaGreatDoor
open Go.ChangeShapes Go.WideShapes Go.ChangeAt Go.RowKit TP
theorem once {P G : Prop} (f : P → G) (p : P) : G := f p
theorem row_set {w : World} {c m g C n : Nat} {e : TypeId} {xs : List Value} (h : w.ownsRow c e m (.slice (some ⟨g, 0, none⟩) n C) n xs) (k : Nat) (v : Value) : (w.setCell ⟨g, k, none⟩ v).ownsRow c e m (.slice (some ⟨g, 0, none⟩) n C) n (xs.set k v) := by
 unfold World.ownsRow at h ⊢
 obtain ⟨hl, ⟨h0, _⟩ | ⟨g', cap', cur, h0, h1, h2, h3, h4, h5, h6⟩⟩ := h
 ·cases h0
 ·cases h0
  refine ⟨by rw [List.length_set]; exact hl, .inr ⟨g, C, cur.setIfInBounds k v, rfl, h1, by simp [World.setCell, Array.getElem?_modify, h2], h3, h4, by simpa using h5, ?_⟩⟩
  rw [Array.toList_setIfInBounds, List.take_set, h6]
theorem EC.unsnoc {w : World} {F : Nat → Prop} {z : T} : ∀ {t : T} {kd : Nat} {cs : List Value}, EC w F (t.snoc z) kd cs → t.isList → ∃ ps zs, cs = ps ++ zs ∧ EC w F t kd ps ∧ EC w F (.cons z .nil) kd zs
 | .nil, _, cs, h, _ => ⟨[], cs, rfl, EC_nil.2 rfl, h⟩
 | .cons h t, kd, cs, hc, ht => by
  have hc : EC w F (.cons h (t.snoc z)) kd cs := hc
  rcases hc.case with ⟨_, _, _, _, _, _, _, rfl, rfl⟩ | ⟨_, _, rfl, rfl⟩ | ⟨_, _, _, _, _, rfl, rfl⟩ | rfl
  ·obtain ⟨vl, vf, r, rfl, h2, h3, h4⟩ := EC_ex.1 hc
   obtain ⟨ps, zs, rfl, h5, h6⟩ := EC.unsnoc h4 ht
   exact ⟨_, zs, rfl, EC_ex.2 ⟨vl, vf, ps, rfl, h2, h3, h5⟩, h6⟩
  ·obtain ⟨vl, vf, r, rfl, h2, h3, h4⟩ := EC_fn.1 hc
   obtain ⟨ps, zs, rfl, h5, h6⟩ := EC.unsnoc h4 ht
   exact ⟨_, zs, rfl, EC_fn.2 ⟨vl, vf, ps, rfl, h2, h3, h5⟩, h6⟩
  ·obtain ⟨vn, vl, vf, r, rfl, h2, h3, h7, h4⟩ := EC_st.1 hc
   obtain ⟨ps, zs, rfl, h5, h6⟩ := EC.unsnoc h4 ht
   exact ⟨_, zs, rfl, EC_st.2 ⟨vn, vl, vf, ps, rfl, h2, h3, h7, h5⟩, h6⟩
  ·obtain ⟨vl, r, rfl, h2, h4⟩ := EC_bl.1 hc
   obtain ⟨ps, zs, rfl, h5, h6⟩ := EC.unsnoc h4 ht
   exact ⟨_, zs, rfl, EC_bl.2 ⟨vl, ps, rfl, h2, h5⟩, h6⟩
 | .ex _ _ _ _ _ _ _, _, _, _, h => h.elim
 | .fn _ _, _, _, _, h => h.elim
 | .st _ _ _ _ _, _, _, _, h => h.elim
theorem set_last7 {α : Type} (ps : List α) {zs : List α} (hz : zs.length = 7) (y0 y1 y2 y3 y4 y5 y6 : α) (k : Nat) (hk : ps.length = k) : (((((((ps ++ zs).set k y0).set (k + 1) y1).set (k + 2) y2).set (k + 3) y3).set (k + 4) y4).set (k + 5) y5).set (k + 6) y6 = ps ++ [y0, y1, y2, y3, y4, y5, y6] := by
 subst hk
 match zs, hz with
 | [z0, z1, z2, z3, z4, z5, z6], _ =>
  rw [show ps.length = ps.length + 0 from rfl]
  simp only [Nat.add_zero, List.set_append_right _ _ (Nat.le_add_right _ _), List.set_append_right _ _ (Nat.le_refl _), Nat.add_sub_cancel_left, Nat.sub_self, List.set_cons_zero, List.set_cons_succ]
theorem OF.setLast {X : World} {d g N cap : Nat} {F : Nat → Prop} {t z y : T} {y0 y1 y2 y3 y4 y5 y6 : Value} (h : OF 0 38 X d F (.slice (some ⟨g, 0, none⟩) (N + 1) cap) (t.snoc z)) (ht : t.isList) (hN : t.len = N) (hy : EC X (fun i => F i ∧ g ≠ i) (.cons y .nil) 0 [y0, y1, y2, y3, y4, y5, y6]) :
  OF 0 38 (((((((X.setCell ⟨g, N * 7, none⟩ y0).setCell ⟨g, N * 7 + 1, none⟩ y1).setCell ⟨g, N * 7 + 2, none⟩ y2).setCell ⟨g, N * 7 + 3, none⟩ y3).setCell ⟨g, N * 7 + 4, none⟩ y4).setCell ⟨g, N * 7 + 5, none⟩ y5).setCell ⟨g, N * 7 + 6, none⟩ y6) d F (.slice (some ⟨g, 0, none⟩) (N + 1) cap) (t.snoc y) := by
 obtain ⟨_, hF, cs, h1, h2⟩ := h
 obtain ⟨ps, zs, rfl, h3, h4⟩ := EC.unsnoc h2 ht
 have hl := h3.len
 have hz := h4.len
 rw [hN] at hl
 simp only [T.len, wd, Nat.zero_add, Nat.one_mul] at hl hz
 have tn : Turn g X (((((((X.setCell ⟨g, N * 7, none⟩ y0).setCell ⟨g, N * 7 + 1, none⟩ y1).setCell ⟨g, N * 7 + 2, none⟩ y2).setCell ⟨g, N * 7 + 3, none⟩ y3).setCell ⟨g, N * 7 + 4, none⟩ y4).setCell ⟨g, N * 7 + 5, none⟩ y5).setCell ⟨g, N * 7 + 6, none⟩ y6) := ((((((Turn.cell X g (N * 7) y0).set (N * 7 + 1) y1).set (N * 7 + 2) y2).set (N * 7 + 3) y3).set (N * 7 + 4) y4).set (N * 7 + 5) y5).set (N * 7 + 6) y6
 rw [len_snoc _ ht, hN] at h1
 have hr := row_set (row_set (row_set (row_set (row_set (row_set (row_set h1 (N * 7) y0) (N * 7 + 1) y1) (N * 7 + 2) y2) (N * 7 + 3) y3) (N * 7 + 4) y4) (N * 7 + 5) y5) (N * 7 + 6) y6
 rw [set_last7 ps hz _ _ _ _ _ _ _ (N * 7) hl] at hr
 have he : EC X (fun i => F i ∧ (Value.slice (some ⟨g, 0, none⟩) (N + 1) cap).ownBlock ≠ some i) (.cons y .nil) 0 [y0, y1, y2, y3, y4, y5, y6] := EC.keep (fun _ _ _ => rfl) (Nat.le_refl _) (fun i hi _ => ⟨hi.1, fun e => hi.2 (by simpa [Value.ownBlock] using e)⟩) _ _ _ hy
 refine ⟨fun e => ?_, hF, _, by rw [len_snoc _ ht, hN]; exact hr, EC.keep (fun i hi _ => tn.far i (fun e => hi.2 (by rw [e]; rfl))) (Nat.le_of_eq tn.size.symm) (fun _ hi _ => hi) _ _ _ (EC.snoc h3 he)⟩
 cases t <;> simp [T.snoc] at e
section
variable {E : Env} {Q : Nat → Prop} {c : Nat} {w X Y : World} {s s' : St} {L : List (Nat × Obj)} {V : List It}
theorem Fr.turnF (h : Fr E Q c w X s L V) {g : Nat} (ht : Turn g X Y) (hp : g ≠ E.p) (hg : g ≠ E.g) (hw : w.heap.size ≤ g) (hL : ∀ p ∈ L, p.1 ≠ g) (V' : List It) (hV : ∀ it ∈ V', it.ok Y (Fp c L)) : Fr E Q c w Y s L V' :=
 ⟨h.ps.kept (ht.far _ (fun e => hp e.symm)) (ht.far _ (fun e => hg e.symm)) (Nat.le_of_eq ht.size.symm), h.kp.trans ⟨ht.os, ht.tape, ht.output, Nat.le_of_eq ht.size.symm, fun i hi _ => ht.far i (by omega)⟩, h.q, h.pc, h.lo, h.lg, fun p hp => (ht.far _ (hL p hp)).trans (h.blk p hp), h.own, h.nd, hV⟩
theorem It.turn {F : Nat → Prop} {it : It} {g : Nat} (ht : Turn g X Y) (h : it.ok X (fun i => F i ∧ some g ≠ some i)) : it.ok Y (fun i => F i ∧ some g ≠ some i) := It.keep (fun i hi _ => ht.far i (fun e => hi.2 (by rw [e]))) (Nat.le_of_eq ht.size.symm) (fun _ hi _ => hi) h
theorem Fr.startS {b : Nat} {o : Obj} (h : PS E w s) (hp : b ≠ E.p) (hg : b ≠ E.g) (hb : w.heap[b]? = some o) : Fr E (fun i => i = E.p ∨ i = b) w.heap.size w w s [(b, o)] [] :=
 ⟨h, Kp.refl _ _ _, .inl rfl, h.lt, Nat.le_refl _, h.2.1, fun p hp => by rw [List.mem_singleton.1 hp]; exact hb, fun p hm => by rw [List.mem_singleton.1 hm]; exact ⟨.inr (.inr rfl), hp, hg⟩, by simp, fun it hi => by cases hi⟩
theorem Fr.finS {b : Nat} (h : Fr E (fun i => i = E.p ∨ i = b) c w X s L V) : Kp w.heap.size (fun i => i ≠ E.p ∧ i ≠ b) w X := h.kp.mono (Nat.le_refl _) (fun _ hk e => e.elim hk.1 hk.2)
theorem Fr.litN (h : Fr E Q c w X s L V) {b : Nat} (hX : X.heap.size = b) (d : Nat) (hd : d ≤ X.heap.size) (nm : ByteArray) : Fr E Q c w (X.alloc (.cells #[.string nm] 9)) s L (.o d [nm] (.slice (some ⟨b, 0, none⟩) 1 1) :: V) := by
 subst hX
 refine (h.newF _).add (it := .o _ _ _) ⟨⟨fun e => (by cases e), ownsRow_lit (n := 1) (cs := [.string nm]) (heap_alloc_new _ _) hd rfl (by decide)⟩, fun g hg => ?_⟩
 have e : X.heap.size = g := by simpa [Value.ownBlock] using hg
 exact e ▸ h.fp (Nat.le_refl _)
theorem Fr.wrap (h : Fr E Q c w X s L V) {it : It} (hi : it ∈ V) (g : Nat) (hg : X.heap.size ≤ g) : it.ok X (fun i => Fp c L i ∧ some g ≠ some i) :=
 It.keep (fun _ _ _ => rfl) (Nat.le_refl _) (fun i hi hl => ⟨hi, fun e => by cases e; omega⟩) (h.v it hi)
theorem Fr.appendedV (h : Fr E Q c w X s L V) {kd : Nat} {e : TypeId} {d g : Nat} {t t' : T} {v v' : Value} {it : It} (ho : OF kd e X d (Fp c L) v t) (hi : it.ok X (fun i => Fp c L i ∧ v.ownBlock ≠ some i)) (hd : w.heap.size ≤ d) (hg : X.grownBy Y v.ownBlock) (hn : OF kd e Y d (Fp c L) v' t') (h5 : v.ownBlock = some g ∨ g = X.heap.size) : Fr E Q c w Y s L [.r kd e d t' v', .w (some g) it] := by
 have h2 := h.grown hg (fun g e => by
  have hb := ho.blk g e
  have := h.lg
  exact ⟨hb.2.2.1, Nat.le_trans hd hb.1, hb.2.2.2, by omega⟩) [] (fun it hi => by cases hi)
 refine (h2.add (it := .w (some g) it) (It.keep (it := it) (fun i hi hl => hg.block i hl (fun e => hi.2 e.symm)) hg.size (fun i hi hl => ⟨hi.1, fun e => ?_⟩) hi)).add (it := .r kd e d t' v') hn
 cases e
 rcases h5 with h5 | h5
 ·exact hi.2 h5
 ·omega
end
theorem OF.last7 {X : World} {d g N cap : Nat} {F : Nat → Prop} {t : T} (ht : t.isList) (hN : t.len = N) (h : OF 0 38 X d F (.slice (some ⟨g, 0, none⟩) (N + 1) cap) (t.snoc (.ex 0 0 0 ⟨#[]⟩ 0 .nil .nil))) :
  (X.cell? ⟨g, N * 7, none⟩ = some (.int .i64 0) ∧ X.cell? ⟨g, N * 7 + 1, none⟩ = some (.int .i64 0) ∧ X.cell? ⟨g, N * 7 + 2, none⟩ = some (.int .i64 0) ∧ X.cell? ⟨g, N * 7 + 3, none⟩ = some (.string ⟨#[]⟩) ∧ X.cell? ⟨g, N * 7 + 4, none⟩ = some (.int .i64 0) ∧ X.cell? ⟨g, N * 7 + 5, none⟩ = some (.slice none 0 0) ∧ X.cell? ⟨g, N * 7 + 6, none⟩ = some (.slice none 0 0)) ∧
  (X.frozen? ⟨g, N * 7, none⟩ = false ∧ X.frozen? ⟨g, N * 7 + 1, none⟩ = false ∧ X.frozen? ⟨g, N * 7 + 2, none⟩ = false ∧ X.frozen? ⟨g, N * 7 + 3, none⟩ = false ∧ X.frozen? ⟨g, N * 7 + 4, none⟩ = false ∧ X.frozen? ⟨g, N * 7 + 5, none⟩ = false ∧ X.frozen? ⟨g, N * 7 + 6, none⟩ = false) := by
 obtain ⟨_, hF, cs, h1, h2⟩ := h
 obtain ⟨ps, zs, rfl, h3, h4⟩ := EC.unsnoc h2 ht
 obtain ⟨vl, vf, r, rfl, hl, hf, hr⟩ := EC_ex.1 h4
 have hl' : vl = .slice none 0 0 := by rcases hl with ⟨_, e⟩ | ⟨e, _⟩; exact e; exact absurd rfl e
 have hf' : vf = .slice none 0 0 := by rcases hf with ⟨_, e⟩ | ⟨e, _⟩; exact e; exact absurd rfl e
 subst hl' hf'
 rw [EC_nil.1 hr] at h1
 have ha := h3.len
 rw [hN] at ha
 simp only [wd] at ha
 rw [len_snoc _ ht, hN] at h1
 have hc : ∀ j v, ([.int .i64 0, .int .i64 0, .int .i64 0, .string ⟨#[]⟩, .int .i64 0, .slice none 0 0, .slice none 0 0] : List Value)[j]? = some v → X.cell? ⟨g, N * 7 + j, none⟩ = some v := fun j v hj => row_cell h1 (N * 7 + j) v (by rw [List.getElem?_append_right (by omega), ha, Nat.add_sub_cancel_left]; exact hj)
 have hz : ∀ j, X.frozen? ⟨g, j, none⟩ = false := fun j => by
  have h1' := h1
  unfold World.ownsRow at h1'
  obtain ⟨_, ⟨h0, _⟩ | ⟨g', cap', cur, h0, _, h2, _⟩⟩ := h1'
  ·cases h0
  ·cases h0
   simp [World.frozen?, h2]
 exact ⟨⟨hc 0 _ rfl, hc 1 _ rfl, hc 2 _ rfl, hc 3 _ rfl, hc 4 _ rfl, hc 5 _ rfl, hc 6 _ rfl⟩, ⟨hz _, hz _, hz _, hz _, hz _, hz _, hz _⟩⟩
end Go.Proofs.YtgkejkgailnbmaaGreatDoor
namespace Go.Proofs.YtgkejkgailnbmaaGreatDoor
open Go.ChangeShapes Go.WideShapes Go.ChangeAt Go.RowKit TP
theorem comm1 {X : World} {b g : Nat} (h : b ≠ g) (i j : Nat) (u v : Value) : (X.setCell ⟨b, i, none⟩ u).setCell ⟨g, j, none⟩ v = (X.setCell ⟨g, j, none⟩ v).setCell ⟨b, i, none⟩ u := by
 unfold World.setCell
 simp only [World.mk.injEq, and_true, true_and]
 apply Array.ext (by simp)
 intro k h1 h2
 simp only [Array.getElem_modify]
 repeat' split
 all_goals first | rfl | (exfalso; apply h; simp_all; done) | simp_all
theorem comm7 {X : World} {b g : Nat} (h : b ≠ g) (i : Nat) (u : Value) (j0 j1 j2 j3 j4 j5 j6 : Nat) (v0 v1 v2 v3 v4 v5 v6 : Value) : (((((((X.setCell ⟨b, i, none⟩ u).setCell ⟨g, j0, none⟩ v0).setCell ⟨g, j1, none⟩ v1).setCell ⟨g, j2, none⟩ v2).setCell ⟨g, j3, none⟩ v3).setCell ⟨g, j4, none⟩ v4).setCell ⟨g, j5, none⟩ v5).setCell ⟨g, j6, none⟩ v6 = (((((((X.setCell ⟨g, j0, none⟩ v0).setCell ⟨g, j1, none⟩ v1).setCell ⟨g, j2, none⟩ v2).setCell ⟨g, j3, none⟩ v3).setCell ⟨g, j4, none⟩ v4).setCell ⟨g, j5, none⟩ v5).setCell ⟨g, j6, none⟩ v6).setCell ⟨b, i, none⟩ u := by
 rw [comm1 h, comm1 h, comm1 h, comm1 h, comm1 h, comm1 h, comm1 h]
structure Rest (P : Prop) : Prop where
 out : P
theorem once2 {P G : Prop} (f : Rest P → G) (p : P) : G := f ⟨p⟩
section
variable {E : Env} {Q : Nat → Prop} {c : Nat} {w X Y : World} {s s' : St} {L : List (Nat × Obj)} {V : List It}
theorem Fr.with (h : Fr E Q c w X s L V) (V' : List It) (hV : ∀ it ∈ V', it.ok X (Fp c L)) : Fr E Q c w X s L V' := ⟨h.ps, h.kp, h.q, h.pc, h.lo, h.lg, h.blk, h.own, h.nd, hV⟩
theorem Fr.litRow (h : Fr E Q c w X s L V) {it : It} (hi : it ∈ V) {kd : Nat} {e : TypeId} {t : T} {n : Nat} {cs : List Value} {b : Nat} (hb : X.heap.size = b) (d : Nat) (hd : d ≤ X.heap.size) (ht : t ≠ .nil) (hn : t.len = n) (hm : n ≤ maxLen) (hc : EC X (Fp c L) t kd cs) : Fr E Q c w (X.alloc (.cells cs.toArray e)) s L [.w none (.r kd e d t (.slice (some ⟨b, 0, none⟩) n n)), .w (some b) it] := by
 subst hb
 have h1 := h.litR (e := e) d hd ht hn hm hc
 refine h1.with _ (fun x hx => ?_)
 rcases List.mem_cons.1 hx with rfl | hx
 ·exact It.keep (it := .r kd e d t (.slice (some ⟨X.heap.size, 0, none⟩) n n)) (fun _ _ _ => rfl) (Nat.le_refl _) (fun i hi _ => ⟨hi, fun e => by cases e⟩) (h1.v _ (List.Mem.head _))
 ·rw [List.mem_singleton.1 hx]
  exact It.keep (it := it) (fun i _ hl => alloc_old.block i hl) (by rw [World.size_alloc]; omega) (fun i hi hl => ⟨hi, fun e => by cases e; omega⟩) (h.v it hi)
theorem Fr.apart2 (h : Fr E Q c w X s L V) {o1 o2 : Option Nat} (h1 : ∀ g, o1 = some g → g < X.heap.size) (h2 : ∀ g, o2 = some g → g < X.heap.size) {it : It} (hi : it.ok Y (fun i => X.heap.size ≤ i)) : it.ok Y (fun i => (Fp c L i ∧ o1 ≠ some i) ∧ o2 ≠ some i) :=
 It.keep (it := it) (fun _ _ _ => rfl) (Nat.le_refl _) (fun i hi _ => ⟨⟨h.fp hi, fun e => by have := h1 i e; omega⟩, fun e => by have := h2 i e; omega⟩) hi
theorem Fr.ownlt (h : Fr E Q c w X s L V) {own : Option Nat} {kd : Nat} {e : TypeId} {d : Nat} {t : T} {v : Value} (hi : It.w own (.r kd e d t v) ∈ V) : ∀ g, v.ownBlock = some g → g < X.heap.size := fun g hg => (OF.blk (h.v _ hi) g hg).2.1
theorem Fr.appendedO (h : Fr E Q c w X s L V) {kd : Nat} {e : TypeId} {d g : Nat} {t t' : T} {v v' : Value} {own : Option Nat} (V' : List It) (ho : OF kd e X d (fun i => Fp c L i ∧ own ≠ some i) v t) (hi : ∀ it ∈ V', it.ok X (fun i => Fp c L i ∧ v.ownBlock ≠ some i)) (hd : w.heap.size ≤ d) (hg : X.grownBy Y v.ownBlock) (hn : OF kd e Y d (fun i => Fp c L i ∧ own ≠ some i) v' t') (h5 : v.ownBlock = some g ∨ g = X.heap.size) : Fr E Q c w Y s L (.w own (.r kd e d t' v') :: V'.map (It.w (some g))) := by
 have h2 := h.grown hg (fun g e => by
  have hb := ho.blk g e
  have := h.lg
  exact ⟨hb.2.2.1.1, Nat.le_trans hd hb.1, hb.2.2.1.2, by omega⟩) [] (fun it hi => by cases hi)
 refine h2.with _ (fun x hx => ?_)
 rcases List.mem_cons.1 hx with rfl | hx
 ·exact hn
 ·obtain ⟨it, hit, rfl⟩ := List.mem_map.1 hx
  refine It.keep (it := it) (fun i hi hl => hg.block i hl (fun e => hi.2 e.symm)) hg.size (fun i hi hl => ⟨hi.1, fun e => ?_⟩) (hi it hit)
  cases e
  rcases h5 with h5 | h5
  ·exact hi.2 h5
  ·omega
theorem Fr.setLast (h : Fr E Q c w X s L V) {d g N cap : Nat} {t z y : T} {y0 y1 y2 y3 y4 y5 y6 : Value} {own : Option Nat} (V' : List It) (hr : OF 0 38 X d (fun i => Fp c L i ∧ own ≠ some i) (.slice (some ⟨g, 0, none⟩) (N + 1) cap) (t.snoc z)) (hd : w.heap.size ≤ d) (ht : t.isList) (hN : t.len = N) (hy : XR X (fun i => (Fp c L i ∧ own ≠ some i) ∧ some g ≠ some i) y (.agg #[y0, y1, y2, y3, y4, y5, y6])) (hV : ∀ it ∈ V', It.ok X (Fp c L) (.w (some g) it)) :
  Fr E Q c w (((((((X.setCell ⟨g, N * 7, none⟩ y0).setCell ⟨g, N * 7 + 1, none⟩ y1).setCell ⟨g, N * 7 + 2, none⟩ y2).setCell ⟨g, N * 7 + 3, none⟩ y3).setCell ⟨g, N * 7 + 4, none⟩ y4).setCell ⟨g, N * 7 + 5, none⟩ y5).setCell ⟨g, N * 7 + 6, none⟩ y6) s L (.w own (.r 0 38 d (t.snoc y) (.slice (some ⟨g, 0, none⟩) (N + 1) cap)) :: V'.map (It.w (some g))) := by
 have hb := hr.blk g rfl
 have hlg := h.lg
 have hpc := h.pc
 have tn : Turn g X (((((((X.setCell ⟨g, N * 7, none⟩ y0).setCell ⟨g, N * 7 + 1, none⟩ y1).setCell ⟨g, N * 7 + 2, none⟩ y2).setCell ⟨g, N * 7 + 3, none⟩ y3).setCell ⟨g, N * 7 + 4, none⟩ y4).setCell ⟨g, N * 7 + 5, none⟩ y5).setCell ⟨g, N * 7 + 6, none⟩ y6) := ((((((Turn.cell X g (N * 7) y0).set (N * 7 + 1) y1).set (N * 7 + 2) y2).set (N * 7 + 3) y3).set (N * 7 + 4) y4).set (N * 7 + 5) y5).set (N * 7 + 6) y6
 refine h.turnF tn (fun e => by have := hb.2.2.1.1; omega) (by omega) (by omega) hb.2.2.1.2 _ (fun x hx => ?_)
 rcases List.mem_cons.1 hx with rfl | hx
 ·exact OF.setLast hr ht hN (EC.keep (fun _ _ _ => rfl) (Nat.le_refl _) (fun i hi _ => ⟨hi.1, fun e => hi.2 (by rw [e])⟩) _ _ _ hy.ec1)
 ·obtain ⟨it, hit, rfl⟩ := List.mem_map.1 hx
  exact It.turn (it := it) tn (hV it hit)
end
end Go.Proofs.YtgkejkgailnbmaaGreatDoor
