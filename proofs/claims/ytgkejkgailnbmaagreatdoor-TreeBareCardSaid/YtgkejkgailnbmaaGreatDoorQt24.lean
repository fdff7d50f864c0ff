/- Texts joined: TW, S8 -/
import Derived.Test.YtgkejkgailnbmaaGreatDoorQt1
import Derived.Test.YtgkejkgailnbmaaGreatDoorQt23
set_option linter.unusedVariables false
set_option linter.unusedSimpArgs false
namespace TP
def wide (M : Nat) : T → Prop
 | .nil => True
 | .cons h t => wide M h ∧ wide M t ∧ t.len + 1 ≤ M
 | .ex _ _ _ _ _ l f => wide M l ∧ wide M f
 | .fn ps b => ps.length ≤ M ∧ wide M b
 | .st _ _ ns l b => ns.length ≤ M ∧ wide M l ∧ wide M b
theorem wide_map (M : Nat) (g : Int → Int) : ∀ t : T, wide M (t.map g) ↔ wide M t
 | .nil => Iff.rfl
 | .cons h t => by
  show wide M (h.map g) ∧ wide M (t.map g) ∧ _ ↔ wide M h ∧ wide M t ∧ _
  rw [wide_map M g h, wide_map M g t, T.len_map]
 | .ex _ _ _ _ _ l f => by
  show wide M (l.map g) ∧ wide M (f.map g) ↔ wide M l ∧ wide M f
  rw [wide_map M g l, wide_map M g f]
 | .fn _ b => by
  show _ ∧ wide M (b.map g) ↔ _ ∧ wide M b
  rw [wide_map M g b]
 | .st _ _ _ l b => by
  show _ ∧ wide M (l.map g) ∧ wide M (b.map g) ↔ _ ∧ wide M l ∧ wide M b
  rw [wide_map M g l, wide_map M g b]
theorem len_bare : ∀ t : T, (bare t).len = t.len
 | .nil => rfl
 | .cons h t => by simp [bare, T.len, len_bare t]
 | .ex _ _ _ _ _ _ _ => rfl
 | .fn _ _ => rfl
 | .st _ _ _ _ _ => rfl
theorem wide_bare (M : Nat) : ∀ t : T, wide M (bare t) ↔ wide M t
 | .nil => Iff.rfl
 | .cons h t => by
  show wide M (bare h) ∧ wide M (bare t) ∧ _ ↔ wide M h ∧ wide M t ∧ _
  rw [wide_bare M h, wide_bare M t, len_bare]
 | .ex _ _ _ _ _ l f => by
  show wide M (bare l) ∧ wide M (bare f) ↔ wide M l ∧ wide M f
  rw [wide_bare M l, wide_bare M f]
 | .fn _ b => by
  show _ ∧ wide M (bare b) ↔ _ ∧ wide M b
  rw [wide_bare M b]
 | .st _ _ _ l b => by
  show _ ∧ wide M (bare l) ∧ wide M (bare b) ↔ _ ∧ wide M l ∧ wide M b
  rw [wide_bare M l, wide_bare M b]
theorem wide_len {M : Nat} : ∀ {t : T}, wide M t → t.isList → t.len ≤ M
 | .nil, _, _ => Nat.zero_le _
 | .cons _ _, h, _ => h.2.2
 | .ex _ _ _ _ _ _ _, _, h => h.elim
 | .fn _ _, _, h => h.elim
 | .st _ _ _ _ _, _, h => h.elim
theorem wide_snoc {M : Nat} {x : T} (hx : wide M x) : ∀ {t : T}, wide M t → t.isList → t.len + 1 ≤ M → wide M (t.snoc x)
 | .nil, _, _, h => ⟨hx, trivial, h⟩
 | .cons a r, h, hl, hn => by
  have hn' : r.len + 1 + 1 ≤ M := hn
  refine ⟨h.1, wide_snoc hx (t := r) h.2.1 hl (by omega), ?_⟩
  rw [len_snoc x (t := r) hl]
  exact hn'
 | .ex _ _ _ _ _ _ _, _, h, _ => h.elim
 | .fn _ _, _, h, _ => h.elim
 | .st _ _ _ _ _, _, h, _ => h.elim
section
variable {ts : List Tk} {M : Nat} (hM : 2 * ts.length + 20 ≤ M)
def WR (M : Nat) (F : St → R) : Prop := ∀ s, wide M (F s).1
theorem wide_T0 : wide M T0 := ⟨trivial, trivial⟩
include hM
theorem wide1 {a : T} (h : wide M a) : wide M (T.of [a]) := ⟨h, trivial, by show 0 + 1 ≤ M; omega⟩
theorem wide2 {a b : T} (h : wide M a) (k : wide M b) : wide M (T.of [a, b]) := ⟨h, wide1 hM k, by show 1 + 1 ≤ M; omega⟩
theorem wide3 {a b c : T} (h : wide M a) (k : wide M b) (l : wide M c) : wide M (T.of [a, b, c]) := ⟨h, wide2 hM k l, by show 2 + 1 ≤ M; omega⟩
theorem binLoop_wide {sub : St → R} (hs : WR M sub) (n : Nat) : ∀ (f : Nat) (a : T) (s : St), wide M a → wide M (binLoop ts sub n f a s).1
 | 0, _, _, h => h
 | f + 1, a, s, h => by
  unfold binLoop
  simp only
  split
  ·exact h
  ·exact binLoop_wide hs n f _ _ ⟨wide2 hM h (hs _), trivial⟩
theorem bin_wide {sub : St → R} (hs : WR M sub) (n : Nat) : WR M (bin ts sub n) := fun s => by
 unfold bin
 split
 ·exact wide_T0
 ·exact binLoop_wide hM hs n _ _ _ (hs s)
omit hM in
theorem pass_wide {sub : St → R} (hs : WR M sub) : WR M (pass sub) := fun s => by
 unfold pass
 split
 ·exact wide_T0
 ·exact hs s
section
variable {ex bl : St → R} (hx : WR M ex) (hb : WR M bl)
include hx
omit hM in
theorem argsLoop_wide : ∀ (f : Nat) (l : T) (s : St), wide M l → l.isList → l.len + f ≤ M → wide M (argsLoop ts ex f l s).1
 | 0, _, _, h, _, _ => h
 | f + 1, l, s, h, hl, hn => by
  unfold argsLoop
  simp only
  split
  ·exact h
  ·have h2 := wide_snoc (hx (full (l.len - 1) 16 s)) h hl (by omega)
   split
   ·exact argsLoop_wide f _ _ h2 (isList_snoc _ hl) (by rw [len_snoc _ hl]; omega)
   ·exact h2
theorem args_wide (e : T) (s : St) (he : wide M e) : wide M (args ts ex e s).1 := by
 unfold args
 split
 ·exact wide1 hM he
 ·exact argsLoop_wide hx _ _ _ (wide1 hM he) trivial (by show 1 + (ts.length + 1) ≤ M; omega)
theorem behind_wide : ∀ (f : Nat) (e : T) (s : St), wide M e → wide M (behindLoop ts ex f e s).1
 | 0, _, _, h => h
 | f + 1, e, s, h => by
  unfold behindLoop
  simp only
  split
  ·exact h
  ·split
   ·exact behind_wide f _ _ ⟨wide2 hM h ⟨trivial, trivial⟩, trivial⟩
   ·split
    ·exact behind_wide f _ _ ⟨wide2 hM h (hx _), trivial⟩
    ·split
     ·exact behind_wide f _ _ ⟨args_wide hM hx e _ h, trivial⟩
     ·exact h
omit hM in
theorem key_wide (n : Int) (s : St) : wide M (key ts ex n s).1.1 := by
 unfold key
 simp only
 split
 ·exact ⟨trivial, trivial⟩
 ·split
  ·exact hx _
  ·split
   ·exact ⟨trivial, trivial⟩
   ·exact ⟨trivial, trivial⟩
omit hM in
theorem table_wide : ∀ (f : Nat) (l : T) (n : Int) (s : St), wide M l → l.isList → l.len + 2 * f ≤ M → wide M (tableLoop ts ex f l n s).1
 | 0, _, _, _, h, _, _ => h
 | f + 1, l, n, s, h, hl, hn => by
  unfold tableLoop
  simp only
  split
  ·exact h
  ·have h1 := wide_snoc (key_wide (ts := ts) hx n (full (l.len / 2) 64 s)) h hl (by omega)
   have l1 := isList_snoc (key ts ex n (full (l.len / 2) 64 s)).1.1 hl
   have h2 := wide_snoc (hx (key ts ex n (full (l.len / 2) 64 s)).1.2) h1 l1 (by rw [len_snoc _ hl]; omega)
   split
   ·exact table_wide f _ _ _ h2 (isList_snoc _ l1) (by rw [len_snoc _ l1, len_snoc _ hl]; omega)
   ·split
    ·exact table_wide f _ _ _ h2 (isList_snoc _ l1) (by rw [len_snoc _ l1, len_snoc _ hl]; omega)
    ·exact h2
omit hM hx in
theorem parsLoop_len : ∀ (f : Nat) (l : List ByteArray) (s : St), (parsLoop ts f l s).1.length ≤ l.length + f
 | 0, _, _ => Nat.le_refl _
 | f + 1, l, s => by
  unfold parsLoop
  simp only
  split
  ·simp only; omega
  ·split
   ·have := parsLoop_len f (l ++ [(name ts (full l.length 16 s)).1]) (adv (name ts (full l.length 16 s)).2)
    rw [List.length_append, List.length_singleton] at this
    omega
   ·rw [List.length_append, List.length_singleton]
    omega
include hb
omit hx in
theorem body_wide (s : St) : wide M (body ts bl s).1 := by
 unfold body
 simp only
 refine ⟨?_, hb _⟩
 unfold pars
 split
 ·exact Nat.zero_le _
 ·have := parsLoop_len (ts := ts) (ts.length + 1) [] (take ts (B [40]) s)
  simp only [List.length_nil] at this
  show (parsLoop ts (ts.length + 1) [] (take ts (B [40]) s)).1.length ≤ M
  omega
theorem post_wide : WR M (post ts ex bl) := fun s => by
 have z : wide M .nil := trivial
 unfold post
 simp only
 split
 ·exact wide_T0
 ·split
  ·exact behind_wide hM hx _ _ _ ⟨z, z⟩
  ·split
   ·exact behind_wide hM hx _ _ _ (hx _)
   ·repeat' split
    all_goals first | exact ⟨z, z⟩ | exact ⟨z, wide1 hM (body_wide hM hb _)⟩ | exact ⟨table_wide hx _ _ _ _ z trivial (by show 0 + 2 * (ts.length + 1) ≤ M; omega), z⟩ | exact wide_T0
theorem unary_wide {un : Option (St → R)} (hu : ∀ u, un = some u → WR M u) : WR M (unary ts ex bl un) := fun s => by
 have hg : ∀ (k : Int), wide M (match un with | none => ((T0, fail 8 (adv s)) : R) | some u => (.ex k s.i 0 ⟨#[]⟩ 0 (T.of [(u (adv s)).1]) .nil, (u (adv s)).2)).1 := fun k => by
  cases un with
  | none => exact wide_T0
  | some u => exact ⟨wide1 hM (hu u rfl _), trivial⟩
 unfold unary
 simp only
 split
 ·exact hg 11
 ·split
  ·exact hg 12
  ·split
   ·exact hg 13
   ·exact post_wide hM hx hb s
omit hM in
theorem ifLoop_wide : ∀ (f : Nat) (l b : T) (s : St), wide M l → wide M b → l.isList → b.isList → l.len + f ≤ M → b.len + f ≤ M → wide M (ifLoop ts ex bl f l b s).1 ∧ (wide M (ifLoop ts ex bl f l b s).2.1 ∧ (ifLoop ts ex bl f l b s).2.1.isList ∧ (ifLoop ts ex bl f l b s).2.1.len ≤ b.len + f)
 | 0, _, _, _, h, k, _, hb2, _, _ => ⟨h, k, hb2, Nat.le_refl _⟩
 | f + 1, l, b, s, h, k, hl, hb2, hn, kn => by
  unfold ifLoop
  simp only
  have h2 := wide_snoc (hx s) h hl (by omega)
  have k2 := wide_snoc (hb (take ts (B [116, 104, 101, 110]) (ex s).2)) k hb2 (by omega)
  split
  ·obtain ⟨e1, e2, e3, e4⟩ := ifLoop_wide f _ _ (adv (bl (take ts (B [116, 104, 101, 110]) (ex s).2)).2) h2 k2 (isList_snoc _ hl) (isList_snoc _ hb2) (by rw [len_snoc _ hl]; omega) (by rw [len_snoc _ hb2]; omega)
   refine ⟨e1, e2, e3, ?_⟩
   rw [len_snoc _ hb2] at e4
   omega
  ·refine ⟨h2, k2, isList_snoc _ hb2, ?_⟩
   rw [len_snoc _ hb2]
   omega
theorem stat_wide (a : Nat) (s : St) : wide M (stat ts ex bl a s).1 := by
 have z : wide M .nil := trivial
 have z0 : ([] : List ByteArray).length ≤ M := Nat.zero_le _
 have o1 : ∀ x : ByteArray, [x].length ≤ M := fun x => by show 1 ≤ M; omega
 have o2 : ∀ x y : ByteArray, [x, y].length ≤ M := fun x y => by show 2 ≤ M; omega
 obtain ⟨e1, e2, e3, e4⟩ := ifLoop_wide (ts := ts) hx hb (ts.length + 1) .nil .nil (adv s) z z trivial trivial (by show 0 + (ts.length + 1) ≤ M; omega) (by show 0 + (ts.length + 1) ≤ M; omega)
 have e5 : (ifLoop ts ex bl (ts.length + 1) .nil .nil (adv s)).2.1.len + 1 ≤ M := by
  have : T.nil.len = 0 := rfl
  omega
 have d1 : ∀ t, wide M (doEnd ts bl t).1 := fun t => hb t
 have b1 : ∀ e t, wide M e → wide M (behind ts ex e t).1 := fun e t h => behind_wide hM hx _ _ _ h
 unfold stat
 simp only
 repeat' split
 all_goals first
  | exact ⟨o1 _, wide1 hM ⟨z, wide1 hM (body_wide hM hb _)⟩, z⟩
  | exact ⟨o1 _, wide1 hM (hx _), z⟩
  | exact ⟨o1 _, z, z⟩
  | exact ⟨z0, e1, wide_snoc (hb _) e2 e3 e5⟩
  | exact ⟨z0, e1, e2⟩
  | exact ⟨z0, wide1 hM (hx _), wide1 hM (d1 _)⟩
  | exact ⟨z0, wide1 hM (hx _), wide1 hM (hb _)⟩
  | exact ⟨o2 _ _, wide1 hM (hx _), wide1 hM (d1 _)⟩
  | exact ⟨o1 _, wide3 hM (hx _) (hx _) (hx _), wide1 hM (d1 _)⟩
  | exact ⟨o1 _, wide2 hM (hx _) (hx _), wide1 hM (d1 _)⟩
  | exact ⟨z0, z, z⟩
  | exact ⟨z0, z, wide1 hM (d1 _)⟩
  | exact ⟨z0, wide1 hM (b1 _ _ ⟨z, z⟩), z⟩
  | exact ⟨z0, wide2 hM (b1 _ _ ⟨z, z⟩) (hx _), z⟩
theorem blockLoop_wide : ∀ (f : Nat) (out : T) (s : St), wide M out → out.isList → out.len + f ≤ M → wide M (blockLoop ts ex bl f out s).1
 | 0, _, _, h, _, _ => h
 | f + 1, out, s, h, hl, hn => by
  unfold blockLoop
  simp only
  split
  ·exact h
  ·split
   ·have hr : wide M (retPart ts ex (adv s)).1 := by
     unfold retPart
     split
     ·exact wide1 hM (hx _)
     ·exact trivial
    exact wide_snoc (show wide M (.st 10 s.i [] (retPart ts ex (adv s)).1 .nil) from ⟨Nat.zero_le _, hr, trivial⟩) h hl (by omega)
   ·exact blockLoop_wide f _ _ (wide_snoc (stat_wide hM hx hb _ _) h hl (by omega)) (isList_snoc _ hl) (by rw [len_snoc _ hl]; omega)
theorem block_wide : WR M (block ts ex bl) := fun s => blockLoop_wide hM hx hb _ _ _ trivial trivial (by show 0 + (ts.length + 1) ≤ M; omega)
end
theorem join_wide {un : St → R} (hu : WR M un) {jn : Option (St → R)} (hj : ∀ u, jn = some u → WR M u) : WR M (join ts un jn) := fun s => by
 have h2 := bin_wide hM (bin_wide hM (pass_wide hu) 5) 4 s
 unfold join
 simp only
 split
 ·cases jn with
  | none => exact h2
  | some u => exact ⟨wide2 hM h2 (hj u rfl _), trivial⟩
 ·exact h2
theorem level0_wide {jn : St → R} (hj : WR M jn) : WR M (level0 ts jn) := bin_wide hM (bin_wide hM (bin_wide hM (pass_wide hj) 2) 1) 0
theorem pk_wide : ∀ k, WR M (pk ts k).ex ∧ WR M (pk ts k).bl ∧ WR M (pk ts k).un ∧ WR M (pk ts k).jn
 | 0 => by
  have e0 : WR M (fun s => ((T0, fail 8 s) : R)) := fun _ => wide_T0
  have b0 : WR M (fun s => ((.nil, fail 8 s) : R)) := fun _ => trivial
  have hu := unary_wide hM e0 b0 (un := none) (fun _ e => by cases e)
  exact ⟨e0, b0, hu, join_wide hM hu (fun _ e => by cases e)⟩
 | k + 1 => by
  obtain ⟨h1, h2, h3, h4⟩ := pk_wide k
  have hx := level0_wide hM h4
  have hb := block_wide hM h1 h2
  have hu := unary_wide hM hx hb (un := some (pk ts k).un) (fun _ e => by cases e; exact h3)
  exact ⟨hx, hb, hu, join_wide hM hu (fun _ e => by cases e; exact h4)⟩
end
theorem script_wide {ts : List Tk} {t : T} (h : script ts = some t) : wide (2 * ts.length + 20) t := by
 unfold script at h
 simp only at h
 split at h
 ·cases h
  exact (pk_wide (Nat.le_refl _) 100).2.1 _
 ·cases h
end TP
namespace TP
def T.app : T → T → T
 | .cons h t, r => .cons h (t.app r)
 | _, r => r
theorem T.app_snoc (x r : T) : ∀ {t : T}, t.isList → (t.snoc x).app r = t.app (.cons x r)
 | .nil, _ => rfl
 | .cons h t, hl => by
  show T.cons h ((t.snoc x).app r) = .cons h (t.app (.cons x r))
  rw [T.app_snoc x r (t := t) hl]
 | .ex _ _ _ _ _ _ _, h => h.elim
 | .fn _ _, h => h.elim
 | .st _ _ _ _ _, h => h.elim
theorem T.app_nil : ∀ {t : T}, t.isList → t.app .nil = t
 | .nil, _ => rfl
 | .cons h t, hl => by
  show T.cons h (t.app .nil) = .cons h t
  rw [T.app_nil (t := t) hl]
 | .ex _ _ _ _ _ _ _, h => h.elim
 | .fn _ _, h => h.elim
 | .st _ _ _ _ _, h => h.elim
theorem wide_nth {M : Nat} : ∀ {t : T}, wide M t → t.isList → ∀ j, j < t.len → wide M (Go.Proofs.YtgkejkgailnbmaaGreatDoor.nth t j)
 | .nil, _, _, _, h => by simp [T.len] at h
 | .cons x r, h, _, 0, _ => h.1
 | .cons x r, h, hl, j + 1, hj => wide_nth (t := r) h.2.1 hl j (by simp only [T.len] at hj; omega)
 | .ex _ _ _ _ _ _ _, _, h, _, _ => h.elim
 | .fn _ _, _, h, _, _ => h.elim
 | .st _ _ _ _ _, _, h, _, _ => h.elim
end TP
namespace Go.Proofs.YtgkejkgailnbmaaGreatDoor
open Lib (hid)
open Go.ChangeShapes Go.WideShapes Go.ChangeAt Go.RowKit TP
section
variable {w w' : World} {F G : Nat → Prop}
theorem SL.bel {kd : Nat} {v : Value} {t : T} (h : SL w F kd v t) (hb : Below w.heap.size w w') : SL w' F kd v t := SL.keep (fun i _ hl => hb.block i hl) (Below.size hb) (fun _ h _ => h) _ _ _ h
theorem NL.bel {v : Value} {l : List ByteArray} (h : NL w F v l) (hb : Below w.heap.size w w') : NL w' F v l := h.keep (fun i _ hl => hb.block i hl) (Below.size hb) (fun _ h _ => h)
theorem ExR.bel {t : T} {k a n op : Int} {s : ByteArray} {vl vf : Value} {l f : T} (h : ExR w F t k a n op s vl vf l f) (hb : Below w.heap.size w w') : ExR w' F t k a n op s vl vf l f := ⟨h.t, h.l.bel hb, h.f.bel hb⟩
theorem FnR.bel {t : T} {vp vd : Value} {ps : List ByteArray} {d : T} (h : FnR w F t vp vd ps d) (hb : Below w.heap.size w w') : FnR w' F t vp vd ps d := ⟨h.t, h.p.bel hb, h.d.bel hb⟩
theorem StR.bel {t : T} {k a : Int} {vn vl vd : Value} {ns : List ByteArray} {l d : T} (h : StR w F t k a vn vl vd ns l d) (hb : Below w.heap.size w w') : StR w' F t k a vn vl vd ns l d := ⟨h.t, h.n.bel hb, h.l.bel hb, h.d.bel hb⟩
theorem SL.imp {kd : Nat} {v : Value} {t : T} (h : SL w F kd v t) (hF : ∀ i, F i → i < w.heap.size → G i) : SL w G kd v t := SL.keep (fun _ _ _ => rfl) (Nat.le_refl _) hF _ _ _ h
theorem NL.imp {v : Value} {l : List ByteArray} (h : NL w F v l) (hF : ∀ i, F i → i < w.heap.size → G i) : NL w G v l := h.keep (fun _ _ _ => rfl) (Nat.le_refl _) hF
theorem OF.bel {kd : Nat} {e : TypeId} {c : Nat} {v : Value} {t : T} (h : OF kd e w c F v t) (hb : Below w.heap.size w w') : OF kd e w' c F v t := h.keep (fun i _ hl => hb.block i hl) (Below.size hb) (fun _ h _ => h)
theorem OF.isList {kd : Nat} {e : TypeId} {c : Nat} {v : Value} {t : T} (h : OF kd e w c F v t) : t.isList := h.2.2.choose_spec.2.isList
theorem OF.lt {kd : Nat} {e : TypeId} {c : Nat} {v : Value} {t : T} (h : OF kd e w c F v t) : ∀ g, v.ownBlock = some g → c ≤ g ∧ g < w.heap.size := fun g hg => row_own h.2.2.choose_spec.1 g hg
theorem OF.grownB {kd : Nat} {e : TypeId} {c : Nat} {v : Value} {t : T} {wz : World} (h : OF kd e w c F v t) (hb : Below c wz w) (hc : c ≤ w.heap.size) (hg : w.grownBy w' v.ownBlock) : Below c wz w' :=
 hb.trans ⟨hg.os, hg.tape, hg.output, hg.size, fun i hi => hg.block i (by omega) (fun e => by have := (h.lt i e.symm).1; omega)⟩
theorem NL.news {A : Option Addr} {n c : Nat} {l : List ByteArray} (h : NL w F (.slice A n c) l) (hn : l.length = n) (h0 : 0 < n) : ∃ b, A = some ⟨b, 0, none⟩ ∧ ∀ (j : Nat) (u : Value), (l.map Value.string)[j]? = some u → w.cell? ((⟨b, 0, none⟩ : Addr).add j) = some u := by
 rcases h with ⟨rfl, _⟩ | ⟨_, b, c', e, h1, h2, _, _, h6⟩
 ·simp at hn; omega
 ·cases e
  refine ⟨b, rfl, fun j u hj => ?_⟩
  rw [List.getElem?_map, Option.map_eq_some_iff] at hj
  obtain ⟨x, hx, rfl⟩ := hj
  rw [Addr.add_lit, Nat.zero_add]
  exact h6 j x hx
end
set_option maxRecDepth 100000 in
set_option maxHeartbeats 16000000 in
theorem Clone_is (xs : List ByteArray) (hx : xs.length ≤ 100000) (v : Value) (w : World) (h : NL w FT v xs) : Calls Tryz.prog 25 #[v] w fun e w' => ∃ v', e = .returned v' ∧ NL w' (fun i => w.heap.size ≤ i) v' xs ∧ Below w.heap.size w w' := by
 obtain ⟨A, n, c, rfl, hn, _⟩ := h.view
 rcases Nat.eq_zero_or_pos n with h0 | h0
 ·subst h0
  obtain rfl : xs = [] := List.eq_nil_of_length_eq_zero hn
  obtain ⟨e1, e2, e3⟩ : A = none ∧ c = 0 ∧ True := by
   rcases h with ⟨_, e⟩ | ⟨h, _⟩
   ·cases e; exact ⟨rfl, rfl, trivial⟩
   ·exact absurd rfl h
  subst e1 e2
  have hq : ∀ w, (binOp .eql 30 (.slice none 0 0) (.slice none 0 0)).run Tryz.prog w = .ok (.bool true) w := fun w => by kernel_rfl
  clear h hn hx e3
  go_enter Tryz.func25, Tryz.ntmps25
  go_wp2
  go_ret
  exact ⟨_, rfl, .inl ⟨rfl, rfl⟩, Below.refl _ _⟩
 ·obtain ⟨b, rfl, hb⟩ := h.news hn h0
  have hq : ∀ w, (binOp .eql 30 (.slice (some ⟨b, 0, none⟩) n c) (.slice none 0 0)).run Tryz.prog w = .ok (.bool false) w := fun w => by kernel_rfl
  have HB := hid hb
  have HN := hid hn
  have E0 := hid (alloc_old (w := w) (o := .cells #[] 9))
  have r0 := hid (show (w.alloc (.cells #[] 9)).ownsRow w.heap.size 9 1 (.slice (some ⟨w.heap.size, 0, none⟩) 0 0) 0 [] from ownsRow_lit (cs := []) (heap_alloc_new w _) (Nat.le_refl _) rfl (Nat.zero_le _))
  have hx2 : n ≤ 100000 := by omega
  have hne : xs ≠ [] := fun e => by rw [e] at hn; simp at hn; omega
  have HL := hid h
  clear hb hn h
  go_enter Tryz.func25, Tryz.ntmps25
  obtain ⟨i0, hi0, hz0, hz1, hz2⟩ := info_parts i9n
  have HI := hid (And.intro hi0 (And.intro hz0 (And.intro hz1 hz2)))
  clear hi0 hz0 hz1 hz2
  go_wp2_with (first | (at_builtin; refine Hid.out ?_))
  refine hid ?_
  refine wpList_append_lies (w.alloc (.cells #[] 9)) rfl _ _ 30 rfl w.heap.size 9 i0 _ 1 16 Tryz.underlying30 HI.out.1 HI.out.2.1 HI.out.2.2.1 HI.out.2.2.2 rfl (by decide) (.slice (some ⟨w.heap.size, 0, none⟩) 0 0) 0 [] rfl r0.out ⟨b, 0, none⟩ n c (xs.map Value.string) rfl (by rw [List.length_map, HN.out, Nat.mul_one]) (fun j u hj => (World.cell?_of_block (a := (⟨b, 0, none⟩ : Addr).add j) (E0.out.block _ (World.block_lt_of_cell? w _ (HB.out j u hj)))).trans (HB.out j u hj)) (map_one xs) h0 (by unfold maxLen; omega) (by omega) (by rw [World.size_alloc]; omega) _ rfl ?_
  intro g cap w2 h1 h2 h3 h4
  have R2 := hid h1
  have B2 := hid (show Below w.heap.size w w2 from E0.out.trans ⟨h2.os, h2.tape, h2.output, h2.size, fun i hi => h2.block i (by rw [World.size_alloc]; omega) (fun e => by have e2 : some w.heap.size = some i := e.symm; have := Option.some.inj e2; omega)⟩)
  clear h1 h2 h3 h4
  rw [Nat.zero_add]
  rw [Nat.zero_add, List.nil_append] at R2
  go_wp2
  refine bodyPost_ret (v := .slice (some ⟨g, 0, none⟩) n cap) (by simp [results, Tryz.results25, go_sem]) rfl ⟨_, rfl, ?_, B2.out⟩
  have nx : NX w2 w.heap.size (.slice (some ⟨g, 0, none⟩) n cap) xs := ⟨fun e => absurd e hne, by rw [HN.out]; exact R2.out⟩
  exact nx.nl
end Go.Proofs.YtgkejkgailnbmaaGreatDoor
