/- Texts joined: TA, TB -/
import Derived.Test.YtjfejmdnjbekkaaGreatDoorQb14
set_option linter.unusedVariables false
set_option linter.unusedSimpArgs false

/- Replies and values as trees, plain: one type for both. -/
namespace Go.Proofs.YtjfejmdnjbekkaaGreatDoor
open Go.ChangeShapes Go.WideShapes Go.ChangeAt Go.RowKit

/-- A row of replies or of values: kind, number, text, elements, and the rest of the row. -/
inductive Fo
  | nil
  | cons (k n : Int) (s : ByteArray) (l t : Fo)
abbrev Nd := Int × Int × ByteArray × Fo
namespace Fo
def cn (x : Nd) (t : Fo) : Fo := .cons x.1 x.2.1 x.2.2.1 x.2.2.2 t
def len : Fo → Nat
  | nil => 0
  | cons _ _ _ _ t => len t + 1
def app : Fo → Fo → Fo
  | nil, y => y
  | cons k n s l t, y => cons k n s l (app t y)
def wt : Fo → Nat
  | nil => 0
  | cons _ _ _ l t => wt l + wt t + 1
def nth : Fo → Nat → Option Nd
  | nil, _ => none
  | cons k n s l _, 0 => some (k, n, s, l)
  | cons _ _ _ _ t, i + 1 => nth t i
def take : Fo → Nat → Fo
  | nil, _ => nil
  | cons _ _ _ _ _, 0 => nil
  | cons k n s l t, i + 1 => cons k n s l (take t i)
theorem take_zero (t : Fo) : take t 0 = nil := by cases t <;> rfl
theorem app_nil : ∀ t : Fo, app t nil = t
  | nil => rfl
  | cons k n s l t => by show cons k n s l (app t nil) = _; rw [app_nil t]
theorem app_assoc : ∀ x y z : Fo, app (app x y) z = app x (app y z)
  | nil, _, _ => rfl
  | cons k n s l t, y, z => by show cons k n s l (app (app t y) z) = cons k n s l (app t (app y z)); rw [app_assoc t y z]
theorem len_app : ∀ x y : Fo, (app x y).len = x.len + y.len
  | nil, y => by show y.len = 0 + y.len; omega
  | cons k n s l t, y => by show (app t y).len + 1 = t.len + 1 + y.len; rw [len_app t y]; omega
theorem len_cn (x : Nd) (t : Fo) : (cn x t).len = t.len + 1 := rfl
theorem len_nil {t : Fo} (h : t.len = 0) : t = nil := by cases t with
  | nil => rfl
  | cons => simp [len] at h
theorem nth_lt : ∀ {t : Fo} {i : Nat}, i < t.len → ∃ x, nth t i = some x
  | nil, _, h => by simp [len] at h
  | cons k n s l t, 0, _ => ⟨_, rfl⟩
  | cons k n s l t, i + 1, h => nth_lt (t := t) (by simp only [len] at h; omega)
theorem lt_of_nth : ∀ {t : Fo} {i : Nat} {x : Nd}, nth t i = some x → i < t.len
  | nil, _, _, h => by cases h
  | cons k n s l t, 0, _, _ => by simp [len]
  | cons k n s l t, i + 1, _, h => by have := lt_of_nth (t := t) h; simp only [len]; omega
theorem nth_wt : ∀ {t : Fo} {i : Nat} {x : Nd}, nth t i = some x → x.2.2.2.wt < t.wt
  | nil, _, _, h => by cases h
  | cons k n s l t, 0, _, h => by cases h; simp only [wt]; omega
  | cons k n s l t, i + 1, _, h => by have := nth_wt (t := t) h; simp only [wt]; omega
theorem take_succ : ∀ {t : Fo} {i : Nat} {x : Nd}, nth t i = some x → take t (i + 1) = app (take t i) (cn x nil)
  | nil, _, _, h => by cases h
  | cons k n s l t, 0, _, h => by cases h; show cons k n s l (take t 0) = _; rw [take_zero]; rfl
  | cons k n s l t, i + 1, _, h => by show cons k n s l (take t (i + 1)) = cons k n s l (app (take t i) _); rw [take_succ (t := t) h]
theorem take_len : ∀ t : Fo, take t t.len = t
  | nil => rfl
  | cons k n s l t => by show cons k n s l (take t t.len) = _; rw [take_len t]
theorem len_take : ∀ (t : Fo) (i : Nat), i ≤ t.len → (take t i).len = i
  | nil, i, h => by simp only [len] at h; simp only [take, len]; omega
  | cons k n s l t, 0, _ => rfl
  | cons k n s l t, i + 1, h => by show (take t i).len + 1 = i + 1; rw [len_take t i (by simp only [len] at h; omega)]
end Fo
open Fo
/-- Numbers within int64, rows of no more than 2^20 elements. -/
def okF : Fo → Prop
  | .nil => True
  | .cons _ n _ l t => I64 n ∧ l.len ≤ 1048576 ∧ okF l ∧ okF t
theorem okF.nth : ∀ {t : Fo} {i : Nat} {x : Nd}, okF t → t.nth i = some x → I64 x.2.1 ∧ x.2.2.2.len ≤ 1048576 ∧ okF x.2.2.2
  | .nil, _, _, _, h => by cases h
  | .cons k n s l t, 0, _, ho, h => by cases h; exact ⟨ho.1, ho.2.1, ho.2.2.1⟩
  | .cons k n s l t, i + 1, _, ho, h => okF.nth (t := t) ho.2.2.2 h
/-- A reply as a value: its own, and a row's. -/
def errT (n : Int) : ByteArray := ⟨#[69, 82, 82, 32]⟩ ++ numT n
def pl1 (k n : Int) (s : ByteArray) (L : Fo) : Nd :=
  if k = 1 ∨ k = 4 then (3, 0, s, .nil) else if k = 3 then (2, n, ⟨#[]⟩, .nil) else if k = 2 then (3, 0, errT n, .nil) else if k = 6 then (4, 0, ⟨#[]⟩, L) else (0, 0, ⟨#[]⟩, .nil)
def key (i : Nat) (x : Nd) (t : Fo) : Fo := .cons 2 ((i : Int) + 1) ⟨#[]⟩ .nil (cn x t)
def plsT : Fo → Nat → Fo
  | .nil, _ => .nil
  | .cons k n s l t, i => if (pl1 k n s (plsT l 0)).1 = 0 then plsT t (i + 1) else key i (pl1 k n s (plsT l 0)) (plsT t (i + 1))
def plN (x : Nd) : Nd := pl1 x.1 x.2.1 x.2.2.1 (plsT x.2.2.2 0)
theorem plsT_cn (x : Nd) (t : Fo) (i : Nat) : plsT (cn x t) i = if (plN x).1 = 0 then plsT t (i + 1) else key i (plN x) (plsT t (i + 1)) := rfl
theorem plsT_app (y : Fo) : ∀ (t : Fo) (i : Nat), plsT (app t y) i = app (plsT t i) (plsT y (i + t.len))
  | .nil, i => by show plsT y i = plsT y (i + 0); rfl
  | .cons k n s l t, i => by
    have ih := plsT_app y t (i + 1)
    rw [show i + 1 + t.len = i + (Fo.cons k n s l t).len by simp only [len]; omega] at ih
    show (if (pl1 k n s (plsT l 0)).1 = 0 then plsT (app t y) (i + 1) else key i (pl1 k n s (plsT l 0)) (plsT (app t y) (i + 1))) = app (if (pl1 k n s (plsT l 0)).1 = 0 then plsT t (i + 1) else key i (pl1 k n s (plsT l 0)) (plsT t (i + 1))) _
    rw [ih]
    split <;> rfl
theorem plsT_len : ∀ (t : Fo) (i : Nat), (plsT t i).len ≤ 2 * t.len
  | .nil, _ => Nat.le_refl _
  | .cons k n s l t, i => by
    have ih := plsT_len t (i + 1)
    show (if (pl1 k n s (plsT l 0)).1 = 0 then plsT t (i + 1) else key i (pl1 k n s (plsT l 0)) (plsT t (i + 1))).len ≤ 2 * (t.len + 1)
    split
    · omega
    · show (plsT t (i + 1)).len + 1 + 1 ≤ _
      omega
theorem plsT_take {t : Fo} {i : Nat} {x : Nd} (h : t.nth i = some x) : plsT (t.take (i + 1)) 0 = app (plsT (t.take i) 0) (if (plN x).1 = 0 then .nil else key i (plN x) .nil) := by
  rw [take_succ h, plsT_app, len_take t i (Nat.le_of_lt (lt_of_nth h)), Nat.zero_add, plsT_cn]
  rfl
/-- Whether the pair p of a table's row has the int q as its key; the first that has. -/
def isK (l : Fo) (q : Int) (p : Nat) : Bool := match l.nth (2 * p) with
  | some x => x.1 == 2 && x.2.1 == q
  | none => false
def fnd (l : Fo) (q : Int) : Option Nat := (List.range (l.len / 2)).find? (isK l q)
theorem isK_eq {l : Fo} {q : Int} {p : Nat} {x : Nd} (h : l.nth (2 * p) = some x) : isK l q p = (x.1 == 2 && x.2.1 == q) := by unfold isK; rw [h]
theorem fnd_some {l : Fo} {q : Int} {p : Nat} (h1 : isK l q p = true) (h2 : p < l.len / 2) (h3 : ∀ j, j < p → isK l q j = false) : fnd l q = some p := by
  unfold fnd
  rw [List.find?_range_eq_some]
  exact ⟨h1, List.mem_range.2 h2, fun j hj => by rw [h3 j hj]; rfl⟩
theorem fnd_none {l : Fo} {q : Int} (h : ∀ j, j < l.len / 2 → isK l q j = false) : fnd l q = none := by
  unfold fnd
  rw [List.find?_eq_none]
  intro j hj
  rw [h j (List.mem_range.1 hj)]
  exact Bool.false_ne_true
theorem fnd_cases (l : Fo) (q : Int) : (fnd l q = none ∧ ∀ j, j < l.len / 2 → isK l q j = false) ∨ ∃ p, fnd l q = some p ∧ p < l.len / 2 ∧ isK l q p = true ∧ ∀ j, j < p → isK l q j = false := by
  rcases h : fnd l q with _ | p
  · refine .inl ⟨rfl, fun j hj => ?_⟩
    unfold fnd at h
    rw [List.find?_eq_none] at h
    have := h j (List.mem_range.2 hj)
    simpa using this
  · refine .inr ⟨p, rfl, ?_⟩
    unfold fnd at h
    rw [List.find?_range_eq_some] at h
    obtain ⟨h1, h2, h3⟩ := h
    exact ⟨List.mem_range.1 h2, h1, fun j hj => by have := h3 j hj; simpa using this⟩
/-- How many pairs have an int from q on as their key. -/
def geK (l : Fo) (q : Int) (p : Nat) : Bool := match l.nth (2 * p) with
  | some x => x.1 == 2 && decide (q ≤ x.2.1)
  | none => false
def mu (l : Fo) (q : Int) : Nat := ((List.range (l.len / 2)).filter (geK l q)).length
theorem mu_le (l : Fo) (q : Int) : mu l q ≤ l.len / 2 := by
  unfold mu
  refine Nat.le_trans (List.length_filter_le _ _) ?_
  rw [List.length_range]
  exact Nat.le_refl _
theorem filter_lt {xs : List Nat} {f g : Nat → Bool} (h : ∀ x, g x = true → f x = true) {p : Nat} (hp : p ∈ xs) (h1 : f p = true) (h2 : g p = false) : (xs.filter g).length < (xs.filter f).length := by
  induction xs with
  | nil => cases hp
  | cons x r ih =>
    have hle : (r.filter g).length ≤ (r.filter f).length := by
      clear ih hp
      induction r with
      | nil => exact Nat.le_refl _
      | cons y r ih =>
        cases hg : g y with
        | true => simp [hg, h y hg, ih]
        | false => cases hf : f y <;> simp [hg, hf] <;> omega
    rcases List.mem_cons.1 hp with rfl | hp
    · simp [h1, h2]; omega
    · have := ih hp
      cases hg : g x with
      | true => simp [hg, h x hg]; omega
      | false => cases hf : f x <;> simp [hg, hf] <;> omega
theorem mu_lt {l : Fo} {q : Int} {p : Nat} (h : fnd l q = some p) : mu l (q + 1) < mu l q := by
  rcases fnd_cases l q with ⟨h0, _⟩ | ⟨p', h0, hp, hk, _⟩
  · rw [h] at h0; cases h0
  · obtain rfl : p' = p := by rw [h] at h0; cases h0; rfl
    unfold isK at hk
    refine filter_lt (p := p') (fun x hx => ?_) (List.mem_range.2 hp) ?_ ?_
    · unfold geK at hx ⊢
      split at hx
      · simp at hx ⊢
        exact ⟨hx.1, by omega⟩
      · cases hx
    · unfold geK
      split at hk
      · simp at hk ⊢
        exact ⟨hk.1, by omega⟩
      · cases hk
    · unfold geK
      split at hk
      · simp at hk ⊢
        intro _
        omega
      · cases hk
/-- A value as a reply: its own, and a table's. -/
def nthD (R : Fo) (i : Nat) : Nd := (R.nth i).getD (0, 0, ⟨#[]⟩, .nil)
def colF (l R : Fo) : Nat → Int → Fo
  | 0, _ => .nil
  | f + 1, q => match fnd l q with
    | none => .nil
    | some p => cn (nthD R (2 * p + 1)) (colF l R f (q + 1))
theorem colF_stop {l R : Fo} {q : Int} (h : fnd l q = none) (f : Nat) : colF l R f q = .nil := by
  cases f with
  | zero => rfl
  | succ f => show (match fnd l q with | none => Fo.nil | some p => _) = _; rw [h]
theorem colF_step {l R : Fo} {q : Int} {p : Nat} (h : fnd l q = some p) {f : Nat} (hf : mu l q ≤ f) : ∃ g, f = g + 1 ∧ mu l (q + 1) ≤ g ∧ colF l R f q = cn (nthD R (2 * p + 1)) (colF l R g (q + 1)) := by
  have h1 := mu_lt h
  obtain ⟨g, rfl⟩ : ∃ g, f = g + 1 := ⟨f - 1, by omega⟩
  refine ⟨g, rfl, by omega, ?_⟩
  show (match fnd l q with | none => Fo.nil | some p => _) = _
  rw [h]
def rp1 (k n : Int) (s : ByteArray) (L : Fo) : Nd :=
  if k = 2 then (3, n, ⟨#[]⟩, .nil) else if k = 3 then (4, 0, s, .nil) else if k = 1 ∧ n = 1 then (3, 1, ⟨#[]⟩, .nil) else if k = 4 then (6, 0, ⟨#[]⟩, L) else (5, 0, ⟨#[]⟩, .nil)
def rpT : Fo → Fo
  | .nil => .nil
  | .cons k n s l t => cn (rp1 k n s (colF l (rpT l) (l.len / 2) 1)) (rpT t)
def rpN (x : Nd) : Nd := rp1 x.1 x.2.1 x.2.2.1 (colF x.2.2.2 (rpT x.2.2.2) (x.2.2.2.len / 2) 1)
theorem rpT_nth : ∀ {l : Fo} {i : Nat} {x : Nd}, l.nth i = some x → nthD (rpT l) i = rpN x
  | .nil, _, _, h => by cases h
  | .cons k n s l t, 0, _, h => by cases h; rfl
  | .cons k n s l t, i + 1, _, h => by
    have := rpT_nth (l := t) h
    exact this
end Go.Proofs.YtjfejmdnjbekkaaGreatDoor

/- Trees in memory: rows of replies and of values, four cells each; F: the blocks that a tree may lie in. -/
namespace Go.Proofs.YtjfejmdnjbekkaaGreatDoor
open Go.ChangeShapes Go.WideShapes Go.ChangeAt Go.RowKit
open Fo

/-- The cells of a row of trees. -/
def EC (w : World) (F : Nat → Prop) : Fo → List Value → Prop
  | .nil, cs => cs = []
  | .cons k n s l t, cs => ∃ A c r, cs = .int .i64 k :: .int .i64 n :: .string s :: .slice A l.len c :: r ∧
      (l.len ≤ c ∧ c ≤ maxLen ∧ (l ≠ .nil → ∃ b off xs, A = some ⟨b, off, none⟩ ∧ F b ∧ b < w.heap.size ∧ (∀ j u, xs[j]? = some u → w.cell? ⟨b, off + j, none⟩ = some u) ∧ EC w F l xs)) ∧ EC w F t r
/-- A slice that holds a row of trees. -/
def SL (w : World) (F : Nat → Prop) (A : Option Addr) (c : Nat) (l : Fo) : Prop :=
  l.len ≤ c ∧ c ≤ maxLen ∧ (l ≠ .nil → ∃ b off xs, A = some ⟨b, off, none⟩ ∧ F b ∧ b < w.heap.size ∧ (∀ j u, xs[j]? = some u → w.cell? ⟨b, off + j, none⟩ = some u) ∧ EC w F l xs)
section
variable {w w' : World} {F F' : Nat → Prop}
theorem EC_nil {cs : List Value} : EC w F .nil cs ↔ cs = [] := by unfold EC; exact Iff.rfl
theorem EC_cons {k n : Int} {s : ByteArray} {l t : Fo} {cs : List Value} : EC w F (.cons k n s l t) cs ↔ ∃ A c r, cs = .int .i64 k :: .int .i64 n :: .string s :: .slice A l.len c :: r ∧ SL w F A c l ∧ EC w F t r := by
  conv => lhs; unfold EC
  exact Iff.rfl
theorem SL.nil (A : Option Addr) (c : Nat) (hc : c ≤ maxLen) : SL w F A c .nil := ⟨Nat.zero_le _, hc, fun h => absurd rfl h⟩
theorem SL.none0 : SL w F none 0 .nil := SL.nil none 0 (Nat.zero_le _)
mutual
theorem EC.keep (hk : ∀ i, F i → i < w.heap.size → w'.heap[i]? = w.heap[i]?) (hs : w.heap.size ≤ w'.heap.size) (hF : ∀ i, F i → i < w.heap.size → F' i) : ∀ (t : Fo) (cs : List Value), EC w F t cs → EC w' F' t cs
  | .nil, _, h => EC_nil.2 (EC_nil.1 h)
  | .cons k n s l t, cs, h => by
    obtain ⟨A, c, r, h1, h2, h3⟩ := EC_cons.1 h
    exact EC_cons.2 ⟨A, c, r, h1, SL.keep hk hs hF l A c h2, EC.keep hk hs hF t r h3⟩
theorem SL.keep (hk : ∀ i, F i → i < w.heap.size → w'.heap[i]? = w.heap[i]?) (hs : w.heap.size ≤ w'.heap.size) (hF : ∀ i, F i → i < w.heap.size → F' i) : ∀ (l : Fo) (A : Option Addr) (c : Nat), SL w F A c l → SL w' F' A c l
  | .nil, A, c, h => SL.nil A c h.2.1
  | .cons k n s l t, A, c, ⟨h1, h2, h3⟩ => ⟨h1, h2, fun hne => by
    obtain ⟨b, off, xs, e1, e2, e3, e4, e5⟩ := h3 hne
    obtain ⟨A', c', r, g1, g2, g3⟩ := EC_cons.1 e5
    exact ⟨b, off, xs, e1, hF b e2 e3, Nat.lt_of_lt_of_le e3 hs, fun j u hj => (World.cell?_of_block (a := ⟨b, off + j, none⟩) (hk b e2 e3)).trans (e4 j u hj), EC_cons.2 ⟨A', c', r, g1, SL.keep hk hs hF l A' c' g2, EC.keep hk hs hF t r g3⟩⟩⟩
end
theorem EC.below {c : Nat} {t : Fo} {cs : List Value} (h : EC w F t cs) (hb : Below c w w') (hc : ∀ i, F i → i < c) : EC w' F t cs := EC.keep (fun i hi _ => hb.block i (hc i hi)) (Below.size hb) (fun _ h _ => h) t cs h
theorem SL.below {A : Option Addr} {c : Nat} {t : Fo} {n : Nat} (h : SL w F A c t) (hb : Below n w w') (hc : ∀ i, F i → i < w.heap.size → i < n) : SL w' F A c t := SL.keep (fun i hi hl => hb.block i (hc i hi hl)) (Below.size hb) (fun _ h _ => h) t A c h
theorem SL.on {A : Option Addr} {c : Nat} {t : Fo} (h : SL w F A c t) (hb : Below w.heap.size w w') : SL w' F A c t := h.below hb (fun _ _ h => h)
theorem EC.on {t : Fo} {cs : List Value} (h : EC w F t cs) (hb : Below w.heap.size w w') : EC w' F t cs := EC.keep (fun i _ hl => hb.block i hl) (Below.size hb) (fun _ h _ => h) t cs h
theorem SL.wide {A : Option Addr} {c : Nat} {t : Fo} (h : SL w F A c t) (hF : ∀ i, F i → i < w.heap.size → F' i) : SL w F' A c t := SL.keep (fun _ _ _ => rfl) (Nat.le_refl _) hF t A c h
theorem EC.wide {t : Fo} {cs : List Value} (h : EC w F t cs) (hF : ∀ i, F i → i < w.heap.size → F' i) : EC w F' t cs := EC.keep (fun _ _ _ => rfl) (Nat.le_refl _) hF t cs h
theorem EC.len : ∀ {t : Fo} {cs : List Value}, EC w F t cs → cs.length = t.len * 4
  | .nil, _, h => by rw [EC_nil.1 h]; rfl
  | .cons k n s l t, cs, h => by
    obtain ⟨A, c, r, rfl, _, h3⟩ := EC_cons.1 h
    have := EC.len h3
    simp only [List.length_cons, Fo.len]
    omega
theorem EC.one : ∀ {t : Fo} {cs : List Value}, EC w F t cs → ∀ u ∈ cs, u.oneCell' = true
  | .nil, _, h => by rw [EC_nil.1 h]; intro u hu; cases hu
  | .cons k n s l t, cs, h => by
    obtain ⟨A, c, r, rfl, _, h3⟩ := EC_cons.1 h
    intro u hu
    simp only [List.mem_cons] at hu
    rcases hu with rfl | rfl | rfl | rfl | hu
    · rfl
    · rfl
    · rfl
    · rfl
    · exact EC.one h3 u hu
theorem EC.app : ∀ {t y : Fo} {cs ys : List Value}, EC w F t cs → EC w F y ys → EC w F (Fo.app t y) (cs ++ ys)
  | .nil, _, _, _, h, hy => by rw [EC_nil.1 h]; exact hy
  | .cons k n s l t, y, cs, ys, h, hy => by
    obtain ⟨A, c, r, rfl, h2, h3⟩ := EC_cons.1 h
    exact EC_cons.2 ⟨A, c, r ++ ys, rfl, h2, EC.app h3 hy⟩
/-- What stands at a place of a row. -/
theorem EC.at_ : ∀ {t : Fo} {cs : List Value} {i : Nat} {x : Nd}, EC w F t cs → t.nth i = some x → ∃ A c, cs[i * 4 + 0]? = some (.int .i64 x.1) ∧ cs[i * 4 + 1]? = some (.int .i64 x.2.1) ∧ cs[i * 4 + 2]? = some (.string x.2.2.1) ∧ cs[i * 4 + 3]? = some (.slice A x.2.2.2.len c) ∧ SL w F A c x.2.2.2
  | .nil, _, _, _, _, hx => by cases hx
  | .cons k n s l t, cs, 0, x, h, hx => by
    cases hx
    obtain ⟨A, c, r, rfl, h2, _⟩ := EC_cons.1 h
    exact ⟨A, c, rfl, rfl, rfl, rfl, h2⟩
  | .cons k n s l t, cs, i + 1, x, h, hx => by
    obtain ⟨A, c, r, rfl, _, h3⟩ := EC_cons.1 h
    obtain ⟨A', c', g0, g1, g2, g3, g4⟩ := EC.at_ h3 (i := i) (x := x) hx
    have sh : ∀ j, (Value.int .i64 k :: .int .i64 n :: .string s :: .slice A l.len c :: r)[(i + 1) * 4 + j]? = r[i * 4 + j]? := fun j => by
      rw [show (i + 1) * 4 + j = i * 4 + j + 1 + 1 + 1 + 1 by omega]; rfl
    exact ⟨A', c', by rw [sh]; exact g0, by rw [sh]; exact g1, by rw [sh]; exact g2, by rw [sh]; exact g3, g4⟩
theorem SL.at_ {A : Option Addr} {c : Nat} {t : Fo} {i : Nat} {k n : Int} {s : ByteArray} {l : Fo} (h : SL w F A c t) (hx : t.nth i = some (k, n, s, l)) : ∃ b off A' c', A = some ⟨b, off, none⟩ ∧ F b ∧ b < w.heap.size ∧
    (w.cell? ⟨b, off + i * 4, none⟩ = some (.int .i64 k) ∧ w.cell? ⟨b, off + i * 4 + 1, none⟩ = some (.int .i64 n) ∧ w.cell? ⟨b, off + i * 4 + 2, none⟩ = some (.string s) ∧ w.cell? ⟨b, off + i * 4 + 3, none⟩ = some (.slice A' l.len c')) ∧ SL w F A' c' l := by
  obtain ⟨b, off, xs, h1, h2, h3, h4, h5⟩ := h.2.2 (by intro e; rw [e] at hx; cases hx)
  obtain ⟨A', c', g0, g1, g2, g3, g4⟩ := h5.at_ hx
  exact ⟨b, off, A', c', h1, h2, h3, ⟨h4 _ _ g0, h4 _ _ g1, h4 _ _ g2, h4 _ _ g3⟩, g4⟩
/-- What stands at a place, in every world that leaves the row as it was. -/
theorem SL.atB {A : Option Addr} {c : Nat} {t : Fo} {i : Nat} {k n : Int} {s : ByteArray} {l : Fo} (h : SL w F A c t) (hx : t.nth i = some (k, n, s, l)) : ∃ b off A' c', A = some ⟨b, off, none⟩ ∧ F b ∧ b < w.heap.size ∧
    (∀ X, Below w.heap.size w X → X.cell? ⟨b, off + i * 4, none⟩ = some (.int .i64 k) ∧ X.cell? ⟨b, off + i * 4 + 1, none⟩ = some (.int .i64 n) ∧ X.cell? ⟨b, off + i * 4 + 2, none⟩ = some (.string s) ∧ X.cell? ⟨b, off + i * 4 + 3, none⟩ = some (.slice A' l.len c')) ∧ SL w F A' c' l := by
  obtain ⟨b, off, A', c', h1, h2, h3, ⟨g0, g1, g2, g3⟩, h5⟩ := h.at_ hx
  exact ⟨b, off, A', c', h1, h2, h3, fun X hX => ⟨(hX.cell (p := ⟨b, off + i * 4, none⟩) h3).trans g0, (hX.cell (p := ⟨b, off + i * 4 + 1, none⟩) h3).trans g1, (hX.cell (p := ⟨b, off + i * 4 + 2, none⟩) h3).trans g2, (hX.cell (p := ⟨b, off + i * 4 + 3, none⟩) h3).trans g3⟩, h5⟩
end
/-- One tree's cells. -/
theorem EC.of1 {w : World} {F : Nat → Prop} {k n : Int} {s : ByteArray} {l : Fo} {A : Option Addr} {m c : Nat} (hm : l.len = m) (h : SL w F A c l) : EC w F (.cons k n s l .nil) [.int .i64 k, .int .i64 n, .string s, .slice A m c] := by
  subst hm
  exact EC_cons.2 ⟨A, c, [], rfl, h, EC_nil.2 rfl⟩
theorem EC.of2 {w : World} {F : Nat → Prop} {k n k2 n2 : Int} {s s2 : ByteArray} {l : Fo} {A : Option Addr} {m c : Nat} (hm : l.len = m) (h : SL w F A c l) : EC w F (.cons k2 n2 s2 .nil (.cons k n s l .nil)) [.int .i64 k2, .int .i64 n2, .string s2, .slice none 0 0, .int .i64 k, .int .i64 n, .string s, .slice A m c] :=
  EC_cons.2 ⟨none, 0, _, rfl, SL.none0, EC.of1 hm h⟩
/-- A row of trees of the call's own. -/
def OR (e : TypeId) (w : World) (c : Nat) (v : Value) (t : Fo) : Prop := ∃ cs, w.ownsRow c e 4 v t.len cs ∧ EC w (fun i => c ≤ i ∧ v.ownBlock ≠ some i) t cs
theorem OR.nil (e : TypeId) (w : World) (c : Nat) : OR e w c (.slice none 0 0) .nil := ⟨[], World.ownsRow_nil _ _ _ _, EC_nil.2 rfl⟩
theorem OR.keep {e : TypeId} {w w' : World} {c : Nat} {v : Value} {t : Fo} (h : OR e w c v t) (hk : ∀ i, c ≤ i → i < w.heap.size → w'.heap[i]? = w.heap[i]?) (hs : w.heap.size ≤ w'.heap.size) : OR e w' c v t := by
  obtain ⟨cs, h1, h2⟩ := h
  exact ⟨cs, row_kept h1 (fun g hg => hk g (row_own h1 g hg).1 (row_own h1 g hg).2), EC.keep (fun i hi hl => hk i hi.1 hl) hs (fun i hi _ => hi) _ _ h2⟩
theorem OR.below {e : TypeId} {w w' : World} {c : Nat} {v : Value} {t : Fo} (h : OR e w c v t) (hb : Below w.heap.size w w') : OR e w' c v t := h.keep (fun i _ hl => hb.block i hl) (Below.size hb)
theorem OR.mono {e : TypeId} {w : World} {c d : Nat} {v : Value} {t : Fo} (h : OR e w c v t) (hd : d ≤ c) : OR e w d v t := by
  obtain ⟨cs, h1, h2⟩ := h
  exact ⟨cs, row_mono h1 hd, h2.wide (fun i hi _ => ⟨by omega, hi.2⟩)⟩
theorem OR.form {e : TypeId} {w : World} {c : Nat} {A : Option Addr} {n C : Nat} {t : Fo} (h : OR e w c (.slice A n C) t) : n = t.len := by
  obtain ⟨cs, h, _⟩ := h
  unfold World.ownsRow at h
  obtain ⟨_, ⟨h1, h0⟩ | ⟨g, cap, cur, h1, _, _, h3, _⟩⟩ := h
  · cases h1
    exact h0.symm
  · cases h1
    rfl
theorem OR.sl {e : TypeId} {w : World} {c : Nat} {A : Option Addr} {n C : Nat} {t : Fo} (h : OR e w c (.slice A n C) t) : SL w (fun i => c ≤ i) A C t := by
  have hn := h.form
  obtain ⟨cs, h1, h2⟩ := h
  have h1' := h1
  unfold World.ownsRow at h1
  obtain ⟨hl, ⟨h3, hz⟩ | ⟨g, cap, cur, h3, hg, hc, h4, h5, h6, h7⟩⟩ := h1
  · cases h3
    rw [len_nil hn.symm]
    exact SL.none0
  · cases h3
    exact ⟨h4, h5, fun _ => ⟨g, 0, cs, rfl, hg, (Array.getElem?_eq_some_iff.1 hc).1, fun j u hj => by rw [Nat.zero_add]; exact row_cell h1' j u hj, h2.wide (fun i hi _ => hi.1)⟩⟩
theorem OR.own {e : TypeId} {w : World} {c : Nat} {v : Value} {t : Fo} (h : OR e w c v t) : ∀ g, v.ownBlock = some g → c ≤ g ∧ g < w.heap.size := by
  obtain ⟨cs, h, _⟩ := h
  exact row_own h
/-- What lies in blocks that were not there at X is apart from a row that was. -/
theorem SL.apart {e : TypeId} {w Y : World} {c n : Nat} {v : Value} {t l : Fo} {A : Option Addr} {C : Nat} (h : OR e w c v t) (hc : c ≤ w.heap.size) (hs : w.heap.size ≤ n) (hl : SL Y (fun i => n ≤ i) A C l) : SL Y (fun i => c ≤ i ∧ v.ownBlock ≠ some i) A C l :=
  hl.wide (fun i hi _ => ⟨by omega, fun e => by have := (h.own i e).2; omega⟩)
theorem OR.grow {e : TypeId} {w w' : World} {c : Nat} {v : Value} {t y : Fo} {cs ys : List Value} {g cap N M : Nat} (hN : t.len = N) (hM : y.len = M) (hcs : EC w (fun i => c ≤ i ∧ v.ownBlock ≠ some i) t cs) (hy : EC w (fun i => c ≤ i ∧ v.ownBlock ≠ some i) y ys) (h1 : w'.ownsRow c e 4 (.slice (some ⟨g, 0, none⟩) (N + M) cap) (N + M) (cs ++ ys)) (h2 : w.grownBy w' v.ownBlock) (h3 : v.ownBlock = some g ∨ g = w.heap.size) : OR e w' c (.slice (some ⟨g, 0, none⟩) (N + M) cap) (Fo.app t y) := by
  refine ⟨cs ++ ys, by rw [len_app, hN, hM]; exact h1, EC.keep (fun i hi hl => h2.block i hl (fun e => hi.2 e.symm)) h2.size (fun i hi hl => ⟨hi.1, fun e => ?_⟩) _ _ (EC.app hcs hy)⟩
  have e' : g = i := by simpa [Value.ownBlock] using e
  subst e'
  rcases h3 with h3 | h3
  · exact hi.2 h3
  · omega
/-- Trees are appended to a row of the call's own. -/
theorem append_OR {ops : Array Oper} {rest : List Oper} {o : Oper} {a : Act} {Q : Exit → Act → World → Prop} (w : World) (hg : o.guard = none) (s x : Operand) (e ty : TypeId) (z : Value) (hop : o.op = Op.call { callee := Callee.builtin Builtin.append, args := #[s, x], argTypes := #[ty, ty] })
    (hu : Tryz.prog.underlying ty = some (.slice e)) (hi : (Tryz.prog.info? e).map (fun i => (i.zero, i.size, i.bytes)) = some (some z, 4, 56)) (hzs : z.cells.size = 4)
    (c : Nat) (v : Value) (t : Fo) (N : Nat) (hN : t.len = N) (hs : a.eval s = v) (h : OR e w c v t) (y : Fo) (ys : List Value) (M : Nat) (hM : y.len = M) (hM0 : 0 < M) (b : Nat) (hx : a.eval x = .slice (some ⟨b, 0, none⟩) M M) (hb : w.heap[b]? = some (.cells ys.toArray e)) (hy : EC w (fun i => c ≤ i ∧ v.ownBlock ≠ some i) y ys) (hl : N + M ≤ 4194304) (hc : c ≤ w.heap.size)
    (k : ∀ g cap w', OR e w' c (.slice (some ⟨g, 0, none⟩) (N + M) cap) (Fo.app t y) → w.grownBy w' v.ownBlock → wpList Tryz.prog ops Q rest (a.put o.dst (.slice (some ⟨g, 0, none⟩) (N + M) cap)) w') : wpList Tryz.prog ops Q (o :: rest) a w := by
  obtain ⟨cs, h1, h2⟩ := h
  rw [hN] at h1
  obtain ⟨i0, hi0, hz0, hz1, hz2⟩ := info_parts hi
  have hyl := hy.len
  rw [hM] at hyl
  refine wpList_append_lies w hg s x ty hop c e i0 z 4 56 hu hi0 hz0 hz1 hz2 hzs (by decide) v N cs hs h1 ⟨b, 0, none⟩ M M ys hx hyl (news_blk hb) hy.one hM0 (by unfold maxLen; omega) (by omega) hc _ rfl ?_
  intro g cap w' h3 h4 h5 _
  exact k g cap w' (OR.grow hN hM h2 hy h3 h4 h5) h4
/-- Trees are appended in a region that draws. -/
theorem step_OR {ops : Array Oper} {o : Oper} {a : Act} {K : Act → World → Prop} {Q : Exit → Act → World → Prop} {E : Prop} (w : World) (hg : o.guard = none) (s x : Operand) (e ty : TypeId) (z : Value) (hop : o.op = Op.call { callee := Callee.builtin Builtin.append, args := #[s, x], argTypes := #[ty, ty] })
    (hu : Tryz.prog.underlying ty = some (.slice e)) (hi : (Tryz.prog.info? e).map (fun i => (i.zero, i.size, i.bytes)) = some (some z, 4, 56)) (hzs : z.cells.size = 4)
    (c : Nat) (v : Value) (t : Fo) (N : Nat) (hN : t.len = N) (hs : a.eval s = v) (h : OR e w c v t) (y : Fo) (ys : List Value) (M : Nat) (hM : y.len = M) (hM0 : 0 < M) (b : Nat) (hx : a.eval x = .slice (some ⟨b, 0, none⟩) M M) (hb : w.heap[b]? = some (.cells ys.toArray e)) (hy : EC w (fun i => c ≤ i ∧ v.ownBlock ≠ some i) y ys) (hl : N + M ≤ 4194304) (hc : c ≤ w.heap.size)
    (k : ∀ g cap w', OR e w' c (.slice (some ⟨g, 0, none⟩) (N + M) cap) (Fo.app t y) → w.grownBy w' v.ownBlock → K (a.put o.dst (.slice (some ⟨g, 0, none⟩) (N + M) cap)) w') : if Region.wanted o (yielded ops a.tmps) = true then Oper.wp Tryz.prog o a w K Q else E := by
  obtain ⟨cs, h1, h2⟩ := h
  rw [hN] at h1
  obtain ⟨i0, hi0, hz0, hz1, hz2⟩ := info_parts hi
  have hyl := hy.len
  rw [hM] at hyl
  refine step_append_lies w hg s x ty hop c e i0 z 4 56 hu hi0 hz0 hz1 hz2 hzs (by decide) v N cs hs h1 ⟨b, 0, none⟩ M M ys hx hyl (news_blk hb) hy.one hM0 (by unfold maxLen; omega) (by omega) hc _ rfl ?_
  intro g cap w' h3 h4 h5 _
  exact k g cap w' (OR.grow hN hM h2 hy h3 h4 h5) h4
end Go.Proofs.YtjfejmdnjbekkaaGreatDoor
