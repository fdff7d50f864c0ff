/- Texts joined: M0, M1, M2, M3 -/
import Derived.Test.YtgkejkgailnbmaaGreatDoorRows
import Derived.Test.YtgkejkgailnbmaaGreatDoorQt1
import Derived.WalkKit
import Derived.ProofKit
import Derived.OpenShut
import Derived.WalkLawsBesides
import Derived.Outline
import Derived.Lib.Hide
import Derived.Below
import Derived.Deep.QuietTactic
import Derived.BigQuiet
import Derived.Laws.AppendOwn
import Derived.Laws.OwnMore
import Derived.Deep.AppendLies
import Derived.OwnWalk
set_option linter.unusedVariables false
set_option linter.unusedSimpArgs false
namespace Go.Proofs.YtgkejkgailnbmaaGreatDoor
open Go.ChangeShapes Go.WideShapes Go.ChangeAt Go.RowKit
theorem alloc_old {w : World} {o : Obj} : Below w.heap.size w (w.alloc o) := (Below.refl w.heap.size w).alloc (Nat.le_refl _) o
theorem belT {W w1 w2 : World} (h1 : Below W.heap.size W w1) (h2 : Below w1.heap.size w1 w2) : Below W.heap.size W w2 := h1.trans (h2.mono (Below.size h1))
theorem below_drewN {B : Nat} {a w : World} (h : Below B a w) (n : Nat) : Below B a (w.drewN n) := by
 induction n with
 | zero => exact h
 | succ n ih => exact Below.drew ih
theorem blk_below {W w : World} {b : Nat} {o : Obj} (h : W.heap[b]? = some o) (hb : Below W.heap.size W w) : w.heap[b]? = some o := (hb.block b (Array.getElem?_eq_some_iff.1 h).1).trans h
theorem lt_blk {X : World} {b : Nat} {o : Obj} (h : X.heap[b]? = some o) : b < X.heap.size := (Array.getElem?_eq_some_iff.1 h).1
theorem new_next (w : World) (o1 o2 : Obj) : ((w.alloc o1).alloc o2).heap[w.heap.size + 1]? = some o2 := by
 have := heap_alloc_new (w.alloc o1) o2
 rw [World.size_alloc] at this
 exact this
theorem grown_block {X Y : World} {m i : Nat} (h : X.grownBy Y (some m)) (hi : i < X.heap.size) (hn : i ≠ m) : Y.heap[i]? = X.heap[i]? := h.block i hi (fun e => hn (Option.some.inj e))
structure Kp (c : Nat) (S : Nat → Prop) (w w' : World) : Prop where
 os : w'.os = w.os
 tape : w'.tape = w.tape
 output : w'.output = w.output
 size : w.heap.size ≤ w'.heap.size
 block : ∀ k, k < c → S k → w'.heap[k]? = w.heap[k]?
theorem Kp.refl (c : Nat) (S : Nat → Prop) (w : World) : Kp c S w w := ⟨rfl, rfl, rfl, Nat.le_refl _, fun _ _ _ => rfl⟩
theorem Kp.trans {c : Nat} {S : Nat → Prop} {x y z : World} (h : Kp c S x y) (k : Kp c S y z) : Kp c S x z :=
 ⟨k.os.trans h.os, k.tape.trans h.tape, k.output.trans h.output, Nat.le_trans h.size k.size, fun i hi hb => (k.block i hi hb).trans (h.block i hi hb)⟩
theorem Kp.of {c : Nat} {S : Nat → Prop} {w w' : World} (h : Below c w w') : Kp c S w w' := ⟨h.os, h.tape, h.output, h.size, fun i hi _ => h.block i hi⟩
theorem Kp.below {c n : Nat} {S : Nat → Prop} {w w' : World} (h : Kp c S w w') (hn : ∀ k, k < n → k < c ∧ S k) : Below n w w' := ⟨h.os, h.tape, h.output, h.size, fun i hi => h.block i (hn i hi).1 (hn i hi).2⟩
theorem Kp.mono {c d : Nat} {S T : Nat → Prop} {w w' : World} (h : Kp c S w w') (hd : d ≤ c) (hS : ∀ k, T k → S k) : Kp d T w w' := ⟨h.os, h.tape, h.output, h.size, fun i hi hb => h.block i (by omega) (hS i hb)⟩
theorem Kp.below_after {c n : Nat} {S : Nat → Prop} {w w' w'' : World} (h : Kp c S w w') (k : Below n w' w'') (hn : c ≤ n) : Kp c S w w'' := h.trans (.of (k.mono hn))
theorem Kp.setCell {c : Nat} {S : Nat → Prop} {w w' : World} (h : Kp c S w w') {p : Addr} (hp : ¬ (p.block < c ∧ S p.block)) (v : Value) : Kp c S w (w'.setCell p v) :=
 h.trans ⟨rfl, rfl, rfl, by simp [World.setCell], fun k hk hS => Below.heap_setCell _ _ _ _ (fun e => hp ⟨by omega, by rw [← e]; exact hS⟩)⟩
theorem Kp.alloc {c : Nat} {S : Nat → Prop} {w w' : World} (h : Kp c S w w') (hc : c ≤ w'.heap.size) (o : Obj) : Kp c S w (w'.alloc o) :=
 h.trans ⟨rfl, rfl, rfl, by simp, fun k hk _ => Below.heap_alloc _ _ _ (by omega)⟩
theorem Kp.drew {c : Nat} {S : Nat → Prop} {w w' : World} (h : Kp c S w w') : Kp c S w w'.drew := ⟨h.os, h.tape, h.output, h.size, h.block⟩
theorem Kp.grown {c : Nat} {S : Nat → Prop} {a w w' : World} {row : Option Nat} (h : Kp c S a w) (hg : w.grownBy w' row) (hB : c ≤ w.heap.size) (hr : ∀ k, row = some k → k < c → ¬ S k) : Kp c S a w' :=
 h.trans ⟨hg.os, hg.tape, hg.output, hg.size, fun k hk hS => hg.block k (by omega) (fun e => hr k e.symm hk hS)⟩
theorem Kp.cell {c : Nat} {S : Nat → Prop} {w w' : World} (h : Kp c S w w') {p : Addr} (hp : p.block < c) (hn : S p.block) : w'.cell? p = w.cell? p := World.cell?_of_block (h.block p.block hp hn)
theorem cells4 {X : World} {b : Nat} {a0 a1 a2 a3 : Value} {t : TypeId} (h : X.heap[b]? = some (.cells #[a0, a1, a2, a3] t)) :
  (X.cell? ⟨b, 0, none⟩ = some a0 ∧ X.cell? ⟨b, 1, none⟩ = some a1 ∧ X.cell? ⟨b, 2, none⟩ = some a2 ∧ X.cell? ⟨b, 3, none⟩ = some a3) ∧
  (X.frozen? ⟨b, 0, none⟩ = false ∧ X.frozen? ⟨b, 1, none⟩ = false ∧ X.frozen? ⟨b, 2, none⟩ = false ∧ X.frozen? ⟨b, 3, none⟩ = false) := by
 refine ⟨⟨?_, ?_, ?_, ?_⟩, ⟨?_, ?_, ?_, ?_⟩⟩ <;> simp [World.cell?, World.frozen?, h]
theorem cells1 {X : World} {b : Nat} {a0 : Value} {t : TypeId} (h : X.heap[b]? = some (.cells #[a0] t)) : X.cell? ⟨b, 0, none⟩ = some a0 ∧ X.frozen? ⟨b, 0, none⟩ = false := by
 refine ⟨?_, ?_⟩ <;> simp [World.cell?, World.frozen?, h]
theorem row_kept {w w' : World} {c : Nat} {e : TypeId} {m : Nat} {v : Value} {n : Nat} {xs : List Value} (h : w.ownsRow c e m v n xs) (hb : ∀ g, v.ownBlock = some g → w'.heap[g]? = w.heap[g]?) : w'.ownsRow c e m v n xs := by
 unfold World.ownsRow at h ⊢
 obtain ⟨h1, h2⟩ := h
 refine ⟨h1, ?_⟩
 rcases h2 with h2 | ⟨g, cap, cur, hv, hg, hh, r⟩
 ·exact .inl h2
 ·exact .inr ⟨g, cap, cur, hv, hg, by rw [hb g (by rw [hv]; rfl)]; exact hh, r⟩
theorem row_mono {w : World} {c d : Nat} {e : TypeId} {m : Nat} {v : Value} {n : Nat} {xs : List Value} (h : w.ownsRow c e m v n xs) (hd : d ≤ c) : w.ownsRow d e m v n xs := by
 unfold World.ownsRow at h ⊢
 obtain ⟨h1, h2⟩ := h
 refine ⟨h1, ?_⟩
 rcases h2 with h2 | ⟨g, cap, cur, hv, hg, r⟩
 ·exact .inl h2
 ·exact .inr ⟨g, cap, cur, hv, by omega, r⟩
theorem row_own {w : World} {c : Nat} {e : TypeId} {m : Nat} {v : Value} {n : Nat} {xs : List Value} (h : w.ownsRow c e m v n xs) : ∀ g, v.ownBlock = some g → c ≤ g ∧ g < w.heap.size := by
 intro g hg
 unfold World.ownsRow at h
 obtain ⟨_, ⟨rfl, _⟩ | ⟨g', cap, cur, rfl, h1, h2, _⟩⟩ := h
 ·cases hg
 ·cases hg
  exact ⟨h1, (Array.getElem?_eq_some_iff.1 h2).1⟩
theorem row_below {w w' : World} {c : Nat} {e : TypeId} {m : Nat} {v : Value} {n : Nat} {xs : List Value} (h : w.ownsRow c e m v n xs) (hb : Below w.heap.size w w') : w'.ownsRow c e m v n xs :=
 row_kept h (fun g hg => hb.block g (row_own h g hg).2)
theorem row_cell {w : World} {c : Nat} {e : TypeId} {m g n cap : Nat} {xs : List Value} (h : w.ownsRow c e m (.slice (some ⟨g, 0, none⟩) n cap) n xs) (i : Nat) (v : Value) (hi : xs[i]? = some v) : w.cell? ⟨g, i, none⟩ = some v := by
 unfold World.ownsRow at h
 obtain ⟨hl, ⟨h0, _⟩ | ⟨g', cap', cur, h0, h1, h2, h3, h4, h5, h6⟩⟩ := h
 ·cases h0
 ·cases h0
  rw [cell_of_row _ g _ _ e (0, 0) h2]
  have hlt := (List.getElem?_eq_some_iff.1 hi).1
  rw [← h6, List.getElem?_take_of_lt (by omega)] at hi
  rw [← Array.getElem?_toList]
  exact hi
theorem news_blk {w : World} {b : Nat} {cs : List Value} {t : TypeId} (hb : w.heap[b]? = some (.cells cs.toArray t)) : ∀ (j : Nat) (u : Value), cs[j]? = some u → w.cell? ((⟨b, 0, none⟩ : Addr).add j) = some u := by
 intro j u hj
 rw [Addr.add_lit, cell_of_row _ b _ _ t (0, 0) hb, Nat.zero_add]
 simpa using hj
theorem map_one (xs : List ByteArray) : ∀ u ∈ xs.map Value.string, u.oneCell' = true := by
 intro u hu
 obtain ⟨s, _, rfl⟩ := List.mem_map.1 hu
 rfl
end Go.Proofs.YtgkejkgailnbmaaGreatDoor
namespace Go.Proofs.YtgkejkgailnbmaaGreatDoor
open Go.ChangeShapes Go.WideShapes Go.ChangeAt Go.RowKit TP
def NL (w : World) (F : Nat → Prop) (v : Value) (xs : List ByteArray) : Prop :=
 (xs = [] ∧ v = .slice none 0 0) ∨ (xs ≠ [] ∧ ∃ b c, v = .slice (some ⟨b, 0, none⟩) xs.length c ∧ xs.length ≤ c ∧ c ≤ maxLen ∧ F b ∧ b < w.heap.size ∧ ∀ i s, xs[i]? = some s → w.cell? ⟨b, i, none⟩ = some (.string s))
def EC (w : World) (F : Nat → Prop) : T → Nat → List Value → Prop
 | .cons (.ex k a n s op l f) t, 0, cs => ∃ vl vf r, cs = .int .i64 k :: .int .i64 a :: .int .i64 n :: .string s :: .int .i64 op :: vl :: vf :: r ∧
   ((l = .nil ∧ vl = .slice none 0 0) ∨ (l ≠ .nil ∧ ∃ b c xs, vl = .slice (some ⟨b, 0, none⟩) l.len c ∧ l.len ≤ c ∧ c ≤ maxLen ∧ F b ∧ b < w.heap.size ∧ (∀ j u, xs[j]? = some u → w.cell? ⟨b, j, none⟩ = some u) ∧ EC w F l 0 xs)) ∧
   ((f = .nil ∧ vf = .slice none 0 0) ∨ (f ≠ .nil ∧ ∃ b c xs, vf = .slice (some ⟨b, 0, none⟩) f.len c ∧ f.len ≤ c ∧ c ≤ maxLen ∧ F b ∧ b < w.heap.size ∧ (∀ j u, xs[j]? = some u → w.cell? ⟨b, j, none⟩ = some u) ∧ EC w F f 1 xs)) ∧ EC w F t 0 r
 | .cons (.fn ps d) t, 1, cs => ∃ vp vd r, cs = vp :: vd :: r ∧ NL w F vp ps ∧
   ((d = .nil ∧ vd = .slice none 0 0) ∨ (d ≠ .nil ∧ ∃ b c xs, vd = .slice (some ⟨b, 0, none⟩) d.len c ∧ d.len ≤ c ∧ c ≤ maxLen ∧ F b ∧ b < w.heap.size ∧ (∀ j u, xs[j]? = some u → w.cell? ⟨b, j, none⟩ = some u) ∧ EC w F d 2 xs)) ∧ EC w F t 1 r
 | .cons (.st k a ns l d) t, 2, cs => ∃ vn vl vd r, cs = .int .i64 k :: .int .i64 a :: vn :: vl :: vd :: r ∧ NL w F vn ns ∧
   ((l = .nil ∧ vl = .slice none 0 0) ∨ (l ≠ .nil ∧ ∃ b c xs, vl = .slice (some ⟨b, 0, none⟩) l.len c ∧ l.len ≤ c ∧ c ≤ maxLen ∧ F b ∧ b < w.heap.size ∧ (∀ j u, xs[j]? = some u → w.cell? ⟨b, j, none⟩ = some u) ∧ EC w F l 0 xs)) ∧
   ((d = .nil ∧ vd = .slice none 0 0) ∨ (d ≠ .nil ∧ ∃ b c xs, vd = .slice (some ⟨b, 0, none⟩) d.len c ∧ d.len ≤ c ∧ c ≤ maxLen ∧ F b ∧ b < w.heap.size ∧ (∀ j u, xs[j]? = some u → w.cell? ⟨b, j, none⟩ = some u) ∧ EC w F d 3 xs)) ∧ EC w F t 2 r
 | .cons h t, 3, cs => ∃ vd r, cs = vd :: r ∧
   ((h = .nil ∧ vd = .slice none 0 0) ∨ (h ≠ .nil ∧ ∃ b c xs, vd = .slice (some ⟨b, 0, none⟩) h.len c ∧ h.len ≤ c ∧ c ≤ maxLen ∧ F b ∧ b < w.heap.size ∧ (∀ j u, xs[j]? = some u → w.cell? ⟨b, j, none⟩ = some u) ∧ EC w F h 2 xs)) ∧ EC w F t 3 r
 | .nil, _, cs => cs = []
 | _, _, _ => False
def SL (w : World) (F : Nat → Prop) (kd : Nat) (v : Value) (l : T) : Prop :=
 (l = .nil ∧ v = .slice none 0 0) ∨ (l ≠ .nil ∧ ∃ b c xs, v = .slice (some ⟨b, 0, none⟩) l.len c ∧ l.len ≤ c ∧ c ≤ maxLen ∧ F b ∧ b < w.heap.size ∧ (∀ j u, xs[j]? = some u → w.cell? ⟨b, j, none⟩ = some u) ∧ EC w F l kd xs)
section
variable {w : World} {F : Nat → Prop}
theorem EC_nil {kd : Nat} {cs : List Value} : EC w F .nil kd cs ↔ cs = [] := by unfold EC; exact Iff.rfl
theorem EC_ex {k a n op : Int} {s : ByteArray} {l f t : T} {cs : List Value} : EC w F (.cons (.ex k a n s op l f) t) 0 cs ↔ ∃ vl vf r, cs = .int .i64 k :: .int .i64 a :: .int .i64 n :: .string s :: .int .i64 op :: vl :: vf :: r ∧ SL w F 0 vl l ∧ SL w F 1 vf f ∧ EC w F t 0 r := by
 conv => lhs; unfold EC
 exact Iff.rfl
theorem EC_fn {ps : List ByteArray} {d t : T} {cs : List Value} : EC w F (.cons (.fn ps d) t) 1 cs ↔ ∃ vp vd r, cs = vp :: vd :: r ∧ NL w F vp ps ∧ SL w F 2 vd d ∧ EC w F t 1 r := by
 conv => lhs; unfold EC
 exact Iff.rfl
theorem EC_st {k a : Int} {ns : List ByteArray} {l d t : T} {cs : List Value} : EC w F (.cons (.st k a ns l d) t) 2 cs ↔ ∃ vn vl vd r, cs = .int .i64 k :: .int .i64 a :: vn :: vl :: vd :: r ∧ NL w F vn ns ∧ SL w F 0 vl l ∧ SL w F 3 vd d ∧ EC w F t 2 r := by
 conv => lhs; unfold EC
 exact Iff.rfl
theorem EC_bl {h t : T} {cs : List Value} : EC w F (.cons h t) 3 cs ↔ ∃ vd r, cs = vd :: r ∧ SL w F 2 vd h ∧ EC w F t 3 r := by
 cases h <;> (conv => lhs; unfold EC) <;> exact Iff.rfl
end
theorem EC.case {w : World} {F : Nat → Prop} {h t : T} {kd : Nat} {cs : List Value} (hc : EC w F (.cons h t) kd cs) :
  (∃ k a n s op l f, kd = 0 ∧ h = .ex k a n s op l f) ∨ (∃ ps d, kd = 1 ∧ h = .fn ps d) ∨ (∃ k a ns l d, kd = 2 ∧ h = .st k a ns l d) ∨ kd = 3 := by
 rcases (show kd = 0 ∨ kd = 1 ∨ kd = 2 ∨ kd = 3 ∨ 4 ≤ kd by omega) with rfl | rfl | rfl | rfl | hk
 ·cases h <;> first | exact .inl ⟨_, _, _, _, _, _, _, rfl, rfl⟩ | (exfalso; unfold EC at hc; exact hc)
 ·cases h <;> first | exact .inr (.inl ⟨_, _, rfl, rfl⟩) | (exfalso; unfold EC at hc; exact hc)
 ·cases h <;> first | exact .inr (.inr (.inl ⟨_, _, _, _, _, rfl, rfl⟩)) | (exfalso; unfold EC at hc; exact hc)
 ·exact .inr (.inr (.inr rfl))
 ·obtain ⟨m, rfl⟩ : ∃ m, kd = m + 4 := ⟨kd - 4, by omega⟩
  exfalso
  cases h <;> (unfold EC at hc; exact hc)
theorem NL.keep {w w' : World} {F F' : Nat → Prop} {v : Value} {xs : List ByteArray} (h : NL w F v xs) (hk : ∀ i, F i → i < w.heap.size → w'.heap[i]? = w.heap[i]?) (hs : w.heap.size ≤ w'.heap.size) (hF : ∀ i, F i → i < w.heap.size → F' i) : NL w' F' v xs := by
 rcases h with h | ⟨h0, b, c, h1, h2, h3, h4, h5, h6⟩
 ·exact .inl h
 ·exact .inr ⟨h0, b, c, h1, h2, h3, hF b h4 h5, Nat.lt_of_lt_of_le h5 hs, fun i s hi => (World.cell?_of_block (a := ⟨b, i, none⟩) (hk b h4 h5)).trans (h6 i s hi)⟩
mutual
theorem EC.keep {w w' : World} {F F' : Nat → Prop} (hk : ∀ i, F i → i < w.heap.size → w'.heap[i]? = w.heap[i]?) (hs : w.heap.size ≤ w'.heap.size) (hF : ∀ i, F i → i < w.heap.size → F' i) : ∀ (t : T) (kd : Nat) (cs : List Value), EC w F t kd cs → EC w' F' t kd cs
 | .nil, _, _, h => EC_nil.2 (EC_nil.1 h)
 | .cons (.ex k a n s op l f) t, kd, cs, h => by
  rcases h.case with ⟨_, _, _, _, _, _, _, rfl, _⟩ | ⟨_, _, _, e⟩ | ⟨_, _, _, _, _, _, e⟩ | rfl
  ·obtain ⟨vl, vf, r, h1, h2, h3, h4⟩ := EC_ex.1 h
   exact EC_ex.2 ⟨vl, vf, r, h1, SL.keep hk hs hF l 0 vl h2, SL.keep hk hs hF f 1 vf h3, EC.keep hk hs hF t 0 r h4⟩
  ·cases e
  ·cases e
  ·obtain ⟨vd, r, h1, h2, h3⟩ := EC_bl.1 h
   rcases h2 with ⟨h2, _⟩ | ⟨_, b, c, xs, e1, e2, e3, e4, e5, e6, e7⟩
   ·cases h2
   ·exact absurd e7 (by unfold EC; exact id)
 | .cons (.fn ps d) t, kd, cs, h => by
  rcases h.case with ⟨_, _, _, _, _, _, _, _, e⟩ | ⟨_, _, rfl, _⟩ | ⟨_, _, _, _, _, _, e⟩ | rfl
  ·cases e
  ·obtain ⟨vp, vd, r, h1, h2, h3, h4⟩ := EC_fn.1 h
   exact EC_fn.2 ⟨vp, vd, r, h1, h2.keep hk hs hF, SL.keep hk hs hF d 2 vd h3, EC.keep hk hs hF t 1 r h4⟩
  ·cases e
  ·obtain ⟨vd, r, h1, h2, h3⟩ := EC_bl.1 h
   rcases h2 with ⟨h2, _⟩ | ⟨_, b, c, xs, e1, e2, e3, e4, e5, e6, e7⟩
   ·cases h2
   ·exact absurd e7 (by unfold EC; exact id)
 | .cons (.st k a ns l d) t, kd, cs, h => by
  rcases h.case with ⟨_, _, _, _, _, _, _, _, e⟩ | ⟨_, _, _, e⟩ | ⟨_, _, _, _, _, rfl, _⟩ | rfl
  ·cases e
  ·cases e
  ·obtain ⟨vn, vl, vd, r, h1, h2, h3, h4, h5⟩ := EC_st.1 h
   exact EC_st.2 ⟨vn, vl, vd, r, h1, h2.keep hk hs hF, SL.keep hk hs hF l 0 vl h3, SL.keep hk hs hF d 3 vd h4, EC.keep hk hs hF t 2 r h5⟩
  ·obtain ⟨vd, r, h1, h2, h3⟩ := EC_bl.1 h
   rcases h2 with ⟨h2, _⟩ | ⟨_, b, c, xs, e1, e2, e3, e4, e5, e6, e7⟩
   ·cases h2
   ·exact absurd e7 (by unfold EC; exact id)
 | .cons .nil t, kd, cs, h => by
  rcases h.case with ⟨_, _, _, _, _, _, _, _, e⟩ | ⟨_, _, _, e⟩ | ⟨_, _, _, _, _, _, e⟩ | rfl
  ·cases e
  ·cases e
  ·cases e
  ·obtain ⟨vd, r, h1, h2, h3⟩ := EC_bl.1 h
   refine EC_bl.2 ⟨vd, r, h1, ?_, EC.keep hk hs hF t 3 r h3⟩
   rcases h2 with h2 | ⟨h2, _⟩
   ·exact .inl h2
   ·exact absurd rfl h2
 | .cons (.cons x y) t, kd, cs, h => by
  rcases h.case with ⟨_, _, _, _, _, _, _, _, e⟩ | ⟨_, _, _, e⟩ | ⟨_, _, _, _, _, _, e⟩ | rfl
  ·cases e
  ·cases e
  ·cases e
  ·obtain ⟨vd, r, h1, h2, h3⟩ := EC_bl.1 h
   exact EC_bl.2 ⟨vd, r, h1, SL.keep hk hs hF (.cons x y) 2 vd h2, EC.keep hk hs hF t 3 r h3⟩
 | .ex _ _ _ _ _ _ _, kd, cs, h => by exfalso; unfold EC at h; exact h
 | .fn _ _, kd, cs, h => by exfalso; unfold EC at h; exact h
 | .st _ _ _ _ _, kd, cs, h => by exfalso; unfold EC at h; exact h
theorem SL.keep {w w' : World} {F F' : Nat → Prop} (hk : ∀ i, F i → i < w.heap.size → w'.heap[i]? = w.heap[i]?) (hs : w.heap.size ≤ w'.heap.size) (hF : ∀ i, F i → i < w.heap.size → F' i) (l : T) (kd : Nat) (v : Value) (h : SL w F kd v l) : SL w' F' kd v l := by
 rcases h with h | ⟨h0, b, c, xs, h1, h2, h3, h4, h5, h6, h7⟩
 ·exact .inl h
 ·exact .inr ⟨h0, b, c, xs, h1, h2, h3, hF b h4 h5, Nat.lt_of_lt_of_le h5 hs, fun j u hj => (World.cell?_of_block (a := ⟨b, j, none⟩) (hk b h4 h5)).trans (h6 j u hj), EC.keep hk hs hF l kd xs h7⟩
end
end Go.Proofs.YtgkejkgailnbmaaGreatDoor
namespace Go.Proofs.YtgkejkgailnbmaaGreatDoor
open Go.ChangeShapes Go.WideShapes Go.ChangeAt Go.RowKit TP
def wd : Nat → Nat
 | 0 => 7
 | 1 => 2
 | 2 => 5
 | _ => 1
def nth : T → Nat → T
 | .cons h _, 0 => h
 | .cons _ t, n + 1 => nth t n
 | _, _ => .nil
section
variable {w : World} {F : Nat → Prop}
theorem EC.isList : ∀ {t : T} {kd : Nat} {cs : List Value}, EC w F t kd cs → t.isList
 | .nil, _, _, _ => trivial
 | .cons h t, kd, cs, hc => by
  show t.isList
  rcases hc.case with ⟨_, _, _, _, _, _, _, rfl, rfl⟩ | ⟨_, _, rfl, rfl⟩ | ⟨_, _, _, _, _, rfl, rfl⟩ | rfl
  ·obtain ⟨_, _, r, _, _, _, h4⟩ := EC_ex.1 hc
   exact EC.isList h4
  ·obtain ⟨_, _, r, _, _, _, h4⟩ := EC_fn.1 hc
   exact EC.isList h4
  ·obtain ⟨_, _, _, r, _, _, _, _, h4⟩ := EC_st.1 hc
   exact EC.isList h4
  ·obtain ⟨_, r, _, _, h4⟩ := EC_bl.1 hc
   exact EC.isList h4
 | .ex _ _ _ _ _ _ _, _, _, h => by exfalso; unfold EC at h; exact h
 | .fn _ _, _, _, h => by exfalso; unfold EC at h; exact h
 | .st _ _ _ _ _, _, _, h => by exfalso; unfold EC at h; exact h
theorem EC.len : ∀ {t : T} {kd : Nat} {cs : List Value}, EC w F t kd cs → cs.length = t.len * wd kd
 | .nil, _, _, h => by rw [EC_nil.1 h]; simp [T.len]
 | .cons h t, kd, cs, hc => by
  rcases hc.case with ⟨_, _, _, _, _, _, _, rfl, rfl⟩ | ⟨_, _, rfl, rfl⟩ | ⟨_, _, _, _, _, rfl, rfl⟩ | rfl
  ·obtain ⟨_, _, r, rfl, _, _, h4⟩ := EC_ex.1 hc
   simp [T.len, wd, EC.len h4, Nat.add_mul]
  ·obtain ⟨_, _, r, rfl, _, _, h4⟩ := EC_fn.1 hc
   simp [T.len, wd, EC.len h4, Nat.add_mul]
  ·obtain ⟨_, _, _, r, rfl, _, _, _, h4⟩ := EC_st.1 hc
   simp [T.len, wd, EC.len h4, Nat.add_mul]
  ·obtain ⟨_, r, rfl, _, h4⟩ := EC_bl.1 hc
   simp [T.len, wd, EC.len h4]
 | .ex _ _ _ _ _ _ _, _, _, h => by exfalso; unfold EC at h; exact h
 | .fn _ _, _, _, h => by exfalso; unfold EC at h; exact h
 | .st _ _ _ _ _, _, _, h => by exfalso; unfold EC at h; exact h
theorem EC.snoc {x : T} {ys : List Value} : ∀ {t : T} {kd : Nat} {cs : List Value}, EC w F t kd cs → EC w F (.cons x .nil) kd ys → EC w F (t.snoc x) kd (cs ++ ys)
 | .nil, _, _, h, hx => by rw [EC_nil.1 h]; exact hx
 | .cons h t, kd, cs, hc, hx => by
  show EC w F (.cons h (t.snoc x)) kd (cs ++ ys)
  rcases hc.case with ⟨_, _, _, _, _, _, _, rfl, rfl⟩ | ⟨_, _, rfl, rfl⟩ | ⟨_, _, _, _, _, rfl, rfl⟩ | rfl
  ·obtain ⟨vl, vf, r, rfl, h2, h3, h4⟩ := EC_ex.1 hc
   exact EC_ex.2 ⟨vl, vf, _, rfl, h2, h3, EC.snoc h4 hx⟩
  ·obtain ⟨vl, vf, r, rfl, h2, h3, h4⟩ := EC_fn.1 hc
   exact EC_fn.2 ⟨vl, vf, _, rfl, h2, h3, EC.snoc h4 hx⟩
  ·obtain ⟨vn, vl, vf, r, rfl, h2, h3, h5, h4⟩ := EC_st.1 hc
   exact EC_st.2 ⟨vn, vl, vf, _, rfl, h2, h3, h5, EC.snoc h4 hx⟩
  ·obtain ⟨vl, r, rfl, h2, h4⟩ := EC_bl.1 hc
   exact EC_bl.2 ⟨vl, _, rfl, h2, EC.snoc h4 hx⟩
 | .ex _ _ _ _ _ _ _, _, _, h, _ => by exfalso; unfold EC at h; exact h
 | .fn _ _, _, _, h, _ => by exfalso; unfold EC at h; exact h
 | .st _ _ _ _ _, _, _, h, _ => by exfalso; unfold EC at h; exact h
theorem EC.at0 : ∀ {t : T} {cs : List Value}, EC w F t 0 cs → ∀ j, j < t.len → ∃ k a n s op l f vl vf, nth t j = .ex k a n s op l f ∧ cs[j * 7]? = some (.int .i64 k) ∧ cs[j * 7 + 1]? = some (.int .i64 a) ∧ cs[j * 7 + 2]? = some (.int .i64 n) ∧ cs[j * 7 + 3]? = some (.string s) ∧ cs[j * 7 + 4]? = some (.int .i64 op) ∧ cs[j * 7 + 5]? = some vl ∧ cs[j * 7 + 6]? = some vf ∧ SL w F 0 vl l ∧ SL w F 1 vf f
 | .nil, _, _, j, hj => by simp [T.len] at hj
 | .cons h t, cs, hc, j, hj => by
  rcases hc.case with ⟨k, a, n, s, op, l, f, _, rfl⟩ | ⟨_, _, e, _⟩ | ⟨_, _, _, _, _, e, _⟩ | e
  ·obtain ⟨vl, vf, r, rfl, h2, h3, h4⟩ := EC_ex.1 hc
   cases j with
   | zero => exact ⟨k, a, n, s, op, l, f, vl, vf, rfl, rfl, rfl, rfl, rfl, rfl, rfl, rfl, h2, h3⟩
   | succ j =>
    obtain ⟨k', a', n', s', op', l', f', vl', vf', e0, e1, e2, e3, e4, e5, e6, e7, e8⟩ := EC.at0 h4 j (by simp only [T.len] at hj; omega)
    have sh : ∀ i, (Value.int .i64 k :: .int .i64 a :: .int .i64 n :: .string s :: .int .i64 op :: vl :: vf :: r)[(j + 1) * 7 + i]? = r[j * 7 + i]? := fun i => by
     rw [show (j + 1) * 7 + i = j * 7 + i + 1 + 1 + 1 + 1 + 1 + 1 + 1 by omega]; rfl
    refine ⟨k', a', n', s', op', l', f', vl', vf', e0, ?_, ?_, ?_, ?_, ?_, ?_, ?_, e8⟩
    ·have := sh 0; simp only [Nat.add_zero] at this; rw [this]; exact e1
    all_goals (rw [sh]; assumption)
  ·cases e
  ·cases e
  ·cases e
 | .ex _ _ _ _ _ _ _, _, h, _, _ => by exfalso; unfold EC at h; exact h
 | .fn _ _, _, h, _, _ => by exfalso; unfold EC at h; exact h
 | .st _ _ _ _ _, _, h, _, _ => by exfalso; unfold EC at h; exact h
theorem EC.at1 : ∀ {t : T} {cs : List Value}, EC w F t 1 cs → ∀ j, j < t.len → ∃ ps d vp vd, nth t j = .fn ps d ∧ cs[j * 2]? = some vp ∧ cs[j * 2 + 1]? = some vd ∧ NL w F vp ps ∧ SL w F 2 vd d
 | .nil, _, _, j, hj => by simp [T.len] at hj
 | .cons h t, cs, hc, j, hj => by
  rcases hc.case with ⟨_, _, _, _, _, _, _, e, _⟩ | ⟨ps, d, _, rfl⟩ | ⟨_, _, _, _, _, e, _⟩ | e
  ·cases e
  ·obtain ⟨vp, vd, r, rfl, h2, h3, h4⟩ := EC_fn.1 hc
   cases j with
   | zero => exact ⟨ps, d, vp, vd, rfl, rfl, rfl, h2, h3⟩
   | succ j =>
    obtain ⟨ps', d', vp', vd', e0, e1, e2, e8⟩ := EC.at1 h4 j (by simp only [T.len] at hj; omega)
    have sh : ∀ i, (vp :: vd :: r)[(j + 1) * 2 + i]? = r[j * 2 + i]? := fun i => by
     rw [show (j + 1) * 2 + i = j * 2 + i + 1 + 1 by omega]; rfl
    refine ⟨ps', d', vp', vd', e0, ?_, ?_, e8⟩
    ·have := sh 0; simp only [Nat.add_zero] at this; rw [this]; exact e1
    all_goals (rw [sh]; assumption)
  ·cases e
  ·cases e
 | .ex _ _ _ _ _ _ _, _, h, _, _ => by exfalso; unfold EC at h; exact h
 | .fn _ _, _, h, _, _ => by exfalso; unfold EC at h; exact h
 | .st _ _ _ _ _, _, h, _, _ => by exfalso; unfold EC at h; exact h
theorem EC.at2 : ∀ {t : T} {cs : List Value}, EC w F t 2 cs → ∀ j, j < t.len → ∃ k a ns l d vn vl vd, nth t j = .st k a ns l d ∧ cs[j * 5]? = some (.int .i64 k) ∧ cs[j * 5 + 1]? = some (.int .i64 a) ∧ cs[j * 5 + 2]? = some vn ∧ cs[j * 5 + 3]? = some vl ∧ cs[j * 5 + 4]? = some vd ∧ NL w F vn ns ∧ SL w F 0 vl l ∧ SL w F 3 vd d
 | .nil, _, _, j, hj => by simp [T.len] at hj
 | .cons h t, cs, hc, j, hj => by
  rcases hc.case with ⟨_, _, _, _, _, _, _, e, _⟩ | ⟨_, _, e, _⟩ | ⟨k, a, ns, l, d, _, rfl⟩ | e
  ·cases e
  ·cases e
  ·obtain ⟨vn, vl, vd, r, rfl, h2, h3, h5, h4⟩ := EC_st.1 hc
   cases j with
   | zero => exact ⟨k, a, ns, l, d, vn, vl, vd, rfl, rfl, rfl, rfl, rfl, rfl, h2, h3, h5⟩
   | succ j =>
    obtain ⟨k', a', ns', l', d', vn', vl', vd', e0, e1, e2, e3, e4, e5, e8⟩ := EC.at2 h4 j (by simp only [T.len] at hj; omega)
    have sh : ∀ i, (Value.int .i64 k :: .int .i64 a :: vn :: vl :: vd :: r)[(j + 1) * 5 + i]? = r[j * 5 + i]? := fun i => by
     rw [show (j + 1) * 5 + i = j * 5 + i + 1 + 1 + 1 + 1 + 1 by omega]; rfl
    refine ⟨k', a', ns', l', d', vn', vl', vd', e0, ?_, ?_, ?_, ?_, ?_, e8⟩
    ·have := sh 0; simp only [Nat.add_zero] at this; rw [this]; exact e1
    all_goals (rw [sh]; assumption)
  ·cases e
 | .ex _ _ _ _ _ _ _, _, h, _, _ => by exfalso; unfold EC at h; exact h
 | .fn _ _, _, h, _, _ => by exfalso; unfold EC at h; exact h
 | .st _ _ _ _ _, _, h, _, _ => by exfalso; unfold EC at h; exact h
theorem EC.at3 : ∀ {t : T} {cs : List Value}, EC w F t 3 cs → ∀ j, j < t.len → ∃ vd, cs[j]? = some vd ∧ SL w F 2 vd (nth t j)
 | .nil, _, _, j, hj => by simp [T.len] at hj
 | .cons h t, cs, hc, j, hj => by
  obtain ⟨vd, r, rfl, h2, h4⟩ := EC_bl.1 hc
  cases j with
  | zero => exact ⟨vd, rfl, h2⟩
  | succ j =>
   obtain ⟨vd', e1, e8⟩ := EC.at3 h4 j (by simp only [T.len] at hj; omega)
   exact ⟨vd', e1, e8⟩
 | .ex _ _ _ _ _ _ _, _, h, _, _ => by exfalso; unfold EC at h; exact h
 | .fn _ _, _, h, _, _ => by exfalso; unfold EC at h; exact h
 | .st _ _ _ _ _, _, h, _, _ => by exfalso; unfold EC at h; exact h
end
def OX (kd : Nat) (e : TypeId) (w : World) (c : Nat) (v : Value) (t : T) : Prop :=
 (t = .nil → v = .slice none 0 0) ∧ ∃ cs, w.ownsRow c e (wd kd) v t.len cs ∧ EC w (fun i => c ≤ i ∧ v.ownBlock ≠ some i) t kd cs
theorem OX.nil (kd : Nat) (e : TypeId) (w : World) (c : Nat) : OX kd e w c (.slice none 0 0) .nil := ⟨fun _ => rfl, [], World.ownsRow_nil _ _ _ _, EC_nil.2 rfl⟩
theorem OX.keep {kd : Nat} {e : TypeId} {w w' : World} {c : Nat} {v : Value} {t : T} (h : OX kd e w c v t) (hk : ∀ i, c ≤ i → i < w.heap.size → w'.heap[i]? = w.heap[i]?) (hs : w.heap.size ≤ w'.heap.size) : OX kd e w' c v t := by
 obtain ⟨h0, cs, h1, h2⟩ := h
 exact ⟨h0, cs, row_kept h1 (fun g hg => hk g (row_own h1 g hg).1 (row_own h1 g hg).2), EC.keep (fun i hi hl => hk i hi.1 hl) hs (fun i hi _ => hi) _ _ _ h2⟩
theorem OX.sl {kd : Nat} {e : TypeId} {w : World} {c : Nat} {v : Value} {t : T} (h : OX kd e w c v t) : SL w (fun i => c ≤ i) kd v t := by
 obtain ⟨h0, cs, h1, h2⟩ := h
 by_cases ht : t = .nil
 ·exact .inl ⟨ht, h0 ht⟩
 ·refine .inr ⟨ht, ?_⟩
  have h1' := h1
  unfold World.ownsRow at h1
  obtain ⟨hl, ⟨_, hz⟩ | ⟨g, cap, cur, rfl, hg, hc, h3, h4, h5, h6⟩⟩ := h1
  ·exfalso
   have := h2.isList
   cases t <;> first | exact ht rfl | exact this | (simp [T.len] at hz)
  ·exact ⟨g, cap, cs, rfl, h3, h4, hg, (Array.getElem?_eq_some_iff.1 hc).1, fun j u hj => row_cell h1' j u hj, EC.keep (fun _ _ _ => rfl) (Nat.le_refl _) (fun i hi _ => hi.1) _ _ _ h2⟩
theorem SL.lit {kd : Nat} {e : TypeId} {w : World} {F : Nat → Prop} {b n : Nat} {t : T} {cs : List Value} (ht : t ≠ .nil) (hn : t.len = n) (hm : n ≤ maxLen) (hF : F b) (hb : w.heap[b]? = some (.cells cs.toArray e)) (hc : EC w F t kd cs) : SL w F kd (.slice (some ⟨b, 0, none⟩) n n) t := by
 subst hn
 refine .inr ⟨ht, b, t.len, cs, rfl, Nat.le_refl _, hm, hF, (Array.getElem?_eq_some_iff.1 hb).1, fun j u hj => ?_, hc⟩
 rw [cell_of_row _ b _ _ e (0, 0) hb]
 simpa using hj
end Go.Proofs.YtgkejkgailnbmaaGreatDoor
namespace Go.Proofs.YtgkejkgailnbmaaGreatDoor
open Go.ChangeShapes Go.WideShapes Go.ChangeAt Go.RowKit TP
theorem SL.one {w : World} {F : Nat → Prop} {kd : Nat} {v : Value} {l : T} (h : SL w F kd v l) : v.oneCell' = true := by
 rcases h with ⟨_, rfl⟩ | ⟨_, _, _, _, rfl, _⟩ <;> rfl
theorem NL.one {w : World} {F : Nat → Prop} {v : Value} {l : List ByteArray} (h : NL w F v l) : v.oneCell' = true := by
 rcases h with ⟨_, rfl⟩ | ⟨_, _, _, rfl, _⟩ <;> rfl
theorem EC.one {w : World} {F : Nat → Prop} : ∀ {t : T} {kd : Nat} {cs : List Value}, EC w F t kd cs → ∀ u ∈ cs, u.oneCell' = true
 | .nil, _, _, h => by rw [EC_nil.1 h]; intro u hu; cases hu
 | .cons h t, kd, cs, hc => by
  intro u hu
  rcases hc.case with ⟨_, _, _, _, _, _, _, rfl, rfl⟩ | ⟨_, _, rfl, rfl⟩ | ⟨_, _, _, _, _, rfl, rfl⟩ | rfl
  ·obtain ⟨vl, vf, r, rfl, h2, h3, h4⟩ := EC_ex.1 hc
   simp only [List.mem_cons] at hu
   rcases hu with rfl | rfl | rfl | rfl | rfl | rfl | rfl | hu
   ·rfl
   ·rfl
   ·rfl
   ·rfl
   ·rfl
   ·exact h2.one
   ·exact h3.one
   ·exact EC.one h4 u hu
  ·obtain ⟨vp, vd, r, rfl, h2, h3, h4⟩ := EC_fn.1 hc
   simp only [List.mem_cons] at hu
   rcases hu with rfl | rfl | hu
   ·exact h2.one
   ·exact h3.one
   ·exact EC.one h4 u hu
  ·obtain ⟨vn, vl, vd, r, rfl, h2, h3, h5, h4⟩ := EC_st.1 hc
   simp only [List.mem_cons] at hu
   rcases hu with rfl | rfl | rfl | rfl | rfl | hu
   ·rfl
   ·rfl
   ·exact h2.one
   ·exact h3.one
   ·exact h5.one
   ·exact EC.one h4 u hu
  ·obtain ⟨vd, r, rfl, h2, h4⟩ := EC_bl.1 hc
   simp only [List.mem_cons] at hu
   rcases hu with rfl | hu
   ·exact h2.one
   ·exact EC.one h4 u hu
 | .ex _ _ _ _ _ _ _, _, _, h => by exfalso; unfold EC at h; exact h
 | .fn _ _, _, _, h => by exfalso; unfold EC at h; exact h
 | .st _ _ _ _ _, _, _, h => by exfalso; unfold EC at h; exact h
theorem OX.grow {kd : Nat} {e : TypeId} {w w' : World} {c : Nat} {v : Value} {t y : T} {cs ys : List Value} {g cap N : Nat} (hN : t.len = N) (hcs : EC w (fun i => c ≤ i ∧ v.ownBlock ≠ some i) t kd cs) (hy : EC w (fun i => c ≤ i ∧ v.ownBlock ≠ some i) (.cons y .nil) kd ys) (h1 : w'.ownsRow c e (wd kd) (.slice (some ⟨g, 0, none⟩) (N + 1) cap) (N + 1) (cs ++ ys)) (h2 : w.grownBy w' v.ownBlock) (h3 : v.ownBlock = some g ∨ g = w.heap.size) : OX kd e w' c (.slice (some ⟨g, 0, none⟩) (N + 1) cap) (t.snoc y) := by
 have hs := EC.snoc hcs hy
 refine ⟨fun ht => ?_, cs ++ ys, ?_, EC.keep (fun i hi hl => h2.block i hl (fun e => hi.2 e.symm)) h2.size (fun i hi hl => ⟨hi.1, fun e => ?_⟩) _ _ _ hs⟩
 ·cases t <;> simp [T.snoc] at ht
 ·rw [len_snoc y hcs.isList, hN]
  exact h1
 ·have e' : g = i := by simpa [Value.ownBlock] using e
  subst e'
  rcases h3 with h3 | h3
  ·exact hi.2 h3
  ·omega
theorem append_OX {ops : Array Oper} {rest : List Oper} {o : Oper} {a : Act} {Q : Exit → Act → World → Prop} (w : World) (hg : o.guard = none) (s x : Operand) (kd : Nat) (e ty : TypeId) (bytes : Nat) (z : Value) (hop : o.op = Op.call { callee := Callee.builtin Builtin.append, args := #[s, x], argTypes := #[ty, ty] })
  (hu : Tryz.prog.underlying ty = some (.slice e)) (hi : (Tryz.prog.info? e).map (fun i => (i.zero, i.size, i.bytes)) = some (some z, wd kd, bytes)) (hzs : z.cells.size = wd kd) (hw : 0 < wd kd) (hby : bytes ≤ 200)
  (c : Nat) (v : Value) (t : T) (N : Nat) (hN : t.len = N) (hs : a.eval s = v) (h : OX kd e w c v t) (y : T) (ys : List Value) (b : Nat) (hx : a.eval x = .slice (some ⟨b, 0, none⟩) 1 1) (hb : w.heap[b]? = some (.cells ys.toArray e)) (hy : EC w (fun i => c ≤ i ∧ v.ownBlock ≠ some i) (.cons y .nil) kd ys) (hl : N ≤ 100000) (hc : c ≤ w.heap.size)
  (k : ∀ g cap w', OX kd e w' c (.slice (some ⟨g, 0, none⟩) (N + 1) cap) (t.snoc y) → w.grownBy w' v.ownBlock → wpList Tryz.prog ops Q rest (a.put o.dst (.slice (some ⟨g, 0, none⟩) (N + 1) cap)) w') : wpList Tryz.prog ops Q (o :: rest) a w := by
 obtain ⟨h0, cs, h1, h2⟩ := h
 rw [hN] at h1
 obtain ⟨i0, hi0, hz0, hz1, hz2⟩ := info_parts hi
 have hyl := hy.len
 simp only [T.len, Nat.zero_add, Nat.one_mul] at hyl
 refine wpList_append_lies w hg s x ty hop c e i0 z (wd kd) bytes hu hi0 hz0 hz1 hz2 hzs hw v N cs hs h1 ⟨b, 0, none⟩ 1 1 ys hx (by rw [hyl, Nat.one_mul]) (news_blk hb) hy.one (by decide) (by unfold maxLen; omega) ?_ hc _ rfl ?_
 ·have : (N + 1) * bytes ≤ 100001 * 200 := Nat.mul_le_mul (by omega) hby
  omega
 ·intro g cap w' h3 h4 h5 _
  exact k g cap w' (OX.grow hN h2 hy h3 h4 h5) h4
theorem step_OX {ops : Array Oper} {o : Oper} {a : Act} {K : Act → World → Prop} {Q : Exit → Act → World → Prop} {E : Prop} (w : World) (hg : o.guard = none) (s x : Operand) (kd : Nat) (e ty : TypeId) (bytes : Nat) (z : Value) (hop : o.op = Op.call { callee := Callee.builtin Builtin.append, args := #[s, x], argTypes := #[ty, ty] })
  (hu : Tryz.prog.underlying ty = some (.slice e)) (hi : (Tryz.prog.info? e).map (fun i => (i.zero, i.size, i.bytes)) = some (some z, wd kd, bytes)) (hzs : z.cells.size = wd kd) (hw : 0 < wd kd) (hby : bytes ≤ 200)
  (c : Nat) (v : Value) (t : T) (N : Nat) (hN : t.len = N) (hs : a.eval s = v) (h : OX kd e w c v t) (y : T) (ys : List Value) (b : Nat) (hx : a.eval x = .slice (some ⟨b, 0, none⟩) 1 1) (hb : w.heap[b]? = some (.cells ys.toArray e)) (hy : EC w (fun i => c ≤ i ∧ v.ownBlock ≠ some i) (.cons y .nil) kd ys) (hl : N ≤ 100000) (hc : c ≤ w.heap.size)
  (k : ∀ g cap w', OX kd e w' c (.slice (some ⟨g, 0, none⟩) (N + 1) cap) (t.snoc y) → w.grownBy w' v.ownBlock → K (a.put o.dst (.slice (some ⟨g, 0, none⟩) (N + 1) cap)) w') : if Region.wanted o (yielded ops a.tmps) = true then Oper.wp Tryz.prog o a w K Q else E := by
 obtain ⟨h0, cs, h1, h2⟩ := h
 rw [hN] at h1
 obtain ⟨i0, hi0, hz0, hz1, hz2⟩ := info_parts hi
 have hyl := hy.len
 simp only [T.len, Nat.zero_add, Nat.one_mul] at hyl
 refine step_append_lies w hg s x ty hop c e i0 z (wd kd) bytes hu hi0 hz0 hz1 hz2 hzs hw v N cs hs h1 ⟨b, 0, none⟩ 1 1 ys hx (by rw [hyl, Nat.one_mul]) (news_blk hb) hy.one (by decide) (by unfold maxLen; omega) ?_ hc _ rfl ?_
 ·have : (N + 1) * bytes ≤ 100001 * 200 := Nat.mul_le_mul (by omega) hby
  omega
 ·intro g cap w' h3 h4 h5 _
  exact k g cap w' (OX.grow hN h2 hy h3 h4 h5) h4
def NX (w : World) (c : Nat) (v : Value) (xs : List ByteArray) : Prop := (xs = [] → v = .slice none 0 0) ∧ w.ownsRow c 9 1 v xs.length (xs.map Value.string)
theorem NX.nil (w : World) (c : Nat) : NX w c (.slice none 0 0) [] := ⟨fun _ => rfl, World.ownsRow_nil _ _ _ _⟩
theorem NX.keep {w w' : World} {c : Nat} {v : Value} {xs : List ByteArray} (h : NX w c v xs) (hk : ∀ i, c ≤ i → i < w.heap.size → w'.heap[i]? = w.heap[i]?) : NX w' c v xs := ⟨h.1, row_kept h.2 (fun g hg => hk g (row_own h.2 g hg).1 (row_own h.2 g hg).2)⟩
theorem NX.nl {w : World} {c : Nat} {v : Value} {xs : List ByteArray} (h : NX w c v xs) : NL w (fun i => c ≤ i) v xs := by
 obtain ⟨h0, h1⟩ := h
 by_cases ht : xs = []
 ·exact .inl ⟨ht, h0 ht⟩
 ·refine .inr ⟨ht, ?_⟩
  have h1' := h1
  unfold World.ownsRow at h1
  obtain ⟨hl, ⟨_, hz⟩ | ⟨g, cap, cur, rfl, hg, hc, h3, h4, h5, h6⟩⟩ := h1
  ·exact absurd (List.eq_nil_of_length_eq_zero hz) ht
  ·exact ⟨g, cap, rfl, h3, h4, hg, (Array.getElem?_eq_some_iff.1 hc).1, fun i s hi => row_cell h1' i _ (by simp [hi])⟩
theorem i9n : (Tryz.prog.info? 9).map (fun i => (i.zero, i.size, i.bytes)) = some (some (.string ⟨#[]⟩), 1, 16) := by kernel_rfl
theorem i38n : (Tryz.prog.info? 38).map (fun i => (i.zero, i.size, i.bytes)) = some (some (.agg #[.int .i64 0, .int .i64 0, .int .i64 0, .string ⟨#[]⟩, .int .i64 0, .slice none 0 0, .slice none 0 0]), wd 0, 96) := by kernel_rfl
theorem i88n : (Tryz.prog.info? 88).map (fun i => (i.zero, i.size, i.bytes)) = some (some (.agg #[.slice none 0 0, .slice none 0 0]), wd 1, 48) := by kernel_rfl
theorem i34n : (Tryz.prog.info? 34).map (fun i => (i.zero, i.size, i.bytes)) = some (some (.agg #[.int .i64 0, .int .i64 0, .slice none 0 0, .slice none 0 0, .slice none 0 0]), wd 2, 88) := by kernel_rfl
theorem i23n : (Tryz.prog.info? 23).map (fun i => (i.zero, i.size, i.bytes)) = some (some (.slice none 0 0), wd 3, 24) := by kernel_rfl
theorem append_NX {ops : Array Oper} {rest : List Oper} {o : Oper} {a : Act} {Q : Exit → Act → World → Prop} (w : World) (hg : o.guard = none) (s x : Operand) (hop : o.op = Op.call { callee := Callee.builtin Builtin.append, args := #[s, x], argTypes := #[30, 30] })
  (c : Nat) (v : Value) (xs : List ByteArray) (N : Nat) (hN : xs.length = N) (hs : a.eval s = v) (h : NX w c v xs) (y : ByteArray) (b : Nat) (hx : a.eval x = .slice (some ⟨b, 0, none⟩) 1 1) (hb : w.heap[b]? = some (.cells #[.string y] 9)) (hl : N ≤ 100000) (hc : c ≤ w.heap.size)
  (k : ∀ g cap w', NX w' c (.slice (some ⟨g, 0, none⟩) (N + 1) cap) (xs ++ [y]) → w.grownBy w' v.ownBlock → wpList Tryz.prog ops Q rest (a.put o.dst (.slice (some ⟨g, 0, none⟩) (N + 1) cap)) w') : wpList Tryz.prog ops Q (o :: rest) a w := by
 obtain ⟨h0, h1⟩ := h
 rw [hN] at h1
 obtain ⟨i0, hi0, hz0, hz1, hz2⟩ := info_parts i9n
 refine wpList_append_lies w hg s x 30 hop c 9 i0 _ 1 16 Tryz.underlying30 hi0 hz0 hz1 hz2 rfl (by decide) v N (xs.map Value.string) hs h1 ⟨b, 0, none⟩ 1 1 [.string y] hx rfl (news_blk hb) (fun u hu => by rw [List.mem_singleton.1 hu]; rfl) (by decide) (by unfold maxLen; omega) (by omega) hc _ rfl ?_
 intro g cap w' h3 h4 _ _
 refine k g cap w' ⟨fun e => by simp at e, ?_⟩ h4
 rw [List.length_append, hN, List.map_append]
 exact h3
theorem step_NX {ops : Array Oper} {o : Oper} {a : Act} {K : Act → World → Prop} {Q : Exit → Act → World → Prop} {E : Prop} (w : World) (hg : o.guard = none) (s x : Operand) (hop : o.op = Op.call { callee := Callee.builtin Builtin.append, args := #[s, x], argTypes := #[30, 30] })
  (c : Nat) (v : Value) (xs : List ByteArray) (N : Nat) (hN : xs.length = N) (hs : a.eval s = v) (h : NX w c v xs) (y : ByteArray) (b : Nat) (hx : a.eval x = .slice (some ⟨b, 0, none⟩) 1 1) (hb : w.heap[b]? = some (.cells #[.string y] 9)) (hl : N ≤ 100000) (hc : c ≤ w.heap.size)
  (k : ∀ g cap w', NX w' c (.slice (some ⟨g, 0, none⟩) (N + 1) cap) (xs ++ [y]) → w.grownBy w' v.ownBlock → K (a.put o.dst (.slice (some ⟨g, 0, none⟩) (N + 1) cap)) w') : if Region.wanted o (yielded ops a.tmps) = true then Oper.wp Tryz.prog o a w K Q else E := by
 obtain ⟨h0, h1⟩ := h
 rw [hN] at h1
 obtain ⟨i0, hi0, hz0, hz1, hz2⟩ := info_parts i9n
 refine step_append_lies w hg s x 30 hop c 9 i0 _ 1 16 Tryz.underlying30 hi0 hz0 hz1 hz2 rfl (by decide) v N (xs.map Value.string) hs h1 ⟨b, 0, none⟩ 1 1 [.string y] hx rfl (news_blk hb) (fun u hu => by rw [List.mem_singleton.1 hu]; rfl) (by decide) (by unfold maxLen; omega) (by omega) hc _ rfl ?_
 intro g cap w' h3 h4 _ _
 refine k g cap w' ⟨fun e => by simp at e, ?_⟩ h4
 rw [List.length_append, hN, List.map_append]
 exact h3
end Go.Proofs.YtgkejkgailnbmaaGreatDoor
