/- Texts joined: G12, Rw, Tb2, Tb3, Tb4 -/
import Derived.Test.YticlacjpgjkhcaaGreatDoorQh14
import Derived.Test.YticlacjpgjkhcaaGreatDoorQh13
import Derived.Deep.AppendLies

/- A job's Turn over data: which effect it lays behind the others. -/
namespace Go.Proofs.YticlacjpgjkhcaaGreatDoor
open Go.ChangeShapes Go.WideShapes Go.ChangeAt Go.RowKit

/-- A job whose effects are told as data. -/
def JD {α : Type} (K : Kd α) (w : World) (j bS : Nat) (now : Int) (vA : Value) (c : Nat) (vl : Value) (des : List (ByteArray × Option α)) : Prop := (∃ A n cap, vl = .slice A n cap) ∧ JB w j bS now vA vl ∧ ∃ css, EFC w c vl css ∧ ALC K c w des css
theorem JD.nil {α : Type} (K : Kd α) {w : World} {j bS : Nat} {now : Int} {vA : Value} (c : Nat) (h : JB w j bS now vA (.slice none 0 0)) : JD K w j bS now vA c (.slice none 0 0) [] := ⟨⟨_, _, _, rfl⟩, h, [], EFC.nil w c, trivial⟩
theorem JD.below {α : Type} (K : Kd α) {w w' : World} {j bS : Nat} {now : Int} {vA : Value} {c : Nat} {vl : Value} {des : List (ByteArray × Option α)} (h : JD K w j bS now vA c vl des) (hb : Below w.heap.size w w') : JD K w' j bS now vA c vl des := by
  obtain ⟨h1, h2, css, h3, h4⟩ := h
  exact ⟨h1, h2.below hb, css, h3.below hb, ALC.kept K (fun x a b d e hV _ g hg => hb.block g (K.lt hV hg)) h4⟩
/-- The blocks of a kind's values are none of a job's. -/
theorem Kd.far {α : Type} (K : Kd α) {w : World} {x : α} {a b d e : Value} {g : Nat} (hV : K.V w x a b d e) (hg : Own a b d e g) {j bS : Nat} {now : Int} {vA vl : Value} (hj : JB w j bS now vA vl) {c : Nat} {css : List (List Value)} (hE : EFC w c vl css) : g ≠ j ∧ vl.ownBlock ≠ some g := by
  obtain ⟨cs, t, h1, h2, h3, h4, h5, h6⟩ := K.typ hV hg
  refine ⟨fun e => ?_, fun e => ?_⟩
  · subst e
    unfold JB at hj
    rw [hj] at h1
    cases h1
    exact h4 rfl
  · obtain ⟨_, cur, hh⟩ := hE.own g e
    rw [hh] at h1
    cases h1
    exact h3 rfl
theorem JD.step {α : Type} (K : Kd α) {w w' : World} {j bS : Nat} {now : Int} {vA : Value} {c : Nat} {vl : Value} {des : List (ByteArray × Option α)} (hj : JB w j bS now vA vl) {css : List (List Value)} (hE : EFC w c vl css) (hA : ALC K c w des css) {cs : List Value} (h : JE w' j bS now vA c (css ++ [cs])) (hK : Kp w.heap.size (fun i => i ≠ j ∧ vl.ownBlock ≠ some i) w w') {p : ByteArray × Option α} (hp : EC K c w' p cs) : ∃ vl', JD K w' j bS now vA c vl' (des ++ [p]) := by
  obtain ⟨A, n, cap, h1, h2⟩ := h
  exact ⟨_, ⟨_, _, _, rfl⟩, h1, _, h2, ALC.append K hp (ALC.kept K (fun x a b d e hV _ g hg => hK.block g (K.lt hV hg) (K.far hV hg hj hE)) hA)⟩
/-- What more a kind's values must answer. -/
structure KdSame {α : Type} [DecidableEq α] (K : Kd α) where
  len : ∀ (x : α) (A3 A4 A5 A6 : Option Addr) (an3 ac3 an4 ac4 an5 ac5 an6 ac6 : Nat) (w : World), K.V w x (.slice A3 an3 ac3) (.slice A4 an4 ac4) (.slice A5 an5 ac5) (.slice A6 an6 ac6) → ∃ m : Int, ¬ m = 0 ∧ ∀ X, Below w.heap.size w X → Calls Tryz.prog 165 #[.agg #[.int .i64 K.kd, .string ⟨#[]⟩, .slice A3 an3 ac3, .slice A4 an4 ac4, .slice A5 an5 ac5, .slice A6 an6 ac6]] X fun e w' => e = .returned (.int .i64 m) ∧ Below X.heap.size X w'
  len0 : ∀ (w : World), Calls Tryz.prog 165 #[.agg #[.int .i64 K.kd, .string ⟨#[]⟩, .slice none 0 0, .slice none 0 0, .slice none 0 0, .slice none 0 0]] w fun e w' => e = .returned (.int .i64 0) ∧ Below w.heap.size w w'
  same : ∀ (x y : α) (A3 A4 A5 A6 : Option Addr) (an3 ac3 an4 ac4 an5 ac5 an6 ac6 : Nat) (Y3 Y4 Y5 Y6 : Option Addr) (yn3 yc3 yn4 yc4 yn5 yc5 yn6 yc6 : Nat) (w : World), K.V w x (.slice A3 an3 ac3) (.slice A4 an4 ac4) (.slice A5 an5 ac5) (.slice A6 an6 ac6) → K.V w y (.slice Y3 yn3 yc3) (.slice Y4 yn4 yc4) (.slice Y5 yn5 yc5) (.slice Y6 yn6 yc6) → Calls Tryz.prog 211 #[.agg #[.int .i64 K.kd, .string ⟨#[]⟩, .slice A3 an3 ac3, .slice A4 an4 ac4, .slice A5 an5 ac5, .slice A6 an6 ac6], .agg #[.int .i64 K.kd, .string ⟨#[]⟩, .slice Y3 yn3 yc3, .slice Y4 yn4 yc4, .slice Y5 yn5 yc5, .slice Y6 yn6 yc6]] w fun e w' => e = .returned (.bool (decide (x = y))) ∧ Below w.heap.size w w'
/-- The effect of a turned value, as data. -/
def dEff {α : Type} [DecidableEq α] (k : ByteArray) (xo : Option α) (D : List (ByteArray × α)) : List (ByteArray × Option α) :=
  match findD k D, xo with
  | none, none => []
  | some _, none => [(k, none)]
  | none, some x => [(k, some x)]
  | some y, some x => if y = x then [] else [(k, some x)]
/-- Turn of a value. -/
theorem TurnD_some {α : Type} [DecidableEq α] (K : Kd α) (ok : ByteArray → α → Prop) (hO : KdOk K ok) (hS : KdSame K) (bS bM j : Nat) (D : List (ByteArray × α)) (des : List (ByteArray × Option α)) (k : ByteArray) (x : α) (now : Int) (vA vl : Value) (c : Nat) (A3 A4 A5 A6 : Option Addr) (an3 ac3 an4 ac4 an5 ac5 an6 ac6 : Nat) (hk : ok k x) (w : World) (h : SPG K ok w bS bM D) (hj : JD K w j bS now vA c vl des) (hc : c ≤ w.heap.size) (hl : des.length ≤ 100000) (hV : K.V w x (.slice A3 an3 ac3) (.slice A4 an4 ac4) (.slice A5 an5 ac5) (.slice A6 an6 ac6)) (hg : ∀ g, Own (.slice A3 an3 ac3) (.slice A4 an4 ac4) (.slice A5 an5 ac5) (.slice A6 an6 ac6) g → c ≤ g) : Calls Tryz.prog 161 #[.pointer (some ⟨j, 0, none⟩), .agg #[.string k, .int .i64 K.kd, .string ⟨#[]⟩, .slice A3 an3 ac3, .slice A4 an4 ac4, .slice A5 an5 ac5, .slice A6 an6 ac6, .int .i64 0]] w fun e w' => e = .returned (.tuple #[]) ∧ (∃ vl', JD K w' j bS now vA c vl' (des ++ dEff k (some x) D)) ∧ Kp w.heap.size (fun i => i ≠ j ∧ vl.ownBlock ≠ some i) w w' := by
  have hj0 := hj
  obtain ⟨⟨A, n, cap, rfl⟩, hJ, css, hE, hA⟩ := hj
  obtain ⟨m, hm, hLn⟩ := hS.len x A3 A4 A5 A6 an3 ac3 an4 ac4 an5 ac5 an6 ac6 w hV
  have hM := fun X (hX : Below w.heap.size w X) => hO.may k x A3 A4 A5 A6 an3 ac3 an4 ac4 an5 ac5 an6 ac6 X hk (K.below hV hX)
  have hl2 : css.length ≤ 100000 := by rw [ALC.len K hA]; exact hl
  have hend : ∀ w', JE w' j bS now vA c (css ++ [[.string k, .int .i64 K.kd, .string ⟨#[]⟩, .slice A3 an3 ac3, .slice A4 an4 ac4, .slice A5 an5 ac5, .slice A6 an6 ac6, .int .i64 0]]) → Kp w.heap.size (fun i => i ≠ j ∧ (Value.slice A n cap).ownBlock ≠ some i) w w' → ∃ vl', JD K w' j bS now vA c vl' (des ++ [(k, some x)]) := fun w' h1 h2 =>
    JD.step K hJ hE hA h1 h2 ⟨A3, A4, A5, A6, an3, ac3, an4, ac4, an5, ac5, an6, ac6, rfl, K.kept hV (fun g hg => h2.block g (K.lt hV hg) (K.far hV hg hJ hE)), hg⟩
  unfold dEff
  cases hf : findD k D with
  | none =>
    refine (TurnC_new j bS now vA A n cap css c w hJ hE hc hl2 k K.kd ⟨#[]⟩ A3 A4 A5 A6 an3 ac3 an4 ac4 an5 ac5 an6 ac6 0 K.nz.2 (fun X hX => JGetD_no K ok bS bM j D k now vA _ hf X (SPG.below K ok h hX) (hJ.below hX)) m hLn hm hM).mono ?_
    rintro e w' ⟨rfl, h1, h2⟩
    exact ⟨rfl, hend w' h1 h2, h2⟩
  | some y =>
    by_cases hy : y = x
    · simp only [hy, if_true, List.append_nil]
      refine (TurnC_same j w k K.kd ⟨#[]⟩ A3 A4 A5 A6 an3 ac3 an4 ac4 an5 ac5 an6 ac6 0 K.nz.2 (fun X hX => ?_) m hLn hm).mono ?_
      · refine (JGetD_yes K ok hO bS bM j D k y now vA _ hf X (SPG.below K ok h hX) (hJ.below hX)).mono ?_
        rintro e w' ⟨Y3, Y4, Y5, Y6, yn3, yc3, yn4, yc4, yn5, yc5, yn6, yc6, rfl, h1, _, h2⟩
        refine ⟨K.kd, ⟨#[]⟩, Y3, Y4, Y5, Y6, yn3, yc3, yn4, yc4, yn5, yc5, yn6, yc6, rfl, h2, fun Y hY => ?_⟩
        have := hS.same y x Y3 Y4 Y5 Y6 yn3 yc3 yn4 yc4 yn5 yc5 yn6 yc6 A3 A4 A5 A6 an3 ac3 an4 ac4 an5 ac5 an6 ac6 Y (K.below h1 hY) (K.below hV ((hX.trans (h2.mono (Below.size hX))).trans (hY.mono (Nat.le_trans (Below.size hX) (Below.size h2)))))
        rw [decide_eq_true hy] at this
        exact this
      · rintro e w' ⟨rfl, h1⟩
        exact ⟨rfl, ⟨_, JD.below K hj0 h1⟩, .of h1⟩
    · simp only [hy, if_false]
      refine (TurnC_diff j bS now vA A n cap css c w hJ hE hc hl2 k K.kd ⟨#[]⟩ A3 A4 A5 A6 an3 ac3 an4 ac4 an5 ac5 an6 ac6 0 K.nz.2 (fun X hX => ?_) m hLn hm hM).mono ?_
      · refine (JGetD_yes K ok hO bS bM j D k y now vA _ hf X (SPG.below K ok h hX) (hJ.below hX)).mono ?_
        rintro e w' ⟨Y3, Y4, Y5, Y6, yn3, yc3, yn4, yc4, yn5, yc5, yn6, yc6, rfl, h1, _, h2⟩
        refine ⟨K.kd, ⟨#[]⟩, Y3, Y4, Y5, Y6, yn3, yc3, yn4, yc4, yn5, yc5, yn6, yc6, rfl, h2, fun Y hY => ?_⟩
        have := hS.same y x Y3 Y4 Y5 Y6 yn3 yc3 yn4 yc4 yn5 yc5 yn6 yc6 A3 A4 A5 A6 an3 ac3 an4 ac4 an5 ac5 an6 ac6 Y (K.below h1 hY) (K.below hV ((hX.trans (h2.mono (Below.size hX))).trans (hY.mono (Nat.le_trans (Below.size hX) (Below.size h2)))))
        rw [decide_eq_false hy] at this
        exact this
      · rintro e w' ⟨rfl, h1, h2⟩
        exact ⟨rfl, hend w' h1 h2, h2⟩
/-- Turn of a value without elements. -/
theorem TurnD_none {α : Type} [DecidableEq α] (K : Kd α) (ok : ByteArray → α → Prop) (hO : KdOk K ok) (hS : KdSame K) (bS bM j : Nat) (D : List (ByteArray × α)) (des : List (ByteArray × Option α)) (k : ByteArray) (now : Int) (vA vl : Value) (c : Nat) (w : World) (h : SPG K ok w bS bM D) (hj : JD K w j bS now vA c vl des) (hc : c ≤ w.heap.size) (hl : des.length ≤ 100000) : Calls Tryz.prog 161 #[.pointer (some ⟨j, 0, none⟩), .agg #[.string k, .int .i64 K.kd, .string ⟨#[]⟩, .slice none 0 0, .slice none 0 0, .slice none 0 0, .slice none 0 0, .int .i64 0]] w fun e w' => e = .returned (.tuple #[]) ∧ (∃ vl', JD K w' j bS now vA c vl' (des ++ dEff k none D)) ∧ Kp w.heap.size (fun i => i ≠ j ∧ vl.ownBlock ≠ some i) w w' := by
  have hj0 := hj
  obtain ⟨⟨A, n, cap, rfl⟩, hJ, css, hE, hA⟩ := hj
  have hl2 : css.length ≤ 100000 := by rw [ALC.len K hA]; exact hl
  unfold dEff
  cases hf : findD k D with
  | none =>
    simp only [List.append_nil]
    refine (TurnC_none j w k K.kd ⟨#[]⟩ none none none none 0 0 0 0 0 0 0 0 0 K.nz.2 (fun X hX => JGetD_no K ok bS bM j D k now vA _ hf X (SPG.below K ok h hX) (hJ.below hX)) 0 (fun X _ => hS.len0 X) rfl).mono ?_
    rintro e w' ⟨rfl, h1⟩
    exact ⟨rfl, ⟨_, JD.below K hj0 h1⟩, .of h1⟩
  | some y =>
    refine (TurnC_gone j bS now vA A n cap css c w hJ hE hc hl2 k K.kd ⟨#[]⟩ none none none none 0 0 0 0 0 0 0 0 0 K.nz.2 (fun X hX => ?_) 0 (fun X _ => hS.len0 X) rfl).mono ?_
    · refine (JGetD_yes K ok hO bS bM j D k y now vA _ hf X (SPG.below K ok h hX) (hJ.below hX)).mono ?_
      rintro e w' ⟨Y3, Y4, Y5, Y6, yn3, yc3, yn4, yc4, yn5, yc5, yn6, yc6, rfl, h1, _, h2⟩
      exact ⟨K.kd, ⟨#[]⟩, 0, Y3, Y4, Y5, Y6, yn3, yc3, yn4, yc4, yn5, yc5, yn6, yc6, rfl, h2⟩
    · rintro e w' ⟨rfl, h1, h2⟩
      exact ⟨rfl, JD.step K hJ hE hA h1 h2 (show EC K c w' (k, none) _ from rfl), h2⟩
end Go.Proofs.YticlacjpgjkhcaaGreatDoor

/- Rows of the call's own: what any kind asks. -/
namespace Go.Proofs.YticlacjpgjkhcaaGreatDoor
open Go.ChangeShapes Go.WideShapes Go.ChangeAt Go.RowKit

theorem row_typ {w : World} {c : Nat} {e : TypeId} {m : Nat} {v : Value} {n : Nat} {xs : List Value} (h : w.ownsRow c e m v n xs) : ∀ g, v.ownBlock = some g → ∃ cs, w.heap[g]? = some (.cells cs e) := by
  intro g hg
  unfold World.ownsRow at h
  obtain ⟨_, ⟨rfl, _⟩ | ⟨g', cap, cur, rfl, h1, h2, _⟩⟩ := h
  · cases hg
  · cases hg
    exact ⟨cur, h2⟩
theorem row_form {w : World} {c : Nat} {e : TypeId} {m : Nat} {v : Value} {n : Nat} {xs : List Value} (h : w.ownsRow c e m v n xs) : ∃ A C, v = .slice A n C ∧ (n = 0 ∨ ∃ g, A = some ⟨g, 0, none⟩) ∧ n ≤ C := by
  unfold World.ownsRow at h
  obtain ⟨_, ⟨rfl, rfl⟩ | ⟨g', cap, cur, rfl, h1, h2, h3, _⟩⟩ := h
  · exact ⟨none, 0, rfl, .inl rfl, Nat.le_refl _⟩
  · exact ⟨_, cap, rfl, .inr ⟨g', rfl⟩, h3⟩
end Go.Proofs.YticlacjpgjkhcaaGreatDoor

/- A table in memory; where a name stands. -/
namespace Go.Proofs.YticlacjpgjkhcaaGreatDoor
open Go.ChangeShapes Go.WideShapes Go.ChangeAt Go.RowKit

def pairC (p : ByteArray × Nat) : List Value := [.string p.1, .int .i64 (p.2 : Int)]
theorem pairC_len (l : List (ByteArray × Nat)) : (l.flatMap pairC).length = l.length * 2 := by
  induction l with
  | nil => rfl
  | cons p r ih => rw [List.flatMap_cons, List.length_append, ih, List.length_cons]; simp [pairC]; omega
theorem pairC_at (l : List (ByteArray × Nat)) (i j : Nat) (p : ByteArray × Nat) (v : Value) (hi : l[i]? = some p) (hv : (pairC p)[j]? = some v) : (l.flatMap pairC)[i * 2 + j]? = some v := by
  induction l generalizing i with
  | nil => simp at hi
  | cons q r ih =>
    rw [List.flatMap_cons]
    have hj : j < 2 := by have := (List.getElem?_eq_some_iff.1 hv).1; simpa [pairC] using this
    cases i with
    | zero =>
      simp at hi
      subst hi
      rw [Nat.zero_mul, Nat.zero_add, List.getElem?_append_left (by simpa [pairC] using hj)]
      exact hv
    | succ i =>
      rw [List.getElem?_append_right (by simp [pairC]; omega)]
      have e : (i + 1) * 2 + j - (pairC q).length = i * 2 + j := by simp [pairC]; omega
      rw [e]
      exact ih i (by simpa using hi)
/-- A table: slots with names and numbers, in one row. -/
structure TabT (c : Nat) (w : World) (p g : Nat) (f : Nat → Value) (D : List (ByteArray × Nat)) : Prop where
  hp : c ≤ p
  hg : c ≤ g
  tab : w.heap[p]? = some (.cells #[.slice (some ⟨g, 0, none⟩) 8 8, .slice none 0 0, .int .i64 0, .int .i64 (D.length : Int), .int .i64 0] 221)
  slots : w.heap[g]? = some (.cells #[f 0, f 1, f 2, f 3, f 4, f 5, f 6, f 7] 217)
  row : ∀ j, j < 8 → w.ownsRow c 216 2 (f j) (rowT slotT D j).length ((rowT slotT D j).flatMap pairC)
  dist : ∀ i j b, i < 8 → j < 8 → (f i).ownBlock = some b → (f j).ownBlock = some b → i = j
  few : D.length ≤ 16
  nd : (namesD D).Nodup
def isTab (t : TypeId) : Prop := t = 221 ∨ t = 217 ∨ t = 216
theorem TabT.kept {c : Nat} {w w' : World} {p g : Nat} {f : Nat → Value} {D : List (ByteArray × Nat)} (h : TabT c w p g f D) (hk : ∀ (i : Nat) (cs : Array Value) (t : TypeId), w.heap[i]? = some (.cells cs t) → isTab t → w'.heap[i]? = w.heap[i]?) : TabT c w' p g f D :=
  ⟨h.hp, h.hg, (hk _ _ _ h.tab (.inl rfl)).trans h.tab, (hk _ _ _ h.slots (.inr (.inl rfl))).trans h.slots, fun j hj => row_kept (h.row j hj) fun b hb => by
    obtain ⟨cs, hc⟩ := row_typ (h.row j hj) b hb
    exact hk _ _ _ hc (.inr (.inr rfl)), h.dist, h.few, h.nd⟩
theorem TabT.below {c : Nat} {w w' : World} {p g : Nat} {f : Nat → Value} {D : List (ByteArray × Nat)} (h : TabT c w p g f D) (hb : Below w.heap.size w w') : TabT c w' p g f D :=
  h.kept fun _ _ _ hi _ => hb.block _ (lt_blk hi)
theorem cells5 {w : World} {b : Nat} {v0 v1 v2 v3 v4 : Value} {t : TypeId} (h : w.heap[b]? = some (.cells #[v0, v1, v2, v3, v4] t)) : (w.cell? ⟨b, 0, none⟩ = some v0 ∧ w.cell? ⟨b, 1, none⟩ = some v1 ∧ w.cell? ⟨b, 2, none⟩ = some v2 ∧ w.cell? ⟨b, 3, none⟩ = some v3 ∧ w.cell? ⟨b, 4, none⟩ = some v4) ∧ ∀ i, w.frozen? ⟨b, i, none⟩ = false := by
  refine ⟨⟨?_, ?_, ?_, ?_, ?_⟩, fun i => frozen_of_row w b i _ t h⟩ <;> (rw [cell_of_row _ b _ _ t (0, 0) h]; rfl)
theorem TabT.slot {c : Nat} {w : World} {p g : Nat} {f : Nat → Value} {D : List (ByteArray × Nat)} (h : TabT c w p g f D) (j : Nat) (hj : j < 8) : w.cell? ⟨g, j, none⟩ = some (f j) := by
  rw [cell_of_row _ g _ _ 217 (0, 0) h.slots]
  match j, hj with
  | 0, _ => rfl
  | 1, _ => rfl
  | 2, _ => rfl
  | 3, _ => rfl
  | 4, _ => rfl
  | 5, _ => rfl
  | 6, _ => rfl
  | 7, _ => rfl
/-- Where a name stands in its slot. -/
def placeI (k : ByteArray) (D : List (ByteArray × Nat)) : Int := match idxD k (rowT slotT D (slotT k)) with | some i => i | none => -1
theorem idx_hit (l : List (ByteArray × Nat)) (i : Nat) (k : ByteArray) (u : Nat) (h : l[i]? = some (k, u)) (hn : ∀ (q : Nat) (y : ByteArray) (u : Nat), q < i → l[q]? = some (y, u) → y ≠ k) : idxD k l = some i := by
  induction l generalizing i with
  | nil => simp at h
  | cons p r ih =>
    obtain ⟨y, v⟩ := p
    cases i with
    | zero =>
      simp at h
      simp [idxD, h.1]
    | succ i =>
      have hy : y ≠ k := hn 0 y v (by omega) rfl
      simp only [idxD, hy, if_false]
      rw [ih i (by simpa using h) (fun q z w hq hz => hn (q + 1) z w (by omega) (by simpa using hz))]
      rfl
theorem idx_miss (l : List (ByteArray × Nat)) (k : ByteArray) (hn : ∀ (q : Nat) (y : ByteArray) (u : Nat), q < l.length → l[q]? = some (y, u) → y ≠ k) : idxD k l = none := by
  induction l with
  | nil => rfl
  | cons p r ih =>
    obtain ⟨y, v⟩ := p
    have hy : y ≠ k := hn 0 y v (by simp) rfl
    simp only [idxD, hy, if_false]
    rw [ih (fun q z w hq hz => hn (q + 1) z w (by simpa using hq) (by simpa using hz))]
    rfl
set_option maxRecDepth 100000 in
set_option maxHeartbeats 4000000 in
theorem find_T (c p g : Nat) (f : Nat → Value) (D : List (ByteArray × Nat)) (k : ByteArray) (hk : k.size ≤ 1000000) (w : World) (h : TabT c w p g f D) : Calls Tryz.prog 187 #[.pointer (some ⟨p, 0, none⟩), .string k] w fun e w' => e = .returned (.tuple #[.pointer (some ⟨g, slotT k, none⟩), .int .i64 (placeI k D)]) ∧ Below w.heap.size w w' := by
  have hsl := slot_lt k
  have PL := Lib.hid (place_any g k hk w)
  have TB := Lib.hid h.tab
  obtain ⟨⟨c0, c1, c2, c3, c4⟩, _⟩ := cells5 h.tab
  have s0 := h.slot _ hsl
  have hR := h.row _ hsl
  have hrl : (rowT slotT D (slotT k)).length ≤ 16 := Nat.le_trans (rowT_len _ _ _) h.few
  obtain ⟨l, hl⟩ : ∃ l, rowT slotT D (slotT k) = l := ⟨_, rfl⟩
  have hpl : placeI k D = match idxD k l with | some i => (i : Int) | none => -1 := by unfold placeI; rw [hl]
  rw [hl] at hR hrl
  obtain ⟨A, C, hf, hA, hC⟩ := row_form hR
  rw [hf] at s0 hR
  rw [hpl]
  have HR := Lib.hid hR
  obtain ⟨q, hq⟩ : ∃ q, slotT k = q := ⟨_, rfl⟩
  simp only [hq] at PL s0 hsl ⊢
  have i8 : (q : Int) < 8 := by omega
  have i0 : (0 : Int) ≤ (q : Int) := by omega
  clear h hf hR hpl hl hq
  go_enter Tryz.func187, Tryz.ntmps187
  go_wp2
  refine wp_scope_jumps 0 (fun _ _ => False) (fun _ _ => 0) rfl ?_ (fun _ _ h => h.elim)
  go_wp2
  go_step3
  go_wp2_with (first | (go_at_call 216; (with_reducible refine (PL.out).mono ?_); rintro e w1 ⟨rfl, rfl⟩))
  have NO := Lib.hid (show ∀ (q : Nat) (y : ByteArray) (u : Nat), q < 0 → l[q]? = some (y, u) → y ≠ k from fun q y u h => absurd h (Nat.not_lt_zero _))
  go_loopw [23] (fun iv wr => ∃ i : Nat, i ≤ l.length ∧ iv = .int .i64 i ∧ Hid (∀ (q : Nat) (y : ByteArray) (u : Nat), q < i → l[q]? = some (y, u) → y ≠ k) ∧ Hid (Below w1.heap.size w1 wr)) (fun iv _ => l.length - (intOf iv).toNat)
  case atStart => exact ⟨0, Nat.zero_le _, rfl, NO, Lib.hid (Below.refl _ _)⟩
  case round =>
    obtain ⟨i, hi, rfl, HN, HB⟩ := hrel
    by_cases hlt : i < l.length
    · obtain ⟨⟨y, u⟩, hs⟩ : ∃ x, l[i]? = some x := ⟨_, List.getElem?_eq_getElem hlt⟩
      have q1 : (i : Int) < (l.length : Int) := by omega
      obtain ⟨gA, rfl⟩ : ∃ gA, A = some ⟨gA, 0, none⟩ := hA.resolve_left (by omega)
      have hR1 := row_below HR.out HB.out
      have d0 := row_cell hR1 (i * 2 + 0) (.string y) (pairC_at l i 0 (y, u) _ hs rfl)
      have d1 := row_cell hR1 (i * 2 + 1) (.int .i64 (u : Int)) (pairC_at l i 1 (y, u) _ hs rfl)
      rw [Nat.add_zero] at d0
      have HB2 := Lib.hid (HB.out.trans ((alloc_old (w := wr) (o := .cells #[.string y, .int .i64 (u : Int)] 216)).mono (Below.size HB.out)))
      clear hR1
      by_cases hy : y = k
      · have hb : (y.toList == k.toList) = true := by rw [hy]; simp
        have HE := Lib.hid (idx_hit l i k u (by rw [hs, hy]) HN.out)
        clear hs
        subst hy
        go_wp2
        simp only [Exit.jump]
        exact bodyPost_ret (v := .tuple #[.pointer (some ⟨g, q, none⟩), .int .i64 (i : Int)]) (by simp [results, Tryz.results187, go_sem]) rfl ⟨by rw [HE.out], HB2.out⟩
      · have hb : (y.toList == k.toList) = false := by
          rw [beq_eq_false_iff_ne]
          intro e
          exact hy (Go.WideShapes.bytes_inj (by rw [ByteArray.toList_eq, ByteArray.toList_eq] at e; exact e))
        have HN2 := Lib.hid (show ∀ (q : Nat) (z : ByteArray) (v : Nat), q < i + 1 → l[q]? = some (z, v) → z ≠ k from fun q z v hq hz => by
          rcases Nat.lt_or_ge q i with h | h
          · exact HN.out q z v h hz
          · obtain rfl : q = i := by omega
            rw [hs] at hz
            cases hz
            exact hy)
        clear hs
        go_wp2
        exact ⟨⟨i + 1, hlt, by go_num, HN2, HB2⟩, by simp [intOf]; omega⟩
    · obtain rfl : l.length = i := by omega
      have q1 : ¬ (l.length : Int) < (l.length : Int) := by omega
      have HE := Lib.hid (idx_miss l k HN.out)
      obtain ⟨⟨c0, c1, c2, c3, c4⟩, _⟩ := cells5 (blk_below TB.out HB.out)
      go_wp2
      simp only [Exit.jump]
      exact bodyPost_ret (v := .tuple #[.pointer (some ⟨g, q, none⟩), .int .i64 (-1)]) (by simp [results, Tryz.results187, go_sem]) rfl ⟨by rw [HE.out], HB.out⟩
end Go.Proofs.YticlacjpgjkhcaaGreatDoor

/- A table: made, asked, put to. -/
namespace Go.Proofs.YticlacjpgjkhcaaGreatDoor
open Go.ChangeShapes Go.WideShapes Go.ChangeAt Go.RowKit

theorem set_same {w : World} {b i : Nat} {v : Value} {cs : Array Value} {t : TypeId} (h : w.heap[b]? = some (.cells cs t)) (hv : cs[i]? = some v) (j : Nat) : (w.setCell ⟨b, i, none⟩ v).heap[j]? = w.heap[j]? := by
  by_cases hj : j = b
  · subst hj
    have e : cs.setIfInBounds i v = cs := by
      apply Array.ext_getElem?
      intro q
      rw [Array.getElem?_setIfInBounds]
      split
      · rename_i hq
        subst hq
        split
        · exact hv.symm
        · rename_i hlt
          rw [Array.getElem?_eq_none (by omega)]
      · rfl
    rw [h]
    simp [World.setCell, Array.getElem?_modify, h, e]
  · exact Below.heap_setCell _ ⟨b, i, none⟩ _ _ hj
theorem below_same {w : World} {b i : Nat} {v : Value} {cs : Array Value} {t : TypeId} (h : w.heap[b]? = some (.cells cs t)) (hv : cs[i]? = some v) : Below w.heap.size w (w.setCell ⟨b, i, none⟩ v) :=
  ⟨rfl, rfl, rfl, by simp [World.setCell], fun j _ => set_same h hv j⟩
set_option maxRecDepth 100000 in
set_option maxHeartbeats 4000000 in
theorem move_T (c p g : Nat) (f : Nat → Value) (D : List (ByteArray × Nat)) (w : World) (h : TabT c w p g f D) : Calls Tryz.prog 186 #[.pointer (some ⟨p, 0, none⟩)] w fun e w' => e = .returned (.tuple #[]) ∧ Below w.heap.size w w' := by
  obtain ⟨⟨c0, c1, c2, c3, c4⟩, zz⟩ := cells5 h.tab
  have B := Lib.hid (below_same (i := 4) (v := .int .i64 0) h.tab rfl)
  obtain ⟨⟨d0, d1, d2, d3, d4⟩, _⟩ := cells5 (blk_below h.tab B.out)
  clear h
  go_enter Tryz.func186, Tryz.ntmps186
  go_wp2
  go_loopw [2] (fun _ wr => wr = w.setCell ⟨p, 4, none⟩ (.int .i64 0)) (fun _ _ => 0)
  case atStart => exact rfl
  case round =>
    subst hrel
    go_wp2
    go_end0
    exact ⟨rfl, B.out⟩
set_option maxRecDepth 100000 in
set_option maxHeartbeats 4000000 in
theorem get_T (c p g : Nat) (f : Nat → Value) (D : List (ByteArray × Nat)) (k : ByteArray) (hk : k.size ≤ 1000000) (w : World) (h : TabT c w p g f D) : Calls Tryz.prog 184 #[.pointer (some ⟨p, 0, none⟩), .string k] w fun e w' => e = .returned (.tuple #[.int .i64 (((findD k D).getD 0 : Nat) : Int), .bool (findD k D).isSome]) ∧ Below w.heap.size w w' := by
  have MV := Lib.hid (move_T c p g f D w h)
  have FD := Lib.hid (fun X (hX : Below w.heap.size w X) => find_T c p g f D k hk X (h.below hX))
  have hsl := slot_lt k
  have s0 := h.slot _ hsl
  have SB := Lib.hid h.slots
  have hR := h.row _ hsl
  have hF := rowT_find slotT k D
  have hrl : (rowT slotT D (slotT k)).length ≤ 16 := Nat.le_trans (rowT_len _ _ _) h.few
  have hpl : placeI k D = match idxD k (rowT slotT D (slotT k)) with | some i => (i : Int) | none => -1 := rfl
  obtain ⟨l, hl⟩ : ∃ l, rowT slotT D (slotT k) = l := ⟨_, rfl⟩
  rw [hl] at hR hrl hpl hF
  obtain ⟨A, C, hf, hA, hC⟩ := row_form hR
  rw [hf] at s0 hR
  have HR := Lib.hid hR
  have S0 := Lib.hid (show ∀ X, Below w.heap.size w X → X.cell? ⟨g, slotT k, none⟩ = some (.slice A l.length C) from fun X hX => (hX.cell (p := ⟨g, slotT k, none⟩) (lt_blk SB.out)).trans s0)
  rw [← hF]
  clear h hR hF hl s0
  cases hx : idxD k l with
  | none =>
    rw [hx] at hpl
    simp only [hpl] at FD
    rw [(idxD_none hx).1]
    go_enter Tryz.func184, Tryz.ntmps184
    go_wp2_with (first | (go_at_call 186; (with_reducible refine (MV.out).mono ?_); rintro e w1 ⟨rfl, h1⟩; have B1 := Lib.hid h1; clear h1) | (go_at_call 187; (with_reducible refine (FD.out _ B1.out).mono ?_); rintro e w2 ⟨rfl, h2⟩; have B2 := Lib.hid (B1.out.trans (h2.mono (Below.size B1.out))); clear h2))
    exact bodyPost_ret (v := .tuple #[.int .i64 0, .bool false]) (by simp [results, Tryz.results184, go_sem]) rfl ⟨rfl, B2.out⟩
  | some i =>
    rw [hx] at hpl
    simp only [hpl] at FD
    obtain ⟨v, hv, hfv, _⟩ := idxD_some hx
    rw [hfv]
    have hlt := (List.getElem?_eq_some_iff.1 hv).1
    obtain ⟨gA, rfl⟩ : ∃ gA, A = some ⟨gA, 0, none⟩ := hA.resolve_left (by omega)
    have q1 : (i : Int) < (l.length : Int) := by omega
    have q2 : ¬ (i : Int) < 0 := by omega
    have HV := Lib.hid hv
    clear hv hfv hx
    go_enter Tryz.func184, Tryz.ntmps184
    go_wp2_with (first | (go_at_call 186; (with_reducible refine (MV.out).mono ?_); rintro e w1 ⟨rfl, h1⟩; have B1 := Lib.hid h1; clear h1) | (go_at_call 187; (with_reducible refine (FD.out _ B1.out).mono ?_); rintro e w2 ⟨rfl, h2⟩; have B2 := Lib.hid (B1.out.trans (h2.mono (Below.size B1.out))); clear h2; refine Hid.out ?_))
    refine Lib.hid ?_
    have hR2 := row_below HR.out B2.out
    have d0 := row_cell hR2 (i * 2 + 0) (.string k) (pairC_at l i 0 (k, v) _ HV.out rfl)
    have d1 := row_cell hR2 (i * 2 + 1) (.int .i64 (v : Int)) (pairC_at l i 1 (k, v) _ HV.out rfl)
    rw [Nat.add_zero] at d0
    have s1 := S0.out _ B2.out
    clear hR2
    go_wp2
    exact bodyPost_ret (v := .tuple #[.int .i64 (v : Int), .bool true]) (by simp [results, Tryz.results184, go_sem]) rfl ⟨rfl, B2.out⟩
end Go.Proofs.YticlacjpgjkhcaaGreatDoor

/- A table: a new name is put. -/
namespace Go.Proofs.YticlacjpgjkhcaaGreatDoor
open Go.ChangeShapes Go.WideShapes Go.ChangeAt Go.RowKit

def TabAt (w : World) (i : Nat) : Prop := ∃ cs t, w.heap[i]? = some (.cells cs t) ∧ isTab t
/-- What an operation on a table leaves. -/
structure KTab (c : Nat) (w w' : World) : Prop where
  below : Below c w w'
  kept : ∀ i, i < w.heap.size → ¬ TabAt w i → w'.heap[i]? = w.heap[i]?
def fset (f : Nat → Value) (q : Nat) (v : Value) : Nat → Value := fun j => if j = q then v else f j
theorem arr8 (f : Nat → Value) (q : Nat) (hq : q < 8) (v : Value) : (#[f 0, f 1, f 2, f 3, f 4, f 5, f 6, f 7] : Array Value).setIfInBounds q v = #[fset f q v 0, fset f q v 1, fset f q v 2, fset f q v 3, fset f q v 4, fset f q v 5, fset f q v 6, fset f q v 7] := by
  match q, hq with
  | 0, _ => rfl
  | 1, _ => rfl
  | 2, _ => rfl
  | 3, _ => rfl
  | 4, _ => rfl
  | 5, _ => rfl
  | 6, _ => rfl
  | 7, _ => rfl
theorem set_cells {w : World} {b i : Nat} {v : Value} {cs : Array Value} {t : TypeId} (h : w.heap[b]? = some (.cells cs t)) : (w.setCell ⟨b, i, none⟩ v).heap[b]? = some (.cells (cs.setIfInBounds i v) t) := by
  simp [World.setCell, Array.getElem?_modify, h]
theorem rowT_snoc (D : List (ByteArray × Nat)) (k : ByteArray) (n j : Nat) : rowT slotT (D ++ [(k, n)]) j = if slotT k = j then rowT slotT D j ++ [(k, n)] else rowT slotT D j := by
  unfold rowT
  rw [List.filter_append]
  by_cases h : slotT k = j <;> simp [h]
theorem names_snoc {α : Type} (D : List (ByteArray × α)) (k : ByteArray) (x : α) : namesD (D ++ [(k, x)]) = namesD D ++ [k] := by simp [namesD]
theorem iPair : (Tryz.prog.info? 216).map (fun i => (i.zero, i.size, i.bytes)) = some (some (.agg #[.string ⟨#[]⟩, .int .i64 0]), 2, 24) := by kernel_rfl
/-- A table with one more name: its slot holds a row that was appended to. -/
theorem TabT.put {c : Nat} {w w' w2 : World} {p g : Nat} {f : Nat → Value} {D : List (ByteArray × Nat)} {k : ByteArray} {n : Nat} (h : TabT c w p g f D) (hn : findD k D = none) (hf : D.length ≤ 15) {g5 C5 : Nat}
    (hO : w'.ownsRow c 216 2 (.slice (some ⟨g5, 0, none⟩) ((rowT slotT D (slotT k)).length + 1) C5) ((rowT slotT D (slotT k)).length + 1) ((rowT slotT D (slotT k)).flatMap pairC ++ [.string k, .int .i64 (n : Int)]))
    (hG : w.grownBy w' (f (slotT k)).ownBlock) (h5 : (f (slotT k)).ownBlock = some g5 ∨ w.heap.size ≤ g5)
    (h2 : w2 = (w'.setCell ⟨g, slotT k, none⟩ (.slice (some ⟨g5, 0, none⟩) ((rowT slotT D (slotT k)).length + 1) C5)).setCell ⟨p, 3, none⟩ (.int .i64 ((D.length : Int) + 1))) :
    TabT c w2 p g (fset f (slotT k) (.slice (some ⟨g5, 0, none⟩) ((rowT slotT D (slotT k)).length + 1) C5)) (D ++ [(k, n)]) ∧ KTab c w w2 := by
  have hq := slot_lt k
  have hrow := h.row _ hq
  have hpr := lt_blk h.tab
  have hgr := lt_blk h.slots
  have hpg : p ≠ g := by
    intro e
    obtain ⟨cs, h1⟩ : ∃ cs, w.heap[p]? = some (.cells cs 221) := ⟨_, h.tab⟩
    rw [e, h.slots] at h1
    cases h1
  have hown : ∀ b, (f (slotT k)).ownBlock = some b → b ≠ p ∧ b ≠ g := by
    intro b hb
    obtain ⟨cs, hc⟩ := row_typ hrow b hb
    constructor
    · rintro rfl
      rw [h.tab] at hc
      cases hc
    · rintro rfl
      rw [h.slots] at hc
      cases hc
  have hT' : w'.heap[p]? = _ := (hG.block p hpr (fun e => (hown p e.symm).1 rfl)).trans h.tab
  have hS' : w'.heap[g]? = _ := (hG.block g hgr (fun e => (hown g e.symm).2 rfl)).trans h.slots
  have far : ∀ i, i ≠ p → i ≠ g → w2.heap[i]? = w'.heap[i]? := fun i h1 h3 => by
    rw [h2]
    exact (Below.heap_setCell _ ⟨p, 3, none⟩ _ _ h1).trans (Below.heap_setCell _ ⟨g, slotT k, none⟩ _ _ h3)
  have g5p : g5 ≠ p ∧ g5 ≠ g := by
    rcases h5 with h5 | h5
    · exact hown g5 h5
    · exact ⟨by omega, by omega⟩
  refine ⟨⟨h.hp, h.hg, ?_, ?_, fun j hj => ?_, fun i j b hi hj h1 h3 => ?_, ?_, ?_⟩, ⟨?_, fun i hi hni => ?_⟩⟩
  · rw [h2, set_cells ((Below.heap_setCell _ ⟨g, slotT k, none⟩ _ _ hpg).trans hT'), List.length_append]
    rfl
  · rw [h2, Below.heap_setCell _ ⟨p, 3, none⟩ _ _ (Ne.symm hpg), set_cells hS', arr8 f _ hq]
  · rw [rowT_snoc]
    unfold fset
    by_cases he : slotT k = j
    · subst he
      rw [if_pos rfl, if_pos rfl, List.length_append, List.flatMap_append]
      refine row_kept hO (fun b hb => ?_)
      cases hb
      exact far g5 g5p.1 g5p.2
    · rw [if_neg (Ne.symm he), if_neg he]
      refine row_kept (h.row j hj) (fun b hb => ?_)
      obtain ⟨cs, hc⟩ := row_typ (h.row j hj) b hb
      have b1 : b ≠ p := by rintro rfl; rw [h.tab] at hc; cases hc
      have b2 : b ≠ g := by rintro rfl; rw [h.slots] at hc; cases hc
      exact (far b b1 b2).trans (hG.block b (lt_blk hc) (fun e => he (h.dist _ _ b hq hj e.symm hb)))
  · have key : ∀ i b, i < 8 → i ≠ slotT k → (f i).ownBlock = some b → b ≠ g5 := by
      rintro i b hi hne hb rfl
      rcases h5 with h5 | h5
      · exact hne (h.dist i _ b hi hq hb h5)
      · have := (row_own (h.row i hi) b hb).2
        omega
    unfold fset at h1 h3
    by_cases e1 : i = slotT k
    · by_cases e2 : j = slotT k
      · rw [e1, e2]
      · rw [if_pos e1] at h1
        rw [if_neg e2] at h3
        cases h1
        exact absurd rfl (key j _ hj e2 h3)
    · rw [if_neg e1] at h1
      by_cases e2 : j = slotT k
      · rw [if_pos e2] at h3
        cases h3
        exact absurd rfl (key i _ hi e1 h1)
      · rw [if_neg e2] at h3
        exact h.dist i j b hi hj h1 h3
  · rw [List.length_append]
    show D.length + 1 ≤ 16
    omega
  · rw [names_snoc, List.nodup_append]
    refine ⟨h.nd, by simp, fun a ha b hb => ?_⟩
    simp at hb
    subst hb
    rintro rfl
    have := mem_names.1 ha
    rw [hn] at this
    cases this
  · rw [h2]
    refine ((Below.refl c w).grown hG (Nat.le_of_lt (Nat.lt_of_le_of_lt h.hp hpr)) (fun b hb => ?_)).setCell (p := ⟨g, slotT k, none⟩) h.hg _ |>.setCell (p := ⟨p, 3, none⟩) h.hp _
    exact (row_own hrow b hb).1
  · have b1 : i ≠ p := by rintro rfl; exact hni ⟨_, _, h.tab, .inl rfl⟩
    have b2 : i ≠ g := by rintro rfl; exact hni ⟨_, _, h.slots, .inr (.inl rfl)⟩
    refine (far i b1 b2).trans (hG.block i hi (fun e => ?_))
    obtain ⟨cs, hc⟩ := row_typ hrow i e.symm
    exact hni ⟨_, _, hc, .inr (.inr rfl)⟩
theorem KTab.after {c : Nat} {w W W' : World} (hb : Below w.heap.size w W) (hc : c ≤ w.heap.size) (h : KTab c W W') : KTab c w W' :=
  ⟨(hb.mono hc).trans h.below, fun i hi hn => (h.kept i (Nat.lt_of_lt_of_le hi (Below.size hb)) (fun ⟨cs, t, h1, h2⟩ => hn ⟨cs, t, (hb.block i hi).symm.trans h1, h2⟩)).trans (hb.block i hi)⟩
theorem TabT.le {c : Nat} {w : World} {p g : Nat} {f : Nat → Value} {D : List (ByteArray × Nat)} (h : TabT c w p g f D) : c ≤ w.heap.size := Nat.le_of_lt (Nat.lt_of_le_of_lt h.hp (lt_blk h.tab))
theorem TabT.ne {c : Nat} {w : World} {p g : Nat} {f : Nat → Value} {D : List (ByteArray × Nat)} (h : TabT c w p g f D) : ¬ p = g := by
  intro e
  obtain ⟨cs, h1⟩ : ∃ cs, w.heap[p]? = some (.cells cs 221) := ⟨_, h.tab⟩
  rw [e, h.slots] at h1
  cases h1
theorem TabT.grown {c : Nat} {w w' : World} {p g q : Nat} {f : Nat → Value} {D : List (ByteArray × Nat)} (h : TabT c w p g f D) (hq : q < 8) (hG : w.grownBy w' (f q).ownBlock) : w'.heap[p]? = some (.cells #[.slice (some ⟨g, 0, none⟩) 8 8, .slice none 0 0, .int .i64 0, .int .i64 (D.length : Int), .int .i64 0] 221) ∧ w'.heap[g]? = some (.cells #[f 0, f 1, f 2, f 3, f 4, f 5, f 6, f 7] 217) := by
  have hown : ∀ b, (f q).ownBlock = some b → b ≠ p ∧ b ≠ g := by
    intro b hb
    obtain ⟨cs, hc⟩ := row_typ (h.row q hq) b hb
    constructor
    · rintro rfl
      rw [h.tab] at hc
      cases hc
    · rintro rfl
      rw [h.slots] at hc
      cases hc
  exact ⟨(hG.block p (lt_blk h.tab) (fun e => (hown p e.symm).1 rfl)).trans h.tab, (hG.block g (lt_blk h.slots) (fun e => (hown g e.symm).2 rfl)).trans h.slots⟩
theorem slots_cell {w : World} {g : Nat} {f : Nat → Value} (h : w.heap[g]? = some (.cells #[f 0, f 1, f 2, f 3, f 4, f 5, f 6, f 7] 217)) (j : Nat) (hj : j < 8) : w.cell? ⟨g, j, none⟩ = some (f j) := by
  rw [cell_of_row _ g _ _ 217 (0, 0) h]
  match j, hj with
  | 0, _ => rfl
  | 1, _ => rfl
  | 2, _ => rfl
  | 3, _ => rfl
  | 4, _ => rfl
  | 5, _ => rfl
  | 6, _ => rfl
  | 7, _ => rfl
set_option maxRecDepth 100000 in
set_option maxHeartbeats 4000000 in
theorem put_T (c p g : Nat) (f : Nat → Value) (D : List (ByteArray × Nat)) (k : ByteArray) (hk : k.size ≤ 1000000) (n : Nat) (hn : findD k D = none) (hf : D.length ≤ 15) (w : World) (h : TabT c w p g f D) : Calls Tryz.prog 185 #[.pointer (some ⟨p, 0, none⟩), .string k, .int .i64 (n : Int)] w fun e w' => e = .returned (.tuple #[.int .i64 0, .bool false]) ∧ (∃ f', TabT c w' p g f' (D ++ [(k, n)])) ∧ KTab c w w' := by
  have H := Lib.hid h
  have MV := Lib.hid (move_T c p g f D w h)
  have FD := Lib.hid (fun X (hX : Below w.heap.size w X) => find_T c p g f D k hk X (h.below hX))
  have hsl := slot_lt k
  have hF := rowT_find slotT k D
  rw [hn] at hF
  have hpl : placeI k D = match idxD k (rowT slotT D (slotT k)) with | some i => (i : Int) | none => -1 := rfl
  have hix : idxD k (rowT slotT D (slotT k)) = none := by
    cases hx : idxD k (rowT slotT D (slotT k)) with
    | none => rfl
    | some i =>
      obtain ⟨v, _, h2, _⟩ := idxD_some hx
      rw [hF] at h2
      cases h2
  rw [hix] at hpl
  simp only [hpl] at FD
  have HN := Lib.hid hn
  clear h hF hix hpl hn
  go_enter Tryz.func185, Tryz.ntmps185
  go_wp2_with (first | (go_at_call 186; (with_reducible refine (MV.out).mono ?_); rintro e w1 ⟨rfl, h1⟩; have B1 := Lib.hid h1; clear h1) | (go_at_call 187; (with_reducible refine (FD.out _ B1.out).mono ?_); rintro e w2 ⟨rfl, h2⟩; have B2 := Lib.hid (B1.out.trans (h2.mono (Below.size B1.out))); clear h2; refine Hid.out ?_))
  refine Lib.hid ?_
  have H2 := Lib.hid (H.out.below B2.out)
  have s0 := H2.out.slot _ hsl
  have zs : w2.frozen? ⟨g, slotT k, none⟩ = false := frozen_of_row w2 g _ _ _ H2.out.slots
  have H3 := Lib.hid (H2.out.below (alloc_old (o := .cells #[.string k, .int .i64 (n : Int)] 216)))
  have N3 := Lib.hid (news_blk (cs := [.string k, .int .i64 (n : Int)]) (heap_alloc_new w2 (.cells #[.string k, .int .i64 (n : Int)] 216)))
  have B3 := Lib.hid (B2.out.trans ((alloc_old (w := w2) (o := .cells #[.string k, .int .i64 (n : Int)] 216)).mono (Below.size B2.out)))
  have ON := Lib.hid (show ∀ u9 ∈ ([.string k, .int .i64 (n : Int)] : List Value), u9.oneCell' = true from fun u9 hu => by simp at hu; rcases hu with rfl | rfl <;> rfl)
  have RW := Lib.hid (H3.out.row _ hsl)
  have Z3 := Lib.hid H3.out.le
  have LE := Lib.hid H.out.le
  have hlen := rowT_len slotT D (slotT k)
  obtain ⟨i0, hi0, hz0, hz1, hz2⟩ := info_parts iPair
  go_wp2_with (first | (at_builtin; refine wpList_append_lies _ rfl _ _ 217 rfl c 216 i0 _ 2 24 Tryz.underlying217 hi0 hz0 hz1 hz2 rfl (by decide) (f (slotT k)) (rowT slotT D (slotT k)).length ((rowT slotT D (slotT k)).flatMap pairC) rfl RW.out ⟨w2.heap.size, 0, none⟩ 1 1 [.string k, .int .i64 (n : Int)] rfl rfl N3.out ON.out (by decide) (by unfold maxLen; omega) (by omega) Z3.out _ rfl ?_; intro g5 C5 w5 hO5 hG5 h5 h6; have O5 := Lib.hid hO5; have G5 := Lib.hid hG5; have K5 := Lib.hid h5; clear hO5 hG5 h5 h6; refine Hid.out ?_))
  refine Lib.hid ?_
  obtain ⟨T5, S5⟩ := H3.out.grown hsl G5.out
  obtain ⟨⟨c0, c1, c2, c3, c4⟩, zz⟩ := cells5 T5
  have z3 := zz 3
  have s5 := slots_cell S5 _ hsl
  have zs5 : w5.frozen? ⟨g, slotT k, none⟩ = false := frozen_of_row w5 g _ _ _ S5
  have hpg : ¬ p = g := H3.out.ne
  have hgp : ¬ g = p := fun e => hpg e.symm
  have q3 : ¬ (16 : Int) < (D.length : Int) + 1 := by omega
  clear T5 S5 zz
  go_wp2
  have T6 := H3.out.put HN.out hf (n := n) O5.out G5.out (K5.out.imp id fun e => by rw [e]; exact Nat.le_refl _) rfl
  obtain ⟨hT6, hK6⟩ := T6
  have HT6 := Lib.hid hT6
  have HK6 := Lib.hid (hK6.after B3.out LE.out)
  clear hK6 c0 c1 c2 c3 c4 z3 s5 zs5
  generalize ((w5.setCell ⟨g, slotT k, none⟩ (.slice (some ⟨g5, 0, none⟩) ((rowT slotT D (slotT k)).length + 1) C5)).setCell ⟨p, 3, none⟩ (.int .i64 ((D.length : Int) + 1))) = w6 at HT6 HK6 hT6 ⊢
  have hl : (D ++ [(k, n)]).length = D.length + 1 := by simp
  obtain ⟨⟨c0, c1, c2, c3, c4⟩, _⟩ := cells5 hT6.tab
  rw [hl] at c3
  have c3' : w6.cell? ⟨p, 3, none⟩ = some (.int .i64 ((D.length : Int) + 1)) := c3
  have d0 : w6.drew.cell? ⟨p, 0, none⟩ = some (.slice (some ⟨g, 0, none⟩) 8 8) := c0
  have d1 : w6.drew.cell? ⟨p, 1, none⟩ = some (.slice none 0 0) := c1
  have d3 : w6.drew.cell? ⟨p, 3, none⟩ = some (.int .i64 ((D.length : Int) + 1)) := c3
  have hnil : ∀ w, (binOp .eql 219 (.slice none 0 0) (.slice none 0 0)).run Tryz.prog w = .ok (.bool true) w := fun w => by kernel_rfl
  clear c3 hT6 hl
  go_region
  go_wp2
  exact bodyPost_ret (v := .tuple #[.int .i64 0, .bool false]) (by simp [results, Tryz.results185, go_sem]) rfl ⟨rfl, ⟨_, HT6.out.below (Below.refl _ _).drew⟩, ⟨HK6.out.below.drew, HK6.out.kept⟩⟩
set_option maxRecDepth 100000 in
set_option maxHeartbeats 4000000 in
theorem len_T (c p g : Nat) (f : Nat → Value) (D : List (ByteArray × Nat)) (w : World) (h : TabT c w p g f D) : Calls Tryz.prog 139 #[.pointer (some ⟨p, 0, none⟩)] w fun e w' => e = .returned (.int .i64 (D.length : Int)) ∧ Below w.heap.size w w' := by
  obtain ⟨⟨c0, c1, c2, c3, c4⟩, _⟩ := cells5 h.tab
  clear h
  go_enter Tryz.func139, Tryz.ntmps139
  go_wp2
  go_ret
  exact ⟨by simp, Below.refl _ _⟩
theorem iSlot : (Tryz.prog.info? 217).map (fun i => (i.zero, i.size, i.bytes)) = some (some (.slice none 0 0), 1, 24) := by kernel_rfl
theorem make8 (X : World) : (Instr.makeSlice 219 (.int .i64 8) (.int .i64 8)).run Tryz.prog X = .ok (.slice (some ⟨X.heap.size, 0, none⟩) 8 8) (X.alloc (.cells #[.slice none 0 0, .slice none 0 0, .slice none 0 0, .slice none 0 0, .slice none 0 0, .slice none 0 0, .slice none 0 0, .slice none 0 0] 217)) := by
  obtain ⟨i0, hi, hz0, hz1, hz2⟩ := info_parts iSlot
  have h := run_make (P := Tryz.prog) X 219 217 i0 (.slice none 0 0) Tryz.underlying219 hi hz0 .i64 .i64 8 8 (by omega) (Int.le_refl _) (by rw [hz2]; omega) (by omega)
  rw [hz1, show madeCells (Value.slice none 0 0).cells (Int.toNat 8 * 1) = #[.slice none 0 0, .slice none 0 0, .slice none 0 0, .slice none 0 0, .slice none 0 0, .slice none 0 0, .slice none 0 0, .slice none 0 0] from by kernel_rfl] at h
  exact h
def nilF : Nat → Value := fun _ => .slice none 0 0
set_option maxRecDepth 100000 in
set_option maxHeartbeats 4000000 in
theorem new_T (w : World) : Calls Tryz.prog 183 #[] w fun e w' => ∃ p g, e = .returned (.pointer (some ⟨p, 0, none⟩)) ∧ TabT w.heap.size w' p g nilF [] ∧ Below w.heap.size w w' := by
  have hm := make8
  go_enter Tryz.func183, Tryz.ntmps183
  go_wp2
  go_ret
  refine ⟨w.heap.size + 1, w.heap.size, by simp, ⟨by omega, Nat.le_refl _, ?_, blk_below (heap_alloc_new w _) alloc_old, fun j hj => ?_, fun i j b hi hj h => (by cases h), by simp, by simp [namesD]⟩, alloc_old.trans (alloc_old.mono (by simp))⟩
  · have h := heap_alloc_new (w.alloc (.cells #[.slice none 0 0, .slice none 0 0, .slice none 0 0, .slice none 0 0, .slice none 0 0, .slice none 0 0, .slice none 0 0, .slice none 0 0] 217)) (.cells #[.slice (some ⟨w.heap.size, 0, none⟩) 8 8, .slice none 0 0, .int .i64 0, .int .i64 0, .int .i64 0] 221)
    rw [World.size_alloc] at h
    exact h
  · exact World.ownsRow_nil _ _ _ _
end Go.Proofs.YticlacjpgjkhcaaGreatDoor
