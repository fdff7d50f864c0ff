/- Texts joined: G12, L3, L4 -/
import Derived.Test.YtjljljjmdlddkaaGreatQa13
import Derived.Test.YtjljljjmdlddkaaGreatQa19
import Derived.Test.YtjljljjmdlddkaaGreatQa12

/- A job's Turn over data: which effect it lays behind the others. -/
namespace Go.Proofs.YtjljljjmdlddkaaGreat
open Go.ChangeShapes Go.WideShapes Go.ChangeAt Go.RowKit

/-- A job whose effects are told as data. -/
def JD {α : Type} (K : Kd α) (w : World) (j bS : Nat) (now : Int) (vA : Value) (c : Nat) (vl : Value) (des : List (ByteArray × Option α)) : Prop := (∃ A n cap, vl = .slice A n cap) ∧ JB w j bS now vA vl ∧ ∃ css, EFC w c vl css ∧ ALC K c w des css
theorem JD.nil {α : Type} (K : Kd α) {w : World} {j bS : Nat} {now : Int} {vA : Value} (c : Nat) (h : JB w j bS now vA (.slice none 0 0)) : JD K w j bS now vA c (.slice none 0 0) [] := ⟨⟨_, _, _, rfl⟩, h, [], EFC.nil w c, trivial⟩
theorem JD.below {α : Type} (K : Kd α) {w w' : World} {j bS : Nat} {now : Int} {vA : Value} {c : Nat} {vl : Value} {des : List (ByteArray × Option α)} (h : JD K w j bS now vA c vl des) (hb : Below w.heap.size w w') : JD K w' j bS now vA c vl des := by
  obtain ⟨h1, h2, css, h3, h4⟩ := h
  exact ⟨h1, h2.below hb, css, h3.below hb, ALC.kept K (fun x a b d e hV _ g hg => hb.block g (K.lt hV hg)) h4⟩
/-- The blocks of a kind's values are none of a job's. -/
theorem Kd.far {α : Type} (K : Kd α) {w : World} {x : α} {a b d e : Value} {g : Nat} (hV : K.V w x a b d e) (hg : Own a b d e g) {j bS : Nat} {now : Int} {vA vl : Value} (hj : JB w j bS now vA vl) {c : Nat} {css : List (List Value)} (hE : EFC w c vl css) : g ≠ j ∧ vl.ownBlock ≠ some g := by
  obtain ⟨cs, t, h1, h2, h3, h4, h5, h6⟩ := K.typ hV hg
  refine ⟨fun e => ?_, fun e => ?_⟩
  · subst e
    unfold JB at hj
    rw [hj] at h1
    cases h1
    exact h4 rfl
  · obtain ⟨_, cur, hh⟩ := hE.own g e
    rw [hh] at h1
    cases h1
    exact h3 rfl
theorem JD.step {α : Type} (K : Kd α) {w w' : World} {j bS : Nat} {now : Int} {vA : Value} {c : Nat} {vl : Value} {des : List (ByteArray × Option α)} (hj : JB w j bS now vA vl) {css : List (List Value)} (hE : EFC w c vl css) (hA : ALC K c w des css) {cs : List Value} (h : JE w' j bS now vA c (css ++ [cs])) (hK : Kp w.heap.size (fun i => i ≠ j ∧ vl.ownBlock ≠ some i) w w') {p : ByteArray × Option α} (hp : EC K c w' p cs) : ∃ vl', JD K w' j bS now vA c vl' (des ++ [p]) := by
  obtain ⟨A, n, cap, h1, h2⟩ := h
  exact ⟨_, ⟨_, _, _, rfl⟩, h1, _, h2, ALC.append K hp (ALC.kept K (fun x a b d e hV _ g hg => hK.block g (K.lt hV hg) (K.far hV hg hj hE)) hA)⟩
/-- What more a kind's values must answer. -/
structure KdSame {α : Type} [DecidableEq α] (K : Kd α) where
  len : ∀ (x : α) (A3 A4 A5 A6 : Option Addr) (an3 ac3 an4 ac4 an5 ac5 an6 ac6 : Nat) (w : World), K.V w x (.slice A3 an3 ac3) (.slice A4 an4 ac4) (.slice A5 an5 ac5) (.slice A6 an6 ac6) → ∃ m : Int, ¬ m = 0 ∧ ∀ X, Below w.heap.size w X → Calls Tryz.prog 82 #[.agg #[.int .i64 K.kd, .string ⟨#[]⟩, .slice A3 an3 ac3, .slice A4 an4 ac4, .slice A5 an5 ac5, .slice A6 an6 ac6]] X fun e w' => e = .returned (.int .i64 m) ∧ Below X.heap.size X w'
  len0 : ∀ (w : World), Calls Tryz.prog 82 #[.agg #[.int .i64 K.kd, .string ⟨#[]⟩, .slice none 0 0, .slice none 0 0, .slice none 0 0, .slice none 0 0]] w fun e w' => e = .returned (.int .i64 0) ∧ Below w.heap.size w w'
  same : ∀ (x y : α) (A3 A4 A5 A6 : Option Addr) (an3 ac3 an4 ac4 an5 ac5 an6 ac6 : Nat) (Y3 Y4 Y5 Y6 : Option Addr) (yn3 yc3 yn4 yc4 yn5 yc5 yn6 yc6 : Nat) (w : World), K.V w x (.slice A3 an3 ac3) (.slice A4 an4 ac4) (.slice A5 an5 ac5) (.slice A6 an6 ac6) → K.V w y (.slice Y3 yn3 yc3) (.slice Y4 yn4 yc4) (.slice Y5 yn5 yc5) (.slice Y6 yn6 yc6) → Calls Tryz.prog 106 #[.agg #[.int .i64 K.kd, .string ⟨#[]⟩, .slice A3 an3 ac3, .slice A4 an4 ac4, .slice A5 an5 ac5, .slice A6 an6 ac6], .agg #[.int .i64 K.kd, .string ⟨#[]⟩, .slice Y3 yn3 yc3, .slice Y4 yn4 yc4, .slice Y5 yn5 yc5, .slice Y6 yn6 yc6]] w fun e w' => e = .returned (.bool (decide (x = y))) ∧ Below w.heap.size w w'
/-- The effect of a turned value, as data. -/
def dEff {α : Type} [DecidableEq α] (k : ByteArray) (xo : Option α) (D : List (ByteArray × α)) : List (ByteArray × Option α) :=
  match findD k D, xo with
  | none, none => []
  | some _, none => [(k, none)]
  | none, some x => [(k, some x)]
  | some y, some x => if y = x then [] else [(k, some x)]
/-- Turn of a value. -/
theorem TurnD_some {α : Type} [DecidableEq α] (K : Kd α) (ok : ByteArray → α → Prop) (hO : KdOk K ok) (hS : KdSame K) (bS bM j : Nat) (D : List (ByteArray × α)) (des : List (ByteArray × Option α)) (k : ByteArray) (x : α) (now : Int) (vA vl : Value) (c : Nat) (A3 A4 A5 A6 : Option Addr) (an3 ac3 an4 ac4 an5 ac5 an6 ac6 : Nat) (hk : ok k x) (w : World) (h : SPG K ok w bS bM D) (hj : JD K w j bS now vA c vl des) (hc : c ≤ w.heap.size) (hl : des.length ≤ 100000) (hV : K.V w x (.slice A3 an3 ac3) (.slice A4 an4 ac4) (.slice A5 an5 ac5) (.slice A6 an6 ac6)) (hg : ∀ g, Own (.slice A3 an3 ac3) (.slice A4 an4 ac4) (.slice A5 an5 ac5) (.slice A6 an6 ac6) g → c ≤ g) : Calls Tryz.prog 69 #[.pointer (some ⟨j, 0, none⟩), .agg #[.string k, .int .i64 K.kd, .string ⟨#[]⟩, .slice A3 an3 ac3, .slice A4 an4 ac4, .slice A5 an5 ac5, .slice A6 an6 ac6, .int .i64 0]] w fun e w' => e = .returned (.tuple #[]) ∧ (∃ vl', JD K w' j bS now vA c vl' (des ++ dEff k (some x) D)) ∧ Kp w.heap.size (fun i => i ≠ j ∧ vl.ownBlock ≠ some i) w w' := by
  have hj0 := hj
  obtain ⟨⟨A, n, cap, rfl⟩, hJ, css, hE, hA⟩ := hj
  obtain ⟨m, hm, hLn⟩ := hS.len x A3 A4 A5 A6 an3 ac3 an4 ac4 an5 ac5 an6 ac6 w hV
  have hM := fun X (hX : Below w.heap.size w X) => hO.may k x A3 A4 A5 A6 an3 ac3 an4 ac4 an5 ac5 an6 ac6 X hk (K.below hV hX)
  have hl2 : css.length ≤ 100000 := by rw [ALC.len K hA]; exact hl
  have hend : ∀ w', JE w' j bS now vA c (css ++ [[.string k, .int .i64 K.kd, .string ⟨#[]⟩, .slice A3 an3 ac3, .slice A4 an4 ac4, .slice A5 an5 ac5, .slice A6 an6 ac6, .int .i64 0]]) → Kp w.heap.size (fun i => i ≠ j ∧ (Value.slice A n cap).ownBlock ≠ some i) w w' → ∃ vl', JD K w' j bS now vA c vl' (des ++ [(k, some x)]) := fun w' h1 h2 =>
    JD.step K hJ hE hA h1 h2 ⟨A3, A4, A5, A6, an3, ac3, an4, ac4, an5, ac5, an6, ac6, rfl, K.kept hV (fun g hg => h2.block g (K.lt hV hg) (K.far hV hg hJ hE)), hg⟩
  unfold dEff
  cases hf : findD k D with
  | none =>
    refine (TurnC_new j bS now vA A n cap css c w hJ hE hc hl2 k K.kd ⟨#[]⟩ A3 A4 A5 A6 an3 ac3 an4 ac4 an5 ac5 an6 ac6 0 K.nz.2 (fun X hX => JGetD_no K ok bS bM j D k now vA _ hf X (SPG.below K ok h hX) (hJ.below hX)) m hLn hm hM).mono ?_
    rintro e w' ⟨rfl, h1, h2⟩
    exact ⟨rfl, hend w' h1 h2, h2⟩
  | some y =>
    by_cases hy : y = x
    · simp only [hy, if_true, List.append_nil]
      refine (TurnC_same j w k K.kd ⟨#[]⟩ A3 A4 A5 A6 an3 ac3 an4 ac4 an5 ac5 an6 ac6 0 K.nz.2 (fun X hX => ?_) m hLn hm).mono ?_
      · refine (JGetD_yes K ok hO bS bM j D k y now vA _ hf X (SPG.below K ok h hX) (hJ.below hX)).mono ?_
        rintro e w' ⟨Y3, Y4, Y5, Y6, yn3, yc3, yn4, yc4, yn5, yc5, yn6, yc6, rfl, h1, _, h2⟩
        refine ⟨K.kd, ⟨#[]⟩, Y3, Y4, Y5, Y6, yn3, yc3, yn4, yc4, yn5, yc5, yn6, yc6, rfl, h2, fun Y hY => ?_⟩
        have := hS.same y x Y3 Y4 Y5 Y6 yn3 yc3 yn4 yc4 yn5 yc5 yn6 yc6 A3 A4 A5 A6 an3 ac3 an4 ac4 an5 ac5 an6 ac6 Y (K.below h1 hY) (K.below hV ((hX.trans (h2.mono (Below.size hX))).trans (hY.mono (Nat.le_trans (Below.size hX) (Below.size h2)))))
        rw [decide_eq_true hy] at this
        exact this
      · rintro e w' ⟨rfl, h1⟩
        exact ⟨rfl, ⟨_, JD.below K hj0 h1⟩, .of h1⟩
    · simp only [hy, if_false]
      refine (TurnC_diff j bS now vA A n cap css c w hJ hE hc hl2 k K.kd ⟨#[]⟩ A3 A4 A5 A6 an3 ac3 an4 ac4 an5 ac5 an6 ac6 0 K.nz.2 (fun X hX => ?_) m hLn hm hM).mono ?_
      · refine (JGetD_yes K ok hO bS bM j D k y now vA _ hf X (SPG.below K ok h hX) (hJ.below hX)).mono ?_
        rintro e w' ⟨Y3, Y4, Y5, Y6, yn3, yc3, yn4, yc4, yn5, yc5, yn6, yc6, rfl, h1, _, h2⟩
        refine ⟨K.kd, ⟨#[]⟩, Y3, Y4, Y5, Y6, yn3, yc3, yn4, yc4, yn5, yc5, yn6, yc6, rfl, h2, fun Y hY => ?_⟩
        have := hS.same y x Y3 Y4 Y5 Y6 yn3 yc3 yn4 yc4 yn5 yc5 yn6 yc6 A3 A4 A5 A6 an3 ac3 an4 ac4 an5 ac5 an6 ac6 Y (K.below h1 hY) (K.below hV ((hX.trans (h2.mono (Below.size hX))).trans (hY.mono (Nat.le_trans (Below.size hX) (Below.size h2)))))
        rw [decide_eq_false hy] at this
        exact this
      · rintro e w' ⟨rfl, h1, h2⟩
        exact ⟨rfl, hend w' h1 h2, h2⟩
/-- Turn of a value without elements. -/
theorem TurnD_none {α : Type} [DecidableEq α] (K : Kd α) (ok : ByteArray → α → Prop) (hO : KdOk K ok) (hS : KdSame K) (bS bM j : Nat) (D : List (ByteArray × α)) (des : List (ByteArray × Option α)) (k : ByteArray) (now : Int) (vA vl : Value) (c : Nat) (w : World) (h : SPG K ok w bS bM D) (hj : JD K w j bS now vA c vl des) (hc : c ≤ w.heap.size) (hl : des.length ≤ 100000) : Calls Tryz.prog 69 #[.pointer (some ⟨j, 0, none⟩), .agg #[.string k, .int .i64 K.kd, .string ⟨#[]⟩, .slice none 0 0, .slice none 0 0, .slice none 0 0, .slice none 0 0, .int .i64 0]] w fun e w' => e = .returned (.tuple #[]) ∧ (∃ vl', JD K w' j bS now vA c vl' (des ++ dEff k none D)) ∧ Kp w.heap.size (fun i => i ≠ j ∧ vl.ownBlock ≠ some i) w w' := by
  have hj0 := hj
  obtain ⟨⟨A, n, cap, rfl⟩, hJ, css, hE, hA⟩ := hj
  have hl2 : css.length ≤ 100000 := by rw [ALC.len K hA]; exact hl
  unfold dEff
  cases hf : findD k D with
  | none =>
    simp only [List.append_nil]
    refine (TurnC_none j w k K.kd ⟨#[]⟩ none none none none 0 0 0 0 0 0 0 0 0 K.nz.2 (fun X hX => JGetD_no K ok bS bM j D k now vA _ hf X (SPG.below K ok h hX) (hJ.below hX)) 0 (fun X _ => hS.len0 X) rfl).mono ?_
    rintro e w' ⟨rfl, h1⟩
    exact ⟨rfl, ⟨_, JD.below K hj0 h1⟩, .of h1⟩
  | some y =>
    refine (TurnC_gone j bS now vA A n cap css c w hJ hE hc hl2 k K.kd ⟨#[]⟩ none none none none 0 0 0 0 0 0 0 0 0 K.nz.2 (fun X hX => ?_) 0 (fun X _ => hS.len0 X) rfl).mono ?_
    · refine (JGetD_yes K ok hO bS bM j D k y now vA _ hf X (SPG.below K ok h hX) (hJ.below hX)).mono ?_
      rintro e w' ⟨Y3, Y4, Y5, Y6, yn3, yc3, yn4, yc4, yn5, yc5, yn6, yc6, rfl, h1, _, h2⟩
      exact ⟨K.kd, ⟨#[]⟩, 0, Y3, Y4, Y5, Y6, yn3, yc3, yn4, yc4, yn5, yc5, yn6, yc6, rfl, h2⟩
    · rintro e w' ⟨rfl, h1, h2⟩
      exact ⟨rfl, JD.step K hJ hE hA h1 h2 (show EC K c w' (k, none) _ from rfl), h2⟩
end Go.Proofs.YtjljljjmdlddkaaGreat

/- Lists: a row that was turned is put. -/
namespace Go.Proofs.YtjljljjmdlddkaaGreat
open Go.ChangeShapes Go.WideShapes Go.ChangeAt Go.RowKit

theorem KLsame : KdSame KL where
  len := by
    rintro xs A3 A4 A5 A6 an3 ac3 an4 ac4 an5 ac5 an6 ac6 w hV
    obtain ⟨g, rfl, rfl, rfl, rfl, rfl, rfl, rfl, rfl, rfl, rfl, rfl⟩ := VL.form A3 A4 A5 A6 an3 ac3 an4 ac4 an5 ac5 an6 ac6 hV
    have hpos : 0 < xs.length := List.length_pos_iff.2 hV.2.1
    exact ⟨xs.length, by omega, fun X _ => Len56L xs _ ac3 X⟩
  len0 := fun w => Len56L [] none 0 w
  same := fun x y A3 A4 A5 A6 an3 ac3 an4 ac4 an5 ac5 an6 ac6 Y3 Y4 Y5 Y6 yn3 yc3 yn4 yc4 yn5 yc5 yn6 yc6 w h1 h2 => SameL x y A3 A4 A5 A6 an3 ac3 an4 ac4 an5 ac5 an6 ac6 Y3 Y4 Y5 Y6 yn3 yc3 yn4 yc4 yn5 yc5 yn6 yc6 w h1 h2
/-- A row as a value: nothing, if it is empty. -/
def xoL (xs : List ByteArray) : Option (List ByteArray) := if xs = [] then none else some xs
/-- What a row's texts are in memory. -/
def FA (xs : List ByteArray) (c : Nat) (X : World) (A : Option Addr) (n C : Nat) : Prop := (xs = [] ∧ A = none ∧ n = 0 ∧ C = 0) ∨ (xs ≠ [] ∧ TR X (.slice A n C) xs ∧ ∀ g, (Value.slice A n C).ownBlock = some g → c ≤ g)
theorem FA.below {xs : List ByteArray} {c : Nat} {X Y : World} {A : Option Addr} {n C : Nat} (h : FA xs c X A n C) (hb : Below X.heap.size X Y) : FA xs c Y A n C := by
  rcases h with h | ⟨h1, h2, h3⟩
  · exact .inl h
  · exact .inr ⟨h1, h2.below hb, h3⟩
theorem FA.kept {xs : List ByteArray} {c : Nat} {X Y : World} {A : Option Addr} {n C : Nat} (h : FA xs c X A n C) (hb : ∀ g, (Value.slice A n C).ownBlock = some g → Y.heap[g]? = X.heap[g]?) : FA xs c Y A n C := by
  rcases h with h | ⟨h1, h2, h3⟩
  · exact .inl h
  · exact .inr ⟨h1, h2.kept hb, h3⟩
theorem FA.ne {xs : List ByteArray} {c : Nat} {X : World} {A : Option Addr} {n C : Nat} (h : FA xs c X A n C) {b : Nat} {cs : Array Value} {t : TypeId} (hb : X.heap[b]? = some (.cells cs t)) (ht : t ≠ 9) : ∀ g, (Value.slice A n C).ownBlock = some g → g ≠ b := by
  rintro g hg rfl
  rcases h with ⟨_, rfl, rfl, rfl⟩ | ⟨h1, h2, h3⟩
  · cases hg
  · obtain ⟨g', e, _, cs', hh⟩ := h2.lt
    rw [hg] at e
    cases e
    rw [hb] at hh
    cases hh
    exact ht rfl
theorem far6c {X : World} {b i : Nat} (hi : i ≠ b) (v1 v2 v3 v4 v5 v6 : Value) : ((((((X.setCell ⟨b, 1, none⟩ v1).setCell ⟨b, 2, none⟩ v2).setCell ⟨b, 3, none⟩ v3).setCell ⟨b, 4, none⟩ v4).setCell ⟨b, 5, none⟩ v5).setCell ⟨b, 6, none⟩ v6).heap[i]? = X.heap[i]? :=
  (Below.heap_setCell _ ⟨b, 6, none⟩ _ _ hi).trans ((Below.heap_setCell _ ⟨b, 5, none⟩ _ _ hi).trans ((Below.heap_setCell _ ⟨b, 4, none⟩ _ _ hi).trans ((Below.heap_setCell _ ⟨b, 3, none⟩ _ _ hi).trans ((Below.heap_setCell _ ⟨b, 2, none⟩ _ _ hi).trans (Below.heap_setCell _ ⟨b, 1, none⟩ _ _ hi)))))
theorem RAllF (c p : Nat) (l : Value) (xs : List ByteArray) (hn : xs.length ≤ 1000000) (w : World) (h : RowL c w p l xs) (d : Nat) (hd : d ≤ w.heap.size) : Calls Tryz.prog 56 #[.pointer (some ⟨p, 0, none⟩)] w fun e w' => ∃ A n C, e = .returned (.slice A n C) ∧ FA xs d w' A n C ∧ Below w.heap.size w w' := by
  by_cases hx : xs = []
  · subst hx
    refine (RAll0 c p l w h).mono ?_
    rintro e w' ⟨rfl, hb⟩
    exact ⟨none, 0, 0, rfl, .inl ⟨rfl, rfl, rfl, rfl⟩, hb⟩
  · refine (RAll1 c p l xs hx hn w h).mono ?_
    rintro e w' ⟨g, C, rfl, h1, h2, hb⟩
    exact ⟨_, _, C, rfl, .inr ⟨hx, h1.tr, fun g' hg => by cases hg; show d ≤ g; omega⟩, hb⟩
theorem TurnF (bS bM j : Nat) (D : List (ByteArray × List ByteArray)) (des : List (ByteArray × Option (List ByteArray))) (k : ByteArray) (xs : List ByteArray) (now : Int) (vA vl : Value) (c : Nat) (A : Option Addr) (n C : Nat) (hk : xs ≠ [] → okL k xs) (w : World) (h : SPG KL okL w bS bM D) (hj : JD KL w j bS now vA c vl des) (hc : c ≤ w.heap.size) (hl : des.length ≤ 100000) (hF : FA xs c w A n C) : Calls Tryz.prog 69 #[.pointer (some ⟨j, 0, none⟩), .agg #[.string k, .int .i64 2, .string ⟨#[]⟩, .slice A n C, .slice none 0 0, .slice none 0 0, .slice none 0 0, .int .i64 0]] w fun e w' => e = .returned (.tuple #[]) ∧ (∃ vl', JD KL w' j bS now vA c vl' (des ++ dEff k (xoL xs) D)) ∧ Kp w.heap.size (fun i => i ≠ j ∧ vl.ownBlock ≠ some i) w w' := by
  rcases hF with ⟨rfl, rfl, rfl, rfl⟩ | ⟨hx, hT, hg⟩
  · exact TurnD_none KL okL KLok KLsame bS bM j D des k now vA vl c w h hj hc hl
  · rw [show xoL xs = some xs from if_neg hx]
    refine TurnD_some KL okL KLok KLsame bS bM j D des k xs now vA vl c A none none none n C 0 0 0 0 0 0 (hk hx) w h hj hc hl ⟨hT, hx, rfl, rfl, rfl⟩ (fun g hg' => ?_)
    rcases hg' with hg' | hg' | hg' | hg'
    · exact hg g hg'
    · cases hg'
    · cases hg'
    · cases hg'
set_option maxRecDepth 100000 in
set_option maxHeartbeats 4000000 in
/-- A row that was turned is put. -/
theorem TurnL (bS bM j : Nat) (D : List (ByteArray × List ByteArray)) (des : List (ByteArray × Option (List ByteArray))) (k : ByteArray) (xs : List ByteArray) (now : Int) (vA vl : Value) (c cr p : Nat) (l : Value) (kd0 : Int) (t0 : ByteArray) (A3 A4 A5 A6 : Option Addr) (an3 ac3 an4 ac4 an5 ac5 an6 ac6 : Nat) (hk : xs ≠ [] → okL k xs) (hn : xs.length ≤ 1000000) (w : World) (h : SPG KL okL w bS bM D) (hj : JD KL w j bS now vA c vl des) (hc : c ≤ w.heap.size) (hl : des.length ≤ 100000) (hR : RowL cr w p l xs) : Calls Tryz.prog 38 #[.pointer (some ⟨j, 0, none⟩), .agg #[.string k, .int .i64 kd0, .string t0, .slice A3 an3 ac3, .slice A4 an4 ac4, .slice A5 an5 ac5, .slice A6 an6 ac6, .int .i64 0], .pointer (some ⟨p, 0, none⟩)] w fun e w' => e = .returned (.tuple #[]) ∧ (∃ vl', JD KL w' j bS now vA c vl' (des ++ dEff k (xoL xs) D)) ∧ Kp w.heap.size (fun i => i ≠ j ∧ vl.ownBlock ≠ some i) w w' := by
  have AL := Lib.hid (fun X (hX : Below w.heap.size w X) => RAllF cr p l xs hn X (hR.below hX) c (Nat.le_trans hc (Below.size hX)))
  have TT := Lib.hid (fun X A n C (hX : Below w.heap.size w X) (hF : FA xs c X A n C) => TurnF bS bM j D des k xs now vA vl c A n C hk X (SPG.below KL okL h hX) (JD.below KL hj hX) (Nat.le_trans hc (Below.size hX)) hl hF)
  clear h hj hR
  go_enter Tryz.func38, Tryz.ntmps38
  have z0 := Lib.hid (heap_alloc_new w (.cells #[.string k, .int .i64 kd0, .string t0, .slice A3 an3 ac3, .slice A4 an4 ac4, .slice A5 an5 ac5, .slice A6 an6 ac6, .int .i64 0] 45))
  have A1 := Lib.hid (alloc_old (w := w) (o := .cells #[.string k, .int .i64 kd0, .string t0, .slice A3 an3 ac3, .slice A4 an4 ac4, .slice A5 an5 ac5, .slice A6 an6 ac6, .int .i64 0] 45))
  go_wp2_with (first | (go_at_call 56; (with_reducible refine (AL.out _ A1.out).mono ?_); rintro e w1 ⟨A, n, C, rfl, hF1, h1⟩; have F1 := Lib.hid hF1; have B1 := Lib.hid h1; clear h1 hF1; refine Hid.out ?_))
  refine Lib.hid ?_
  have Z1 := blk_below z0.out B1.out
  obtain ⟨⟨c0, c1, c2, c3, c4, c5, c6, c7⟩, ⟨f0, f1, f2, f3, f4, f5, f6, f7⟩, zz⟩ := cells8 Z1
  have BW := Lib.hid ((((((((A1.out.trans (B1.out.mono (Below.size A1.out))).setCell (p := ⟨w.heap.size, 1, none⟩) (Nat.le_refl _) (.int .i64 2)).setCell (p := ⟨w.heap.size, 2, none⟩) (Nat.le_refl _) (.string ⟨#[]⟩)).setCell (p := ⟨w.heap.size, 3, none⟩) (Nat.le_refl _) (.slice A n C)).setCell (p := ⟨w.heap.size, 4, none⟩) (Nat.le_refl _) (.slice none 0 0)).setCell (p := ⟨w.heap.size, 5, none⟩) (Nat.le_refl _) (.slice none 0 0)).setCell (p := ⟨w.heap.size, 6, none⟩) (Nat.le_refl _) (.slice none 0 0)))
  have F6 := Lib.hid (F1.out.kept (fun g hg => far6c (F1.out.ne Z1 (by decide) g hg) (.int .i64 2) (.string ⟨#[]⟩) (.slice A n C) (.slice none 0 0) (.slice none 0 0) (.slice none 0 0)))
  have T6 := Lib.hid (TT.out _ A n C BW.out F6.out)
  clear Z1
  go_wp2_with (first | (go_at_call 69; (with_reducible refine (T6.out).mono ?_); rintro e w7 ⟨rfl, h7, hK7⟩; have H7 := Lib.hid h7; have K7 := Lib.hid hK7; clear h7 hK7))
  go_end0
  exact ⟨rfl, H7.out, (Kp.of BW.out).trans (K7.out.mono (Below.size BW.out) (fun _ h => h))⟩
end Go.Proofs.YtjljljjmdlddkaaGreat

/- lists.Do: the commands' functions by name; some of them hold captured variables. -/
namespace Go.MapT
open Go.MapKept Go.RowKit
theorem at_insertL {P : Program} {t key elem : TypeId} {ops : Array Oper} {rest : List Oper} {o : Oper} {a : Act} {Q : Exit → Act → World → Prop} (w : World) (hg : o.guard = none) (hd : o.dst = none) (m v : Operand) (k : ByteArray) (hop : o.op = Op.insert t m (.const (.string k)) v) (ht : P.underlying t = some (.map key elem)) (hk : P.underlying key = some .string)
    (b : Nat) (l : Ents) (hm : a.eval m = .map (some b)) (h : MB w b l) (u : Value) (hv : a.eval v = u)
    (hK : ∀ w', MB w' b (put k u l) → w.grownBy w' (some b) → wpList P ops Q rest a w') : wpList P ops Q (o :: rest) a w := by
  refine wpList_plain hg fun K' hK' => ?_
  obtain ⟨w', hrun, r1, r2, r3⟩ := run_update ht hk h k u
  unfold Oper.wp
  have hx : a.eval (.const (.string k)) = .string k := rfl
  simp [execOp, hop, hm, hx, hv, hrun, Result.andThen]
  refine hK' _ _ ?_
  rw [hd]
  exact hK w' r1 r2
theorem at_insertF {P : Program} {t key elem : TypeId} {ops : Array Oper} {rest : List Oper} {o : Oper} {a : Act} {Q : Exit → Act → World → Prop} (w : World) (hg : o.guard = none) (hd : o.dst = none) (m : Operand) (k : ByteArray) (f : FuncId) (hop : o.op = Op.insert t m (.const (.string k)) (.func f)) (ht : P.underlying t = some (.map key elem)) (hk : P.underlying key = some .string)
    (b : Nat) (l : Ents) (hm : a.eval m = .map (some b)) (h : MB w b l)
    (hK : ∀ w', MB w' b (put k (.func (.func f) #[] #[]) l) → w.grownBy w' (some b) → wpList P ops Q rest a w') : wpList P ops Q (o :: rest) a w :=
  at_insertL w hg hd m _ k hop ht hk b l hm h (.func (.func f) #[] #[]) rfl hK
end Go.MapT
namespace Go.Proofs.YtjljljjmdlddkaaGreat
open Go.ChangeShapes Go.WideShapes Go.ChangeAt Go.RowKit

/-- A command that pushes: its two captured variables. -/
def BX (bm : Nat) (u : Value) (f m : Bool) (X : World) : Prop := ∃ p q, u = .func (.func 15) #[] #[.pointer (some ⟨p, 0, none⟩), .pointer (some ⟨q, 0, none⟩)] ∧ p ≠ bm ∧ q ≠ bm ∧ X.heap[p]? = some (.cells #[.bool f] 4) ∧ X.heap[q]? = some (.cells #[.bool m] 4)
/-- A command that pops: its captured variable. -/
def BP (bm : Nat) (u : Value) (f : Bool) (X : World) : Prop := ∃ p, u = .func (.func 18) #[] #[.pointer (some ⟨p, 0, none⟩)] ∧ p ≠ bm ∧ X.heap[p]? = some (.cells #[.bool f] 4)
def KeepF (bm : Nat) (f : World → Prop) : Prop := ∀ X Y, f X → (∀ i, i < X.heap.size → i ≠ bm → Y.heap[i]? = X.heap[i]?) → f Y
theorem BX.keep (bm : Nat) (u : Value) (f m : Bool) : KeepF bm (BX bm u f m) := by
  rintro X Y ⟨p, q, h1, h2, h3, h4, h5⟩ hb
  exact ⟨p, q, h1, h2, h3, (hb p (lt_blk h4) h2).trans h4, (hb q (lt_blk h5) h3).trans h5⟩
theorem BP.keep (bm : Nat) (u : Value) (f : Bool) : KeepF bm (BP bm u f) := by
  rintro X Y ⟨p, h1, h2, h4⟩ hb
  exact ⟨p, h1, h2, (hb p (lt_blk h4) h2).trans h4⟩
set_option maxRecDepth 100000 in
set_option maxHeartbeats 4000000 in
theorem PUSH (bm : Nat) (f m : Bool) (w : World) (hb : bm < w.heap.size) : Calls Tryz.prog 14 #[.bool f, .bool m] w fun e w' => ∃ u, e = .returned u ∧ BX bm u f m w' ∧ Below w.heap.size w w' := by
  have hmf : ∀ (fn : Fn) (first cap : Array Value) (w : World), (Instr.makeFunc fn first cap).run Tryz.prog w = .ok (.func fn first cap) w := fun _ _ _ _ => rfl
  go_enter Tryz.func14, Tryz.ntmps14
  go_wp2
  go_ret
  refine ⟨_, rfl, ⟨_, _, rfl, by omega, by omega, blk_below (heap_alloc_new w _) alloc_old, ?_⟩, alloc_old.trans (alloc_old.mono (by simp))⟩
  exact new_next w _ _
set_option maxRecDepth 100000 in
set_option maxHeartbeats 4000000 in
theorem POP (bm : Nat) (f : Bool) (w : World) (hb : bm < w.heap.size) : Calls Tryz.prog 17 #[.bool f] w fun e w' => ∃ u, e = .returned u ∧ BP bm u f w' ∧ Below w.heap.size w w' := by
  have hmf : ∀ (fn : Fn) (first cap : Array Value) (w : World), (Instr.makeFunc fn first cap).run Tryz.prog w = .ok (.func fn first cap) w := fun _ _ _ _ => rfl
  go_enter Tryz.func17, Tryz.ntmps17
  go_wp2
  go_ret
  exact ⟨_, rfl, ⟨_, rfl, by omega, heap_alloc_new w _⟩, alloc_old⟩
/-- What stands while the map of commands is made. -/
structure DoSt (w X : World) (bm : Nat) (l : MapT.Ents) (fs : List (World → Prop)) : Prop where
  mb : MapT.MB X bm l
  below : Below w.heap.size w X
  hb : w.heap.size < bm
  reply : X.heap[w.heap.size]? = some (.cells #[.int .i64 0, .int .i64 0, .string ⟨#[]⟩, .slice none 0 0] 28)
  fs : ∀ f ∈ fs, f X ∧ KeepF bm f
theorem DoSt.call {w X Y : World} {bm : Nat} {l : MapT.Ents} {fs : List (World → Prop)} (h : DoSt w X bm l fs) (hb : Below X.heap.size X Y) {f : World → Prop} (hf : f Y) (hk : KeepF bm f) : DoSt w Y bm l (f :: fs) := by
  refine ⟨h.mb.below hb, h.below.trans (hb.mono (Below.size h.below)), h.hb, blk_below h.reply hb, fun g hg => ?_⟩
  rcases List.mem_cons.1 hg with rfl | hg
  · exact ⟨hf, hk⟩
  · exact ⟨(h.fs g hg).2 X Y (h.fs g hg).1 (fun i hi _ => hb.block i hi), (h.fs g hg).2⟩
theorem DoSt.ins {w X Y : World} {bm : Nat} {l l' : MapT.Ents} {fs : List (World → Prop)} (h : DoSt w X bm l fs) (h1 : MapT.MB Y bm l') (h2 : X.grownBy Y (some bm)) : DoSt w Y bm l' fs := by
  refine ⟨h1, h.below.grown h2 (Below.size h.below) (fun k hk => by cases hk; exact Nat.le_of_lt h.hb), h.hb, (grown_block h2 (lt_blk h.reply) (by have := h.hb; omega)).trans h.reply, fun g hg => ⟨(h.fs g hg).2 X Y (h.fs g hg).1 (fun i hi hn => grown_block h2 hi hn), (h.fs g hg).2⟩⟩
/-- The commands' functions. -/
abbrev flL (u1 u2 u3 u4 u5 u6 : Value) : MapT.Ents := MapT.put ⟨#[82, 80, 79, 80, 76, 80, 85, 83, 72]⟩ (.func (.func 28) #[] #[]) (MapT.put ⟨#[76, 73, 78, 83, 69, 82, 84]⟩ (.func (.func 27) #[] #[]) (MapT.put ⟨#[76, 82, 69, 77]⟩ (.func (.func 26) #[] #[]) (MapT.put ⟨#[76, 84, 82, 73, 77]⟩ (.func (.func 25) #[] #[]) (MapT.put ⟨#[76, 82, 65, 78, 71, 69]⟩ (.func (.func 24) #[] #[]) (MapT.put ⟨#[76, 83, 69, 84]⟩ (.func (.func 23) #[] #[]) (MapT.put ⟨#[76, 73, 78, 68, 69, 88]⟩ (.func (.func 22) #[] #[]) (MapT.put ⟨#[76, 76, 69, 78]⟩ (.func (.func 21) #[] #[]) (MapT.put ⟨#[82, 80, 79, 80]⟩ u6 (MapT.put ⟨#[76, 80, 79, 80]⟩ u5 (MapT.put ⟨#[82, 80, 85, 83, 72, 88]⟩ u4 (MapT.put ⟨#[76, 80, 85, 83, 72, 88]⟩ u3 (MapT.put ⟨#[82, 80, 85, 83, 72]⟩ u2 (MapT.put ⟨#[76, 80, 85, 83, 72]⟩ u1 ([]))))))))))))))
theorem sel_LPUSH (u1 u2 u3 u4 u5 u6 : Value) : MapT.find ⟨#[76, 80, 85, 83, 72]⟩ (flL u1 u2 u3 u4 u5 u6) = some u1 := by kernel_rfl
theorem sel_RPUSH (u1 u2 u3 u4 u5 u6 : Value) : MapT.find ⟨#[82, 80, 85, 83, 72]⟩ (flL u1 u2 u3 u4 u5 u6) = some u2 := by kernel_rfl
theorem sel_LPOP (u1 u2 u3 u4 u5 u6 : Value) : MapT.find ⟨#[76, 80, 79, 80]⟩ (flL u1 u2 u3 u4 u5 u6) = some u5 := by kernel_rfl
theorem sel_RPOP (u1 u2 u3 u4 u5 u6 : Value) : MapT.find ⟨#[82, 80, 79, 80]⟩ (flL u1 u2 u3 u4 u5 u6) = some u6 := by kernel_rfl
theorem sel_LLEN (u1 u2 u3 u4 u5 u6 : Value) : MapT.find ⟨#[76, 76, 69, 78]⟩ (flL u1 u2 u3 u4 u5 u6) = some (.func (.func 21) #[] #[]) := by kernel_rfl
theorem ent_LLEN (args : Array Value) (w : World) : (callFunc 21 args).run Tryz.prog w = .ok (.enter 21 args) w := by kernel_rfl
theorem sel_LINDEX (u1 u2 u3 u4 u5 u6 : Value) : MapT.find ⟨#[76, 73, 78, 68, 69, 88]⟩ (flL u1 u2 u3 u4 u5 u6) = some (.func (.func 22) #[] #[]) := by kernel_rfl
theorem ent_LINDEX (args : Array Value) (w : World) : (callFunc 22 args).run Tryz.prog w = .ok (.enter 22 args) w := by kernel_rfl
theorem sel_LSET (u1 u2 u3 u4 u5 u6 : Value) : MapT.find ⟨#[76, 83, 69, 84]⟩ (flL u1 u2 u3 u4 u5 u6) = some (.func (.func 23) #[] #[]) := by kernel_rfl
theorem ent_LSET (args : Array Value) (w : World) : (callFunc 23 args).run Tryz.prog w = .ok (.enter 23 args) w := by kernel_rfl
theorem sel_LRANGE (u1 u2 u3 u4 u5 u6 : Value) : MapT.find ⟨#[76, 82, 65, 78, 71, 69]⟩ (flL u1 u2 u3 u4 u5 u6) = some (.func (.func 24) #[] #[]) := by kernel_rfl
theorem ent_LRANGE (args : Array Value) (w : World) : (callFunc 24 args).run Tryz.prog w = .ok (.enter 24 args) w := by kernel_rfl
theorem sel_LTRIM (u1 u2 u3 u4 u5 u6 : Value) : MapT.find ⟨#[76, 84, 82, 73, 77]⟩ (flL u1 u2 u3 u4 u5 u6) = some (.func (.func 25) #[] #[]) := by kernel_rfl
theorem ent_LTRIM (args : Array Value) (w : World) : (callFunc 25 args).run Tryz.prog w = .ok (.enter 25 args) w := by kernel_rfl
theorem sel_LREM (u1 u2 u3 u4 u5 u6 : Value) : MapT.find ⟨#[76, 82, 69, 77]⟩ (flL u1 u2 u3 u4 u5 u6) = some (.func (.func 26) #[] #[]) := by kernel_rfl
theorem ent_LREM (args : Array Value) (w : World) : (callFunc 26 args).run Tryz.prog w = .ok (.enter 26 args) w := by kernel_rfl
theorem sel_LINSERT (u1 u2 u3 u4 u5 u6 : Value) : MapT.find ⟨#[76, 73, 78, 83, 69, 82, 84]⟩ (flL u1 u2 u3 u4 u5 u6) = some (.func (.func 27) #[] #[]) := by kernel_rfl
theorem ent_LINSERT (args : Array Value) (w : World) : (callFunc 27 args).run Tryz.prog w = .ok (.enter 27 args) w := by kernel_rfl
theorem sel_RPOPLPUSH (u1 u2 u3 u4 u5 u6 : Value) : MapT.find ⟨#[82, 80, 79, 80, 76, 80, 85, 83, 72]⟩ (flL u1 u2 u3 u4 u5 u6) = some (.func (.func 28) #[] #[]) := by kernel_rfl
theorem ent_RPOPLPUSH (args : Array Value) (w : World) : (callFunc 28 args).run Tryz.prog w = .ok (.enter 28 args) w := by kernel_rfl
theorem ent_push (args : Array Value) (w : World) : (callFunc 15 args).run Tryz.prog w = .ok (.enter 15 args) w := by kernel_rfl
theorem ent_pop (args : Array Value) (w : World) : (callFunc 18 args).run Tryz.prog w = .ok (.enter 18 args) w := by kernel_rfl
set_option maxRecDepth 100000 in
set_option maxHeartbeats 8000000 in
theorem Do_okL (RAW NAME : ByteArray) (bS bM : Nat) (l : MapT.Ents) (now : Int) (xs : List ByteArray) (vA : Value) (k n : Int) (s : ByteArray) (R E : Nat → World → Value → Prop) (hR : RKeep R) (hE : RKeep E) (w : World) (hS : SP w bS bM l) (hA : SSl w vA xs) (hx : xs[0]? = some RAW) (hfit : ∀ X, SSl X vA xs → Calls Tryz.prog 43 #[vA] X fun e w' => e = .returned (.int .i64 0) ∧ Below X.heap.size X w') (hup : ∀ X, Calls Tryz.prog 44 #[.string RAW] X fun e w' => e = .returned (.string NAME) ∧ Below X.heap.size X w')
    (hSel : ∀ (W : World) (bm : Nat) (u1 u2 u3 u4 u5 u6 : Value), Below w.heap.size w W → BX bm u1 true false W → BX bm u2 false false W → BX bm u3 true true W → BX bm u4 false true W → BP bm u5 true W → BP bm u6 false W → ∃ F caps, MapT.find NAME (flL u1 u2 u3 u4 u5 u6) = some (.func (.func F) #[] caps) ∧ (∀ (args : Array Value) (w : World), (callFunc F args).run Tryz.prog w = .ok (.enter F args) w) ∧ CmdOkG W F caps bS bM l now xs k n s R E) :
    Calls Tryz.prog 8 #[.pointer (some ⟨bS, 0, none⟩), .int .i64 now, vA] w fun e w' => ∃ A m c A' n' c', e = .returned (.tuple #[.agg #[.int .i64 k, .int .i64 n, .string s, .slice A m c], .slice A' n' c', .bool true]) ∧ R w.heap.size w' (.slice A m c) ∧ E w.heap.size w' (.slice A' n' c') ∧ Below w.heap.size w w' := by
  have hmm := @run_makeMap Tryz.prog
  have hmf : ∀ (fn : Fn) (first cap : Array Value) (w : World), (Instr.makeFunc fn first cap).run Tryz.prog w = .ok (.func fn first cap) w := fun _ _ _ _ => rfl
  have Q9 := Lib.hid (show DoSt w ((w.alloc (.cells #[.int .i64 0, .int .i64 0, .string ⟨#[]⟩, .slice none 0 0] 28)).alloc (.map #[] 0)) (w.heap.size + 1) [] [] from ⟨by
    have := MapT.MB.made (w.alloc (.cells #[.int .i64 0, .int .i64 0, .string ⟨#[]⟩, .slice none 0 0] 28))
    rw [World.size_alloc] at this
    exact this, alloc_old.trans (alloc_old.mono (by simp)), by omega, blk_below (heap_alloc_new w _) alloc_old, fun _ h => by cases h⟩)
  have RR := Lib.hid (fun X (u1 u2 u3 u4 u5 u6 : Value) (hX : DoSt w X (w.heap.size + 1) (flL u1 u2 u3 u4 u5 u6) [BP (w.heap.size + 1) u6 false, BP (w.heap.size + 1) u5 true, BX (w.heap.size + 1) u4 false true, BX (w.heap.size + 1) u3 true true, BX (w.heap.size + 1) u2 false false, BX (w.heap.size + 1) u1 true false]) => (show Calls Tryz.prog 20 #[.pointer (some ⟨bS, 0, none⟩), .int .i64 now, vA, .map (some (w.heap.size + 1))] X (fun e w' => ∃ A m c A' n' c', e = .returned (.tuple #[.agg #[.int .i64 k, .int .i64 n, .string s, .slice A m c], .slice A' n' c', .bool true]) ∧ R X.heap.size w' (.slice A m c) ∧ E X.heap.size w' (.slice A' n' c') ∧ Below X.heap.size X w') from by
    have hq := fun f hf => (hX.fs f hf).1
    obtain ⟨F, caps, h1, h2, h3⟩ := hSel X (w.heap.size + 1) u1 u2 u3 u4 u5 u6 hX.below (hq _ (by simp)) (hq _ (by simp)) (hq _ (by simp)) (hq _ (by simp)) (hq _ (by simp)) (hq _ (by simp))
    exact Run_okG X RAW NAME F caps bS bM (w.heap.size + 1) l _ now xs vA k n s R E h3 hR hE X (Below.refl _ _) (hS.below hX.below) (hA.below hX.below) hX.mb h1 hx h2 hfit hup))
  have P1 := Lib.hid (fun X hb => PUSH (w.heap.size + 1) true false X hb)
  have P2 := Lib.hid (fun X hb => PUSH (w.heap.size + 1) false false X hb)
  have P3 := Lib.hid (fun X hb => PUSH (w.heap.size + 1) true true X hb)
  have P4 := Lib.hid (fun X hb => PUSH (w.heap.size + 1) false true X hb)
  have P5 := Lib.hid (fun X hb => POP (w.heap.size + 1) true X hb)
  have P6 := Lib.hid (fun X hb => POP (w.heap.size + 1) false X hb)
  obtain ⟨aA, acap, hvA, _⟩ := id hA
  clear hfit hup hA hS hx hSel
  subst hvA
  go_enter Tryz.func8, Tryz.ntmps8
  go_wp2_with (first | (refine MapT.at_insertF _ rfl rfl _ _ _ rfl Tryz.underlying62 Tryz.underlying9 (w.heap.size + 1) _ rfl Q9.out.mb ?_; intro w9 hM9 hg9; have Q9 := Lib.hid (Q9.out.ins hM9 hg9); clear hM9 hg9) | (refine MapT.at_insertL _ rfl rfl _ _ _ rfl Tryz.underlying62 Tryz.underlying9 (w.heap.size + 1) _ rfl Q9.out.mb u rfl ?_; intro w9 hM9 hg9; have Q9 := Lib.hid (Q9.out.ins hM9 hg9); clear hM9 hg9) | (go_at_call 14; (first | (with_reducible refine (P1.out _ Q9.out.mb.lt).mono ?_) | (with_reducible refine (P2.out _ Q9.out.mb.lt).mono ?_) | (with_reducible refine (P3.out _ Q9.out.mb.lt).mono ?_) | (with_reducible refine (P4.out _ Q9.out.mb.lt).mono ?_)); rintro e w8 ⟨u, rfl, hu, h8⟩; have Q9 := Lib.hid (Q9.out.call h8 hu (BX.keep _ _ _ _)); clear hu h8) | (go_at_call 17; (first | (with_reducible refine (P5.out _ Q9.out.mb.lt).mono ?_) | (with_reducible refine (P6.out _ Q9.out.mb.lt).mono ?_)); rintro e w8 ⟨u, rfl, hu, h8⟩; have Q9 := Lib.hid (Q9.out.call h8 hu (BP.keep _ _ _)); clear hu h8) | (go_at_call 20; (with_reducible refine (RR.out _ _ _ _ _ _ _ Q9.out).mono ?_); rintro e w5 ⟨A, m, c, A', n', c', rfl, hRR, hE5, hb5⟩; have B5 := Lib.hid hb5; obtain ⟨⟨a0, a1, a2, a3⟩, ⟨f0, f1, f2, f3⟩⟩ := cells4 (blk_below Q9.out.reply hb5); clear hb5))
  have BW := Lib.hid (Q9.out.below.trans (B5.out.mono (Below.size Q9.out.below)))
  have hle : w.heap.size + 1 ≤ w9.heap.size := Nat.le_of_lt (Q9.out.mb).lt
  have hfar : ∀ i, w.heap.size + 1 ≤ i → i < w5.heap.size → (((((w5.setCell ⟨w.heap.size, 0, none⟩ (.int .i64 k)).setCell ⟨w.heap.size, 1, none⟩ (.int .i64 n)).setCell ⟨w.heap.size, 2, none⟩ (.string s)).setCell ⟨w.heap.size, 3, none⟩ (.slice A m c))).heap[i]? = w5.heap[i]? := fun i hi _ => far4 (X := w5) (b := w.heap.size) _ _ _ _ (by omega)
  have hsz : w5.heap.size ≤ (((((w5.setCell ⟨w.heap.size, 0, none⟩ (.int .i64 k)).setCell ⟨w.heap.size, 1, none⟩ (.int .i64 n)).setCell ⟨w.heap.size, 2, none⟩ (.string s)).setCell ⟨w.heap.size, 3, none⟩ (.slice A m c))).heap.size := by simp [World.setCell]
  have hR6 := hR.kept _ _ _ _ (hR.mono _ (w.heap.size + 1) _ _ hRR hle) hsz hfar
  have hE6 := hE.kept _ _ _ _ (hE.mono _ (w.heap.size + 1) _ _ hE5 hle) hsz hfar
  exact bodyPost_ret (v := .tuple #[.agg #[.int .i64 k, .int .i64 n, .string s, .slice A m c], .slice A' n' c', .bool true]) (by simp [results, Tryz.results8, go_sem, a0, a1, a2, a3]) rfl ⟨A, m, c, A', n', c', rfl, hR.mono _ _ _ _ hR6 (by omega), hE.mono _ _ _ _ hE6 (by omega), (((BW.out.setCell (p := ⟨w.heap.size, 0, none⟩) (Nat.le_refl _) _).setCell (p := ⟨w.heap.size, 1, none⟩) (Nat.le_refl _) _).setCell (p := ⟨w.heap.size, 2, none⟩) (Nat.le_refl _) _).setCell (p := ⟨w.heap.size, 3, none⟩) (Nat.le_refl _) _⟩
end Go.Proofs.YtjljljjmdlddkaaGreat
