/- Texts joined: G10, G12, Rw, Fl, V1P -/
import Derived.Test.YticlacjpgjkhcaaGreatDoorQn13
import Derived.Test.YticlacjpgjkhcaaGreatDoorQn3
import Derived.Test.YticlacjpgjkhcaaGreatDoorQn9
import Derived.Test.YticlacjpgjkhcaaGreatDoorQn8
import Derived.Deep.AppendLies
import Derived.Laws.ComplexArith

/- A job's look at a key of a kind, at a space as data. -/
namespace Go.Proofs.YticlacjpgjkhcaaGreatDoor
open Go.ChangeShapes Go.WideShapes Go.ChangeAt Go.RowKit

set_option maxRecDepth 100000 in
set_option maxHeartbeats 4000000 in
theorem Of_yesG {α : Type} (K : Kd α) (ok : ByteArray → α → Prop) (hO : KdOk K ok) (bS bM j : Nat) (l : MapT.Ents) (k : ByteArray) (x : α) (now : Int) (vA vl : Value) (A3 A4 A5 A6 : Option Addr) (an3 ac3 an4 ac4 an5 ac5 an6 ac6 : Nat) (hk : ok k x) (hf : MapT.find k l = some (.agg #[.string k, .int .i64 K.kd, .string ⟨#[]⟩, .slice A3 an3 ac3, .slice A4 an4 ac4, .slice A5 an5 ac5, .slice A6 an6 ac6, .int .i64 0])) (w : World) (h : SP w bS bM l) (hj : JB w j bS now vA vl) (hss : K.V w x (.slice A3 an3 ac3) (.slice A4 an4 ac4) (.slice A5 an5 ac5) (.slice A6 an6 ac6)) : Calls Tryz.prog 130 #[.pointer (some ⟨j, 0, none⟩), .string k, .int .i64 K.kd] w fun e w' => ∃ Y3 Y4 Y5 Y6 yn3 yc3 yn4 yc4 yn5 yc5 yn6 yc6, e = .returned (.tuple #[.agg #[.string k, .int .i64 K.kd, .string ⟨#[]⟩, .slice Y3 yn3 yc3, .slice Y4 yn4 yc4, .slice Y5 yn5 yc5, .slice Y6 yn6 yc6, .int .i64 0], .bool true]) ∧ K.V w' x (.slice Y3 yn3 yc3) (.slice Y4 yn4 yc4) (.slice Y5 yn5 yc5) (.slice Y6 yn6 yc6) ∧ (∀ g, Own (.slice Y3 yn3 yc3) (.slice Y4 yn4 yc4) (.slice Y5 yn5 yc5) (.slice Y6 yn6 yc6) g → w.heap.size ≤ g) ∧ Below w.heap.size w w' := by
  have G := JGet_yesG K ok hO bS bM j l k x now vA vl A3 A4 A5 A6 an3 ac3 an4 ac4 an5 ac5 an6 ac6 hk hf _ (h.below (alloc_old (w := w) (o := .cells #[.string ⟨#[]⟩, .int .i64 0, .string ⟨#[]⟩, .slice none 0 0, .slice none 0 0, .slice none 0 0, .slice none 0 0, .int .i64 0] 66))) (hj.below (alloc_old (w := w) (o := .cells #[.string ⟨#[]⟩, .int .i64 0, .string ⟨#[]⟩, .slice none 0 0, .slice none 0 0, .slice none 0 0, .slice none 0 0, .int .i64 0] 66))) (K.below hss (alloc_old (w := w) (o := .cells #[.string ⟨#[]⟩, .int .i64 0, .string ⟨#[]⟩, .slice none 0 0, .slice none 0 0, .slice none 0 0, .slice none 0 0, .int .i64 0] 66)))
  have hz : (w.alloc (.cells #[.string ⟨#[]⟩, .int .i64 0, .string ⟨#[]⟩, .slice none 0 0, .slice none 0 0, .slice none 0 0, .slice none 0 0, .int .i64 0] 66)).heap.size = w.heap.size + 1 := by simp
  have HZ := Lib.hid hz
  obtain ⟨kd, hkd⟩ : ∃ kd, K.kd = kd := ⟨_, rfl⟩
  simp only [hkd] at G ⊢
  have G := Lib.hid G
  have z0 := Lib.hid (heap_alloc_new w (.cells #[.string ⟨#[]⟩, .int .i64 0, .string ⟨#[]⟩, .slice none 0 0, .slice none 0 0, .slice none 0 0, .slice none 0 0, .int .i64 0] 66))
  clear h hj hf hk hss hkd hz
  go_enter Tryz.func130, Tryz.ntmps130
  go_wp2_with (first | (go_at_call 181; (with_reducible refine (G.out).mono ?_); rintro e w1 ⟨Y3, Y4, Y5, Y6, yn3, yc3, yn4, yc4, yn5, yc5, yn6, yc6, rfl, hV1, hg1, h1⟩; have HV := Lib.hid hV1; have HG := Lib.hid hg1; have B1 := Lib.hid h1; clear h1 hV1 hg1; obtain ⟨⟨c0, c1, c2, c3, c4, c5, c6, c7⟩, ⟨f0, f1, f2, f3, f4, f5, f6, f7⟩, z1⟩ := cells8 (blk_below z0.out B1.out)))
  have hge := HG.out
  have hz := HZ.out
  rw [hz] at hge
  have hn1 : ∀ g, Own (.slice Y3 yn3 yc3) (.slice Y4 yn4 yc4) (.slice Y5 yn5 yc5) (.slice Y6 yn6 yc6) g → g ≠ w.heap.size := fun g hg => by have := hge g hg; omega
  exact bodyPost_ret (v := .tuple #[.agg #[.string k, .int .i64 kd, .string ⟨#[]⟩, .slice Y3 yn3 yc3, .slice Y4 yn4 yc4, .slice Y5 yn5 yc5, .slice Y6 yn6 yc6, .int .i64 0], .bool true]) (by simp [results, Tryz.results130, go_sem, c0, c1, c2, c3, c4, c5, c6, c7, z1]) rfl ⟨Y3, Y4, Y5, Y6, yn3, yc3, yn4, yc4, yn5, yc5, yn6, yc6, rfl, K.below (K.kept HV.out (fun g' hg' => far8b (hn1 g' hg') _ _ _ _ _ _ _ _)) alloc_old, fun g hg => by have := hge g hg; omega, (((((((((alloc_old.trans (B1.out.mono (by simp))).setCell (Nat.le_refl _) _).setCell (Nat.le_refl _) _).setCell (Nat.le_refl _) _).setCell (Nat.le_refl _) _).setCell (Nat.le_refl _) _).setCell (Nat.le_refl _) _).setCell (Nat.le_refl _) _).setCell (Nat.le_refl _) _).alloc (by have := Below.size B1.out; simp at this ⊢; omega) _⟩
theorem OfD_no {α : Type} (K : Kd α) (ok : ByteArray → α → Prop) (bS bM j : Nat) (D : List (ByteArray × α)) (k : ByteArray) (now : Int) (vA vl : Value) (hf : findD k D = none) (w : World) (h : SPG K ok w bS bM D) (hj : JB w j bS now vA vl) : Calls Tryz.prog 130 #[.pointer (some ⟨j, 0, none⟩), .string k, .int .i64 K.kd] w fun e w' => e = .returned (.tuple #[.agg #[.string k, .int .i64 K.kd, .string ⟨#[]⟩, .slice none 0 0, .slice none 0 0, .slice none 0 0, .slice none 0 0, .int .i64 0], .bool false]) ∧ Below w.heap.size w w' := by
  obtain ⟨⟨l, hS, hA⟩, _⟩ := h
  exact Of_no bS bM j l k now vA vl K.kd (AllE.find_none K hA hf) w hS hj
theorem OfD_yes {α : Type} (K : Kd α) (ok : ByteArray → α → Prop) (hO : KdOk K ok) (bS bM j : Nat) (D : List (ByteArray × α)) (k : ByteArray) (x : α) (now : Int) (vA vl : Value) (hf : findD k D = some x) (w : World) (h : SPG K ok w bS bM D) (hj : JB w j bS now vA vl) : Calls Tryz.prog 130 #[.pointer (some ⟨j, 0, none⟩), .string k, .int .i64 K.kd] w fun e w' => ∃ Y3 Y4 Y5 Y6 yn3 yc3 yn4 yc4 yn5 yc5 yn6 yc6, e = .returned (.tuple #[.agg #[.string k, .int .i64 K.kd, .string ⟨#[]⟩, .slice Y3 yn3 yc3, .slice Y4 yn4 yc4, .slice Y5 yn5 yc5, .slice Y6 yn6 yc6, .int .i64 0], .bool true]) ∧ K.V w' x (.slice Y3 yn3 yc3) (.slice Y4 yn4 yc4) (.slice Y5 yn5 yc5) (.slice Y6 yn6 yc6) ∧ (∀ g, Own (.slice Y3 yn3 yc3) (.slice Y4 yn4 yc4) (.slice Y5 yn5 yc5) (.slice Y6 yn6 yc6) g → w.heap.size ≤ g) ∧ Below w.heap.size w w' := by
  obtain ⟨⟨l, hS, hA⟩, hall⟩ := h
  obtain ⟨A3, A4, A5, A6, an3, ac3, an4, ac4, an5, ac5, an6, ac6, hf2, hV2⟩ := AllE.find_some K hA hf
  exact Of_yesG K ok hO bS bM j l k x now vA vl A3 A4 A5 A6 an3 ac3 an4 ac4 an5 ac5 an6 ac6 (hall _ (findD_mem hf)) hf2 w hS hj hV2
/-- A job's Get, over data. -/
theorem JGetD_no {α : Type} (K : Kd α) (ok : ByteArray → α → Prop) (bS bM j : Nat) (D : List (ByteArray × α)) (k : ByteArray) (now : Int) (vA vl : Value) (hf : findD k D = none) (w : World) (h : SPG K ok w bS bM D) (hj : JB w j bS now vA vl) : Calls Tryz.prog 181 #[.pointer (some ⟨j, 0, none⟩), .string k] w fun e w' => e = .returned (.tuple #[.agg #[.string k, .int .i64 0, .string ⟨#[]⟩, .slice none 0 0, .slice none 0 0, .slice none 0 0, .slice none 0 0, .int .i64 0], .bool false]) ∧ Below w.heap.size w w' := by
  obtain ⟨⟨l, hS, hA⟩, _⟩ := h
  exact JGet_no bS bM j l k now vA vl (AllE.find_none K hA hf) w hS hj
theorem JGetD_yes {α : Type} (K : Kd α) (ok : ByteArray → α → Prop) (hO : KdOk K ok) (bS bM j : Nat) (D : List (ByteArray × α)) (k : ByteArray) (x : α) (now : Int) (vA vl : Value) (hf : findD k D = some x) (w : World) (h : SPG K ok w bS bM D) (hj : JB w j bS now vA vl) : Calls Tryz.prog 181 #[.pointer (some ⟨j, 0, none⟩), .string k] w fun e w' => ∃ Y3 Y4 Y5 Y6 yn3 yc3 yn4 yc4 yn5 yc5 yn6 yc6, e = .returned (.tuple #[.agg #[.string k, .int .i64 K.kd, .string ⟨#[]⟩, .slice Y3 yn3 yc3, .slice Y4 yn4 yc4, .slice Y5 yn5 yc5, .slice Y6 yn6 yc6, .int .i64 0], .bool true]) ∧ K.V w' x (.slice Y3 yn3 yc3) (.slice Y4 yn4 yc4) (.slice Y5 yn5 yc5) (.slice Y6 yn6 yc6) ∧ (∀ g, Own (.slice Y3 yn3 yc3) (.slice Y4 yn4 yc4) (.slice Y5 yn5 yc5) (.slice Y6 yn6 yc6) g → w.heap.size ≤ g) ∧ Below w.heap.size w w' := by
  obtain ⟨⟨l, hS, hA⟩, hall⟩ := h
  obtain ⟨A3, A4, A5, A6, an3, ac3, an4, ac4, an5, ac5, an6, ac6, hf2, hV2⟩ := AllE.find_some K hA hf
  exact JGet_yesG K ok hO bS bM j l k x now vA vl A3 A4 A5 A6 an3 ac3 an4 ac4 an5 ac5 an6 ac6 (hall _ (findD_mem hf)) hf2 w hS hj hV2
end Go.Proofs.YticlacjpgjkhcaaGreatDoor

/- A job's Turn over data: which effect it lays behind the others. -/
namespace Go.Proofs.YticlacjpgjkhcaaGreatDoor
open Go.ChangeShapes Go.WideShapes Go.ChangeAt Go.RowKit

/-- A job whose effects are told as data. -/
def JD {α : Type} (K : Kd α) (w : World) (j bS : Nat) (now : Int) (vA : Value) (c : Nat) (vl : Value) (des : List (ByteArray × Option α)) : Prop := (∃ A n cap, vl = .slice A n cap) ∧ JB w j bS now vA vl ∧ ∃ css, EFC w c vl css ∧ ALC K c w des css
theorem JD.nil {α : Type} (K : Kd α) {w : World} {j bS : Nat} {now : Int} {vA : Value} (c : Nat) (h : JB w j bS now vA (.slice none 0 0)) : JD K w j bS now vA c (.slice none 0 0) [] := ⟨⟨_, _, _, rfl⟩, h, [], EFC.nil w c, trivial⟩
theorem JD.below {α : Type} (K : Kd α) {w w' : World} {j bS : Nat} {now : Int} {vA : Value} {c : Nat} {vl : Value} {des : List (ByteArray × Option α)} (h : JD K w j bS now vA c vl des) (hb : Below w.heap.size w w') : JD K w' j bS now vA c vl des := by
  obtain ⟨h1, h2, css, h3, h4⟩ := h
  exact ⟨h1, h2.below hb, css, h3.below hb, ALC.kept K (fun x a b d e hV _ g hg => hb.block g (K.lt hV hg)) h4⟩
/-- The blocks of a kind's values are none of a job's. -/
theorem Kd.far {α : Type} (K : Kd α) {w : World} {x : α} {a b d e : Value} {g : Nat} (hV : K.V w x a b d e) (hg : Own a b d e g) {j bS : Nat} {now : Int} {vA vl : Value} (hj : JB w j bS now vA vl) {c : Nat} {css : List (List Value)} (hE : EFC w c vl css) : g ≠ j ∧ vl.ownBlock ≠ some g := by
  obtain ⟨cs, t, h1, h2, h3, h4, h5, h6⟩ := K.typ hV hg
  refine ⟨fun e => ?_, fun e => ?_⟩
  · subst e
    unfold JB at hj
    rw [hj] at h1
    cases h1
    exact h4 rfl
  · obtain ⟨_, cur, hh⟩ := hE.own g e
    rw [hh] at h1
    cases h1
    exact h3 rfl
theorem JD.step {α : Type} (K : Kd α) {w w' : World} {j bS : Nat} {now : Int} {vA : Value} {c : Nat} {vl : Value} {des : List (ByteArray × Option α)} (hj : JB w j bS now vA vl) {css : List (List Value)} (hE : EFC w c vl css) (hA : ALC K c w des css) {cs : List Value} (h : JE w' j bS now vA c (css ++ [cs])) (hK : Kp w.heap.size (fun i => i ≠ j ∧ vl.ownBlock ≠ some i) w w') {p : ByteArray × Option α} (hp : EC K c w' p cs) : ∃ vl', JD K w' j bS now vA c vl' (des ++ [p]) := by
  obtain ⟨A, n, cap, h1, h2⟩ := h
  exact ⟨_, ⟨_, _, _, rfl⟩, h1, _, h2, ALC.append K hp (ALC.kept K (fun x a b d e hV _ g hg => hK.block g (K.lt hV hg) (K.far hV hg hj hE)) hA)⟩
/-- What more a kind's values must answer. -/
structure KdSame {α : Type} [DecidableEq α] (K : Kd α) where
  len : ∀ (x : α) (A3 A4 A5 A6 : Option Addr) (an3 ac3 an4 ac4 an5 ac5 an6 ac6 : Nat) (w : World), K.V w x (.slice A3 an3 ac3) (.slice A4 an4 ac4) (.slice A5 an5 ac5) (.slice A6 an6 ac6) → ∃ m : Int, ¬ m = 0 ∧ ∀ X, Below w.heap.size w X → Calls Tryz.prog 165 #[.agg #[.int .i64 K.kd, .string ⟨#[]⟩, .slice A3 an3 ac3, .slice A4 an4 ac4, .slice A5 an5 ac5, .slice A6 an6 ac6]] X fun e w' => e = .returned (.int .i64 m) ∧ Below X.heap.size X w'
  len0 : ∀ (w : World), Calls Tryz.prog 165 #[.agg #[.int .i64 K.kd, .string ⟨#[]⟩, .slice none 0 0, .slice none 0 0, .slice none 0 0, .slice none 0 0]] w fun e w' => e = .returned (.int .i64 0) ∧ Below w.heap.size w w'
  same : ∀ (x y : α) (A3 A4 A5 A6 : Option Addr) (an3 ac3 an4 ac4 an5 ac5 an6 ac6 : Nat) (Y3 Y4 Y5 Y6 : Option Addr) (yn3 yc3 yn4 yc4 yn5 yc5 yn6 yc6 : Nat) (w : World), K.V w x (.slice A3 an3 ac3) (.slice A4 an4 ac4) (.slice A5 an5 ac5) (.slice A6 an6 ac6) → K.V w y (.slice Y3 yn3 yc3) (.slice Y4 yn4 yc4) (.slice Y5 yn5 yc5) (.slice Y6 yn6 yc6) → Calls Tryz.prog 211 #[.agg #[.int .i64 K.kd, .string ⟨#[]⟩, .slice A3 an3 ac3, .slice A4 an4 ac4, .slice A5 an5 ac5, .slice A6 an6 ac6], .agg #[.int .i64 K.kd, .string ⟨#[]⟩, .slice Y3 yn3 yc3, .slice Y4 yn4 yc4, .slice Y5 yn5 yc5, .slice Y6 yn6 yc6]] w fun e w' => e = .returned (.bool (decide (x = y))) ∧ Below w.heap.size w w'
/-- The effect of a turned value, as data. -/
def dEff {α : Type} [DecidableEq α] (k : ByteArray) (xo : Option α) (D : List (ByteArray × α)) : List (ByteArray × Option α) :=
  match findD k D, xo with
  | none, none => []
  | some _, none => [(k, none)]
  | none, some x => [(k, some x)]
  | some y, some x => if y = x then [] else [(k, some x)]
/-- Turn of a value. -/
theorem TurnD_some {α : Type} [DecidableEq α] (K : Kd α) (ok : ByteArray → α → Prop) (hO : KdOk K ok) (hS : KdSame K) (bS bM j : Nat) (D : List (ByteArray × α)) (des : List (ByteArray × Option α)) (k : ByteArray) (x : α) (now : Int) (vA vl : Value) (c : Nat) (A3 A4 A5 A6 : Option Addr) (an3 ac3 an4 ac4 an5 ac5 an6 ac6 : Nat) (hk : ok k x) (w : World) (h : SPG K ok w bS bM D) (hj : JD K w j bS now vA c vl des) (hc : c ≤ w.heap.size) (hl : des.length ≤ 100000) (hV : K.V w x (.slice A3 an3 ac3) (.slice A4 an4 ac4) (.slice A5 an5 ac5) (.slice A6 an6 ac6)) (hg : ∀ g, Own (.slice A3 an3 ac3) (.slice A4 an4 ac4) (.slice A5 an5 ac5) (.slice A6 an6 ac6) g → c ≤ g) : Calls Tryz.prog 161 #[.pointer (some ⟨j, 0, none⟩), .agg #[.string k, .int .i64 K.kd, .string ⟨#[]⟩, .slice A3 an3 ac3, .slice A4 an4 ac4, .slice A5 an5 ac5, .slice A6 an6 ac6, .int .i64 0]] w fun e w' => e = .returned (.tuple #[]) ∧ (∃ vl', JD K w' j bS now vA c vl' (des ++ dEff k (some x) D)) ∧ Kp w.heap.size (fun i => i ≠ j ∧ vl.ownBlock ≠ some i) w w' := by
  have hj0 := hj
  obtain ⟨⟨A, n, cap, rfl⟩, hJ, css, hE, hA⟩ := hj
  obtain ⟨m, hm, hLn⟩ := hS.len x A3 A4 A5 A6 an3 ac3 an4 ac4 an5 ac5 an6 ac6 w hV
  have hM := fun X (hX : Below w.heap.size w X) => hO.may k x A3 A4 A5 A6 an3 ac3 an4 ac4 an5 ac5 an6 ac6 X hk (K.below hV hX)
  have hl2 : css.length ≤ 100000 := by rw [ALC.len K hA]; exact hl
  have hend : ∀ w', JE w' j bS now vA c (css ++ [[.string k, .int .i64 K.kd, .string ⟨#[]⟩, .slice A3 an3 ac3, .slice A4 an4 ac4, .slice A5 an5 ac5, .slice A6 an6 ac6, .int .i64 0]]) → Kp w.heap.size (fun i => i ≠ j ∧ (Value.slice A n cap).ownBlock ≠ some i) w w' → ∃ vl', JD K w' j bS now vA c vl' (des ++ [(k, some x)]) := fun w' h1 h2 =>
    JD.step K hJ hE hA h1 h2 ⟨A3, A4, A5, A6, an3, ac3, an4, ac4, an5, ac5, an6, ac6, rfl, K.kept hV (fun g hg => h2.block g (K.lt hV hg) (K.far hV hg hJ hE)), hg⟩
  unfold dEff
  cases hf : findD k D with
  | none =>
    refine (TurnC_new j bS now vA A n cap css c w hJ hE hc hl2 k K.kd ⟨#[]⟩ A3 A4 A5 A6 an3 ac3 an4 ac4 an5 ac5 an6 ac6 0 K.nz.2 (fun X hX => JGetD_no K ok bS bM j D k now vA _ hf X (SPG.below K ok h hX) (hJ.below hX)) m hLn hm hM).mono ?_
    rintro e w' ⟨rfl, h1, h2⟩
    exact ⟨rfl, hend w' h1 h2, h2⟩
  | some y =>
    by_cases hy : y = x
    · simp only [hy, if_true, List.append_nil]
      refine (TurnC_same j w k K.kd ⟨#[]⟩ A3 A4 A5 A6 an3 ac3 an4 ac4 an5 ac5 an6 ac6 0 K.nz.2 (fun X hX => ?_) m hLn hm).mono ?_
      · refine (JGetD_yes K ok hO bS bM j D k y now vA _ hf X (SPG.below K ok h hX) (hJ.below hX)).mono ?_
        rintro e w' ⟨Y3, Y4, Y5, Y6, yn3, yc3, yn4, yc4, yn5, yc5, yn6, yc6, rfl, h1, _, h2⟩
        refine ⟨K.kd, ⟨#[]⟩, Y3, Y4, Y5, Y6, yn3, yc3, yn4, yc4, yn5, yc5, yn6, yc6, rfl, h2, fun Y hY => ?_⟩
        have := hS.same y x Y3 Y4 Y5 Y6 yn3 yc3 yn4 yc4 yn5 yc5 yn6 yc6 A3 A4 A5 A6 an3 ac3 an4 ac4 an5 ac5 an6 ac6 Y (K.below h1 hY) (K.below hV ((hX.trans (h2.mono (Below.size hX))).trans (hY.mono (Nat.le_trans (Below.size hX) (Below.size h2)))))
        rw [decide_eq_true hy] at this
        exact this
      · rintro e w' ⟨rfl, h1⟩
        exact ⟨rfl, ⟨_, JD.below K hj0 h1⟩, .of h1⟩
    · simp only [hy, if_false]
      refine (TurnC_diff j bS now vA A n cap css c w hJ hE hc hl2 k K.kd ⟨#[]⟩ A3 A4 A5 A6 an3 ac3 an4 ac4 an5 ac5 an6 ac6 0 K.nz.2 (fun X hX => ?_) m hLn hm hM).mono ?_
      · refine (JGetD_yes K ok hO bS bM j D k y now vA _ hf X (SPG.below K ok h hX) (hJ.below hX)).mono ?_
        rintro e w' ⟨Y3, Y4, Y5, Y6, yn3, yc3, yn4, yc4, yn5, yc5, yn6, yc6, rfl, h1, _, h2⟩
        refine ⟨K.kd, ⟨#[]⟩, Y3, Y4, Y5, Y6, yn3, yc3, yn4, yc4, yn5, yc5, yn6, yc6, rfl, h2, fun Y hY => ?_⟩
        have := hS.same y x Y3 Y4 Y5 Y6 yn3 yc3 yn4 yc4 yn5 yc5 yn6 yc6 A3 A4 A5 A6 an3 ac3 an4 ac4 an5 ac5 an6 ac6 Y (K.below h1 hY) (K.below hV ((hX.trans (h2.mono (Below.size hX))).trans (hY.mono (Nat.le_trans (Below.size hX) (Below.size h2)))))
        rw [decide_eq_false hy] at this
        exact this
      · rintro e w' ⟨rfl, h1, h2⟩
        exact ⟨rfl, hend w' h1 h2, h2⟩
/-- Turn of a value without elements. -/
theorem TurnD_none {α : Type} [DecidableEq α] (K : Kd α) (ok : ByteArray → α → Prop) (hO : KdOk K ok) (hS : KdSame K) (bS bM j : Nat) (D : List (ByteArray × α)) (des : List (ByteArray × Option α)) (k : ByteArray) (now : Int) (vA vl : Value) (c : Nat) (w : World) (h : SPG K ok w bS bM D) (hj : JD K w j bS now vA c vl des) (hc : c ≤ w.heap.size) (hl : des.length ≤ 100000) : Calls Tryz.prog 161 #[.pointer (some ⟨j, 0, none⟩), .agg #[.string k, .int .i64 K.kd, .string ⟨#[]⟩, .slice none 0 0, .slice none 0 0, .slice none 0 0, .slice none 0 0, .int .i64 0]] w fun e w' => e = .returned (.tuple #[]) ∧ (∃ vl', JD K w' j bS now vA c vl' (des ++ dEff k none D)) ∧ Kp w.heap.size (fun i => i ≠ j ∧ vl.ownBlock ≠ some i) w w' := by
  have hj0 := hj
  obtain ⟨⟨A, n, cap, rfl⟩, hJ, css, hE, hA⟩ := hj
  have hl2 : css.length ≤ 100000 := by rw [ALC.len K hA]; exact hl
  unfold dEff
  cases hf : findD k D with
  | none =>
    simp only [List.append_nil]
    refine (TurnC_none j w k K.kd ⟨#[]⟩ none none none none 0 0 0 0 0 0 0 0 0 K.nz.2 (fun X hX => JGetD_no K ok bS bM j D k now vA _ hf X (SPG.below K ok h hX) (hJ.below hX)) 0 (fun X _ => hS.len0 X) rfl).mono ?_
    rintro e w' ⟨rfl, h1⟩
    exact ⟨rfl, ⟨_, JD.below K hj0 h1⟩, .of h1⟩
  | some y =>
    refine (TurnC_gone j bS now vA A n cap css c w hJ hE hc hl2 k K.kd ⟨#[]⟩ none none none none 0 0 0 0 0 0 0 0 0 K.nz.2 (fun X hX => ?_) 0 (fun X _ => hS.len0 X) rfl).mono ?_
    · refine (JGetD_yes K ok hO bS bM j D k y now vA _ hf X (SPG.below K ok h hX) (hJ.below hX)).mono ?_
      rintro e w' ⟨Y3, Y4, Y5, Y6, yn3, yc3, yn4, yc4, yn5, yc5, yn6, yc6, rfl, h1, _, h2⟩
      exact ⟨K.kd, ⟨#[]⟩, 0, Y3, Y4, Y5, Y6, yn3, yc3, yn4, yc4, yn5, yc5, yn6, yc6, rfl, h2⟩
    · rintro e w' ⟨rfl, h1, h2⟩
      exact ⟨rfl, JD.step K hJ hE hA h1 h2 (show EC K c w' (k, none) _ from rfl), h2⟩
end Go.Proofs.YticlacjpgjkhcaaGreatDoor

/- Rows of the call's own: what any kind asks. -/
namespace Go.Proofs.YticlacjpgjkhcaaGreatDoor
open Go.ChangeShapes Go.WideShapes Go.ChangeAt Go.RowKit

theorem row_typ {w : World} {c : Nat} {e : TypeId} {m : Nat} {v : Value} {n : Nat} {xs : List Value} (h : w.ownsRow c e m v n xs) : ∀ g, v.ownBlock = some g → ∃ cs, w.heap[g]? = some (.cells cs e) := by
  intro g hg
  unfold World.ownsRow at h
  obtain ⟨_, ⟨rfl, _⟩ | ⟨g', cap, cur, rfl, h1, h2, _⟩⟩ := h
  · cases hg
  · cases hg
    exact ⟨cur, h2⟩
theorem row_form {w : World} {c : Nat} {e : TypeId} {m : Nat} {v : Value} {n : Nat} {xs : List Value} (h : w.ownsRow c e m v n xs) : ∃ A C, v = .slice A n C ∧ (n = 0 ∨ ∃ g, A = some ⟨g, 0, none⟩) ∧ n ≤ C := by
  unfold World.ownsRow at h
  obtain ⟨_, ⟨rfl, rfl⟩ | ⟨g', cap, cur, rfl, h1, h2, h3, _⟩⟩ := h
  · exact ⟨none, 0, rfl, .inl rfl, Nat.le_refl _⟩
  · exact ⟨_, cap, rfl, .inr ⟨g', rfl⟩, h3⟩
end Go.Proofs.YticlacjpgjkhcaaGreatDoor

namespace Go.Fl
open Ieee

/-- The double of a sign and a whole magnitude. -/
def fz (s : Bool) (m : Nat) : Nat := double.nearest s m 0
def sg (s : Bool) (m : Nat) : Int := if s then -(m : Int) else (m : Int)
/-- The datum 'd' is the whole number 'm' with the sign 's', at some place that is not above 0. -/
def Rep (d : Datum) (s : Bool) (m : Nat) : Prop := ∃ k : Nat, d = .number s (m * 2 ^ k) (-(k : Int))

theorem two_pow_pos (k : Nat) : 0 < 2 ^ k := Nat.two_pow_pos k

theorem log2_mul_pow (m k : Nat) (hm : m ≠ 0) : (m * 2 ^ k).log2 = m.log2 + k := by
  induction k with
  | zero => simp
  | succ k ih =>
    rw [Nat.pow_succ, ← Nat.mul_assoc, Nat.mul_comm _ 2, Nat.log2_two_mul (by have := two_pow_pos k; exact Nat.mul_ne_zero hm (by omega)), ih]
    omega

theorem cut_exact (way : Toward) (s : Bool) (m d : Nat) (hm : m = 0 ∨ d ≤ (m * 2 ^ d).log2 + 2) : way.cut s (m * 2 ^ d) d = m := by
  unfold Toward.cut
  by_cases h0 : m = 0
  · subst h0
    cases way <;> simp
  · have hd : d ≤ (m * 2 ^ d).log2 + 2 := by rcases hm with h | h <;> omega
    have hmin : min d ((m * 2 ^ d).log2 + 2) = d := by omega
    have hp := two_pow_pos d
    have e1 : m * 2 ^ d / 2 ^ d = m := Nat.mul_div_cancel _ hp
    have e2 : m * 2 ^ d % 2 ^ d = 0 := Nat.mul_mod_left _ _
    have e3 : (1 <<< d : Nat) = 2 ^ d := by rw [Nat.shiftLeft_eq, Nat.one_mul]
    simp only [hmin, e3, e1, e2]
    cases way <;> simp <;> omega

theorem binade_eq : double.binade = 2 ^ 52 := rfl
theorem leastPlace_eq : double.leastPlace = -1074 := by decide
theorem infRung_eq : double.infRung = 2047 * 2 ^ 52 := by decide
theorem signWeight_eq : double.signWeight = 2 ^ 63 := rfl

theorem log2_lt53 {m : Nat} (h : m < 2 ^ 53) (hm : m ≠ 0) : m.log2 ≤ 52 := by
  have := (Nat.log2_lt hm).2 h
  omega

/-- The rung of a whole number that is not 0. -/
def rung (m : Nat) : Nat := (m.log2 + 1022) * 2 ^ 52 + m * 2 ^ (52 - m.log2)

theorem scaled {m : Nat} (h : m < 2 ^ 53) (hm : m ≠ 0) : 2 ^ 52 ≤ m * 2 ^ (52 - m.log2) ∧ m * 2 ^ (52 - m.log2) < 2 ^ 53 := by
  have hl := log2_lt53 h hm
  have h1 := Nat.log2_self_le hm
  have h2 : m < 2 ^ (m.log2 + 1) := Nat.lt_log2_self
  have hp := two_pow_pos (52 - m.log2)
  constructor
  · calc 2 ^ 52 = 2 ^ m.log2 * 2 ^ (52 - m.log2) := by rw [← Nat.pow_add]; congr 1; omega
      _ ≤ _ := Nat.mul_le_mul_right _ h1
  · calc m * 2 ^ (52 - m.log2) < 2 ^ (m.log2 + 1) * 2 ^ (52 - m.log2) := Nat.mul_lt_mul_of_pos_right h2 hp
      _ = 2 ^ 53 := by rw [← Nat.pow_add]; congr 1; omega

theorem nearest_scaled (s : Bool) (m k : Nat) (h : m < 2 ^ 53) (hm : m ≠ 0) : double.nearest s (m * 2 ^ k) (-(k : Int)) = double.word s (rung m) := by
  have hl := log2_lt53 h hm
  have hs := scaled h hm
  have h0 : m * 2 ^ k ≠ 0 := Nat.mul_ne_zero hm (by have := two_pow_pos k; omega)
  unfold Format.nearest
  rw [if_neg h0]
  have hlog := log2_mul_pow m k hm
  have hlast : max (-(k : Int) + ((m * 2 ^ k).log2 : Nat) - (double.fractionBits : Nat)) double.leastPlace = (m.log2 : Int) - 52 := by
    rw [hlog, leastPlace_eq]
    show max _ _ = _
    have : ((double.fractionBits : Nat) : Int) = 52 := rfl
    omega
  simp only [hlast]
  have hkept : Toward.even.cut s ((m * 2 ^ k) <<< (-(k : Int) - ((m.log2 : Int) - 52)).toNat) (((m.log2 : Int) - 52) - -(k : Int)).toNat = m * 2 ^ (52 - m.log2) := by
    by_cases hk : k ≤ 52 - m.log2
    · have e1 : (((m.log2 : Int) - 52) - -(k : Int)).toNat = 0 := by omega
      have e2 : (-(k : Int) - ((m.log2 : Int) - 52)).toNat = 52 - m.log2 - k := by omega
      rw [e1, e2, Nat.shiftLeft_eq, Nat.mul_assoc, ← Nat.pow_add, show k + (52 - m.log2 - k) = 52 - m.log2 from by omega]
      have := cut_exact .even s (m * 2 ^ (52 - m.log2)) 0 (.inr (by omega))
      simpa using this
    · have e1 : (((m.log2 : Int) - 52) - -(k : Int)).toNat = k - (52 - m.log2) := by omega
      have e2 : (-(k : Int) - ((m.log2 : Int) - 52)).toNat = 0 := by omega
      rw [e1, e2, Nat.shiftLeft_zero]
      have e3 : m * 2 ^ k = (m * 2 ^ (52 - m.log2)) * 2 ^ (k - (52 - m.log2)) := by
        rw [Nat.mul_assoc, ← Nat.pow_add]; congr 2; omega
      rw [e3]
      refine cut_exact .even s _ _ (.inr ?_)
      rw [← e3, hlog]
      omega
  rw [hkept, leastPlace_eq, infRung_eq, binade_eq]
  have e4 : (((m.log2 : Int) - 52) - -1074).toNat = m.log2 + 1022 := by omega
  rw [e4]
  unfold rung
  congr 1
  omega

theorem nearest_zero (s : Bool) (k : Int) : double.nearest s 0 k = double.word s 0 := by unfold Format.nearest; rw [if_pos rfl]

theorem word_false (r : Nat) : double.word false r = r := rfl
theorem word_true (r : Nat) : double.word true r = 2 ^ 63 + r := rfl

theorem fz_zero (s : Bool) : fz s 0 = double.word s 0 := nearest_zero s 0
theorem fz_pos (s : Bool) (m : Nat) (h : m < 2 ^ 53) (hm : m ≠ 0) : fz s m = double.word s (rung m) := by
  have := nearest_scaled s m 0 h hm
  simpa [fz] using this

theorem rung_lt {m : Nat} (h : m < 2 ^ 53) (hm : m ≠ 0) : rung m < 2047 * 2 ^ 52 ∧ 2 ^ 52 ≤ rung m := by
  have hl := log2_lt53 h hm
  have hs := scaled h hm
  unfold rung
  omega

theorem write_rep {d : Datum} {s : Bool} {m : Nat} (h : Rep d s m) (hm : m < 2 ^ 53) : double.write d = fz s m := by
  obtain ⟨k, rfl⟩ := h
  show double.nearest s (m * 2 ^ k) (-(k : Int)) = fz s m
  by_cases h0 : m = 0
  · subst h0; rw [Nat.zero_mul, nearest_zero, fz_zero]
  · rw [nearest_scaled s m k hm h0, fz_pos s m hm h0]

theorem read_word (s : Bool) (r : Nat) (h : r < 2 ^ 63) : double.read (double.word s r) =
    (if r < 2 ^ 52 then .number s r (-1074)
     else if r < 2047 * 2 ^ 52 then .number s (2 ^ 52 + r % 2 ^ 52) (-1074 + (r / 2 ^ 52 - 1 : Nat))
     else if r = 2047 * 2 ^ 52 then .infinity s else .nan s (r - 2047 * 2 ^ 52)) := by
  have e1 : (double.word s r / 2 ^ 63 % 2 == 1) = s := by
    cases s
    · rw [word_false]
      have : r / 2 ^ 63 = 0 := Nat.div_eq_of_lt h
      rw [this]; rfl
    · rw [word_true]
      have : (2 ^ 63 + r) / 2 ^ 63 = 1 := by omega
      rw [this]; rfl
  have e2 : double.word s r % 2 ^ 63 = r := by
    cases s
    · rw [word_false]; omega
    · rw [word_true]; omega
  unfold Format.read
  simp only [signWeight_eq, e1, e2, binade_eq, infRung_eq, leastPlace_eq]

theorem rep_zero (s : Bool) (k : Nat) : Rep (.number s 0 (-(k : Int))) s 0 := ⟨k, by rw [Nat.zero_mul]⟩

theorem read_fz (s : Bool) (m : Nat) (h : m < 2 ^ 53) : Rep (double.read (fz s m)) s m := by
  by_cases h0 : m = 0
  · subst h0
    rw [fz_zero, read_word s 0 (by decide)]
    rw [if_pos (by omega)]
    exact rep_zero s 1074
  · have hl := log2_lt53 h h0
    have hs := scaled h h0
    have hr := rung_lt h h0
    rw [fz_pos s m h h0, read_word s _ (by omega), if_neg (by omega), if_pos hr.1]
    refine ⟨52 - m.log2, ?_⟩
    have e1 : rung m / 2 ^ 52 = m.log2 + 1023 := by unfold rung; omega
    have e2 : 2 ^ 52 + rung m % 2 ^ 52 = m * 2 ^ (52 - m.log2) := by unfold rung; omega
    rw [e1, e2, show (-1074 + ((m.log2 + 1023 - 1 : Nat) : Int)) = -((52 - m.log2 : Nat) : Int) from by omega]

theorem signed_scale (s : Bool) (m k j : Nat) : signed s (m * 2 ^ k) j = sg s m * ((2 ^ (k + j) : Nat) : Int) := by
  unfold signed sg
  rw [Nat.shiftLeft_eq, Nat.mul_assoc, ← Nat.pow_add]
  cases s <;> simp [Int.neg_mul]

theorem rep_sum {d e : Datum} {s t : Bool} {m n : Nat} (hd : Rep d s m) (he : Rep e t n) :
    ∃ r, d.sum e = some r ∧ Rep r (if sg s m + sg t n = 0 then s && t else decide (sg s m + sg t n < 0)) (sg s m + sg t n).natAbs := by
  obtain ⟨k, rfl⟩ := hd
  obtain ⟨l, rfl⟩ := he
  refine ⟨_, rfl, max k l, ?_⟩
  have e0 : min (-(k : Int)) (-(l : Int)) = -((max k l : Nat) : Int) := by omega
  have e1 : (-(k : Int) - -((max k l : Nat) : Int)).toNat = max k l - k := by omega
  have e2 : (-(l : Int) - -((max k l : Nat) : Int)).toNat = max k l - l := by omega
  simp only [e0, e1, e2, signed_scale, show k + (max k l - k) = max k l from by omega, show l + (max k l - l) = max k l from by omega, ← Int.add_mul]
  generalize hT : sg s m + sg t n = T
  have hp : (0 : Int) < ((2 ^ max k l : Nat) : Int) := by have := two_pow_pos (max k l); omega
  have z : (T * ((2 ^ max k l : Nat) : Int) = 0) ↔ T = 0 := by
    constructor
    · intro h; rcases Int.mul_eq_zero.1 h with h | h <;> omega
    · intro h; simp [h]
  have n1 : (T * ((2 ^ max k l : Nat) : Int) < 0) ↔ T < 0 := by
    constructor
    · intro h
      rcases Int.lt_or_le T 0 with h' | h'
      · exact h'
      · have := Int.mul_nonneg h' (Int.le_of_lt hp); omega
    · intro h; exact Int.mul_neg_of_neg_of_pos h hp
  simp only [z, n1, Int.natAbs_mul, Int.natAbs_natCast]

theorem rep_opposite {d : Datum} {s : Bool} {m : Nat} (hd : Rep d s m) : Rep d.opposite (!s) m := by
  obtain ⟨k, rfl⟩ := hd
  exact ⟨k, rfl⟩

theorem rep_product {d e : Datum} {s t : Bool} {m n : Nat} (hd : Rep d s m) (he : Rep e t n) : ∃ r, d.product e = some r ∧ Rep r (s ^^ t) (m * n) := by
  obtain ⟨k, rfl⟩ := hd
  obtain ⟨l, rfl⟩ := he
  refine ⟨_, rfl, k + l, ?_⟩
  have e1 : m * 2 ^ k * (n * 2 ^ l) = m * n * 2 ^ (k + l) := by rw [Nat.pow_add]; ac_rfl
  have e2 : -(k : Int) + -(l : Int) = -((k + l : Nat) : Int) := by omega
  rw [e1, e2]

theorem rep_order {d e : Datum} {s t : Bool} {m n : Nat} (hd : Rep d s m) (he : Rep e t n) : d.order e = some (compare (sg s m) (sg t n)) := by
  obtain ⟨k, rfl⟩ := hd
  obtain ⟨l, rfl⟩ := he
  have e0 : min (-(k : Int)) (-(l : Int)) = -((max k l : Nat) : Int) := by omega
  have e1 : (-(k : Int) - -((max k l : Nat) : Int)).toNat = max k l - k := by omega
  have e2 : (-(l : Int) - -((max k l : Nat) : Int)).toNat = max k l - l := by omega
  simp only [Datum.order, e0, e1, e2, signed_scale, show k + (max k l - k) = max k l from by omega, show l + (max k l - l) = max k l from by omega]
  have hp : (0 : Int) < ((2 ^ max k l : Nat) : Int) := by have := two_pow_pos (max k l); omega
  congr 1
  generalize ((2 ^ max k l : Nat) : Int) = q at hp
  generalize sg s m = a
  generalize sg t n = b
  rcases Int.lt_trichotomy a b with h | h | h
  · have h' := Int.mul_lt_mul_of_pos_right h hp
    show compareOfLessAndEq _ _ = compareOfLessAndEq _ _
    unfold compareOfLessAndEq
    rw [if_pos h, if_pos h']
  · subst h; show compareOfLessAndEq _ _ = compareOfLessAndEq _ _
    unfold compareOfLessAndEq
    simp
  · have h' := Int.mul_lt_mul_of_pos_right h hp
    show compareOfLessAndEq _ _ = compareOfLessAndEq _ _
    unfold compareOfLessAndEq
    rw [if_neg (by omega), if_neg (by omega), if_neg (by omega), if_neg (by omega)]

theorem rep_integral {d : Datum} {s : Bool} {m : Nat} (w : Toward) (hd : Rep d s m) : d.integral w = .number s m 0 := by
  obtain ⟨k, rfl⟩ := hd
  simp only [Datum.integral]
  have e1 : (-(k : Int)).toNat = 0 := by omega
  have e2 : (- -(k : Int)).toNat = k := by omega
  rw [e1, e2, Nat.shiftLeft_zero, cut_exact]
  by_cases h : m = 0
  · exact .inl h
  · right; rw [log2_mul_pow m k h]; omega

theorem rep_nat (s : Bool) (m : Nat) : Rep (.number s m 0) s m := ⟨0, by simp⟩

theorem rep_toInt {d : Datum} {s : Bool} {m : Nat} (w : Toward) (hd : Rep d s m) : d.toInt w = some (sg s m) := by
  unfold Datum.toInt
  rw [rep_integral w hd]
  have := signed_scale s m 0 0
  simp at this
  simp [this]

/-! the operations on words -/
theorem f64 : FloatKind.f64.format = double := rfl

theorem add_fz {s t : Bool} {m n : Nat} (hm : m < 2 ^ 53) (hn : n < 2 ^ 53) (hb : (sg s m + sg t n).natAbs < 2 ^ 53) :
    double.add (fz s m) (fz t n) = some (fz (if sg s m + sg t n = 0 then s && t else decide (sg s m + sg t n < 0)) (sg s m + sg t n).natAbs) := by
  obtain ⟨r, h1, h2⟩ := rep_sum (read_fz s m hm) (read_fz t n hn)
  unfold Format.add
  rw [h1, Option.map_some, write_rep h2 hb]

theorem sg_not (t : Bool) (n : Nat) : sg (!t) n = - sg t n := by cases t <;> simp [sg]

theorem sub_fz {s t : Bool} {m n : Nat} (hm : m < 2 ^ 53) (hn : n < 2 ^ 53) (hb : (sg s m - sg t n).natAbs < 2 ^ 53) :
    double.sub (fz s m) (fz t n) = some (fz (if sg s m - sg t n = 0 then s && !t else decide (sg s m - sg t n < 0)) (sg s m - sg t n).natAbs) := by
  obtain ⟨r, h1, h2⟩ := rep_sum (read_fz s m hm) (rep_opposite (read_fz t n hn))
  rw [sg_not, ← Int.sub_eq_add_neg] at h2
  unfold Format.sub
  rw [h1, Option.map_some, write_rep h2 hb]

theorem mul_fz {s t : Bool} {m n : Nat} (hm : m < 2 ^ 53) (hn : n < 2 ^ 53) (hb : m * n < 2 ^ 53) :
    double.mul (fz s m) (fz t n) = some (fz (s ^^ t) (m * n)) := by
  obtain ⟨r, h1, h2⟩ := rep_product (read_fz s m hm) (read_fz t n hn)
  unfold Format.mul
  rw [h1, Option.map_some, write_rep h2 hb]

theorem order_fz {s t : Bool} {m n : Nat} (hm : m < 2 ^ 53) (hn : n < 2 ^ 53) : double.order (fz s m) (fz t n) = some (compare (sg s m) (sg t n)) :=
  rep_order (read_fz s m hm) (read_fz t n hn)

/-! whole numbers as doubles -/
def fi (n : Int) : Nat := fz (decide (n < 0)) n.natAbs
theorem sg_fi (n : Int) : sg (decide (n < 0)) n.natAbs = n := by
  unfold sg
  by_cases h : n < 0 <;> simp [h] <;> omega
theorem floatOfInt_fi (n : Int) : floatOfInt .f64 n = fi n := rfl
theorem fi_zero : fi 0 = 0 := by decide
end Go.Fl

/- Rows of elements of two cells (kind P): cells, copies. -/
namespace Go.Proofs.YticlacjpgjkhcaaGreatDoor
open Go.ChangeShapes Go.WideShapes Go.ChangeAt Go.RowKit Go.Fl

@[go_sem] theorem run_store_c (w : World) (a : Addr) (x y : Nat) (m : Mode) : (store a (.complex .f64 x y) m).run Tryz.prog w = stored Tryz.prog w a (.complex .f64 x y) m := run_store Tryz.prog w a _ m rfl
def cP (p : ByteArray × Int × Int) : List Value := [.string p.1, .complex .f64 (fi p.2.1) (fi p.2.2)]
theorem cP_len (l : List (ByteArray × Int × Int)) : (l.flatMap cP).length = l.length * 2 := by
  induction l with
  | nil => rfl
  | cons p r ih => rw [List.flatMap_cons, List.length_append, ih, List.length_cons]; simp [cP]; omega
theorem cP_at (l : List (ByteArray × Int × Int)) (i j : Nat) (p : ByteArray × Int × Int) (v : Value) (hi : l[i]? = some p) (hv : (cP p)[j]? = some v) : (l.flatMap cP)[i * 2 + j]? = some v := by
  induction l generalizing i with
  | nil => simp at hi
  | cons q r ih =>
    rw [List.flatMap_cons]
    have hj : j < 2 := by have := (List.getElem?_eq_some_iff.1 hv).1; simpa [cP] using this
    cases i with
    | zero =>
      simp at hi
      subst hi
      rw [Nat.zero_mul, Nat.zero_add, List.getElem?_append_left (by simpa [cP] using hj)]
      exact hv
    | succ i =>
      rw [List.getElem?_append_right (by simp [cP]; omega)]
      have e : (i + 1) * 2 + j - (cP q).length = i * 2 + j := by simp [cP]; omega
      rw [e]
      exact ih i (by simpa using hi)
theorem cP_one (l : List (ByteArray × Int × Int)) : ∀ u ∈ l.flatMap cP, u.oneCell' = true := by
  intro u hu
  obtain ⟨p, _, h⟩ := List.mem_flatMap.1 hu
  simp [cP] at h
  rcases h with rfl | rfl <;> rfl
theorem iP : (Tryz.prog.info? 110).map (fun i => (i.zero, i.size, i.bytes)) = some (some (.agg #[.string ⟨#[]⟩, .complex .f64 0 0]), 2, 32) := by kernel_rfl
/-- A row of elements. -/
def RP (w : World) (c : Nat) (v : Value) (l : List (ByteArray × Int × Int)) : Prop := w.ownsRow c 110 2 v l.length (l.flatMap cP)
theorem RP.mono {w : World} {c c' : Nat} {v : Value} {l : List (ByteArray × Int × Int)} (h : RP w c v l) (hc : c' ≤ c) : RP w c' v l := row_mono h hc
theorem RP.below {w w' : World} {c : Nat} {v : Value} {l : List (ByteArray × Int × Int)} (h : RP w c v l) (hb : Below w.heap.size w w') : RP w' c v l := row_below h hb
theorem RP.kept {w w' : World} {c : Nat} {v : Value} {l : List (ByteArray × Int × Int)} (h : RP w c v l) (hb : ∀ g, v.ownBlock = some g → w'.heap[g]? = w.heap[g]?) : RP w' c v l := row_kept h hb
theorem RP.at {w : World} {c g C n : Nat} {l : List (ByteArray × Int × Int)} (h : RP w c (.slice (some ⟨g, 0, none⟩) n C) l) (hn : l.length = n) (i : Nat) (p : ByteArray × Int × Int) (hi : l[i]? = some p) : w.cell? ⟨g, i * 2, none⟩ = some (.string p.1) ∧ w.cell? ⟨g, i * 2 + 1, none⟩ = some (.complex .f64 (fi p.2.1) (fi p.2.2)) := by
  subst hn
  exact ⟨row_cell h (i * 2) _ (cP_at l i 0 p _ hi rfl), row_cell h (i * 2 + 1) _ (cP_at l i 1 p _ hi rfl)⟩
theorem RP.form {w : World} {c : Nat} {v : Value} {l : List (ByteArray × Int × Int)} (h : RP w c v l) (hne : l ≠ []) : ∃ g C, v = .slice (some ⟨g, 0, none⟩) l.length C ∧ l.length ≤ C := by
  obtain ⟨A, C, rfl, hA, hC⟩ := row_form h
  rcases hA with hA | ⟨g, rfl⟩
  · exact absurd (List.length_eq_zero_iff.1 hA) hne
  · exact ⟨g, C, rfl, hC⟩
set_option maxRecDepth 100000 in
set_option maxHeartbeats 4000000 in
/-- slices.Clone of them. -/
theorem CloneP (c g C : Nat) (l : List (ByteArray × Int × Int)) (n : Nat) (hn : l.length = n) (h1 : 1 ≤ n) (hm : n ≤ 1000000) (w : World) (h : RP w c (.slice (some ⟨g, 0, none⟩) n C) l) : Calls Tryz.prog 148 #[.slice (some ⟨g, 0, none⟩) n C] w fun e w' => ∃ g' C', e = .returned (.slice (some ⟨g', 0, none⟩) n C') ∧ RP w' w.heap.size (.slice (some ⟨g', 0, none⟩) n C') l ∧ Below w.heap.size w w' := by
  have hq : ∀ w, (binOp .eql 62 (.slice (some ⟨g, 0, none⟩) n C) (.slice none 0 0)).run Tryz.prog w = .ok (.bool false) w := fun w => by kernel_rfl
  have A1 := Lib.hid (alloc_old (w := w) (o := .cells #[] 110))
  have R0 := Lib.hid (World.ownsRow_made (base := w.heap.size) (size := 2) (e := 110) w #[] 0 (Nat.le_refl _) (by decide) rfl)
  have h' := h.below A1.out
  have HN := Lib.hid hn
  subst hn
  have NW := Lib.hid (show ∀ (j : Nat) (u : Value), (l.flatMap cP)[j]? = some u → (w.alloc (.cells #[] 110)).cell? ((⟨g, 0, none⟩ : Addr).add j) = some u from fun j u hu => by
    rw [Addr.add_lit, Nat.zero_add]
    exact row_cell h' j u hu)
  have ON := Lib.hid (cP_one l)
  have LN := Lib.hid (cP_len l)
  obtain ⟨i0, hi0, hz0, hz1, hz2⟩ := info_parts iP
  have ZZ := Lib.hid (show w.heap.size ≤ (w.alloc (.cells #[] 110)).heap.size by simp)
  obtain ⟨n, hn⟩ : ∃ n, l.length = n := ⟨_, rfl⟩
  rw [hn] at h1 hm hq LN ⊢
  have HL := Lib.hid hn
  clear h h' HN hn
  go_enter Tryz.func148, Tryz.ntmps148
  go_wp2_with (first | (at_builtin; refine wpList_append_lies _ rfl _ _ 62 rfl w.heap.size 110 i0 _ 2 32 Tryz.underlying62 hi0 hz0 hz1 hz2 rfl (by decide) (.slice (some ⟨w.heap.size, 0, none⟩) 0 0) 0 [] rfl R0.out ⟨g, 0, none⟩ n C (l.flatMap cP) rfl LN.out NW.out ON.out (by omega) (by unfold maxLen; omega) (by omega) ZZ.out _ rfl ?_; intro g5 C5 w5 hO5 hG5 h5 h6; have O5 := Lib.hid hO5; have G5 := Lib.hid hG5; clear hO5 hG5 h5 h6))
  go_ret
  refine ⟨g5, C5, rfl, ?_, A1.out.grown G5.out ZZ.out (fun k hk => (row_own R0.out k hk).1)⟩
  unfold RP
  rw [HL.out]
  have := O5.out
  rw [Nat.zero_add, List.nil_append] at this
  exact this
end Go.Proofs.YticlacjpgjkhcaaGreatDoor
