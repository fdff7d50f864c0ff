/- Texts joined: St24 -/
import Derived.Test.YtjfejmdnjbekkaaGreatDoorQb6
import Derived.Test.YtjfejmdnjbekkaaGreatDoorQb5
import Derived.RegionTactic
import Derived.Deep.RegionLaw
set_option linter.unusedVariables false
set_option linter.unusedSimpArgs false

/- A command is run: what it returns, or what refuses it. -/
namespace Go.Proofs.YtjfejmdnjbekkaaGreatDoor
open Go.ChangeShapes Go.WideShapes Go.ChangeAt Go.RowKit

/-- A reading of a slice in memory from block c on, that stays. -/
structure RKeep (R : Nat → World → Value → Prop) : Prop where
  kept : ∀ c w w' v, R c w v → w.heap.size ≤ w'.heap.size → (∀ i, c ≤ i → i < w.heap.size → w'.heap[i]? = w.heap[i]?) → R c w' v
  mono : ∀ c d w v, R c w v → d ≤ c → R d w v
/-- No slice. -/
def R0 : Nat → World → Value → Prop := fun _ _ v => v = .slice none 0 0
theorem R0.keep : RKeep R0 := ⟨fun _ _ _ _ h _ _ => h, fun _ _ _ _ h _ => h⟩
/-- A command's function: its reply and its effects. -/
def CmdOk (W0 : World) (F : FuncId) (bS bM : Nat) (l : MapT.Ents) (now : Int) (xs : List ByteArray) (k n : Int) (s : ByteArray) (R : Nat → World → Value → Prop) (es : List Ent) : Prop :=
  ∀ (X : World) (j : Nat) (vA : Value), Below W0.heap.size W0 X → SP X bS bM l → JB X j bS now vA (.slice none 0 0) → SSl X vA xs →
    Calls Tryz.prog F #[.pointer (some ⟨j, 0, none⟩)] X fun e w' => ∃ A m c, e = .returned (.agg #[.int .i64 k, .int .i64 n, .string s, .slice A m c]) ∧ R X.heap.size w' (.slice A m c) ∧
      (∃ A' n' c', JB w' j bS now vA (.slice A' n' c') ∧ EF w' X.heap.size (.slice A' n' c') es) ∧ Kp X.heap.size (fun i => i ≠ j) X w'
/-- A command's function: it is refused. -/
def CmdFail (W0 : World) (F : FuncId) (bS bM : Nat) (l : MapT.Ents) (now : Int) (xs : List ByteArray) (n : Int) : Prop :=
  ∀ (X : World) (j : Nat) (vA : Value), Below W0.heap.size W0 X → SP X bS bM l → JB X j bS now vA (.slice none 0 0) → SSl X vA xs →
    Calls Tryz.prog F #[.pointer (some ⟨j, 0, none⟩)] X fun e w' => e = .panicked [{ v := failV n, recovered := false }] ∧ Kp X.heap.size (fun i => i ≠ j) X w'
theorem zeroF (w : World) : (zeroValue 233).run Tryz.prog w = .ok .nilFunc w := by kernel_rfl

/-- A run's results, laid. -/
theorem laid26a (w w5 w6 : World) (v0 v1 v2 v3 ve : Value) (h8 : w6.heap[w.heap.size]? = some (.cells #[v0, v1, v2, v3] 24)) (h9 : w6.heap[w.heap.size + 1]? = some (.cells #[.slice none 0 0] 74)) (h10 : w6.heap[w.heap.size + 2]? = some (.cells #[.bool false] 4))
    (far : ∀ i, i ≠ w.heap.size → w6.heap[i]? = w5.heap[i]?) (hs : w6.heap.size = w5.heap.size) (hb : Below w.heap.size w w6) :
    (∀ i, i ≠ w.heap.size → i ≠ w.heap.size + 1 → i ≠ w.heap.size + 1 + 1 → (((((((w6.setCell ⟨w.heap.size, 0, none⟩ v0).setCell ⟨w.heap.size, 1, none⟩ v1).setCell ⟨w.heap.size, 2, none⟩ v2).setCell ⟨w.heap.size, 3, none⟩ v3).setCell ⟨w.heap.size + 1, 0, none⟩ ve).setCell ⟨w.heap.size + 1 + 1, 0, none⟩ (.bool true))).heap[i]? = w5.heap[i]?) ∧ (((((((w6.setCell ⟨w.heap.size, 0, none⟩ v0).setCell ⟨w.heap.size, 1, none⟩ v1).setCell ⟨w.heap.size, 2, none⟩ v2).setCell ⟨w.heap.size, 3, none⟩ v3).setCell ⟨w.heap.size + 1, 0, none⟩ ve).setCell ⟨w.heap.size + 1 + 1, 0, none⟩ (.bool true))).heap[w.heap.size]? = some (.cells #[v0, v1, v2, v3] 24) ∧ (((((((w6.setCell ⟨w.heap.size, 0, none⟩ v0).setCell ⟨w.heap.size, 1, none⟩ v1).setCell ⟨w.heap.size, 2, none⟩ v2).setCell ⟨w.heap.size, 3, none⟩ v3).setCell ⟨w.heap.size + 1, 0, none⟩ ve).setCell ⟨w.heap.size + 1 + 1, 0, none⟩ (.bool true))).heap[w.heap.size + 1]? = some (.cells #[ve] 74) ∧ (((((((w6.setCell ⟨w.heap.size, 0, none⟩ v0).setCell ⟨w.heap.size, 1, none⟩ v1).setCell ⟨w.heap.size, 2, none⟩ v2).setCell ⟨w.heap.size, 3, none⟩ v3).setCell ⟨w.heap.size + 1, 0, none⟩ ve).setCell ⟨w.heap.size + 1 + 1, 0, none⟩ (.bool true))).heap[w.heap.size + 1 + 1]? = some (.cells #[.bool true] 4) ∧ (((((((w6.setCell ⟨w.heap.size, 0, none⟩ v0).setCell ⟨w.heap.size, 1, none⟩ v1).setCell ⟨w.heap.size, 2, none⟩ v2).setCell ⟨w.heap.size, 3, none⟩ v3).setCell ⟨w.heap.size + 1, 0, none⟩ ve).setCell ⟨w.heap.size + 1 + 1, 0, none⟩ (.bool true))).heap.size = w5.heap.size ∧ Below w.heap.size w (((((((w6.setCell ⟨w.heap.size, 0, none⟩ v0).setCell ⟨w.heap.size, 1, none⟩ v1).setCell ⟨w.heap.size, 2, none⟩ v2).setCell ⟨w.heap.size, 3, none⟩ v3).setCell ⟨w.heap.size + 1, 0, none⟩ ve).setCell ⟨w.heap.size + 1 + 1, 0, none⟩ (.bool true))) := by
  have q1 : w.heap.size + 1 + 1 ≠ w.heap.size := by omega
  have q2 : w.heap.size + 1 ≠ w.heap.size := by omega
  have q3 : w.heap.size + 1 + 1 ≠ w.heap.size + 1 := by omega
  refine ⟨fun i h1 h2 h3 => ?_, ?_, ?_, ?_, ?_, ?_⟩
  · exact (Below.heap_setCell _ ⟨w.heap.size + 1 + 1, 0, none⟩ (.bool true) i h3).trans ((Below.heap_setCell _ ⟨w.heap.size + 1, 0, none⟩ ve i h2).trans ((far4 (X := w6) (b := w.heap.size) v0 v1 v2 v3 h1).trans (far i h1)))
  · exact (Below.heap_setCell _ ⟨w.heap.size + 1 + 1, 0, none⟩ (.bool true) w.heap.size q1.symm).trans ((Below.heap_setCell _ ⟨w.heap.size + 1, 0, none⟩ ve w.heap.size q2.symm).trans (set4 h8 v0 v1 v2 v3))
  · exact (Below.heap_setCell _ ⟨w.heap.size + 1 + 1, 0, none⟩ (.bool true) (w.heap.size + 1) q3.symm).trans (set1 ((far4 (X := w6) (b := w.heap.size) v0 v1 v2 v3 q2).trans h9) ve)
  · exact set1 ((Below.heap_setCell _ ⟨w.heap.size + 1, 0, none⟩ ve (w.heap.size + 1 + 1) q3).trans ((far4 (X := w6) (b := w.heap.size) v0 v1 v2 v3 q1).trans h10)) (.bool true)
  · rw [← hs]
    simp [World.setCell]
  · exact ((((((hb.setCell (p := ⟨w.heap.size, 0, none⟩) (Nat.le_refl _) v0).setCell (p := ⟨w.heap.size, 1, none⟩) (Nat.le_refl _) v1).setCell (p := ⟨w.heap.size, 2, none⟩) (Nat.le_refl _) v2).setCell (p := ⟨w.heap.size, 3, none⟩) (Nat.le_refl _) v3).setCell (p := ⟨w.heap.size + 1, 0, none⟩) (by show w.heap.size ≤ w.heap.size + 1; omega) ve).setCell (p := ⟨w.heap.size + 1 + 1, 0, none⟩) (by show w.heap.size ≤ w.heap.size + 1 + 1; omega) (.bool true))
theorem laid26 (w w5 w6 : World) (v0 v1 v2 v3 ve : Value) (h8 : w6.heap[w.heap.size]? = some (.cells #[v0, v1, v2, v3] 24)) (h9 : w6.heap[w.heap.size + 1]? = some (.cells #[.slice none 0 0] 74)) (h10 : w6.heap[w.heap.size + 2]? = some (.cells #[.bool false] 4))
    (far : ∀ i, i ≠ w.heap.size → w6.heap[i]? = w5.heap[i]?) (hs : w6.heap.size = w5.heap.size) (hb : Below w.heap.size w w6) :
    (∀ i, i ≠ w.heap.size → i ≠ w.heap.size + 1 → i ≠ w.heap.size + 1 + 1 → (((((((w6.setCell ⟨w.heap.size, 0, none⟩ v0).setCell ⟨w.heap.size, 1, none⟩ v1).setCell ⟨w.heap.size, 2, none⟩ v2).setCell ⟨w.heap.size, 3, none⟩ v3).setCell ⟨w.heap.size + 1, 0, none⟩ ve).setCell ⟨w.heap.size + 1 + 1, 0, none⟩ (.bool true))).drew.heap[i]? = w5.heap[i]?) ∧ (((((((w6.setCell ⟨w.heap.size, 0, none⟩ v0).setCell ⟨w.heap.size, 1, none⟩ v1).setCell ⟨w.heap.size, 2, none⟩ v2).setCell ⟨w.heap.size, 3, none⟩ v3).setCell ⟨w.heap.size + 1, 0, none⟩ ve).setCell ⟨w.heap.size + 1 + 1, 0, none⟩ (.bool true))).drew.heap[w.heap.size]? = some (.cells #[v0, v1, v2, v3] 24) ∧ (((((((w6.setCell ⟨w.heap.size, 0, none⟩ v0).setCell ⟨w.heap.size, 1, none⟩ v1).setCell ⟨w.heap.size, 2, none⟩ v2).setCell ⟨w.heap.size, 3, none⟩ v3).setCell ⟨w.heap.size + 1, 0, none⟩ ve).setCell ⟨w.heap.size + 1 + 1, 0, none⟩ (.bool true))).drew.heap[w.heap.size + 1]? = some (.cells #[ve] 74) ∧ (((((((w6.setCell ⟨w.heap.size, 0, none⟩ v0).setCell ⟨w.heap.size, 1, none⟩ v1).setCell ⟨w.heap.size, 2, none⟩ v2).setCell ⟨w.heap.size, 3, none⟩ v3).setCell ⟨w.heap.size + 1, 0, none⟩ ve).setCell ⟨w.heap.size + 1 + 1, 0, none⟩ (.bool true))).drew.heap[w.heap.size + 1 + 1]? = some (.cells #[.bool true] 4) ∧ (((((((w6.setCell ⟨w.heap.size, 0, none⟩ v0).setCell ⟨w.heap.size, 1, none⟩ v1).setCell ⟨w.heap.size, 2, none⟩ v2).setCell ⟨w.heap.size, 3, none⟩ v3).setCell ⟨w.heap.size + 1, 0, none⟩ ve).setCell ⟨w.heap.size + 1 + 1, 0, none⟩ (.bool true))).drew.heap.size = w5.heap.size ∧ Below w.heap.size w (((((((w6.setCell ⟨w.heap.size, 0, none⟩ v0).setCell ⟨w.heap.size, 1, none⟩ v1).setCell ⟨w.heap.size, 2, none⟩ v2).setCell ⟨w.heap.size, 3, none⟩ v3).setCell ⟨w.heap.size + 1, 0, none⟩ ve).setCell ⟨w.heap.size + 1 + 1, 0, none⟩ (.bool true))).drew := by
  obtain ⟨h1, h2, h3, h4, h5, h6⟩ := laid26a w w5 w6 v0 v1 v2 v3 ve h8 h9 h10 far hs hb
  have hd : ∀ X : World, X.drew.heap = X.heap := fun _ => rfl
  refine ⟨fun i a b c => ?_, ?_, ?_, ?_, ?_, h6.drew⟩
  · rw [hd]; exact h1 i a b c
  · rw [hd]; exact h2
  · rw [hd]; exact h3
  · rw [hd]; exact h4
  · rw [hd]; exact h5
set_option maxRecDepth 100000 in
set_option maxHeartbeats 8000000 in
theorem Run_ok (W0 : World) (RAW NAME : ByteArray) (F : FuncId) (bS bM bF : Nat) (l fl : MapT.Ents) (now : Int) (xs : List ByteArray) (vA : Value) (k n : Int) (s : ByteArray) (R : Nat → World → Value → Prop) (es : List Ent) (hF : CmdOk W0 F bS bM l now xs k n s R es) (hR : RKeep R) (w : World) (hI : Below W0.heap.size W0 w) (hS : SP w bS bM l) (hA : SSl w vA xs) (hM : MapT.MB w bF fl) (hf : MapT.find NAME fl = some (.func (.func F) #[] #[])) (hx : xs[0]? = some RAW) (hent : ∀ (args : Array Value) (w : World), (callFunc F args).run Tryz.prog w = .ok (.enter F args) w) (hfit : ∀ X, SSl X vA xs → Calls Tryz.prog 28 #[vA] X fun e w' => e = .returned (.int .i64 0) ∧ Below X.heap.size X w') (hup : ∀ X, Calls Tryz.prog 30 #[.string RAW] X fun e w' => e = .returned (.string NAME) ∧ Below X.heap.size X w') :
    Calls Tryz.prog 76 #[.pointer (some ⟨bS, 0, none⟩), .int .i64 now, vA, .map (some bF)] w fun e w' => ∃ A m c A' n' c', e = .returned (.tuple #[.agg #[.int .i64 k, .int .i64 n, .string s, .slice A m c], .slice A' n' c', .bool true]) ∧ R w.heap.size w' (.slice A m c) ∧ EF w' w.heap.size (.slice A' n' c') es ∧ Below w.heap.size w w' := by
  have hmf : ∀ (fn : Fn) (first cap : Array Value) (w : World), (Instr.makeFunc fn first cap).run Tryz.prog w = .ok (.func fn first cap) w := fun _ _ _ _ => rfl
  have hr : (if true = true then Value.tuple #[(MapT.find NAME fl).getD .nilFunc, .bool (MapT.find NAME fl).isSome] else (MapT.find NAME fl).getD .nilFunc) = .tuple #[.func (.func F) #[] #[], .bool true] := by rw [hf]; rfl
  have HR := Lib.hid hr
  have h8 := Lib.hid (show ((((w.alloc (.cells #[.int .i64 0, .int .i64 0, .string ⟨#[]⟩, .slice none 0 0] 24)).alloc (.cells #[.slice none 0 0] 74)).alloc (.cells #[.bool false] 4))).heap[w.heap.size]? = some (.cells #[.int .i64 0, .int .i64 0, .string ⟨#[]⟩, .slice none 0 0] 24) from blk_below (blk_below (heap_alloc_new w _) alloc_old) alloc_old)
  have h9 := Lib.hid (show ((((w.alloc (.cells #[.int .i64 0, .int .i64 0, .string ⟨#[]⟩, .slice none 0 0] 24)).alloc (.cells #[.slice none 0 0] 74)).alloc (.cells #[.bool false] 4))).heap[w.heap.size + 1]? = some (.cells #[.slice none 0 0] 74) from blk_below (new_next w _ _) alloc_old)
  have h10 := Lib.hid (show ((((w.alloc (.cells #[.int .i64 0, .int .i64 0, .string ⟨#[]⟩, .slice none 0 0] 24)).alloc (.cells #[.slice none 0 0] 74)).alloc (.cells #[.bool false] 4))).heap[w.heap.size + 2]? = some (.cells #[.bool false] 4) from by
    have := new_next (w.alloc (.cells #[.int .i64 0, .int .i64 0, .string ⟨#[]⟩, .slice none 0 0] 24)) (.cells #[.slice none 0 0] 74) (.cells #[.bool false] 4)
    rw [World.size_alloc] at this
    exact this)
  have B3 := Lib.hid (show Below w.heap.size w ((((w.alloc (.cells #[.int .i64 0, .int .i64 0, .string ⟨#[]⟩, .slice none 0 0] 24)).alloc (.cells #[.slice none 0 0] 74)).alloc (.cells #[.bool false] 4))) from (alloc_old.trans (alloc_old.mono (by simp))).trans (alloc_old.mono (by simp; omega)))
  have hz3 := Lib.hid (show ((((w.alloc (.cells #[.int .i64 0, .int .i64 0, .string ⟨#[]⟩, .slice none 0 0] 24)).alloc (.cells #[.slice none 0 0] 74)).alloc (.cells #[.bool false] 4))).heap.size = w.heap.size + 3 from by simp)
  have FT := Lib.hid (hfit _ (hA.below B3.out))
  have UP := Lib.hid hup
  obtain ⟨aA, acap, hvA, p1, p2, p3⟩ := id hA
  have hpos : 0 < xs.length := by
    rcases Nat.eq_zero_or_pos xs.length with h0 | h0
    · rw [List.eq_nil_of_length_eq_zero h0] at hx; cases hx
    · exact h0
  have hl0 : xs.length ≤ 9223372036854775807 := by unfold maxLen at p2; omega
  have i0 : (0 : Int) < (xs.length : Int) := by omega
  obtain ⟨blk, off, rfl, hblt, hc⟩ := p3 (by intro e; rw [e] at hpos; simp at hpos)
  have CA := Lib.hid (show ∀ X, Below w.heap.size w X → X.cell? ⟨blk, off, none⟩ = some (.string RAW) from fun X hb => (hb.cell (p := ⟨blk, off, none⟩) hblt).trans (hc 0 RAW hx))
  have AS := Lib.hid (show ∀ X, Below w.heap.size w X → SSl X vA xs from fun X hb => hA.below hb)
  have SS := Lib.hid (show ∀ X, Below w.heap.size w X → SP X bS bM l from fun X hb => hS.below hb)
  have MM := Lib.hid (show ∀ X, Below w.heap.size w X → MapT.MB X bF fl from fun X hb => hM.below hb)
  have HF := Lib.hid hF
  have HI := Lib.hid hI
  clear hI
  clear hf hr hfit hup hA hS hM hc p3 hx hF
  subst hvA
  go_enter_defers Tryz.func76, Tryz.ntmps76
  go_wp2_with (first | (go_at_call 28; (with_reducible refine (FT.out).mono ?_); rintro e w1 ⟨rfl, h1⟩; have B1 := Lib.hid h1; clear h1; have BW := Lib.hid (B3.out.trans (B1.out.mono (Below.size B3.out))); have ca := CA.out _ BW.out) | (go_at_call 30; (with_reducible refine (UP.out _).mono ?_); rintro e w2 ⟨rfl, h2⟩; have B2 := Lib.hid (BW.out.trans (h2.mono (Below.size BW.out))); have B13 := Lib.hid (B1.out.trans (h2.mono (Below.size B1.out))); clear h2) | (at_lookup; refine MapT.at_look _ rfl _ _ true rfl Tryz.underlying141 Tryz.underlying9 bF fl rfl (MM.out _ B2.out) NAME rfl _ (zeroF _) _ HR.out ?_; refine Hid.out ?_))
  refine Lib.hid ?_
  have b8 := Lib.hid (blk_below h8.out B13.out)
  have b9 := Lib.hid (blk_below h9.out B13.out)
  have b10 := Lib.hid (blk_below h10.out B13.out)
  have sz2 := Lib.hid (show w.heap.size + 3 ≤ w2.heap.size from by rw [← hz3.out]; exact Below.size B13.out)
  have B4 := Lib.hid (show Below w.heap.size w (w2.alloc (.cells #[.pointer (some ⟨bS, 0, none⟩), .int .i64 now, .slice (some ⟨blk, off, none⟩) xs.length acap, .slice none 0 0] 139)) from B2.out.trans (alloc_old.mono (Below.size B2.out)))
  have HC := Lib.hid (HF.out (w2.alloc (.cells #[.pointer (some ⟨bS, 0, none⟩), .int .i64 now, .slice (some ⟨blk, off, none⟩) xs.length acap, .slice none 0 0] 139)) w2.heap.size (.slice (some ⟨blk, off, none⟩) xs.length acap) (HI.out.trans (B4.out.mono (Below.size HI.out))) (SS.out _ B4.out) (heap_alloc_new w2 _) (AS.out _ B4.out))
  have KF := Lib.hid (show ∀ X, Kp (w2.alloc (.cells #[.pointer (some ⟨bS, 0, none⟩), .int .i64 now, .slice (some ⟨blk, off, none⟩) xs.length acap, .slice none 0 0] 139)).heap.size (fun i => i ≠ w2.heap.size) (w2.alloc (.cells #[.pointer (some ⟨bS, 0, none⟩), .int .i64 now, .slice (some ⟨blk, off, none⟩) xs.length acap, .slice none 0 0] 139)) X → X.heap[w.heap.size]? = some (.cells #[.int .i64 0, .int .i64 0, .string ⟨#[]⟩, .slice none 0 0] 24) ∧ X.heap[w.heap.size + 1]? = some (.cells #[.slice none 0 0] 74) ∧ X.heap[w.heap.size + 2]? = some (.cells #[.bool false] 4) ∧ Below w.heap.size w X from fun X hK => by
    have := sz2.out
    exact ⟨(hK.block _ (by simp; omega) (by omega)).trans (blk_below b8.out alloc_old), (hK.block _ (by simp; omega) (by omega)).trans (blk_below b9.out alloc_old), (hK.block _ (by simp; omega) (by omega)).trans (blk_below b10.out alloc_old), B4.out.trans (hK.below (fun k hk => ⟨by simp; omega, by omega⟩))⟩)
  clear b8 b9 b10 h8 h9 h10 FT UP CA AS SS MM HF
  go_wp2_with (first | ((with_reducible refine (HC.out).mono ?_); rintro e w5 ⟨A, m, c, rfl, hRR, ⟨A', n', c', hJ5, hE5⟩, hK5⟩; have FF := Lib.hid (KF.out _ hK5); have HRR := Lib.hid hRR; have HE5 := Lib.hid hE5; have HJ5 := Lib.hid hJ5; have HK5 := Lib.hid hK5; clear hRR hE5 hJ5 hK5; refine Hid.out ?_))
  refine Lib.hid ?_
  obtain ⟨x8, x9, x10, BX⟩ := FF.out
  have X8 := Lib.hid x8
  have X9 := Lib.hid x9
  have X10 := Lib.hid x10
  have BX := Lib.hid BX
  obtain ⟨⟨a0, a1, a2, a3⟩, ⟨f0, f1, f2, f3⟩⟩ := cells4 x8
  obtain ⟨g0, g1⟩ := cells1 x9
  obtain ⟨l0, l1⟩ := cells1 x10
  obtain ⟨j0, j1, j2, j3, jf, jz⟩ := HJ5.out.cells
  have nj8 : ¬ w.heap.size = w2.heap.size := by have := sz2.out; omega
  clear x8 x9 x10 FF KF
  go_wp2
  have X8b := Lib.hid (set4 X8.out (.int .i64 k) (.int .i64 n) (.string s) (.slice A m c))
  have X9b := Lib.hid ((far4 (X := w5) (b := w.heap.size) (.int .i64 k) (.int .i64 n) (.string s) (.slice A m c) (show w.heap.size + 1 ≠ w.heap.size by omega)).trans X9.out)
  have X10b := Lib.hid ((far4 (X := w5) (b := w.heap.size) (.int .i64 k) (.int .i64 n) (.string s) (.slice A m c) (show w.heap.size + 2 ≠ w.heap.size by omega)).trans X10.out)
  have HJ6 := Lib.hid (HJ5.out.kept (far4 (X := w5) (b := w.heap.size) (.int .i64 k) (.int .i64 n) (.string s) (.slice A m c) (fun e => nj8 e.symm)))
  have far := Lib.hid (fun i (hi : i ≠ w.heap.size) => far4 (X := w5) (b := w.heap.size) (i := i) (.int .i64 k) (.int .i64 n) (.string s) (.slice A m c) hi)
  have hs6 := Lib.hid (show ((((w5.setCell ⟨w.heap.size, 0, none⟩ (.int .i64 k)).setCell ⟨w.heap.size, 1, none⟩ (.int .i64 n)).setCell ⟨w.heap.size, 2, none⟩ (.string s)).setCell ⟨w.heap.size, 3, none⟩ (.slice A m c)).heap.size = w5.heap.size from by simp [World.setCell])
  have BX6 := Lib.hid ((((BX.out.setCell (p := ⟨w.heap.size, 0, none⟩) (Nat.le_refl _) (.int .i64 k)).setCell (p := ⟨w.heap.size, 1, none⟩) (Nat.le_refl _) (.int .i64 n)).setCell (p := ⟨w.heap.size, 2, none⟩) (Nat.le_refl _) (.string s)).setCell (p := ⟨w.heap.size, 3, none⟩) (Nat.le_refl _) (.slice A m c))
  clear a0 a1 a2 a3 f0 f1 f2 f3 g0 g1 l0 l1 j0 j1 j2 j3 jf jz
  generalize ((((w5.setCell ⟨w.heap.size, 0, none⟩ (.int .i64 k)).setCell ⟨w.heap.size, 1, none⟩ (.int .i64 n)).setCell ⟨w.heap.size, 2, none⟩ (.string s)).setCell ⟨w.heap.size, 3, none⟩ (.slice A m c)) = w6 at X8b X9b X10b HJ6 far hs6 BX6 ⊢
  obtain ⟨⟨a0, a1, a2, a3⟩, ⟨f0, f1, f2, f3⟩⟩ := cells4 X8b.out
  obtain ⟨g0, g1⟩ := cells1 X9b.out
  obtain ⟨l0, l1⟩ := cells1 X10b.out
  obtain ⟨j0, j1, j2, j3, jf, jz⟩ := HJ6.out.cells
  go_region
  have q1 : w.heap.size + 1 + 1 ≠ w.heap.size := by omega
  have q2 : w.heap.size + 1 ≠ w.heap.size := by omega
  have q3 : w.heap.size + 1 + 1 ≠ w.heap.size + 1 := by omega
  have L7 := Lib.hid (laid26 w w5 w6 (.int .i64 k) (.int .i64 n) (.string s) (.slice A m c) (.slice A' n' c') X8b.out X9b.out X10b.out far.out hs6.out BX6.out)
  clear a0 a1 a2 a3 f0 f1 f2 f3 g0 g1 l0 l1 j0 j1 j2 j3 jf jz
  generalize ((((((((w6.setCell ⟨w.heap.size, 0, none⟩ (.int .i64 k)).setCell ⟨w.heap.size, 1, none⟩ (.int .i64 n)).setCell ⟨w.heap.size, 2, none⟩ (.string s)).setCell ⟨w.heap.size, 3, none⟩ (.slice A m c)).setCell ⟨w.heap.size + 1, 0, none⟩ (.slice A' n' c')).setCell ⟨w.heap.size + 1 + 1, 0, none⟩ (.bool true))).drew) = w7 at L7 ⊢
  obtain ⟨far7, Y8, Y9, Y10, hs7, BX7⟩ := L7.out
  have far7 := Lib.hid far7
  have Y8 := Lib.hid Y8
  have Y9 := Lib.hid Y9
  have Y10 := Lib.hid Y10
  have hs7 := Lib.hid hs7
  have BX7 := Lib.hid BX7
  clear L7
  have CI := Lib.hid (fun w => catch_idle ⟨w.heap.size, 0, none⟩ ⟨w.heap.size + 1, 0, none⟩ ⟨w.heap.size + 1 + 1, 0, none⟩ w)
  go_wp2
  refine leaves_cons (f := 181) (args := #[.pointer (some ⟨w.heap.size, 0, none⟩), .pointer (some ⟨w.heap.size + 1, 0, none⟩), .pointer (some ⟨w.heap.size + 1 + 1, 0, none⟩)]) (by simp) (by simp [go_sem]) ?_
  refine (catch_idle ⟨w.heap.size, 0, none⟩ ⟨w.heap.size + 1, 0, none⟩ ⟨w.heap.size + 1 + 1, 0, none⟩ _).mono ?_
  rintro e u' w8 ⟨rfl, rfl, hb8⟩
  obtain ⟨⟨a0, a1, a2, a3⟩, _⟩ := cells4 (blk_below Y8.out hb8)
  obtain ⟨g0, _⟩ := cells1 (blk_below Y9.out hb8)
  obtain ⟨l0, _⟩ := cells1 (blk_below Y10.out hb8)
  have HF8 : ∀ i, w2.heap.size + 1 ≤ i → i < w5.heap.size → w8.heap[i]? = w5.heap[i]? := fun i h1 h2 => by
    have := sz2.out
    exact (hb8.block i (by rw [hs7.out]; exact h2)).trans (far7.out i (by omega) (by omega) (by omega))
  have hs8 : w5.heap.size ≤ w8.heap.size := by rw [← hs7.out]; exact Below.size hb8
  have hz2 : (w2.alloc (.cells #[.pointer (some ⟨bS, 0, none⟩), .int .i64 now, .slice (some ⟨blk, off, none⟩) xs.length acap, .slice none 0 0] 139)).heap.size = w2.heap.size + 1 := by simp
  have HR1 := HRR.out
  have HE1 := HE5.out
  rw [hz2] at HR1 HE1
  have B8 : Below w.heap.size w w8 := BX7.out.trans (hb8.mono (Below.size BX7.out))
  have hle : w.heap.size ≤ w2.heap.size + 1 := by have := sz2.out; omega
  have R8 := hR.mono _ w.heap.size _ _ (hR.kept _ _ w8 _ HR1 hs8 HF8) hle
  have E8 := (HE1.kept hs8 (fun g hg => HF8 g (HE1.own g hg).1 (by obtain ⟨_, cur, hh⟩ := HE1.own g hg; exact lt_blk hh))).mono hle
  exact ⟨_, by simp [results, Tryz.results76, go_sem, a0, a1, a2, a3, g0, l0], A, m, c, A', n', c', rfl, R8, E8, B8⟩
set_option maxRecDepth 100000 in
set_option maxHeartbeats 8000000 in
theorem Run_fail (W0 : World) (RAW NAME : ByteArray) (F : FuncId) (bS bM bF : Nat) (l fl : MapT.Ents) (now : Int) (xs : List ByteArray) (vA : Value) (n : Int) (hF : CmdFail W0 F bS bM l now xs n) (w : World) (hI : Below W0.heap.size W0 w) (hS : SP w bS bM l) (hA : SSl w vA xs) (hM : MapT.MB w bF fl) (hf : MapT.find NAME fl = some (.func (.func F) #[] #[])) (hx : xs[0]? = some RAW) (hent : ∀ (args : Array Value) (w : World), (callFunc F args).run Tryz.prog w = .ok (.enter F args) w) (hfit : ∀ X, SSl X vA xs → Calls Tryz.prog 28 #[vA] X fun e w' => e = .returned (.int .i64 0) ∧ Below X.heap.size X w') (hup : ∀ X, Calls Tryz.prog 30 #[.string RAW] X fun e w' => e = .returned (.string NAME) ∧ Below X.heap.size X w') :
    Calls Tryz.prog 76 #[.pointer (some ⟨bS, 0, none⟩), .int .i64 now, vA, .map (some bF)] w fun e w' => e = .returned (.tuple #[.agg #[.int .i64 2, .int .i64 n, .string ⟨#[]⟩, .slice none 0 0], .slice none 0 0, .bool true]) ∧ Below w.heap.size w w' := by
  have hmf : ∀ (fn : Fn) (first cap : Array Value) (w : World), (Instr.makeFunc fn first cap).run Tryz.prog w = .ok (.func fn first cap) w := fun _ _ _ _ => rfl
  have hr : (if true = true then Value.tuple #[(MapT.find NAME fl).getD .nilFunc, .bool (MapT.find NAME fl).isSome] else (MapT.find NAME fl).getD .nilFunc) = .tuple #[.func (.func F) #[] #[], .bool true] := by rw [hf]; rfl
  have HR := Lib.hid hr
  have h8 := Lib.hid (show ((((w.alloc (.cells #[.int .i64 0, .int .i64 0, .string ⟨#[]⟩, .slice none 0 0] 24)).alloc (.cells #[.slice none 0 0] 74)).alloc (.cells #[.bool false] 4))).heap[w.heap.size]? = some (.cells #[.int .i64 0, .int .i64 0, .string ⟨#[]⟩, .slice none 0 0] 24) from blk_below (blk_below (heap_alloc_new w _) alloc_old) alloc_old)
  have h9 := Lib.hid (show ((((w.alloc (.cells #[.int .i64 0, .int .i64 0, .string ⟨#[]⟩, .slice none 0 0] 24)).alloc (.cells #[.slice none 0 0] 74)).alloc (.cells #[.bool false] 4))).heap[w.heap.size + 1]? = some (.cells #[.slice none 0 0] 74) from blk_below (new_next w _ _) alloc_old)
  have h10 := Lib.hid (show ((((w.alloc (.cells #[.int .i64 0, .int .i64 0, .string ⟨#[]⟩, .slice none 0 0] 24)).alloc (.cells #[.slice none 0 0] 74)).alloc (.cells #[.bool false] 4))).heap[w.heap.size + 2]? = some (.cells #[.bool false] 4) from by
    have := new_next (w.alloc (.cells #[.int .i64 0, .int .i64 0, .string ⟨#[]⟩, .slice none 0 0] 24)) (.cells #[.slice none 0 0] 74) (.cells #[.bool false] 4)
    rw [World.size_alloc] at this
    exact this)
  have B3 := Lib.hid (show Below w.heap.size w ((((w.alloc (.cells #[.int .i64 0, .int .i64 0, .string ⟨#[]⟩, .slice none 0 0] 24)).alloc (.cells #[.slice none 0 0] 74)).alloc (.cells #[.bool false] 4))) from (alloc_old.trans (alloc_old.mono (by simp))).trans (alloc_old.mono (by simp; omega)))
  have hz3 := Lib.hid (show ((((w.alloc (.cells #[.int .i64 0, .int .i64 0, .string ⟨#[]⟩, .slice none 0 0] 24)).alloc (.cells #[.slice none 0 0] 74)).alloc (.cells #[.bool false] 4))).heap.size = w.heap.size + 3 from by simp)
  have FT := Lib.hid (hfit _ (hA.below B3.out))
  have UP := Lib.hid hup
  obtain ⟨aA, acap, hvA, p1, p2, p3⟩ := id hA
  have hpos : 0 < xs.length := by
    rcases Nat.eq_zero_or_pos xs.length with h0 | h0
    · rw [List.eq_nil_of_length_eq_zero h0] at hx; cases hx
    · exact h0
  have hl0 : xs.length ≤ 9223372036854775807 := by unfold maxLen at p2; omega
  have i0 : (0 : Int) < (xs.length : Int) := by omega
  obtain ⟨blk, off, rfl, hblt, hc⟩ := p3 (by intro e; rw [e] at hpos; simp at hpos)
  have CA := Lib.hid (show ∀ X, Below w.heap.size w X → X.cell? ⟨blk, off, none⟩ = some (.string RAW) from fun X hb => (hb.cell (p := ⟨blk, off, none⟩) hblt).trans (hc 0 RAW hx))
  have AS := Lib.hid (show ∀ X, Below w.heap.size w X → SSl X vA xs from fun X hb => hA.below hb)
  have SS := Lib.hid (show ∀ X, Below w.heap.size w X → SP X bS bM l from fun X hb => hS.below hb)
  have MM := Lib.hid (show ∀ X, Below w.heap.size w X → MapT.MB X bF fl from fun X hb => hM.below hb)
  have HF := Lib.hid hF
  have HI := Lib.hid hI
  clear hI
  clear hf hr hfit hup hA hS hM hc p3 hx hF
  subst hvA
  go_enter_defers Tryz.func76, Tryz.ntmps76
  go_wp2_with (first | (go_at_call 28; (with_reducible refine (FT.out).mono ?_); rintro e w1 ⟨rfl, h1⟩; have B1 := Lib.hid h1; clear h1; have BW := Lib.hid (B3.out.trans (B1.out.mono (Below.size B3.out))); have ca := CA.out _ BW.out) | (go_at_call 30; (with_reducible refine (UP.out _).mono ?_); rintro e w2 ⟨rfl, h2⟩; have B2 := Lib.hid (BW.out.trans (h2.mono (Below.size BW.out))); have B13 := Lib.hid (B1.out.trans (h2.mono (Below.size B1.out))); clear h2) | (at_lookup; refine MapT.at_look _ rfl _ _ true rfl Tryz.underlying141 Tryz.underlying9 bF fl rfl (MM.out _ B2.out) NAME rfl _ (zeroF _) _ HR.out ?_; refine Hid.out ?_))
  refine Lib.hid ?_
  have b8 := Lib.hid (blk_below h8.out B13.out)
  have b9 := Lib.hid (blk_below h9.out B13.out)
  have b10 := Lib.hid (blk_below h10.out B13.out)
  have sz2 := Lib.hid (show w.heap.size + 3 ≤ w2.heap.size from by rw [← hz3.out]; exact Below.size B13.out)
  have B4 := Lib.hid (show Below w.heap.size w (w2.alloc (.cells #[.pointer (some ⟨bS, 0, none⟩), .int .i64 now, .slice (some ⟨blk, off, none⟩) xs.length acap, .slice none 0 0] 139)) from B2.out.trans (alloc_old.mono (Below.size B2.out)))
  have HC := Lib.hid (HF.out (w2.alloc (.cells #[.pointer (some ⟨bS, 0, none⟩), .int .i64 now, .slice (some ⟨blk, off, none⟩) xs.length acap, .slice none 0 0] 139)) w2.heap.size (.slice (some ⟨blk, off, none⟩) xs.length acap) (HI.out.trans (B4.out.mono (Below.size HI.out))) (SS.out _ B4.out) (heap_alloc_new w2 _) (AS.out _ B4.out))
  have KF := Lib.hid (show ∀ X, Kp (w2.alloc (.cells #[.pointer (some ⟨bS, 0, none⟩), .int .i64 now, .slice (some ⟨blk, off, none⟩) xs.length acap, .slice none 0 0] 139)).heap.size (fun i => i ≠ w2.heap.size) (w2.alloc (.cells #[.pointer (some ⟨bS, 0, none⟩), .int .i64 now, .slice (some ⟨blk, off, none⟩) xs.length acap, .slice none 0 0] 139)) X → X.heap[w.heap.size]? = some (.cells #[.int .i64 0, .int .i64 0, .string ⟨#[]⟩, .slice none 0 0] 24) ∧ X.heap[w.heap.size + 1]? = some (.cells #[.slice none 0 0] 74) ∧ X.heap[w.heap.size + 2]? = some (.cells #[.bool false] 4) ∧ Below w.heap.size w X from fun X hK => by
    have := sz2.out
    exact ⟨(hK.block _ (by simp; omega) (by omega)).trans (blk_below b8.out alloc_old), (hK.block _ (by simp; omega) (by omega)).trans (blk_below b9.out alloc_old), (hK.block _ (by simp; omega) (by omega)).trans (blk_below b10.out alloc_old), B4.out.trans (hK.below (fun k hk => ⟨by simp; omega, by omega⟩))⟩)
  clear b8 b9 b10 h8 h9 h10 FT UP CA AS SS MM HF
  go_wp2_with (first | ((with_reducible refine (HC.out).mono ?_); rintro e w5 ⟨rfl, hK5⟩; have FF := Lib.hid (KF.out _ hK5); have HK5 := Lib.hid hK5; clear hK5))
  obtain ⟨x8, x9, x10, BX⟩ := FF.out
  refine leaves_cons (f := 181) (args := #[.pointer (some ⟨w.heap.size, 0, none⟩), .pointer (some ⟨w.heap.size + 1, 0, none⟩), .pointer (some ⟨w.heap.size + 1 + 1, 0, none⟩)]) (by simp) (by simp [go_sem]) ?_
  refine (catch_fail w.heap.size (w.heap.size + 1) (w.heap.size + 1 + 1) ⟨by omega, by omega, by omega⟩ _ _ _ _ _ _ n [] _ x8 x9 x10).mono ?_
  rintro e u' w8 ⟨rfl, rfl, y8, y9, y10, hK8⟩
  obtain ⟨⟨a0, a1, a2, a3⟩, _⟩ := cells4 y8
  obtain ⟨g0, _⟩ := cells1 y9
  obtain ⟨l0, _⟩ := cells1 y10
  have B8 : Below w.heap.size w w8 := BX.trans (hK8.below (fun k hk => ⟨Nat.lt_of_lt_of_le hk (Below.size BX), by omega, by omega, by omega⟩))
  exact ⟨_, by simp [results, Tryz.results76, go_sem, a0, a1, a2, a3, g0, l0], rfl, B8⟩
end Go.Proofs.YtjfejmdnjbekkaaGreatDoor
