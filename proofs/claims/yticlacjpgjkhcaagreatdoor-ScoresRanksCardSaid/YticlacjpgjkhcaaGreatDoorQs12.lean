/- Texts joined: G6, St19, G9, G7 -/
import Derived.Test.YticlacjpgjkhcaaGreatDoorQs11
import Derived.Test.YticlacjpgjkhcaaGreatDoorQs5
import Derived.Test.YticlacjpgjkhcaaGreatDoorQs6
import Derived.Test.YticlacjpgjkhcaaGreatDoorQs7
import Derived.Test.YticlacjpgjkhcaaGreatDoorQs10
set_option linter.unusedVariables false
set_option linter.unusedSimpArgs false

/- A command is run: a function with captured values, effects by a reading of any kind. -/
namespace Go.Proofs.YticlacjpgjkhcaaGreatDoor
open Go.ChangeShapes Go.WideShapes Go.ChangeAt Go.RowKit

/-- A command's function: its reply and its effects (E tells them). -/
def CmdOkG (W0 : World) (F : FuncId) (caps : Array Value) (bS bM : Nat) (l : MapT.Ents) (now : Int) (xs : List ByteArray) (k n : Int) (s : ByteArray) (R E : Nat → World → Value → Prop) : Prop :=
  ∀ (X : World) (j : Nat) (vA : Value), Below W0.heap.size W0 X → SP X bS bM l → JB X j bS now vA (.slice none 0 0) → SSl X vA xs →
    Calls Tryz.prog F (#[.pointer (some ⟨j, 0, none⟩)] ++ caps) X fun e w' => ∃ A m c, e = .returned (.agg #[.int .i64 k, .int .i64 n, .string s, .slice A m c]) ∧ R X.heap.size w' (.slice A m c) ∧
      (∃ A' n' c', JB w' j bS now vA (.slice A' n' c') ∧ E X.heap.size w' (.slice A' n' c')) ∧ Kp X.heap.size (fun i => i ≠ j) X w'
set_option maxRecDepth 100000 in
set_option maxHeartbeats 8000000 in
theorem Run_okG (W0 : World) (RAW NAME : ByteArray) (F : FuncId) (caps : Array Value) (bS bM bF : Nat) (l fl : MapT.Ents) (now : Int) (xs : List ByteArray) (vA : Value) (k n : Int) (s : ByteArray) (R E : Nat → World → Value → Prop) (hF : CmdOkG W0 F caps bS bM l now xs k n s R E) (hR : RKeep R) (hE : RKeep E) (w : World) (hI : Below W0.heap.size W0 w) (hS : SP w bS bM l) (hA : SSl w vA xs) (hM : MapT.MB w bF fl) (hf : MapT.find NAME fl = some (.func (.func F) #[] caps)) (hx : xs[0]? = some RAW) (hent : ∀ (args : Array Value) (w : World), (callFunc F args).run Tryz.prog w = .ok (.enter F args) w) (hfit : ∀ X, SSl X vA xs → Calls Tryz.prog 95 #[vA] X fun e w' => e = .returned (.int .i64 0) ∧ Below X.heap.size X w') (hup : ∀ X, Calls Tryz.prog 96 #[.string RAW] X fun e w' => e = .returned (.string NAME) ∧ Below X.heap.size X w') :
    Calls Tryz.prog 36 #[.pointer (some ⟨bS, 0, none⟩), .int .i64 now, vA, .map (some bF)] w fun e w' => ∃ A m c A' n' c', e = .returned (.tuple #[.agg #[.int .i64 k, .int .i64 n, .string s, .slice A m c], .slice A' n' c', .bool true]) ∧ R w.heap.size w' (.slice A m c) ∧ E w.heap.size w' (.slice A' n' c') ∧ Below w.heap.size w w' := by
  have hmf : ∀ (fn : Fn) (first cap : Array Value) (w : World), (Instr.makeFunc fn first cap).run Tryz.prog w = .ok (.func fn first cap) w := fun _ _ _ _ => rfl
  have hr : (if true = true then Value.tuple #[(MapT.find NAME fl).getD .nilFunc, .bool (MapT.find NAME fl).isSome] else (MapT.find NAME fl).getD .nilFunc) = .tuple #[.func (.func F) #[] caps, .bool true] := by rw [hf]; rfl
  have HR := Lib.hid hr
  have h8 := Lib.hid (show ((((w.alloc (.cells #[.int .i64 0, .int .i64 0, .string ⟨#[]⟩, .slice none 0 0] 29)).alloc (.cells #[.slice none 0 0] 59)).alloc (.cells #[.bool false] 4))).heap[w.heap.size]? = some (.cells #[.int .i64 0, .int .i64 0, .string ⟨#[]⟩, .slice none 0 0] 29) from blk_below (blk_below (heap_alloc_new w _) alloc_old) alloc_old)
  have h9 := Lib.hid (show ((((w.alloc (.cells #[.int .i64 0, .int .i64 0, .string ⟨#[]⟩, .slice none 0 0] 29)).alloc (.cells #[.slice none 0 0] 59)).alloc (.cells #[.bool false] 4))).heap[w.heap.size + 1]? = some (.cells #[.slice none 0 0] 59) from blk_below (new_next w _ _) alloc_old)
  have h10 := Lib.hid (show ((((w.alloc (.cells #[.int .i64 0, .int .i64 0, .string ⟨#[]⟩, .slice none 0 0] 29)).alloc (.cells #[.slice none 0 0] 59)).alloc (.cells #[.bool false] 4))).heap[w.heap.size + 2]? = some (.cells #[.bool false] 4) from by
    have := new_next (w.alloc (.cells #[.int .i64 0, .int .i64 0, .string ⟨#[]⟩, .slice none 0 0] 29)) (.cells #[.slice none 0 0] 59) (.cells #[.bool false] 4)
    rw [World.size_alloc] at this
    exact this)
  have B3 := Lib.hid (show Below w.heap.size w ((((w.alloc (.cells #[.int .i64 0, .int .i64 0, .string ⟨#[]⟩, .slice none 0 0] 29)).alloc (.cells #[.slice none 0 0] 59)).alloc (.cells #[.bool false] 4))) from (alloc_old.trans (alloc_old.mono (by simp))).trans (alloc_old.mono (by simp; omega)))
  have hz3 := Lib.hid (show ((((w.alloc (.cells #[.int .i64 0, .int .i64 0, .string ⟨#[]⟩, .slice none 0 0] 29)).alloc (.cells #[.slice none 0 0] 59)).alloc (.cells #[.bool false] 4))).heap.size = w.heap.size + 3 from by simp)
  have FT := Lib.hid (hfit _ (hA.below B3.out))
  have UP := Lib.hid hup
  obtain ⟨aA, acap, hvA, p1, p2, p3⟩ := id hA
  have hpos : 0 < xs.length := by
    rcases Nat.eq_zero_or_pos xs.length with h0 | h0
    · rw [List.eq_nil_of_length_eq_zero h0] at hx; cases hx
    · exact h0
  have hl0 : xs.length ≤ 9223372036854775807 := by unfold maxLen at p2; omega
  have i0 : (0 : Int) < (xs.length : Int) := by omega
  obtain ⟨blk, off, rfl, hblt, hc⟩ := p3 (by intro e; rw [e] at hpos; simp at hpos)
  have CA := Lib.hid (show ∀ X, Below w.heap.size w X → X.cell? ⟨blk, off, none⟩ = some (.string RAW) from fun X hb => (hb.cell (p := ⟨blk, off, none⟩) hblt).trans (hc 0 RAW hx))
  have AS := Lib.hid (show ∀ X, Below w.heap.size w X → SSl X vA xs from fun X hb => hA.below hb)
  have SS := Lib.hid (show ∀ X, Below w.heap.size w X → SP X bS bM l from fun X hb => hS.below hb)
  have MM := Lib.hid (show ∀ X, Below w.heap.size w X → MapT.MB X bF fl from fun X hb => hM.below hb)
  have HF := Lib.hid hF
  have HI := Lib.hid hI
  clear hI
  clear hf hr hfit hup hA hS hM hc p3 hx hF
  subst hvA
  go_enter_defers Tryz.func36, Tryz.ntmps36
  go_wp2_with (first | (go_at_call 95; (with_reducible refine (FT.out).mono ?_); rintro e w1 ⟨rfl, h1⟩; have B1 := Lib.hid h1; clear h1; have BW := Lib.hid (B3.out.trans (B1.out.mono (Below.size B3.out))); have ca := CA.out _ BW.out) | (go_at_call 96; (with_reducible refine (UP.out _).mono ?_); rintro e w2 ⟨rfl, h2⟩; have B2 := Lib.hid (BW.out.trans (h2.mono (Below.size BW.out))); have B13 := Lib.hid (B1.out.trans (h2.mono (Below.size B1.out))); clear h2) | (at_lookup; refine MapT.at_look _ rfl _ _ true rfl Tryz.underlying81 Tryz.underlying9 bF fl rfl (MM.out _ B2.out) NAME rfl _ (zeroF _) _ HR.out ?_; refine Hid.out ?_))
  refine Lib.hid ?_
  have b8 := Lib.hid (blk_below h8.out B13.out)
  have b9 := Lib.hid (blk_below h9.out B13.out)
  have b10 := Lib.hid (blk_below h10.out B13.out)
  have sz2 := Lib.hid (show w.heap.size + 3 ≤ w2.heap.size from by rw [← hz3.out]; exact Below.size B13.out)
  have B4 := Lib.hid (show Below w.heap.size w (w2.alloc (.cells #[.pointer (some ⟨bS, 0, none⟩), .int .i64 now, .slice (some ⟨blk, off, none⟩) xs.length acap, .slice none 0 0] 101)) from B2.out.trans (alloc_old.mono (Below.size B2.out)))
  have HC := Lib.hid (HF.out (w2.alloc (.cells #[.pointer (some ⟨bS, 0, none⟩), .int .i64 now, .slice (some ⟨blk, off, none⟩) xs.length acap, .slice none 0 0] 101)) w2.heap.size (.slice (some ⟨blk, off, none⟩) xs.length acap) (HI.out.trans (B4.out.mono (Below.size HI.out))) (SS.out _ B4.out) (heap_alloc_new w2 _) (AS.out _ B4.out))
  have KF := Lib.hid (show ∀ X, Kp (w2.alloc (.cells #[.pointer (some ⟨bS, 0, none⟩), .int .i64 now, .slice (some ⟨blk, off, none⟩) xs.length acap, .slice none 0 0] 101)).heap.size (fun i => i ≠ w2.heap.size) (w2.alloc (.cells #[.pointer (some ⟨bS, 0, none⟩), .int .i64 now, .slice (some ⟨blk, off, none⟩) xs.length acap, .slice none 0 0] 101)) X → X.heap[w.heap.size]? = some (.cells #[.int .i64 0, .int .i64 0, .string ⟨#[]⟩, .slice none 0 0] 29) ∧ X.heap[w.heap.size + 1]? = some (.cells #[.slice none 0 0] 59) ∧ X.heap[w.heap.size + 2]? = some (.cells #[.bool false] 4) ∧ Below w.heap.size w X from fun X hK => by
    have := sz2.out
    exact ⟨(hK.block _ (by simp; omega) (by omega)).trans (blk_below b8.out alloc_old), (hK.block _ (by simp; omega) (by omega)).trans (blk_below b9.out alloc_old), (hK.block _ (by simp; omega) (by omega)).trans (blk_below b10.out alloc_old), B4.out.trans (hK.below (fun k hk => ⟨by simp; omega, by omega⟩))⟩)
  clear b8 b9 b10 h8 h9 h10 FT UP CA AS SS MM HF
  go_wp2_with (first | ((with_reducible refine (HC.out).mono ?_); rintro e w5 ⟨A, m, c, rfl, hRR, ⟨A', n', c', hJ5, hE5⟩, hK5⟩; have FF := Lib.hid (KF.out _ hK5); have HRR := Lib.hid hRR; have HE5 := Lib.hid hE5; have HJ5 := Lib.hid hJ5; have HK5 := Lib.hid hK5; clear hRR hE5 hJ5 hK5; refine Hid.out ?_))
  refine Lib.hid ?_
  obtain ⟨x8, x9, x10, BX⟩ := FF.out
  have X8 := Lib.hid x8
  have X9 := Lib.hid x9
  have X10 := Lib.hid x10
  have BX := Lib.hid BX
  obtain ⟨⟨a0, a1, a2, a3⟩, ⟨f0, f1, f2, f3⟩⟩ := cells4 x8
  obtain ⟨g0, g1⟩ := cells1 x9
  obtain ⟨l0, l1⟩ := cells1 x10
  obtain ⟨j0, j1, j2, j3, jf, jz⟩ := HJ5.out.cells
  have nj8 : ¬ w.heap.size = w2.heap.size := by have := sz2.out; omega
  clear x8 x9 x10 FF KF
  go_wp2
  have X8b := Lib.hid (set4 X8.out (.int .i64 k) (.int .i64 n) (.string s) (.slice A m c))
  have X9b := Lib.hid ((far4 (X := w5) (b := w.heap.size) (.int .i64 k) (.int .i64 n) (.string s) (.slice A m c) (show w.heap.size + 1 ≠ w.heap.size by omega)).trans X9.out)
  have X10b := Lib.hid ((far4 (X := w5) (b := w.heap.size) (.int .i64 k) (.int .i64 n) (.string s) (.slice A m c) (show w.heap.size + 2 ≠ w.heap.size by omega)).trans X10.out)
  have HJ6 := Lib.hid (HJ5.out.kept (far4 (X := w5) (b := w.heap.size) (.int .i64 k) (.int .i64 n) (.string s) (.slice A m c) (fun e => nj8 e.symm)))
  have far := Lib.hid (fun i (hi : i ≠ w.heap.size) => far4 (X := w5) (b := w.heap.size) (i := i) (.int .i64 k) (.int .i64 n) (.string s) (.slice A m c) hi)
  have hs6 := Lib.hid (show ((((w5.setCell ⟨w.heap.size, 0, none⟩ (.int .i64 k)).setCell ⟨w.heap.size, 1, none⟩ (.int .i64 n)).setCell ⟨w.heap.size, 2, none⟩ (.string s)).setCell ⟨w.heap.size, 3, none⟩ (.slice A m c)).heap.size = w5.heap.size from by simp [World.setCell])
  have BX6 := Lib.hid ((((BX.out.setCell (p := ⟨w.heap.size, 0, none⟩) (Nat.le_refl _) (.int .i64 k)).setCell (p := ⟨w.heap.size, 1, none⟩) (Nat.le_refl _) (.int .i64 n)).setCell (p := ⟨w.heap.size, 2, none⟩) (Nat.le_refl _) (.string s)).setCell (p := ⟨w.heap.size, 3, none⟩) (Nat.le_refl _) (.slice A m c))
  clear a0 a1 a2 a3 f0 f1 f2 f3 g0 g1 l0 l1 j0 j1 j2 j3 jf jz
  generalize ((((w5.setCell ⟨w.heap.size, 0, none⟩ (.int .i64 k)).setCell ⟨w.heap.size, 1, none⟩ (.int .i64 n)).setCell ⟨w.heap.size, 2, none⟩ (.string s)).setCell ⟨w.heap.size, 3, none⟩ (.slice A m c)) = w6 at X8b X9b X10b HJ6 far hs6 BX6 ⊢
  obtain ⟨⟨a0, a1, a2, a3⟩, ⟨f0, f1, f2, f3⟩⟩ := cells4 X8b.out
  obtain ⟨g0, g1⟩ := cells1 X9b.out
  obtain ⟨l0, l1⟩ := cells1 X10b.out
  obtain ⟨j0, j1, j2, j3, jf, jz⟩ := HJ6.out.cells
  go_region
  have q1 : w.heap.size + 1 + 1 ≠ w.heap.size := by omega
  have q2 : w.heap.size + 1 ≠ w.heap.size := by omega
  have q3 : w.heap.size + 1 + 1 ≠ w.heap.size + 1 := by omega
  have L7 := Lib.hid (laid26 w w5 w6 (.int .i64 k) (.int .i64 n) (.string s) (.slice A m c) (.slice A' n' c') X8b.out X9b.out X10b.out far.out hs6.out BX6.out)
  clear a0 a1 a2 a3 f0 f1 f2 f3 g0 g1 l0 l1 j0 j1 j2 j3 jf jz
  generalize ((((((((w6.setCell ⟨w.heap.size, 0, none⟩ (.int .i64 k)).setCell ⟨w.heap.size, 1, none⟩ (.int .i64 n)).setCell ⟨w.heap.size, 2, none⟩ (.string s)).setCell ⟨w.heap.size, 3, none⟩ (.slice A m c)).setCell ⟨w.heap.size + 1, 0, none⟩ (.slice A' n' c')).setCell ⟨w.heap.size + 1 + 1, 0, none⟩ (.bool true))).drew) = w7 at L7 ⊢
  obtain ⟨far7, Y8, Y9, Y10, hs7, BX7⟩ := L7.out
  have far7 := Lib.hid far7
  have Y8 := Lib.hid Y8
  have Y9 := Lib.hid Y9
  have Y10 := Lib.hid Y10
  have hs7 := Lib.hid hs7
  have BX7 := Lib.hid BX7
  clear L7
  have CI := Lib.hid (fun w => catch_idle ⟨w.heap.size, 0, none⟩ ⟨w.heap.size + 1, 0, none⟩ ⟨w.heap.size + 1 + 1, 0, none⟩ w)
  go_wp2
  refine leaves_cons (f := 97) (args := #[.pointer (some ⟨w.heap.size, 0, none⟩), .pointer (some ⟨w.heap.size + 1, 0, none⟩), .pointer (some ⟨w.heap.size + 1 + 1, 0, none⟩)]) (by simp) (by simp [go_sem]) ?_
  refine (catch_idle ⟨w.heap.size, 0, none⟩ ⟨w.heap.size + 1, 0, none⟩ ⟨w.heap.size + 1 + 1, 0, none⟩ _).mono ?_
  rintro e u' w8 ⟨rfl, rfl, hb8⟩
  obtain ⟨⟨a0, a1, a2, a3⟩, _⟩ := cells4 (blk_below Y8.out hb8)
  obtain ⟨g0, _⟩ := cells1 (blk_below Y9.out hb8)
  obtain ⟨l0, _⟩ := cells1 (blk_below Y10.out hb8)
  have HF8 : ∀ i, w2.heap.size + 1 ≤ i → i < w5.heap.size → w8.heap[i]? = w5.heap[i]? := fun i h1 h2 => by
    have := sz2.out
    exact (hb8.block i (by rw [hs7.out]; exact h2)).trans (far7.out i (by omega) (by omega) (by omega))
  have hs8 : w5.heap.size ≤ w8.heap.size := by rw [← hs7.out]; exact Below.size hb8
  have hz2 : (w2.alloc (.cells #[.pointer (some ⟨bS, 0, none⟩), .int .i64 now, .slice (some ⟨blk, off, none⟩) xs.length acap, .slice none 0 0] 101)).heap.size = w2.heap.size + 1 := by simp
  have HR1 := HRR.out
  have HE1 := HE5.out
  rw [hz2] at HR1 HE1
  have B8 : Below w.heap.size w w8 := BX7.out.trans (hb8.mono (Below.size BX7.out))
  have hle : w.heap.size ≤ w2.heap.size + 1 := by have := sz2.out; omega
  have R8 := hR.mono _ w.heap.size _ _ (hR.kept _ _ w8 _ HR1 hs8 HF8) hle
  have E8 := hE.mono _ w.heap.size _ _ (hE.kept _ _ w8 _ HE1 hs8 HF8) hle
  exact ⟨_, by simp [results, Tryz.results36, go_sem, a0, a1, a2, a3, g0, l0], A, m, c, A', n', c', rfl, R8, E8, B8⟩
end Go.Proofs.YticlacjpgjkhcaaGreatDoor

/- The space: a key is taken away. -/
namespace Go.Proofs.YticlacjpgjkhcaaGreatDoor
open Go.ChangeShapes Go.WideShapes Go.ChangeAt Go.RowKit

set_option maxRecDepth 100000 in
set_option maxHeartbeats 8000000 in
theorem Del19 (bS bM : Nat) (l : MapT.Ents) (k : ByteArray) (k0 t0 : ByteArray) (kd u0 : Int) (A : Option Addr) (n c : Nat) (hf : MapT.find k l = some (.agg #[.string k0, .int .i64 kd, .string t0, .slice A n c, .slice none 0 0, .slice none 0 0, .slice none 0 0, .int .i64 u0])) (w : World) (m0 : Int) (hsz : ∀ X, Below w.heap.size w X → Calls Tryz.prog 50 #[.agg #[.string k0, .int .i64 kd, .string t0, .slice A n c, .slice none 0 0, .slice none 0 0, .slice none 0 0, .int .i64 u0]] X fun e w' => e = .returned (.int .i64 m0) ∧ Below X.heap.size X w') (h : SP w bS bM l) : Calls Tryz.prog 28 #[.pointer (some ⟨bS, 0, none⟩), .string k] w fun e w' => e = .returned (.bool true) ∧ SP w' bS bM (MapT.del k l) ∧ Kp w.heap.size (fun i => i ≠ bS ∧ i ≠ bM) w w' := by
  have hlt := Lib.hid h.lt
  have hr : (if true = true then Value.tuple #[(MapT.find k l).getD (.agg #[.string ⟨#[]⟩, .int .i64 0, .string ⟨#[]⟩, .slice none 0 0, .slice none 0 0, .slice none 0 0, .slice none 0 0, .int .i64 0]), .bool (MapT.find k l).isSome] else (MapT.find k l).getD (.agg #[.string ⟨#[]⟩, .int .i64 0, .string ⟨#[]⟩, .slice none 0 0, .slice none 0 0, .slice none 0 0, .slice none 0 0, .int .i64 0])) = .tuple #[.agg #[.string k0, .int .i64 kd, .string t0, .slice A n c, .slice none 0 0, .slice none 0 0, .slice none 0 0, .int .i64 u0], .bool true] := by rw [hf]; rfl
  have HR := Lib.hid hr
  obtain ⟨hs1, hs2⟩ := h.cell
  obtain ⟨⟨mem, hmem⟩, hMB, hne⟩ := h
  have S1 := Lib.hid hmem
  have M1 := Lib.hid hMB
  clear hmem hMB hf hr
  have w2b := Lib.hid (show Below w.heap.size w (w.alloc (.cells #[.string k0, .int .i64 kd, .string t0, .slice A n c, .slice none 0 0, .slice none 0 0, .slice none 0 0, .int .i64 u0] 66)) from alloc_old)
  have w2n := Lib.hid (show (w.alloc (.cells #[.string k0, .int .i64 kd, .string t0, .slice A n c, .slice none 0 0, .slice none 0 0, .slice none 0 0, .int .i64 u0] 66)).heap[w.heap.size]? = some (.cells #[.string k0, .int .i64 kd, .string t0, .slice A n c, .slice none 0 0, .slice none 0 0, .slice none 0 0, .int .i64 u0] 66) from heap_alloc_new w _)
  go_enter Tryz.func28, Tryz.ntmps28
  go_wp2_with (first | (at_lookup; refine MapT.at_look _ rfl _ _ true rfl Tryz.underlying55 Tryz.underlying9 bM l rfl M1.out k rfl _ (zero33 _) _ HR.out ?_))
  change Code.wp _ _ _ _ (w.alloc (.cells #[.string k0, .int .i64 kd, .string t0, .slice A n c, .slice none 0 0, .slice none 0 0, .slice none 0 0, .int .i64 u0] 66))
  generalize (w.alloc (.cells #[.string k0, .int .i64 kd, .string t0, .slice A n c, .slice none 0 0, .slice none 0 0, .slice none 0 0, .int .i64 u0] 66)) = w2 at w2b w2n ⊢
  have BW := Lib.hid w2b
  have Q2 := Lib.hid (show Kp w.heap.size (fun i => i ≠ bS ∧ i ≠ bM) w w2 from .of BW.out)
  have S2 := Lib.hid (blk_below S1.out BW.out)
  have M2 := Lib.hid (M1.out.below BW.out)
  have w2n := Lib.hid w2n
  clear w2b
  obtain ⟨cm2, cf2⟩ := mem53 S2.out
  obtain ⟨⟨g0, g1, g2, g3, g4, g5, g6, g7⟩, _, gz⟩ := cells8 w2n.out
  have Z7 := Lib.hid (hsz w2.drew BW.out.drew)
  go_region_with ((go_at_call 50; (with_reducible refine (Z7.out).mono ?_); rintro e w3 ⟨rfl, h5⟩; have B3 : Below w2.heap.size w2 w3 := belT (Below.refl w2.heap.size w2).drew h5; clear h5; obtain ⟨cm3, cf3⟩ := mem53 (blk_below S2.out B3)))
  all_goals (
    change Exit.then _ _ _ _ (w3.setCell ⟨bS, 1, none⟩ (.int .i64 (IntKind.i64.wrap (mem - m0))))
    have S4 := Lib.hid (set53 (blk_below S2.out B3) (.int .i64 (IntKind.i64.wrap (mem - m0))))
    have M4 := Lib.hid ((M2.out.below B3).kept (Below.heap_setCell w3 ⟨bS, 1, none⟩ (.int .i64 (IntKind.i64.wrap (mem - m0))) bM (Ne.symm hne)))
    have Q4 := Lib.hid (((Q2.out.trans (.of (B3.mono Q2.out.size))).setCell (p := ⟨bS, 1, none⟩) (by simp) (.int .i64 (IntKind.i64.wrap (mem - m0)))))
    clear cm2 cf2 cm3 cf3 g0 g1 g2 g3 g4 g5 g6 g7 gz Z7 B3
    generalize w3.setCell ⟨bS, 1, none⟩ (.int .i64 (IntKind.i64.wrap (mem - m0))) = w4 at S4 M4 Q4 ⊢
    have cM4 := cell53 S4.out
    obtain ⟨w5, hrun, r1, r2, r3⟩ := MapT.run_delete Tryz.underlying55 Tryz.underlying9 M4.out k #[55, 9] rfl 0
    have S5 := Lib.hid ((grown_block r2 (lt_blk S4.out) hne).trans S4.out)
    have Q5 := Lib.hid (Q4.out.grown r2 Q4.out.size (fun k hk _ hS => hS.2 (Option.some.inj hk).symm))
    go_wp2
    go_ret
    exact ⟨by simp, ⟨⟨_, S5.out⟩, r1, hne⟩, Q5.out⟩)
end Go.Proofs.YticlacjpgjkhcaaGreatDoor

/- The space: a key of any kind is taken away. -/
namespace Go.Proofs.YticlacjpgjkhcaaGreatDoor
open Go.ChangeShapes Go.WideShapes Go.ChangeAt Go.RowKit

set_option maxRecDepth 100000 in
set_option maxHeartbeats 8000000 in
theorem Del19G (bS bM : Nat) (l : MapT.Ents) (k : ByteArray) (k0 t0 : ByteArray) (kd u0 : Int) (E3 E4 E5 E6 : Option Addr) (xn3 xc3 xn4 xc4 xn5 xc5 xn6 xc6 : Nat) (hf : MapT.find k l = some (.agg #[.string k0, .int .i64 kd, .string t0, .slice E3 xn3 xc3, .slice E4 xn4 xc4, .slice E5 xn5 xc5, .slice E6 xn6 xc6, .int .i64 u0])) (w : World) (m0 : Int) (hsz : ∀ X, Below w.heap.size w X → Calls Tryz.prog 50 #[.agg #[.string k0, .int .i64 kd, .string t0, .slice E3 xn3 xc3, .slice E4 xn4 xc4, .slice E5 xn5 xc5, .slice E6 xn6 xc6, .int .i64 u0]] X fun e w' => e = .returned (.int .i64 m0) ∧ Below X.heap.size X w') (h : SP w bS bM l) : Calls Tryz.prog 28 #[.pointer (some ⟨bS, 0, none⟩), .string k] w fun e w' => e = .returned (.bool true) ∧ SP w' bS bM (MapT.del k l) ∧ Kp w.heap.size (fun i => i ≠ bS ∧ i ≠ bM) w w' := by
  have hlt := Lib.hid h.lt
  have hr : (if true = true then Value.tuple #[(MapT.find k l).getD (.agg #[.string ⟨#[]⟩, .int .i64 0, .string ⟨#[]⟩, .slice none 0 0, .slice none 0 0, .slice none 0 0, .slice none 0 0, .int .i64 0]), .bool (MapT.find k l).isSome] else (MapT.find k l).getD (.agg #[.string ⟨#[]⟩, .int .i64 0, .string ⟨#[]⟩, .slice none 0 0, .slice none 0 0, .slice none 0 0, .slice none 0 0, .int .i64 0])) = .tuple #[.agg #[.string k0, .int .i64 kd, .string t0, .slice E3 xn3 xc3, .slice E4 xn4 xc4, .slice E5 xn5 xc5, .slice E6 xn6 xc6, .int .i64 u0], .bool true] := by rw [hf]; rfl
  have HR := Lib.hid hr
  obtain ⟨hs1, hs2⟩ := h.cell
  obtain ⟨⟨mem, hmem⟩, hMB, hne⟩ := h
  have S1 := Lib.hid hmem
  have M1 := Lib.hid hMB
  clear hmem hMB hf hr
  have w2b := Lib.hid (show Below w.heap.size w (w.alloc (.cells #[.string k0, .int .i64 kd, .string t0, .slice E3 xn3 xc3, .slice E4 xn4 xc4, .slice E5 xn5 xc5, .slice E6 xn6 xc6, .int .i64 u0] 66)) from alloc_old)
  have w2n := Lib.hid (show (w.alloc (.cells #[.string k0, .int .i64 kd, .string t0, .slice E3 xn3 xc3, .slice E4 xn4 xc4, .slice E5 xn5 xc5, .slice E6 xn6 xc6, .int .i64 u0] 66)).heap[w.heap.size]? = some (.cells #[.string k0, .int .i64 kd, .string t0, .slice E3 xn3 xc3, .slice E4 xn4 xc4, .slice E5 xn5 xc5, .slice E6 xn6 xc6, .int .i64 u0] 66) from heap_alloc_new w _)
  go_enter Tryz.func28, Tryz.ntmps28
  go_wp2_with (first | (at_lookup; refine MapT.at_look _ rfl _ _ true rfl Tryz.underlying55 Tryz.underlying9 bM l rfl M1.out k rfl _ (zero33 _) _ HR.out ?_))
  change Code.wp _ _ _ _ (w.alloc (.cells #[.string k0, .int .i64 kd, .string t0, .slice E3 xn3 xc3, .slice E4 xn4 xc4, .slice E5 xn5 xc5, .slice E6 xn6 xc6, .int .i64 u0] 66))
  generalize (w.alloc (.cells #[.string k0, .int .i64 kd, .string t0, .slice E3 xn3 xc3, .slice E4 xn4 xc4, .slice E5 xn5 xc5, .slice E6 xn6 xc6, .int .i64 u0] 66)) = w2 at w2b w2n ⊢
  have BW := Lib.hid w2b
  have Q2 := Lib.hid (show Kp w.heap.size (fun i => i ≠ bS ∧ i ≠ bM) w w2 from .of BW.out)
  have S2 := Lib.hid (blk_below S1.out BW.out)
  have M2 := Lib.hid (M1.out.below BW.out)
  have w2n := Lib.hid w2n
  clear w2b
  obtain ⟨cm2, cf2⟩ := mem53 S2.out
  obtain ⟨⟨g0, g1, g2, g3, g4, g5, g6, g7⟩, _, gz⟩ := cells8 w2n.out
  have Z7 := Lib.hid (hsz w2.drew BW.out.drew)
  go_region_with ((go_at_call 50; (with_reducible refine (Z7.out).mono ?_); rintro e w3 ⟨rfl, h5⟩; have B3 : Below w2.heap.size w2 w3 := belT (Below.refl w2.heap.size w2).drew h5; clear h5; obtain ⟨cm3, cf3⟩ := mem53 (blk_below S2.out B3)))
  all_goals (
    change Exit.then _ _ _ _ (w3.setCell ⟨bS, 1, none⟩ (.int .i64 (IntKind.i64.wrap (mem - m0))))
    have S4 := Lib.hid (set53 (blk_below S2.out B3) (.int .i64 (IntKind.i64.wrap (mem - m0))))
    have M4 := Lib.hid ((M2.out.below B3).kept (Below.heap_setCell w3 ⟨bS, 1, none⟩ (.int .i64 (IntKind.i64.wrap (mem - m0))) bM (Ne.symm hne)))
    have Q4 := Lib.hid (((Q2.out.trans (.of (B3.mono Q2.out.size))).setCell (p := ⟨bS, 1, none⟩) (by simp) (.int .i64 (IntKind.i64.wrap (mem - m0)))))
    clear cm2 cf2 cm3 cf3 g0 g1 g2 g3 g4 g5 g6 g7 gz Z7 B3
    generalize w3.setCell ⟨bS, 1, none⟩ (.int .i64 (IntKind.i64.wrap (mem - m0))) = w4 at S4 M4 Q4 ⊢
    have cM4 := cell53 S4.out
    obtain ⟨w5, hrun, r1, r2, r3⟩ := MapT.run_delete Tryz.underlying55 Tryz.underlying9 M4.out k #[55, 9] rfl 0
    have S5 := Lib.hid ((grown_block r2 (lt_blk S4.out) hne).trans S4.out)
    have Q5 := Lib.hid (Q4.out.grown r2 Q4.out.size (fun k hk _ hS => hS.2 (Option.some.inj hk).symm))
    go_wp2
    go_ret
    exact ⟨by simp, ⟨⟨_, S5.out⟩, r1, hne⟩, Q5.out⟩)
end Go.Proofs.YticlacjpgjkhcaaGreatDoor

/- A space as data, effects as data; a law's do over them. -/
namespace Go.Proofs.YticlacjpgjkhcaaGreatDoor
open Go.ChangeShapes Go.WideShapes Go.ChangeAt Go.RowKit

section data
variable {α : Type}
def findD (k : ByteArray) : List (ByteArray × α) → Option α
  | [] => none
  | (x, v) :: r => if x = k then some v else findD k r
def putD (k : ByteArray) (u : α) : List (ByteArray × α) → List (ByteArray × α)
  | [] => [(k, u)]
  | (x, v) :: r => if x = k then (x, u) :: r else (x, v) :: putD k u r
def delD (k : ByteArray) : List (ByteArray × α) → List (ByteArray × α)
  | [] => []
  | (x, v) :: r => if x = k then r else (x, v) :: delD k r
/-- Effects as data: a value is put, or a key is taken. -/
def applyD : List (ByteArray × Option α) → List (ByteArray × α) → List (ByteArray × α)
  | [], D => D
  | (k, none) :: r, D => applyD r (delD k D)
  | (k, some x) :: r, D => applyD r (putD k x D)
def MayD (ok : ByteArray → α → Prop) : List (ByteArray × Option α) → List (ByteArray × α) → Prop
  | [], _ => True
  | (k, none) :: r, D => (∃ y, findD k D = some y) ∧ MayD ok r (delD k D)
  | (k, some x) :: r, D => ok k x ∧ D.length < 4096 ∧ MayD ok r (putD k x D)
theorem findD_mem {k : ByteArray} {x : α} : ∀ {D : List (ByteArray × α)}, findD k D = some x → (k, x) ∈ D := by
  intro D
  induction D with
  | nil => intro h; cases h
  | cons p r ih =>
    obtain ⟨y, v⟩ := p
    intro h
    by_cases hy : y = k
    · subst hy
      simp [findD] at h
      subst h
      exact List.mem_cons_self
    · simp [findD, hy] at h
      exact List.mem_cons_of_mem _ (ih h)
theorem mem_putD {k : ByteArray} {u : α} {p : ByteArray × α} : ∀ {D : List (ByteArray × α)}, p ∈ putD k u D → p ∈ D ∨ p = (k, u) := by
  intro D
  induction D with
  | nil => intro h; simp [putD] at h; exact .inr h
  | cons q r ih =>
    obtain ⟨y, v⟩ := q
    intro h
    by_cases hy : y = k
    · subst hy
      simp [putD] at h
      rcases h with h | h
      · exact .inr h
      · exact .inl (List.mem_cons_of_mem _ h)
    · simp [putD, hy] at h
      rcases h with rfl | h
      · exact .inl List.mem_cons_self
      · exact (ih h).imp (List.mem_cons_of_mem _) id
theorem mem_delD {k : ByteArray} {p : ByteArray × α} : ∀ {D : List (ByteArray × α)}, p ∈ delD k D → p ∈ D := by
  intro D
  induction D with
  | nil => intro h; exact h
  | cons q r ih =>
    obtain ⟨y, v⟩ := q
    intro h
    by_cases hy : y = k
    · subst hy
      simp [delD] at h
      exact List.mem_cons_of_mem _ h
    · simp [delD, hy] at h
      rcases h with rfl | h
      · exact List.mem_cons_self
      · exact List.mem_cons_of_mem _ (ih h)
end data

/-- An entry of the space's map, and what it is as data. -/
def EntG {α : Type} (K : Kd α) (w : World) (p : ByteArray × α) (q : ByteArray × Value) : Prop := q.1 = p.1 ∧ ∃ A3 A4 A5 A6 an3 ac3 an4 ac4 an5 ac5 an6 ac6, q.2 = .agg #[.string p.1, .int .i64 K.kd, .string ⟨#[]⟩, .slice A3 an3 ac3, .slice A4 an4 ac4, .slice A5 an5 ac5, .slice A6 an6 ac6, .int .i64 0] ∧ K.V w p.2 (.slice A3 an3 ac3) (.slice A4 an4 ac4) (.slice A5 an5 ac5) (.slice A6 an6 ac6)
def AllE {α : Type} (K : Kd α) (w : World) : List (ByteArray × α) → MapT.Ents → Prop
  | [], [] => True
  | p :: D, q :: l => EntG K w p q ∧ AllE K w D l
  | [], _ :: _ => False
  | _ :: _, [] => False
section laws
variable {α : Type} (K : Kd α)
theorem AllE.len {w : World} : ∀ {D : List (ByteArray × α)} {l : MapT.Ents}, AllE K w D l → l.length = D.length
  | [], [], _ => rfl
  | _ :: _, _ :: _, h => by rw [List.length_cons, List.length_cons, AllE.len h.2]
  | [], _ :: _, h => h.elim
  | _ :: _, [], h => h.elim
theorem AllE.kept {w w' : World} {bS bM : Nat} {l0 : MapT.Ents} (hS : SP w bS bM l0) (hK : ∀ i, i < w.heap.size → i ≠ bS ∧ i ≠ bM → w'.heap[i]? = w.heap[i]?) : ∀ {D : List (ByteArray × α)} {l : MapT.Ents}, AllE K w D l → AllE K w' D l
  | [], [], _ => trivial
  | _ :: _, _ :: _, h => by
    obtain ⟨⟨h1, A3, A4, A5, A6, an3, ac3, an4, ac4, an5, ac5, an6, ac6, h2, h3⟩, h4⟩ := h
    exact ⟨⟨h1, A3, A4, A5, A6, an3, ac3, an4, ac4, an5, ac5, an6, ac6, h2, K.kept h3 (fun g hg => hK g (K.own_ne h3 hS g hg).1 (K.own_ne h3 hS g hg).2)⟩, AllE.kept hS hK h4⟩
  | [], _ :: _, h => h.elim
  | _ :: _, [], h => h.elim
theorem AllE.kept2 {w w' : World} (hK : ∀ (x : α) (a b d e : Value), K.V w x a b d e → ∀ g, Own a b d e g → w'.heap[g]? = w.heap[g]?) : ∀ {D : List (ByteArray × α)} {l : MapT.Ents}, AllE K w D l → AllE K w' D l
  | [], [], _ => trivial
  | _ :: _, _ :: _, h => by
    obtain ⟨⟨h1, A3, A4, A5, A6, an3, ac3, an4, ac4, an5, ac5, an6, ac6, h2, h3⟩, h4⟩ := h
    exact ⟨⟨h1, A3, A4, A5, A6, an3, ac3, an4, ac4, an5, ac5, an6, ac6, h2, K.kept h3 (hK _ _ _ _ _ h3)⟩, AllE.kept2 hK h4⟩
  | [], _ :: _, h => h.elim
  | _ :: _, [], h => h.elim
theorem AllE.find_none {w : World} {k : ByteArray} : ∀ {D : List (ByteArray × α)} {l : MapT.Ents}, AllE K w D l → findD k D = none → MapT.find k l = none
  | [], [], _, _ => rfl
  | (x, v) :: D, (y, u) :: l, h, hf => by
    obtain ⟨⟨h1, _⟩, h4⟩ := h
    have h1 : y = x := h1
    subst h1
    by_cases hy : y = k
    · simp [findD, hy] at hf
    · simp [findD, hy] at hf
      simp [MapT.find, hy, AllE.find_none h4 hf]
  | [], _ :: _, h, _ => h.elim
  | _ :: _, [], h, _ => h.elim
theorem AllE.find_some {w : World} {k : ByteArray} {x : α} : ∀ {D : List (ByteArray × α)} {l : MapT.Ents}, AllE K w D l → findD k D = some x → ∃ A3 A4 A5 A6 an3 ac3 an4 ac4 an5 ac5 an6 ac6, MapT.find k l = some (.agg #[.string k, .int .i64 K.kd, .string ⟨#[]⟩, .slice A3 an3 ac3, .slice A4 an4 ac4, .slice A5 an5 ac5, .slice A6 an6 ac6, .int .i64 0]) ∧ K.V w x (.slice A3 an3 ac3) (.slice A4 an4 ac4) (.slice A5 an5 ac5) (.slice A6 an6 ac6)
  | [], [], _, hf => by cases hf
  | (z, v) :: D, (y, u) :: l, h, hf => by
    obtain ⟨⟨h1, h2⟩, h4⟩ := h
    have h1 : y = z := h1
    subst h1
    by_cases hy : y = k
    · subst hy
      simp [findD] at hf
      subst hf
      obtain ⟨A3, A4, A5, A6, an3, ac3, an4, ac4, an5, ac5, an6, ac6, h2, h3⟩ := h2
      exact ⟨A3, A4, A5, A6, an3, ac3, an4, ac4, an5, ac5, an6, ac6, by simp [MapT.find]; exact h2, h3⟩
    · simp [findD, hy] at hf
      simp only [MapT.find, hy, if_false]
      exact AllE.find_some h4 hf
  | [], _ :: _, h, _ => h.elim
  | _ :: _, [], h, _ => h.elim
theorem AllE.put {w : World} {k : ByteArray} {x : α} (A3 A4 A5 A6 : Option Addr) (an3 ac3 an4 ac4 an5 ac5 an6 ac6 : Nat) (hV : K.V w x (.slice A3 an3 ac3) (.slice A4 an4 ac4) (.slice A5 an5 ac5) (.slice A6 an6 ac6)) : ∀ {D : List (ByteArray × α)} {l : MapT.Ents}, AllE K w D l → AllE K w (putD k x D) (MapT.put k (.agg #[.string k, .int .i64 K.kd, .string ⟨#[]⟩, .slice A3 an3 ac3, .slice A4 an4 ac4, .slice A5 an5 ac5, .slice A6 an6 ac6, .int .i64 0]) l)
  | [], [], _ => ⟨⟨rfl, A3, A4, A5, A6, an3, ac3, an4, ac4, an5, ac5, an6, ac6, rfl, hV⟩, trivial⟩
  | (z, v) :: D, (y, u) :: l, h => by
    obtain ⟨⟨h1, h2⟩, h4⟩ := h
    have h1 : y = z := h1
    subst h1
    by_cases hy : y = k
    · subst hy
      simp only [putD, MapT.put, if_true]
      exact ⟨⟨rfl, A3, A4, A5, A6, an3, ac3, an4, ac4, an5, ac5, an6, ac6, rfl, hV⟩, h4⟩
    · simp only [putD, MapT.put, hy, if_false]
      exact ⟨⟨rfl, h2⟩, AllE.put A3 A4 A5 A6 an3 ac3 an4 ac4 an5 ac5 an6 ac6 hV h4⟩
  | [], _ :: _, h => h.elim
  | _ :: _, [], h => h.elim
theorem AllE.del {w : World} {k : ByteArray} : ∀ {D : List (ByteArray × α)} {l : MapT.Ents}, AllE K w D l → AllE K w (delD k D) (MapT.del k l)
  | [], [], _ => trivial
  | (z, v) :: D, (y, u) :: l, h => by
    obtain ⟨⟨h1, h2⟩, h4⟩ := h
    have h1 : y = z := h1
    subst h1
    by_cases hy : y = k
    · subst hy
      simp only [delD, MapT.del, if_true]
      exact h4
    · simp only [delD, MapT.del, hy, if_false]
      exact ⟨⟨rfl, h2⟩, AllE.del h4⟩
  | [], _ :: _, h => h.elim
  | _ :: _, [], h => h.elim
end laws
/-- The space as data. -/
def SPG {α : Type} (K : Kd α) (ok : ByteArray → α → Prop) (w : World) (bS bM : Nat) (D : List (ByteArray × α)) : Prop := (∃ l, SP w bS bM l ∧ AllE K w D l) ∧ ∀ p ∈ D, ok p.1 p.2
section laws2
variable {α : Type} (K : Kd α) (ok : ByteArray → α → Prop)
theorem SPG.lt {w : World} {bS bM : Nat} {D : List (ByteArray × α)} (h : SPG K ok w bS bM D) : bS < w.heap.size ∧ bM < w.heap.size ∧ bS ≠ bM := by
  obtain ⟨⟨l, h1, _⟩, _⟩ := h
  exact ⟨h1.lt.1, h1.lt.2, h1.2.2⟩
theorem SPG.kept {w w' : World} {bS bM : Nat} {D : List (ByteArray × α)} (h : SPG K ok w bS bM D) (hb : ∀ i, i < w.heap.size → w'.heap[i]? = w.heap[i]?) : SPG K ok w' bS bM D := by
  obtain ⟨⟨l, h1, h2⟩, h3⟩ := h
  exact ⟨⟨l, h1.kept (hb _ h1.lt.1) (hb _ h1.lt.2), AllE.kept K h1 (fun i hi _ => hb i hi) h2⟩, h3⟩
theorem SPG.below {w w' : World} {bS bM : Nat} {D : List (ByteArray × α)} (h : SPG K ok w bS bM D) (hb : Below w.heap.size w w') : SPG K ok w' bS bM D := SPG.kept K ok h (fun i hi => hb.block i hi)
theorem SPG.ne {w : World} {bS bM : Nat} {D : List (ByteArray × α)} (h : SPG K ok w bS bM D) {b : Nat} {cs : Array Value} {t : TypeId} (hb : w.heap[b]? = some (.cells cs t)) (ht : t ≠ 57) : b ≠ bS ∧ b ≠ bM := by
  obtain ⟨⟨l, ⟨⟨mem, h1⟩, ⟨es, c, h2, _⟩, _⟩, _⟩, _⟩ := h
  refine ⟨fun e => ?_, fun e => ?_⟩
  · subst e; rw [h1] at hb; cases hb; exact ht rfl
  · subst e; rw [h2] at hb; cases hb
end laws2
/-- An effect's cells. -/
def EC {α : Type} (K : Kd α) (c : Nat) (w : World) : ByteArray × Option α → List Value → Prop
  | (k, none), cs => cs = [.string k, .int .i64 0, .string ⟨#[]⟩, .slice none 0 0, .slice none 0 0, .slice none 0 0, .slice none 0 0, .int .i64 0]
  | (k, some x), cs => ∃ A3 A4 A5 A6 an3 ac3 an4 ac4 an5 ac5 an6 ac6, cs = [.string k, .int .i64 K.kd, .string ⟨#[]⟩, .slice A3 an3 ac3, .slice A4 an4 ac4, .slice A5 an5 ac5, .slice A6 an6 ac6, .int .i64 0] ∧ K.V w x (.slice A3 an3 ac3) (.slice A4 an4 ac4) (.slice A5 an5 ac5) (.slice A6 an6 ac6) ∧ ∀ g, Own (.slice A3 an3 ac3) (.slice A4 an4 ac4) (.slice A5 an5 ac5) (.slice A6 an6 ac6) g → c ≤ g
def ALC {α : Type} (K : Kd α) (c : Nat) (w : World) : List (ByteArray × Option α) → List (List Value) → Prop
  | [], [] => True
  | p :: D, q :: l => EC K c w p q ∧ ALC K c w D l
  | [], _ :: _ => False
  | _ :: _, [] => False
/-- Effects in memory as data. -/
def EL {α : Type} (K : Kd α) (des : List (ByteArray × Option α)) (c : Nat) (w : World) (v : Value) : Prop := ∃ css, EFC w c v css ∧ ALC K c w des css
section laws3
variable {α : Type} (K : Kd α)
theorem ALC.len {c : Nat} {w : World} : ∀ {D : List (ByteArray × Option α)} {l : List (List Value)}, ALC K c w D l → l.length = D.length
  | [], [], _ => rfl
  | _ :: _, _ :: _, h => by rw [List.length_cons, List.length_cons, ALC.len h.2]
  | [], _ :: _, h => h.elim
  | _ :: _, [], h => h.elim
theorem EC.kept {c : Nat} {w w' : World} (hb : ∀ (x : α) (a b d e : Value), K.V w x a b d e → (∀ g, Own a b d e g → c ≤ g) → ∀ g, Own a b d e g → w'.heap[g]? = w.heap[g]?) : ∀ {p : ByteArray × Option α} {cs : List Value}, EC K c w p cs → EC K c w' p cs
  | (k, none), cs, h => h
  | (k, some x), cs, h => by
    obtain ⟨A3, A4, A5, A6, an3, ac3, an4, ac4, an5, ac5, an6, ac6, h1, h2, h3⟩ := h
    exact ⟨A3, A4, A5, A6, an3, ac3, an4, ac4, an5, ac5, an6, ac6, h1, K.kept h2 (hb _ _ _ _ _ h2 h3), h3⟩
theorem ALC.kept {c : Nat} {w w' : World} (hb : ∀ (x : α) (a b d e : Value), K.V w x a b d e → (∀ g, Own a b d e g → c ≤ g) → ∀ g, Own a b d e g → w'.heap[g]? = w.heap[g]?) : ∀ {D : List (ByteArray × Option α)} {l : List (List Value)}, ALC K c w D l → ALC K c w' D l
  | [], [], _ => trivial
  | _ :: _, _ :: _, h => ⟨EC.kept K hb h.1, ALC.kept hb h.2⟩
  | [], _ :: _, h => h.elim
  | _ :: _, [], h => h.elim
theorem EC.mono {c d : Nat} {w : World} (hd : d ≤ c) : ∀ {p : ByteArray × Option α} {cs : List Value}, EC K c w p cs → EC K d w p cs
  | (k, none), cs, h => h
  | (k, some x), cs, h => by
    obtain ⟨A3, A4, A5, A6, an3, ac3, an4, ac4, an5, ac5, an6, ac6, h1, h2, h3⟩ := h
    exact ⟨A3, A4, A5, A6, an3, ac3, an4, ac4, an5, ac5, an6, ac6, h1, h2, fun g hg => Nat.le_trans hd (h3 g hg)⟩
theorem ALC.mono {c d : Nat} {w : World} (hd : d ≤ c) : ∀ {D : List (ByteArray × Option α)} {l : List (List Value)}, ALC K c w D l → ALC K d w D l
  | [], [], _ => trivial
  | _ :: _, _ :: _, h => ⟨EC.mono K hd h.1, ALC.mono hd h.2⟩
  | [], _ :: _, h => h.elim
  | _ :: _, [], h => h.elim
theorem ALC.get {c : Nat} {w : World} : ∀ {D : List (ByteArray × Option α)} {l : List (List Value)}, ALC K c w D l → ∀ (i : Nat) (p : ByteArray × Option α), D[i]? = some p → ∃ cs, l[i]? = some cs ∧ EC K c w p cs
  | [], [], _, i, p, h => by simp at h
  | q :: D, cs :: l, h, i, p, hi => by
    cases i with
    | zero => simp at hi; subst hi; exact ⟨cs, rfl, h.1⟩
    | succ i => exact ALC.get h.2 i p (by simpa using hi)
  | [], _ :: _, h, _, _, _ => h.elim
  | _ :: _, [], h, _, _, _ => h.elim
theorem ALC.append {c : Nat} {w : World} {p : ByteArray × Option α} {cs : List Value} (hp : EC K c w p cs) : ∀ {D : List (ByteArray × Option α)} {l : List (List Value)}, ALC K c w D l → ALC K c w (D ++ [p]) (l ++ [cs])
  | [], [], _ => ⟨hp, trivial⟩
  | _ :: _, _ :: _, h => ⟨h.1, ALC.append hp h.2⟩
  | [], _ :: _, h => h.elim
  | _ :: _, [], h => h.elim
theorem EC.len {c : Nat} {w : World} : ∀ {p : ByteArray × Option α} {cs : List Value}, EC K c w p cs → cs.length = 8
  | (k, none), cs, h => by have h : cs = _ := h; rw [h]; rfl
  | (k, some x), cs, h => by
    obtain ⟨A3, A4, A5, A6, an3, ac3, an4, ac4, an5, ac5, an6, ac6, h1, _⟩ := h
    rw [h1]; rfl
theorem EL.keep (des : List (ByteArray × Option α)) : RKeep (EL K des) := by
  refine ⟨fun c w w' v h _ hb => ?_, fun c d w v h hd => ?_⟩
  · obtain ⟨css, h1, h2⟩ := h
    refine ⟨css, h1.kept (fun g hg => ?_), ALC.kept K (fun x a b d e hV hc g hg => hb g (hc g hg) (K.lt hV hg)) h2⟩
    obtain ⟨hc, cur, hh⟩ := h1.own g hg
    exact hb g hc (lt_blk hh)
  · obtain ⟨css, h1, h2⟩ := h
    exact ⟨css, h1.mono hd, ALC.mono K hd h2⟩
theorem EL.nil (c : Nat) (w : World) : EL K [] c w (.slice none 0 0) := ⟨[], EFC.nil w c, trivial⟩
end laws3
theorem flat8 {α : Type} (K : Kd α) {c : Nat} {w : World} : ∀ {D : List (ByteArray × Option α)} {l : List (List Value)}, ALC K c w D l → ∀ (i : Nat) (cs : List Value), l[i]? = some cs → ∀ (j : Nat) (v : Value), cs[j]? = some v → l.flatten[i * 8 + j]? = some v
  | [], [], _, i, cs, h, _, _, _ => by simp at h
  | q :: D, cs0 :: l, h, i, cs, hi, j, v, hj => by
    have h8 := EC.len K h.1
    cases i with
    | zero =>
      simp at hi; subst hi
      rw [List.flatten_cons, Nat.zero_mul, Nat.zero_add, List.getElem?_append_left (by have := (List.getElem?_eq_some_iff.1 hj).1; omega)]
      exact hj
    | succ i =>
      rw [List.flatten_cons, List.getElem?_append_right (by rw [h8]; omega), h8, show (i + 1) * 8 + j - 8 = i * 8 + j by omega]
      exact flat8 K h.2 i cs (by simpa using hi) j v hj
  | [], _ :: _, h, _, _, _, _, _, _ => h.elim
  | _ :: _, [], h, _, _, _, _, _, _ => h.elim
theorem EFC.cell {w : World} {c : Nat} {g n cap : Nat} {es : List (List Value)} (h : EFC w c (.slice (some ⟨g, 0, none⟩) n cap) es) (i : Nat) (v : Value) (hi : es.flatten[i]? = some v) : w.cell? ⟨g, i, none⟩ = some v := by
  have hc := World.ownsRow.cells h (g := g) rfl i v hi
  rw [Addr.add_lit, Nat.zero_add] at hc
  exact hc
/-- The space's Put of data. -/
theorem PutD {α : Type} (K : Kd α) (ok : ByteArray → α → Prop) (hO : KdOk K ok) (bS bM : Nat) (D : List (ByteArray × α)) (k : ByteArray) (x : α) (A3 A4 A5 A6 : Option Addr) (an3 ac3 an4 ac4 an5 ac5 an6 ac6 : Nat) (hk : ok k x) (w : World) (h : SPG K ok w bS bM D) (hlen : D.length < 4096) (hV : K.V w x (.slice A3 an3 ac3) (.slice A4 an4 ac4) (.slice A5 an5 ac5) (.slice A6 an6 ac6)) : Calls Tryz.prog 29 #[.pointer (some ⟨bS, 0, none⟩), .agg #[.string k, .int .i64 K.kd, .string ⟨#[]⟩, .slice A3 an3 ac3, .slice A4 an4 ac4, .slice A5 an5 ac5, .slice A6 an6 ac6, .int .i64 0]] w fun e w' => e = .returned (.int .i64 0) ∧ SPG K ok w' bS bM (putD k x D) ∧ Kp w.heap.size (fun i => i ≠ bS ∧ i ≠ bM) w w' := by
  obtain ⟨⟨l, hS, hA⟩, hall⟩ := h
  have hall2 : ∀ p ∈ putD k x D, ok p.1 p.2 := fun p hp => by
    rcases mem_putD hp with h | rfl
    · exact hall p h
    · exact hk
  cases hf : findD k D with
  | none =>
    refine (Put10_newG K ok hO bS bM l k x A3 A4 A5 A6 an3 ac3 an4 ac4 an5 ac5 an6 ac6 hk w hS (AllE.find_none K hA hf) (by rw [AllE.len K hA]; exact hlen) hV).mono ?_
    rintro e w' ⟨Y3, Y4, Y5, Y6, yn3, yc3, yn4, yc4, yn5, yc5, yn6, yc6, rfl, h1, h2, _, h4⟩
    exact ⟨rfl, ⟨⟨_, h1, AllE.put K Y3 Y4 Y5 Y6 yn3 yc3 yn4 yc4 yn5 yc5 yn6 yc6 h2 (AllE.kept K hS (fun i hi hn => h4.block i hi hn) hA)⟩, hall2⟩, h4⟩
  | some y =>
    obtain ⟨E3, E4, E5, E6, xn3, xc3, xn4, xc4, xn5, xc5, xn6, xc6, hf2, hV2⟩ := AllE.find_some K hA hf
    have hky := hall _ (findD_mem hf)
    refine (Put10_oldG K ok hO bS bM l k x A3 A4 A5 A6 an3 ac3 an4 ac4 an5 ac5 an6 ac6 hk w hS k ⟨#[]⟩ K.kd 0 E3 E4 E5 E6 xn3 xc3 xn4 xc4 xn5 xc5 xn6 xc6 hf2 (hO.sz k y) (fun X hX => hO.size k y E3 E4 E5 E6 xn3 xc3 xn4 xc4 xn5 xc5 xn6 xc6 X hky (K.below hV2 hX)) hV).mono ?_
    rintro e w' ⟨Y3, Y4, Y5, Y6, yn3, yc3, yn4, yc4, yn5, yc5, yn6, yc6, rfl, h1, h2, _, h4⟩
    exact ⟨rfl, ⟨⟨_, h1, AllE.put K Y3 Y4 Y5 Y6 yn3 yc3 yn4 yc4 yn5 yc5 yn6 yc6 h2 (AllE.kept K hS (fun i hi hn => h4.block i hi hn) hA)⟩, hall2⟩, h4⟩
end Go.Proofs.YticlacjpgjkhcaaGreatDoor
