/- Texts joined: HJ -/
import Derived.Test.YtjfejmdnjbekkaaGreatDoorQb8
set_option linter.unusedVariables false
set_option linter.unusedSimpArgs false

/- keys.Do has no command of this name. -/
namespace Go.Proofs.YtjfejmdnjbekkaaGreatDoor
open Go.ChangeShapes Go.WideShapes Go.ChangeAt Go.RowKit

set_option maxRecDepth 100000 in
set_option maxHeartbeats 8000000 in
theorem Run_none (RAW NAME : ByteArray) (bS bF : Nat) (fl : MapT.Ents) (now : Int) (xs : List ByteArray) (vA : Value) (w : World) (hA : SSl w vA xs) (hM : MapT.MB w bF fl) (hf : MapT.find NAME fl = none) (hx : xs[0]? = some RAW) (hfit : ∀ X, SSl X vA xs → Calls Tryz.prog 28 #[vA] X fun e w' => e = .returned (.int .i64 0) ∧ Below X.heap.size X w') (hup : ∀ X, Calls Tryz.prog 30 #[.string RAW] X fun e w' => e = .returned (.string NAME) ∧ Below X.heap.size X w') :
    Calls Tryz.prog 76 #[.pointer (some ⟨bS, 0, none⟩), .int .i64 now, vA, .map (some bF)] w fun e w' => e = .returned (.tuple #[.agg #[.int .i64 0, .int .i64 0, .string ⟨#[]⟩, .slice none 0 0], .slice none 0 0, .bool false]) ∧ Below w.heap.size w w' := by
  have hr : (if true = true then Value.tuple #[(MapT.find NAME fl).getD .nilFunc, .bool (MapT.find NAME fl).isSome] else (MapT.find NAME fl).getD .nilFunc) = .tuple #[.nilFunc, .bool false] := by rw [hf]; rfl
  have HR := Lib.hid hr
  have h8 := Lib.hid (show ((((w.alloc (.cells #[.int .i64 0, .int .i64 0, .string ⟨#[]⟩, .slice none 0 0] 24)).alloc (.cells #[.slice none 0 0] 74)).alloc (.cells #[.bool false] 4))).heap[w.heap.size]? = some (.cells #[.int .i64 0, .int .i64 0, .string ⟨#[]⟩, .slice none 0 0] 24) from blk_below (blk_below (heap_alloc_new w _) alloc_old) alloc_old)
  have h9 := Lib.hid (show ((((w.alloc (.cells #[.int .i64 0, .int .i64 0, .string ⟨#[]⟩, .slice none 0 0] 24)).alloc (.cells #[.slice none 0 0] 74)).alloc (.cells #[.bool false] 4))).heap[w.heap.size + 1]? = some (.cells #[.slice none 0 0] 74) from blk_below (new_next w _ _) alloc_old)
  have h10 := Lib.hid (show ((((w.alloc (.cells #[.int .i64 0, .int .i64 0, .string ⟨#[]⟩, .slice none 0 0] 24)).alloc (.cells #[.slice none 0 0] 74)).alloc (.cells #[.bool false] 4))).heap[w.heap.size + 2]? = some (.cells #[.bool false] 4) from by
    have := new_next (w.alloc (.cells #[.int .i64 0, .int .i64 0, .string ⟨#[]⟩, .slice none 0 0] 24)) (.cells #[.slice none 0 0] 74) (.cells #[.bool false] 4)
    rw [World.size_alloc] at this
    exact this)
  have B3 := Lib.hid (show Below w.heap.size w ((((w.alloc (.cells #[.int .i64 0, .int .i64 0, .string ⟨#[]⟩, .slice none 0 0] 24)).alloc (.cells #[.slice none 0 0] 74)).alloc (.cells #[.bool false] 4))) from (alloc_old.trans (alloc_old.mono (by simp))).trans (alloc_old.mono (by simp; omega)))
  have FT := Lib.hid (hfit _ (hA.below B3.out))
  have UP := Lib.hid hup
  obtain ⟨aA, acap, hvA, p1, p2, p3⟩ := id hA
  have hpos : 0 < xs.length := by
    rcases Nat.eq_zero_or_pos xs.length with h0 | h0
    · rw [List.eq_nil_of_length_eq_zero h0] at hx; cases hx
    · exact h0
  have i0 : (0 : Int) < (xs.length : Int) := by omega
  obtain ⟨blk, off, rfl, hblt, hc⟩ := p3 (by intro e; rw [e] at hpos; simp at hpos)
  have CA := Lib.hid (show ∀ X, Below w.heap.size w X → X.cell? ⟨blk, off, none⟩ = some (.string RAW) from fun X hb => (hb.cell (p := ⟨blk, off, none⟩) hblt).trans (hc 0 RAW hx))
  have MM := Lib.hid (show ∀ X, Below w.heap.size w X → MapT.MB X bF fl from fun X hb => hM.below hb)
  clear hf hr hfit hup hA hM hc p3 hx
  subst hvA
  go_enter_defers Tryz.func76, Tryz.ntmps76
  go_wp2_with (first | (go_at_call 28; (with_reducible refine (FT.out).mono ?_); rintro e w1 ⟨rfl, h1⟩; have B1 := Lib.hid h1; clear h1; have BW := Lib.hid (B3.out.trans (B1.out.mono (Below.size B3.out))); have ca := CA.out _ BW.out) | (go_at_call 30; (with_reducible refine (UP.out _).mono ?_); rintro e w2 ⟨rfl, h2⟩; have B2 := Lib.hid (BW.out.trans (h2.mono (Below.size BW.out))); have B13 := Lib.hid (B1.out.trans (h2.mono (Below.size B1.out))); clear h2) | (at_lookup; refine MapT.at_look _ rfl _ _ true rfl Tryz.underlying141 Tryz.underlying9 bF fl rfl (MM.out _ B2.out) NAME rfl _ (zeroF _) _ HR.out ?_; refine Hid.out ?_))
  refine Lib.hid ?_
  have b8 := blk_below h8.out B13.out
  have b9 := blk_below h9.out B13.out
  have b10 := blk_below h10.out B13.out
  obtain ⟨⟨a0, a1, a2, a3⟩, ⟨f0, f1, f2, f3⟩⟩ := cells4 b8
  obtain ⟨g0, g1⟩ := cells1 b9
  obtain ⟨l0, l1⟩ := cells1 b10
  clear b8 b9 b10
  have q1 : w.heap.size + 1 + 1 ≠ w.heap.size := by omega
  have q2 : w.heap.size + 1 ≠ w.heap.size := by omega
  have q3 : w.heap.size + 1 + 1 ≠ w.heap.size + 1 := by omega
  go_wp2
  exact ⟨_, by simp [results, Tryz.results76, go_sem, a0, a1, a2, a3, g0, l0, q1, q2, q3], rfl, (((((B2.out.setCell (p := ⟨w.heap.size, 0, none⟩) (Nat.le_refl _) _).setCell (p := ⟨w.heap.size, 1, none⟩) (Nat.le_refl _) _).setCell (p := ⟨w.heap.size, 2, none⟩) (Nat.le_refl _) _).setCell (p := ⟨w.heap.size, 3, none⟩) (Nat.le_refl _) _).setCell (p := ⟨w.heap.size + 1, 0, none⟩) (Nat.le_succ _) _).setCell (p := ⟨w.heap.size + 1 + 1, 0, none⟩) (Nat.le_trans (Nat.le_succ _) (Nat.le_succ _)) _⟩
/-- keys' functions by name. -/
def flK : MapT.Ents := MapT.put ⟨#[70, 76, 85, 83, 72, 65, 76, 76]⟩ (.func (.func 94) #[] #[]) (MapT.put ⟨#[68, 66, 83, 73, 90, 69]⟩ (.func (.func 93) #[] #[]) (MapT.put ⟨#[75, 69, 89, 83]⟩ (.func (.func 90) #[] #[]) (MapT.put ⟨#[80, 69, 82, 83, 73, 83, 84]⟩ (.func (.func 89) #[] #[]) (MapT.put ⟨#[80, 84, 84, 76]⟩ (.func (.func 88) #[] #[]) (MapT.put ⟨#[84, 84, 76]⟩ (.func (.func 86) #[] #[]) (MapT.put ⟨#[80, 69, 88, 80, 73, 82, 69, 65, 84]⟩ (.func (.func 85) #[] #[]) (MapT.put ⟨#[80, 69, 88, 80, 73, 82, 69]⟩ (.func (.func 84) #[] #[]) (MapT.put ⟨#[69, 88, 80, 73, 82, 69]⟩ (.func (.func 82) #[] #[]) (MapT.put ⟨#[82, 69, 78, 65, 77, 69, 78, 88]⟩ (.func (.func 81) #[] #[]) (MapT.put ⟨#[82, 69, 78, 65, 77, 69]⟩ (.func (.func 80) #[] #[]) (MapT.put ⟨#[84, 89, 80, 69]⟩ (.func (.func 79) #[] #[]) (MapT.put ⟨#[69, 88, 73, 83, 84, 83]⟩ (.func (.func 78) #[] #[]) (MapT.put ⟨#[68, 69, 76]⟩ (.func (.func 77) #[] #[]) ([]))))))))))))))
theorem flK_INCR : MapT.find ⟨#[73, 78, 67, 82]⟩ flK = none := by kernel_rfl
set_option maxRecDepth 100000 in
set_option maxHeartbeats 8000000 in
theorem kDo_none (RAW NAME : ByteArray) (bS : Nat) (now : Int) (xs : List ByteArray) (vA : Value) (w : World) (hA : SSl w vA xs) (hf : MapT.find NAME flK = none) (hx : xs[0]? = some RAW) (hfit : ∀ X, SSl X vA xs → Calls Tryz.prog 28 #[vA] X fun e w' => e = .returned (.int .i64 0) ∧ Below X.heap.size X w') (hup : ∀ X, Calls Tryz.prog 30 #[.string RAW] X fun e w' => e = .returned (.string NAME) ∧ Below X.heap.size X w') :
    Calls Tryz.prog 56 #[.pointer (some ⟨bS, 0, none⟩), .int .i64 now, vA] w fun e w' => e = .returned (.tuple #[.agg #[.int .i64 0, .int .i64 0, .string ⟨#[]⟩, .slice none 0 0], .slice none 0 0, .bool false]) ∧ Below w.heap.size w w' := by
  have hmm := @run_makeMap Tryz.prog
  have Q9 := Lib.hid (show MapT.MB ((w.alloc (.cells #[.int .i64 0, .int .i64 0, .string ⟨#[]⟩, .slice none 0 0] 24)).alloc (.map #[] 0)) (w.heap.size + 1) [] ∧ Below w.heap.size w ((w.alloc (.cells #[.int .i64 0, .int .i64 0, .string ⟨#[]⟩, .slice none 0 0] 24)).alloc (.map #[] 0)) ∧ w.heap.size ≤ w.heap.size + 1 from ⟨by
    have := MapT.MB.made (w.alloc (.cells #[.int .i64 0, .int .i64 0, .string ⟨#[]⟩, .slice none 0 0] 24))
    rw [World.size_alloc] at this
    exact this, alloc_old.trans (alloc_old.mono (by simp)), by omega⟩)
  have b6 := Lib.hid (show ((w.alloc (.cells #[.int .i64 0, .int .i64 0, .string ⟨#[]⟩, .slice none 0 0] 24)).alloc (.map #[] 0)).heap[w.heap.size]? = some (.cells #[.int .i64 0, .int .i64 0, .string ⟨#[]⟩, .slice none 0 0] 24) from blk_below (heap_alloc_new w _) alloc_old)
  have RR := Lib.hid (fun X (hX : MapT.MB X (w.heap.size + 1) flK ∧ Below w.heap.size w X ∧ w.heap.size ≤ w.heap.size + 1) => Run_none RAW NAME bS (w.heap.size + 1) flK now xs vA X (hA.below hX.2.1) hX.1 hf hx hfit hup)
  obtain ⟨aA, acap, hvA, _⟩ := id hA
  clear hf hfit hup hA hx
  subst hvA
  go_enter Tryz.func56, Tryz.ntmps56
  go_wp2_with (first | (refine MapT.at_insertF _ rfl rfl _ _ _ rfl Tryz.underlying141 Tryz.underlying9 (w.heap.size + 1) _ rfl Q9.out.1 ?_; intro w9 hM9 hg9; have b6 := Lib.hid ((grown_block hg9 (lt_blk b6.out) (by omega)).trans b6.out); have Q9 := Lib.hid (ins_step Q9.out hM9 hg9); clear hM9 hg9) | (go_at_call 76; (with_reducible refine (RR.out _ Q9.out).mono ?_); rintro e w5 ⟨rfl, hb5⟩; have B5 := Lib.hid hb5; obtain ⟨⟨a0, a1, a2, a3⟩, ⟨f0, f1, f2, f3⟩⟩ := cells4 (blk_below b6.out hb5); clear hb5))
  have BW := Lib.hid (Q9.out.2.1.trans (B5.out.mono (Below.size Q9.out.2.1)))
  exact bodyPost_ret (v := .tuple #[.agg #[.int .i64 0, .int .i64 0, .string ⟨#[]⟩, .slice none 0 0], .slice none 0 0, .bool false]) (by simp [results, Tryz.results56, go_sem, a0, a1, a2, a3]) rfl ⟨rfl, (((BW.out.setCell (p := ⟨w.heap.size, 0, none⟩) (Nat.le_refl _) _).setCell (p := ⟨w.heap.size, 1, none⟩) (Nat.le_refl _) _).setCell (p := ⟨w.heap.size, 2, none⟩) (Nat.le_refl _) _).setCell (p := ⟨w.heap.size, 3, none⟩) (Nat.le_refl _) _⟩
end Go.Proofs.YtjfejmdnjbekkaaGreatDoor
