/- Texts joined: R3 -/
import Derived.Test.YticlacjpgjkhcaaGreatDoorQc2
import Derived.Test.YticlacjpgjkhcaaGreatDoorQh34

/- The law HashesCounts, whole. -/
namespace Go.Proofs.YticlacjpgjkhcaaGreatDoor
open Go.ChangeShapes Go.WideShapes Go.ChangeAt Go.RowKit

section
variable {H : Type} {enc : TypeId × Value → H} {W : World}
theorem ISl.of_trod {v : Value} {d : DataW H} {ps : List MemPlace} (h : DataW.Trod enc Tryz.prog W 0 (fun _ => true) true 46 v d ps) (hv : ∃ A n c, v = .slice A n c) : ∃ l, ISl W v l := by
  obtain ⟨A, n, c, rfl⟩ := hv
  obtain ⟨m, hm⟩ := h
  rcases open_ints Tryz.underlying46 Tryz.underlying2 (by kernel_rfl) hm with ⟨hcs, _⟩ | ⟨a, len, cap, zs, hcs, _, hl, hc, hs, _, hcell, hw⟩
  · obtain ⟨rfl, rfl, rfl⟩ : A = none ∧ n = 0 ∧ c = 0 := by simpa [Value.cells] using hcs
    exact ⟨[], none, 0, rfl, Nat.le_refl _, Nat.zero_le _, fun h => absurd rfl h, fun z hz => by cases hz⟩
  · obtain ⟨rfl, rfl, rfl⟩ : A = some a ∧ n = len ∧ c = cap := by simpa [Value.cells] using hcs
    simp only [if_true] at hs
    have e : (zs.take n).length = n := by rw [List.length_take]; omega
    refine ⟨zs.take n, some a, c, by rw [e], by rw [e]; exact hl, hc, fun hne => ?_, fun z hz => ?_⟩
    · have hn : 0 < n := by
        rcases Nat.eq_zero_or_pos n with h | h
        · subst h; simp at hne
        · exact h
      obtain ⟨b, off, rfl, hb, hcell'⟩ := at_of hcell (by omega)
      refine ⟨b, off, rfl, hb, fun i s hi => ?_⟩
      obtain ⟨hi1, hi2⟩ := List.getElem?_eq_some_iff.1 hi
      rw [e] at hi1
      rw [hcell' i (by omega)]
      rw [List.getElem?_take_of_lt hi1] at hi
      rw [List.getD, hi]; rfl
    · have h1 := hw z (List.mem_of_mem_take hz)
      have h2 : (IntKind.i64.min ≤ z) ∧ z ≤ IntKind.i64.max := by simpa [Lit.wf] using h1
      exact ⟨h2.1, h2.2⟩
end
theorem tab_counts {W : World} (h : laidMetH Tryz.prog Rows.hashesCountsRow.laid W) : Tab W :=
  Lib.tabIs_of_head (rest := []) (zs := Lib.pow10Tab) gPow gPowType (by kernel_rfl) (by kernel_rfl) cellsE cellsTb (laidMet.tail (laidMet.tail h))
set_option maxRecDepth 100000 in
set_option maxHeartbeats 8000000 in
theorem counts_none (zs : List Int) (v0 : Value) (t : ByteArray) (w : World) (hT : Tab w) (h0 : ISl w v0 zs) (h : 12 < zs.length ∨ 50 < t.size) : Calls Tryz.prog 8 #[v0, .string t] w fun e w' => e = .returned (.bool true) ∧ Below w.heap.size w w' := by
  have TL := Lib.hid (told hT)
  obtain ⟨aA, cap, rfl, _⟩ := h0
  obtain ⟨n, hn⟩ : ∃ n : Nat, zs.length = n := ⟨_, rfl⟩
  rw [hn] at h ⊢
  clear hn
  by_cases h1 : 12 < n
  · have q2 : (12 : Int) < (n : Int) := by omega
    have q2b : decide ((12 : Int) < (n : Int)) = true := decide_eq_true q2
    go_enter Tryz.func8, Tryz.ntmps8
    go_wp2_with (first | (go_at_call 21; (with_reducible refine (TL.out).mono ?_); rintro e w7 ⟨rfl, h7⟩; have B7 := Lib.hid h7; clear h7))
    exact bodyPost_ret (v := .bool true) (by simp [results, Tryz.results8, go_sem]) rfl ⟨rfl, B7.out⟩
  · have q2 : ¬ (12 : Int) < (n : Int) := by omega
    have q2b : decide ((12 : Int) < (n : Int)) = false := decide_eq_false q2
    have q3b : decide ((50 : Int) < (t.size : Int)) = true := decide_eq_true (by omega)
    go_enter Tryz.func8, Tryz.ntmps8
    go_wp2_with (first | (go_at_call 21; (with_reducible refine (TL.out).mono ?_); rintro e w7 ⟨rfl, h7⟩; have B7 := Lib.hid h7; clear h7))
    exact bodyPost_ret (v := .bool true) (by simp [results, Tryz.results8, go_sem]) rfl ⟨rfl, B7.out⟩
theorem counts_law {W : World} (hT : Tab W) (v0 : Value) (zs : List Int) (h0 : ISl W v0 zs) (t : ByteArray) : Calls Tryz.prog 8 #[v0, .string t] W fun e w' => e = .returned (.bool true) ∧ Below W.heap.size W w' := by
  by_cases h : zs.length ≤ 12 ∧ t.size ≤ 50
  · exact counts_walk zs v0 t W hT h0 h.1 h.2
  · exact counts_none zs v0 t W hT h0 (by omega)
end Go.Proofs.YticlacjpgjkhcaaGreatDoor
