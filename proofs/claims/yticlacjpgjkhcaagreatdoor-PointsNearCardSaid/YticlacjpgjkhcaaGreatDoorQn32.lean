/- Texts joined: PZ, PNL -/
import Derived.Test.YticlacjpgjkhcaaGreatDoorQn30
import Derived.Test.YticlacjpgjkhcaaGreatDoorCards
import Derived.Stop.LaidErr
import Derived.ProofKit
import Derived.SliceStrings
import Derived.Deep.Slices
import Derived.Deep.SlicePairs
import Derived.Lib.LaidTab
import Derived.Test.YticlacjpgjkhcaaGreatDoorQn31
set_option linter.unusedVariables false
set_option linter.unusedSimpArgs false

/- The points' laws: what comes in, read; the table. -/
namespace Go.Proofs.YticlacjpgjkhcaaGreatDoor
open Go.ChangeShapes Go.WideShapes Go.ChangeAt Go.RowKit

section
variable {H : Type} {enc : TypeId × Value → H} {W : World}
theorem at_ofP {a : Addr} {n : Nat} {f : Nat → Value} (h : ∀ i, i < n → W.cell? (a.add i) = some (f i)) (hp : 0 < n) :
    ∃ b off, a = ⟨b, off, none⟩ ∧ b < W.heap.size ∧ ∀ j, j < n → W.cell? ⟨b, off + j, none⟩ = some (f j) := by
  obtain ⟨b, off, spot⟩ := a
  have hspot : spot = none := by simpa [Addr.add] using World.cell?_spot (h 0 hp)
  subst hspot
  have h2 : ∀ j, j < n → W.cell? ⟨b, off + j, none⟩ = some (f j) := fun j hj => by rw [← Go.WideShapes.add_plain]; exact h j hj
  refine ⟨b, off, rfl, ?_, h2⟩
  have h0 := h2 0 hp
  rcases Nat.lt_or_ge b W.heap.size with hb | hb
  · exact hb
  · unfold World.cell? at h0
    simp only [Array.getElem?_eq_none hb] at h0
    cases h0
theorem ISp.of_trod {v : Value} {d : DataW H} {ps : List MemPlace} (h : DataW.Trod enc Tryz.prog W 0 (fun _ => true) true 22 v d ps) (hv : ∃ A n c, v = .slice A n c) : ∃ l, ISp W v l := by
  obtain ⟨A, n, c, rfl⟩ := hv
  obtain ⟨m, hm⟩ := h
  rcases open_ints Tryz.underlying22 Tryz.underlying3 (by kernel_rfl) hm with ⟨hcs, _⟩ | ⟨a, len, cap, zs, hcs, _, hl, hc, hs, _, hcell, hw⟩
  · obtain ⟨rfl, rfl, rfl⟩ : A = none ∧ n = 0 ∧ c = 0 := by simpa [Value.cells] using hcs
    exact ⟨[], none, 0, rfl, Nat.le_refl _, Nat.zero_le _, fun h => absurd rfl h, fun z hz => by cases hz⟩
  · obtain ⟨rfl, rfl, rfl⟩ : A = some a ∧ n = len ∧ c = cap := by simpa [Value.cells] using hcs
    simp only [if_true] at hs
    have e : (zs.take n).length = n := by rw [List.length_take]; omega
    refine ⟨zs.take n, some a, c, by rw [e], by rw [e]; exact hl, hc, fun hne => ?_, fun z hz => ?_⟩
    · have hn : 0 < n := by
        rcases Nat.eq_zero_or_pos n with h | h
        · subst h; simp at hne
        · exact h
      obtain ⟨b, off, rfl, hb, hcell'⟩ := at_ofP hcell (by omega)
      refine ⟨b, off, rfl, hb, fun i s hi => ?_⟩
      obtain ⟨hi1, hi2⟩ := List.getElem?_eq_some_iff.1 hi
      rw [e] at hi1
      rw [hcell' i (by omega)]
      rw [List.getElem?_take_of_lt hi1] at hi
      rw [List.getD, hi]; rfl
    · have h1 := hw z (List.mem_of_mem_take hz)
      have h2 : (IntKind.i64.min ≤ z) ∧ z ≤ IntKind.i64.max := by simpa [Lit.wf] using h1
      exact ⟨h2.1, h2.2⟩
end
theorem gPowP : Tryz.prog.globalNamed "internal/strconv.uint64pow10" = some 0 := by kernel_rfl
theorem gPowTypeP : (Tryz.prog.globals[0]?).map (·.type) = some 234 := by kernel_rfl
theorem cellsTbP : Tryz.prog.cellsOf 234 = 20 := by kernel_rfl
theorem cellsEP : Tryz.prog.cellsOf 165 = 1 := by kernel_rfl
end Go.Proofs.YticlacjpgjkhcaaGreatDoor

/- The law PointsNear, whole. -/
namespace Go.Proofs.YticlacjpgjkhcaaGreatDoor
open Go.ChangeShapes Go.WideShapes Go.ChangeAt Go.RowKit

theorem tab_near {W : World} (h : laidMetH Tryz.prog Rows.pointsNearRow.laid W) : Tab W :=
  Lib.tabIs_of_head (rest := []) (zs := Lib.pow10Tab) gPowP gPowTypeP (by kernel_rfl) (by kernel_rfl) cellsEP cellsTbP (laidMet.tail (laidMet.tail h))
set_option maxRecDepth 100000 in
set_option maxHeartbeats 8000000 in
theorem near_none (xs ys : List Int) (v0 v1 : Value) (u v m0 : Int) (w : World) (hT : Tab w) (h0 : ISp w v0 xs) (h1 : ISp w v1 ys) (h : xs.length = 0 ∨ 9 < xs.length ∨ ys.length < xs.length) : Calls Tryz.prog 4 #[v0, v1, .int .i64 u, .int .i64 v, .int .i64 m0] w fun e w' => e = .returned (.bool true) ∧ Below w.heap.size w w' := by
  have TL := Lib.hid (toldP hT)
  obtain ⟨aA, cap, rfl, _⟩ := h0
  obtain ⟨bA, cap2, rfl, _⟩ := h1
  obtain ⟨n, hn⟩ : ∃ n : Nat, xs.length = n := ⟨_, rfl⟩
  obtain ⟨l, hl⟩ : ∃ l : Nat, ys.length = l := ⟨_, rfl⟩
  rw [hn, hl] at h
  rw [hn, hl]
  clear hn hl
  by_cases h1 : n = 0
  · subst h1
    clear h
    go_enter Tryz.func4, Tryz.ntmps4
    go_wp2_with (first | (go_at_call 10; (with_reducible refine (TL.out).mono ?_); rintro e w7 ⟨rfl, h7⟩; have B7 := Lib.hid h7; clear h7))
    go_ret
    exact ⟨rfl, B7.out⟩
  · have q1 : ¬ ((n : Int) = 0) := by omega
    by_cases h2 : 9 < n
    · have q2 : (9 : Int) < (n : Int) := by omega
      clear h h1 h2
      go_enter Tryz.func4, Tryz.ntmps4
      go_wp2_with (first | (go_at_call 10; (with_reducible refine (TL.out).mono ?_); rintro e w7 ⟨rfl, h7⟩; have B7 := Lib.hid h7; clear h7))
      go_ret
      exact ⟨rfl, B7.out⟩
    · have q2 : ¬ (9 : Int) < (n : Int) := by omega
      have q3 : (l : Int) < (n : Int) := by omega
      clear h h1 h2
      go_enter Tryz.func4, Tryz.ntmps4
      go_wp2_with (first | (go_at_call 10; (with_reducible refine (TL.out).mono ?_); rintro e w7 ⟨rfl, h7⟩; have B7 := Lib.hid h7; clear h7))
      go_ret
      exact ⟨rfl, B7.out⟩
theorem near_law {W : World} (hT : Tab W) (v0 v1 : Value) (xs ys : List Int) (h0 : ISp W v0 xs) (h1 : ISp W v1 ys) (u v m0 : Int) : Calls Tryz.prog 4 #[v0, v1, .int .i64 u, .int .i64 v, .int .i64 m0] W fun e w' => e = .returned (.bool true) ∧ Below W.heap.size W w' := by
  by_cases h : 1 ≤ xs.length ∧ xs.length ≤ 9 ∧ xs.length ≤ ys.length
  · exact near_main xs ys v0 v1 u v m0 W hT h0 h1 _ _ rfl rfl h.1 h.2.1 h.2.2
  · exact near_none xs ys v0 v1 u v m0 W hT h0 h1 (by omega)
end Go.Proofs.YticlacjpgjkhcaaGreatDoor
