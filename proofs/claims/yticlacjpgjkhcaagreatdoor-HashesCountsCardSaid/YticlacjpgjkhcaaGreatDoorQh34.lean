/- Texts joined: Q5 -/
import Derived.Test.YticlacjpgjkhcaaGreatDoorQh33
import Derived.Test.YticlacjpgjkhcaaGreatDoorCards
import Derived.Stop.LaidErr
import Derived.ProofKit
import Derived.SliceStrings
import Derived.Deep.Slices
import Derived.Deep.SlicePairs
import Derived.Lib.LaidTab

/- The law HashesFields, whole. -/
namespace Go.Proofs.YticlacjpgjkhcaaGreatDoor
open Go.ChangeShapes Go.WideShapes Go.ChangeAt Go.RowKit

section
variable {H : Type} {enc : TypeId × Value → H} {W : World}
theorem at_of {a : Addr} {n : Nat} {f : Nat → Value} (h : ∀ i, i < n → W.cell? (a.add i) = some (f i)) (hp : 0 < n) :
    ∃ b off, a = ⟨b, off, none⟩ ∧ b < W.heap.size ∧ ∀ j, j < n → W.cell? ⟨b, off + j, none⟩ = some (f j) := by
  obtain ⟨b, off, spot⟩ := a
  have hspot : spot = none := by simpa [Addr.add] using World.cell?_spot (h 0 hp)
  subst hspot
  have h2 : ∀ j, j < n → W.cell? ⟨b, off + j, none⟩ = some (f j) := fun j hj => by rw [← Go.WideShapes.add_plain]; exact h j hj
  refine ⟨b, off, rfl, ?_, h2⟩
  have h0 := h2 0 hp
  rcases Nat.lt_or_ge b W.heap.size with hb | hb
  · exact hb
  · unfold World.cell? at h0
    simp only [Array.getElem?_eq_none hb] at h0
    cases h0
theorem FSl.of_trod {v : Value} {d : DataW H} {ps : List MemPlace} (h : DataW.Trod enc Tryz.prog W 0 (fun _ => true) true 39 v d ps) (hv : ∃ A n c, v = .slice A n c) : ∃ fs, FSl W v fs := by
  obtain ⟨A, n, c, rfl⟩ := hv
  obtain ⟨f, hm⟩ := h
  rcases Go.Deep.open_slice_pairs Tryz.underlying39 Tryz.underlying41 (by kernel_rfl) rfl rfl (by kernel_rfl) (by kernel_rfl) hm with ⟨hcs, _⟩ | ⟨a, len, cap, m, n', V0, V1, D0, D1, P0, P1, hcs, _, hl, hc, hs, _, hrow⟩
  · obtain ⟨rfl, rfl, rfl⟩ : A = none ∧ n = 0 ∧ c = 0 := by simpa [Value.cells] using hcs
    exact ⟨[], none, 0, rfl, Nat.le_refl _, Nat.zero_le _, fun h => absurd rfl h⟩
  · obtain ⟨rfl, rfl, rfl⟩ : A = some a ∧ n = len ∧ c = cap := by simpa [Value.cells] using hcs
    simp only [if_true] at hs
    subst hs
    have hr2 : ∀ i, i < m → ∃ p : ByteArray × ByteArray, W.cell? (a.add (i * 2)) = some (.string p.1) ∧ W.cell? (a.add (i * 2 + 1)) = some (.string p.2) := by
      intro i hi
      obtain ⟨h1, h2, h3, h4⟩ := hrow i hi
      obtain ⟨s, e1, _, _⟩ := DataW.trod_string Tryz.underlying9 h3
      obtain ⟨t, e2, _, _⟩ := DataW.trod_string Tryz.underlying9 h4
      injection e1 with e1 _
      injection e2 with e2 _
      exact ⟨(s, t), by rw [h1, e1], by rw [h2, e2]⟩
    obtain ⟨X, hX⟩ : ∃ X : Nat → ByteArray × ByteArray, ∀ i, i < m → W.cell? (a.add (i * 2)) = some (.string (X i).1) ∧ W.cell? (a.add (i * 2 + 1)) = some (.string (X i).2) := by
      refine ⟨fun i => if h : i < m then (hr2 i h).choose else (⟨#[]⟩, ⟨#[]⟩), fun i hi => ?_⟩
      have := (hr2 i hi).choose_spec
      simp only [dif_pos hi]
      exact this
    have e : ((List.range n).map X).length = n := by simp
    refine ⟨(List.range n).map X, some a, m, by rw [e], by rw [e]; exact hl, hc, fun hne => ?_⟩
    have hn : 0 < n := by
      rcases Nat.eq_zero_or_pos n with h | h
      · subst h; simp at hne
      · exact h
    have h00 : ∀ i, i < 1 → W.cell? (a.add i) = some ((fun _ : Nat => Value.string (X 0).1) i) := fun i hi => by
      obtain rfl : i = 0 := by omega
      exact (hX 0 (by omega)).1
    obtain ⟨b, off, rfl, hb, _⟩ := at_of h00 (by decide)
    refine ⟨b, off, rfl, hb, fun i p hi => ?_⟩
    rw [List.getElem?_map] at hi
    obtain ⟨j, hj, rfl⟩ := Option.map_eq_some_iff.1 hi
    obtain ⟨hj1, hj2⟩ := List.getElem?_eq_some_iff.1 hj
    simp at hj1 hj2
    subst hj2
    have h9 := hX i (by omega)
    rw [Go.WideShapes.add_plain, Go.WideShapes.add_plain] at h9
    exact ⟨h9.1, by rw [Nat.add_assoc]; exact h9.2⟩
end
theorem gPow : Tryz.prog.globalNamed "internal/strconv.uint64pow10" = some 0 := by kernel_rfl
theorem gPowType : (Tryz.prog.globals[0]?).map (·.type) = some 234 := by kernel_rfl
theorem cellsTb : Tryz.prog.cellsOf 234 = 20 := by kernel_rfl
theorem cellsE : Tryz.prog.cellsOf 165 = 1 := by kernel_rfl
theorem tab_fields {W : World} (h : laidMetH Tryz.prog Rows.hashesFieldsRow.laid W) : Tab W :=
  Lib.tabIs_of_head (rest := []) (zs := Lib.pow10Tab) gPow gPowType (by kernel_rfl) (by kernel_rfl) cellsE cellsTb (laidMet.tail (laidMet.tail h))
set_option maxRecDepth 100000 in
set_option maxHeartbeats 8000000 in
theorem fields_none (fs : List (ByteArray × ByteArray)) (v0 : Value) (w : World) (hT : Tab w) (h0 : FSl w v0 fs) (h : fs.length = 0 ∨ 12 < fs.length) : Calls Tryz.prog 7 #[v0] w fun e w' => e = .returned (.bool true) ∧ Below w.heap.size w w' := by
  have TL := Lib.hid (told hT)
  obtain ⟨aA, cap, rfl, _⟩ := h0
  obtain ⟨n, hn⟩ : ∃ n : Nat, fs.length = n := ⟨_, rfl⟩
  rw [hn] at h ⊢
  clear hn
  rcases h with rfl | h
  · go_enter Tryz.func7, Tryz.ntmps7
    go_wp2_with (first | (go_at_call 21; (with_reducible refine (TL.out).mono ?_); rintro e w7 ⟨rfl, h7⟩; have B7 := Lib.hid h7; clear h7))
    exact bodyPost_ret (v := .bool true) (by simp [results, Tryz.results7, go_sem]) rfl ⟨rfl, B7.out⟩
  · have q1 : ¬ (n : Int) = 0 := by omega
    have q2 : (12 : Int) < (n : Int) := by omega
    have q1b : ((n : Int) == 0) = false := by rw [beq_eq_false_iff_ne]; exact q1
    have q2b : decide ((12 : Int) < (n : Int)) = true := decide_eq_true q2
    go_enter Tryz.func7, Tryz.ntmps7
    go_wp2_with (first | (go_at_call 21; (with_reducible refine (TL.out).mono ?_); rintro e w7 ⟨rfl, h7⟩; have B7 := Lib.hid h7; clear h7))
    exact bodyPost_ret (v := .bool true) (by simp [results, Tryz.results7, go_sem]) rfl ⟨rfl, B7.out⟩
theorem fields_law {W : World} (hT : Tab W) (v0 : Value) (fs : List (ByteArray × ByteArray)) (h0 : FSl W v0 fs) : Calls Tryz.prog 7 #[v0] W fun e w' => e = .returned (.bool true) ∧ Below W.heap.size W w' := by
  by_cases h : 1 ≤ fs.length ∧ fs.length ≤ 12
  · exact fields_walk fs v0 W hT h0 h.1 h.2
  · exact fields_none fs v0 W hT h0 (by omega)
end Go.Proofs.YticlacjpgjkhcaaGreatDoor
