/- Texts joined: T3 -/
import Derived.Test.YtjljljjmdlddkaaGreatQa30
import Derived.ProofKit
import Derived.SliceStrings
import Derived.Deep.Slices

/- The law ListsThrough, whole. -/
namespace Go.Proofs.YtjljljjmdlddkaaGreat
open Go.ChangeShapes Go.WideShapes Go.ChangeAt Go.RowKit

section
variable {H : Type} {enc : TypeId × Value → H} {W : World}
theorem at_of {a : Addr} {n : Nat} {f : Nat → Value} (h : ∀ i, i < n → W.cell? (a.add i) = some (f i)) (hp : 0 < n) :
    ∃ b off, a = ⟨b, off, none⟩ ∧ b < W.heap.size ∧ ∀ j, j < n → W.cell? ⟨b, off + j, none⟩ = some (f j) := by
  obtain ⟨b, off, spot⟩ := a
  have hspot : spot = none := by simpa [Addr.add] using World.cell?_spot (h 0 hp)
  subst hspot
  have h2 : ∀ j, j < n → W.cell? ⟨b, off + j, none⟩ = some (f j) := fun j hj => by rw [← Go.WideShapes.add_plain]; exact h j hj
  refine ⟨b, off, rfl, ?_, h2⟩
  have h0 := h2 0 hp
  rcases Nat.lt_or_ge b W.heap.size with hb | hb
  · exact hb
  · unfold World.cell? at h0
    simp only [Array.getElem?_eq_none hb] at h0
    cases h0
theorem SSl.of_trod {v : Value} {d : DataW H} {ps : List MemPlace} (h : DataW.Trod enc Tryz.prog W 0 (fun _ => true) true 22 v d ps) (hv : ∃ A n c, v = .slice A n c) : ∃ xs, SSl W v xs := by
  obtain ⟨A, n, c, rfl⟩ := hv
  obtain ⟨m, hm⟩ := h
  rcases open_strings Tryz.underlying22 Tryz.underlying9 (by kernel_rfl) hm with ⟨hcs, _⟩ | ⟨a, len, cap, ss, hcs, _, hl, hc, hs, _, hcell, _⟩
  · obtain ⟨rfl, rfl, rfl⟩ : A = none ∧ n = 0 ∧ c = 0 := by simpa [Value.cells] using hcs
    exact ⟨[], none, 0, rfl, Nat.le_refl _, Nat.zero_le _, fun h => absurd rfl h⟩
  · obtain ⟨rfl, rfl, rfl⟩ : A = some a ∧ n = len ∧ c = cap := by simpa [Value.cells] using hcs
    simp only [if_true] at hs
    have e : (ss.take n).length = n := by rw [List.length_take]; omega
    refine ⟨ss.take n, some a, c, by rw [e], by rw [e]; exact hl, hc, fun hne => ?_⟩
    have hn : 0 < n := by
      rcases Nat.eq_zero_or_pos n with h | h
      · subst h; simp at hne
      · exact h
    obtain ⟨b, off, rfl, hb, hcell'⟩ := at_of hcell (by omega)
    refine ⟨b, off, rfl, hb, fun i s hi => ?_⟩
    obtain ⟨hi1, hi2⟩ := List.getElem?_eq_some_iff.1 hi
    rw [e] at hi1
    rw [hcell' i (by omega)]
    rw [List.getElem?_take_of_lt hi1] at hi
    rw [List.getD, hi]; rfl
end
set_option maxRecDepth 100000 in
set_option maxHeartbeats 8000000 in
theorem through_none (xs : List ByteArray) (v0 : Value) (f g : Bool) (w : World) (h0 : SSl w v0 xs) (h : xs.length = 0 ∨ 15 < xs.length) : Calls Tryz.prog 3 #[v0, .bool f, .bool g] w fun e w' => e = .returned (.bool true) ∧ Below w.heap.size w w' := by
  have TL := Lib.hid (fun X => told X)
  obtain ⟨aA, cap, rfl, p1, p2, p3⟩ := h0
  obtain ⟨n, hn⟩ : ∃ n : Nat, xs.length = n := ⟨_, rfl⟩
  rw [hn] at h
  simp only [hn]
  rcases h with h | h
  · subst h
    clear p1 p2 p3 hn
    go_enter Tryz.func3, Tryz.ntmps3
    go_wp2_with (first | (go_at_call 4; (with_reducible refine (TL.out _).mono ?_); rintro e w7 ⟨rfl, h7⟩; have B7 := Lib.hid h7; clear h7))
    exact bodyPost_ret (v := .bool true) (by simp [results, Tryz.results3, go_sem]) rfl ⟨rfl, B7.out⟩
  · have q1 : ¬ (n : Int) = 0 := by omega
    have q2 : (15 : Int) < (n : Int) := by omega
    have q1b : ((n : Int) == 0) = false := by rw [beq_eq_false_iff_ne]; exact q1
    clear p1 p2 p3 hn
    go_enter Tryz.func3, Tryz.ntmps3
    go_wp2_with (first | (go_at_call 4; (with_reducible refine (TL.out _).mono ?_); rintro e w7 ⟨rfl, h7⟩; have B7 := Lib.hid h7; clear h7))
    exact bodyPost_ret (v := .bool true) (by simp [results, Tryz.results3, go_sem]) rfl ⟨rfl, B7.out⟩
theorem through_law {W : World} (v0 : Value) (xs : List ByteArray) (h0 : SSl W v0 xs) (f g : Bool) : Calls Tryz.prog 3 #[v0, .bool f, .bool g] W fun e w' => e = .returned (.bool true) ∧ Below W.heap.size W w' := by
  by_cases h : 1 ≤ xs.length ∧ xs.length ≤ 15
  · cases f <;> cases g
    · exact through_FF xs _ _ v0 W h0 h.1 h.2 rfl rfl
    · exact through_FT xs _ _ v0 W h0 h.1 h.2 rfl rfl
    · exact through_TF xs _ _ v0 W h0 h.1 h.2 rfl rfl
    · exact through_TT xs _ _ v0 W h0 h.1 h.2 rfl rfl
  · exact through_none xs v0 f g W h0 (by omega)
end Go.Proofs.YtjljljjmdlddkaaGreat
