/- What the arguments that come in read as; the numbers' texts by the table. -/
import Derived.Test.YtennkagolgbamaaDoorRe12
import Derived.Stop.LaidErr
import Derived.ProofKit
import Derived.SliceStrings
import Derived.Deep.Slices
import Derived.Lib.LaidTab
namespace Go.Proofs.YtennkagolgbamaaDoor
open Go.ChangeShapes Go.WideShapes Go.ChangeAt Go.RowKit Go.Resp

def Tab (w0 : World) : Prop := Lib.TabIs Tryd.prog w0 "internal/strconv.uint64pow10" .u64 Lib.pow10Tab
theorem gPow : Tryd.prog.globalNamed "internal/strconv.uint64pow10" = some 0 := by kernel_rfl
theorem gPowType : (Tryd.prog.globals[0]?).map (·.type) = some 62 := by kernel_rfl
theorem cells62 : Tryd.prog.cellsOf 62 = 20 := by kernel_rfl
theorem cells55 : Tryd.prog.cellsOf 55 = 1 := by kernel_rfl
theorem tab_back {W : World} (h : laidMetH Tryd.prog Rows.respBackRow.laid W) : Tab W :=
  Lib.tabIs_of_head (rest := []) (zs := Lib.pow10Tab) gPow gPowType Tryd.underlying62 Tryd.underlying55 cells55 cells62 (laidMet.tail (laidMet.tail h))
theorem tab_many {W : World} (h : laidMetH Tryd.prog Rows.respManyRow.laid W) : Tab W :=
  Lib.tabIs_of_head (rest := []) (zs := Lib.pow10Tab) gPow gPowType Tryd.underlying62 Tryd.underlying55 cells55 cells62 (laidMet.tail (laidMet.tail h))
theorem tab_reads {W : World} (h : laidMetH Tryd.prog Rows.respReadsRow.laid W) : Tab W :=
  Lib.tabIs_of_head (rest := []) (zs := Lib.pow10Tab) gPow gPowType Tryd.underlying62 Tryd.underlying55 cells55 cells62 (laidMet.tail (laidMet.tail h))
theorem tab_puts {W : World} (h : laidMetH Tryd.prog Rows.respPutsRow.laid W) : Tab W :=
  Lib.tabIs_of_head (rest := []) (zs := Lib.pow10Tab) gPow gPowType Tryd.underlying62 Tryd.underlying55 cells55 cells62 (laidMet.tail (laidMet.tail h))
theorem ItoaOn.of {w0 : World} (hT : Tab w0) : ItoaOn w0 := by
  intro n hn w hi
  refine (Tryd.strconv_Itoa n (by omega) (by omega) w (Lib.tabBelow_of_tabIs hT w hi)).mono ?_
  rintro e w' ⟨rfl, k, os, rfl⟩
  refine ⟨by rw [Lib.itoa_nonneg]; rfl, Lib.below_grow _ w (Nat.le_refl _) k os⟩
section
variable {H : Type} {enc : TypeId × Value → H} {W : World}
theorem at_of {a : Addr} {n : Nat} {f : Nat → Value} (h : ∀ i, i < n → W.cell? (a.add i) = some (f i)) (hp : 0 < n) :
    ∃ b off, a = ⟨b, off, none⟩ ∧ b < W.heap.size ∧ ∀ j, j < n → W.cell? ⟨b, off + j, none⟩ = some (f j) := by
  obtain ⟨b, off, spot⟩ := a
  have hspot : spot = none := by simpa [Addr.add] using World.cell?_spot (h 0 hp)
  subst hspot
  have h2 : ∀ j, j < n → W.cell? ⟨b, off + j, none⟩ = some (f j) := fun j hj => by rw [← Go.WideShapes.add_plain]; exact h j hj
  refine ⟨b, off, rfl, ?_, h2⟩
  have h0 := h2 0 hp
  rcases Nat.lt_or_ge b W.heap.size with hb | hb
  · exact hb
  · unfold World.cell? at h0
    simp only [Array.getElem?_eq_none hb] at h0
    cases h0
theorem SSl.of_trod {v : Value} {d : DataW H} {ps : List MemPlace} (h : DataW.Trod enc Tryd.prog W 0 (fun _ => true) true 32 v d ps) (hv : ∃ A n c, v = .slice A n c) : ∃ xs, SSl W v xs := by
  obtain ⟨A, n, c, rfl⟩ := hv
  obtain ⟨m, hm⟩ := h
  rcases open_strings Tryd.underlying32 Tryd.underlying9 (by kernel_rfl) hm with ⟨hcs, _⟩ | ⟨a, len, cap, ss, hcs, _, hl, hc, hs, _, hcell, _⟩
  · obtain ⟨rfl, rfl, rfl⟩ : A = none ∧ n = 0 ∧ c = 0 := by simpa [Value.cells] using hcs
    exact ⟨[], none, 0, rfl, Nat.le_refl _, Nat.zero_le _, fun h => absurd rfl h⟩
  · obtain ⟨rfl, rfl, rfl⟩ : A = some a ∧ n = len ∧ c = cap := by simpa [Value.cells] using hcs
    simp only [if_true] at hs
    have e : (ss.take n).length = n := by rw [List.length_take]; omega
    refine ⟨ss.take n, some a, c, by rw [e], by rw [e]; exact hl, hc, fun hne => ?_⟩
    have hn : 0 < n := by
      rcases Nat.eq_zero_or_pos n with h | h
      · subst h; simp at hne
      · exact h
    obtain ⟨b, off, rfl, hb, hcell'⟩ := at_of hcell (by omega)
    refine ⟨b, off, rfl, hb, fun i s hi => ?_⟩
    obtain ⟨hi1, hi2⟩ := List.getElem?_eq_some_iff.1 hi
    rw [e] at hi1
    rw [hcell' i (by omega)]
    rw [List.getElem?_take_of_lt hi1] at hi
    rw [List.getD, hi]; rfl
theorem BSl.of_trod {v : Value} {d : DataW H} {ps : List MemPlace} (h : DataW.Trod enc Tryd.prog W 0 (fun _ => true) true 27 v d ps) (hv : ∃ A n c, v = .slice A n c) : ∃ l, BSl W v l := by
  obtain ⟨A, n, c, rfl⟩ := hv
  obtain ⟨m, hm⟩ := h
  rcases open_ints Tryd.underlying27 Tryd.underlying5 (by kernel_rfl) hm with ⟨hcs, _⟩ | ⟨a, len, cap, zs, hcs, _, hl, hc, hs, _, hcell, hw⟩
  · obtain ⟨rfl, rfl, rfl⟩ : A = none ∧ n = 0 ∧ c = 0 := by simpa [Value.cells] using hcs
    exact ⟨[], none, 0, rfl, Nat.le_refl _, Nat.zero_le _, fun h => absurd rfl h⟩
  · obtain ⟨rfl, rfl, rfl⟩ : A = some a ∧ n = len ∧ c = cap := by simpa [Value.cells] using hcs
    simp only [if_true] at hs
    have e : ((zs.take n).map fun z => UInt8.ofNat z.toNat).length = n := by rw [List.length_map, List.length_take]; omega
    refine ⟨(zs.take n).map fun z => UInt8.ofNat z.toNat, some a, c, by rw [e], by rw [e]; exact hl, hc, fun hne => ?_⟩
    have hn : 0 < n := by
      rcases Nat.eq_zero_or_pos n with h | h
      · subst h; simp at hne
      · exact h
    obtain ⟨b, off, rfl, hb, hcell'⟩ := at_of hcell (by omega)
    refine ⟨b, off, rfl, hb, fun i s hi => ?_⟩
    obtain ⟨hi1, hi2⟩ := List.getElem?_eq_some_iff.1 hi
    rw [e] at hi1
    rw [hcell' i (by omega)]
    rw [List.getElem?_map, List.getElem?_take_of_lt hi1] at hi
    obtain ⟨z, hz, rfl⟩ := Option.map_eq_some_iff.1 hi
    have hwz := bounds_u8 (hw z (List.mem_of_getElem? hz))
    rw [List.getD, hz]
    congr 2
    rw [UInt8.toNat_ofNat']
    show z = _
    omega
end
theorem back_law (v0 v1 : Value) (cut : Int) (xs : List ByteArray) (lb : List UInt8) (w : World) (hT : Tab w) (h : SSl w v0 xs) (hb : BSl w v1 lb) :
    Calls Tryd.prog 6 #[v0, v1, .int .i64 cut] w fun e w' => e = .returned (.bool true) ∧ Below w.heap.size w w' := by
  by_cases hno : fewB xs = false ∨ xs = [] ∨ 100 < lb.length
  · exact back_told v0 v1 cut xs lb w h hb hno
  · have h1 : fewB xs = true := by
      cases hf : fewB xs with
      | true => rfl
      | false => exact absurd (.inl hf) hno
    exact back_walk w (ItoaOn.of hT) v0 v1 cut xs lb w (Below.refl _ _) h hb h1 (fun e => hno (.inr (.inl e))) (by rcases Nat.lt_or_ge 100 lb.length with g | g; exact absurd (.inr (.inr g)) hno; exact g)
end Go.Proofs.YtennkagolgbamaaDoor
