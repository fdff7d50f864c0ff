/- The document's Frame, Turned, Texts at this seat; what comes in reads as. -/
import Derived.Test.YtnfflkappbjoeaaDoorSe10
import Derived.Test.YtnfflkappbjoeaaDoorShelf
import Derived.Lib.ItoaLen
import Derived.Deep.RegionHeld3
import Derived.Stop.LaidErr
import Derived.ProofKit
import Derived.SliceStrings
import Derived.Deep.Slices
import Derived.Lib.LaidTab
import Derived.BigRegion
import Derived.BigQuiet
namespace Go.Proofs.YtnfflkappbjoeaaDoor
open Go.ChangeShapes Go.WideShapes Go.ChangeAt Go.RowKit Go.Resp
def digB (a : Nat) : ByteArray := ⟨(Lib.decDigits a).toArray⟩
theorem w64 (n : Int) : wrap64 n = (n + 9223372036854775808) % 18446744073709551616 - 9223372036854775808 := by rw [← IntWalk.i64_left, IntKind.wrap_i64]
theorem digB_size (a : Nat) (h : a ≤ 99999) : (digB a).size ≤ 5 := by
  show (Lib.decDigits a).length ≤ 5
  rw [Lib.decDigits_length]
  unfold Lib.nDigits; split
  · omega
  · unfold Lib.nDigits; split
    · omega
    · unfold Lib.nDigits; split
      · omega
      · unfold Lib.nDigits; split
        · omega
        · unfold Lib.nDigits; split <;> omega
def fewB (xs : List ByteArray) : Bool := xs.all (fun s => decide (s.size ≤ 200)) && decide (xs.length ≤ 20)
theorem Texts20 (v1 v2 : Value) (xs ys : List ByteArray) (w : World) (h : SSl w v1 xs) (g : SSl w v2 ys) : Calls Tryd.prog 17 #[v1, v2] w fun e w' => e = .returned (.bool (decide (xs = ys))) ∧ ∃ n, w' = w.drewN n := by
  obtain ⟨A, cap, rfl, h1, h2, h3⟩ := h
  obtain ⟨A', cap', rfl, g1, g2, g3⟩ := g
  unfold maxLen at h2 g2
  have H3 := Lib.hid h3
  have G3 := Lib.hid g3
  clear h3 g3
  by_cases hl : xs.length = ys.length
  · have z1 : ((xs.length : Int) != (ys.length : Int)) = false := by simp [hl]
    have z2 : (xs.length != ys.length) = false := by simp [hl]
    have HL := Lib.hid hl
    clear hl
    go_enter Tryd.func17, Tryd.ntmps17
    go_wp2
    go_loopw [5] (fun i wr => ∃ k : Nat, k ≤ xs.length ∧ Hid (xs.take k = ys.take k) ∧ (∃ n, wr = w.drewN n) ∧ i = .int .i64 k) (fun i _ => xs.length - (intOf i).toNat)
    case atStart => exact ⟨0, Nat.zero_le _, Lib.hid rfl, ⟨0, rfl⟩, rfl⟩
    case round =>
      obtain ⟨k, hk, HA, ⟨n, rfl⟩, rfl⟩ := hrel
      by_cases hlt : k < xs.length
      · obtain ⟨blk, off, rfl, hblk, hc⟩ := H3.out (by intro e; rw [e] at hlt; simp at hlt)
        have hlt2 : k < ys.length := by rw [← HL.out]; exact hlt
        obtain ⟨blk2, off2, rfl, hblk2, hc2⟩ := G3.out (by intro e; rw [e] at hlt2; simp at hlt2)
        obtain ⟨s, hs⟩ : ∃ s, xs[k]? = some s := ⟨_, List.getElem?_eq_getElem hlt⟩
        obtain ⟨t, ht⟩ : ∃ t, ys[k]? = some t := ⟨_, List.getElem?_eq_getElem hlt2⟩
        have hcell := hc k s hs
        have hcell2 := hc2 k t ht
        have HX := Lib.hid (And.intro hc (And.intro hs (And.intro hc2 ht)))
        have i1 : (k : Int) < (xs.length : Int) := by omega
        have i2 : (k : Int) < (ys.length : Int) := by omega
        clear hc hs hc2 ht
        go_wp2
        go_quiet (fail)
        go_wp2
        · have E := Lib.hid (show decide (xs = ys) = false by
            rw [decide_eq_false_iff_not]
            intro e
            subst e
            have h1 := HX.out.2.1
            rw [HX.out.2.2.2] at h1
            obtain rfl := Option.some.inj h1
            simp at *)
          go_ret
          exact ⟨by simp [E.out], n + nq, by simp⟩
        · refine ⟨⟨k + 1, by omega, Lib.hid ?_, ⟨_, rfl⟩, by go_num⟩, ?_⟩
          · have e : s = t := by
              have e1 : s.toList = t.toList := by simp_all
              rw [ByteArray.toList_eq, ByteArray.toList_eq] at e1
              exact Go.WideShapes.bytes_inj e1
            rw [List.take_add_one, List.take_add_one, HX.out.2.1, HX.out.2.2.2, HA.out, e]
          · simp [intOf]; omega
      · have hkl : k = xs.length := by omega
        have E := Lib.hid (show decide (xs = ys) = true by
          have := HA.out
          have h2 : k = ys.length := by rw [← HL.out]; exact hkl
          rw [hkl, List.take_length, HL.out, List.take_length] at this
          simp [this])
        clear hkl
        go_wp2
        go_ret
        exact ⟨by simp [E.out], _, rfl⟩
  · have E := Lib.hid (show decide (xs = ys) = false by simp; intro e; exact hl (by rw [e]))
    have z1 : ((xs.length : Int) != (ys.length : Int)) = true := by rw [bne_iff_ne]; omega
    have z2 : (xs.length != ys.length) = true := by rw [bne_iff_ne]; exact hl
    clear hl
    go_enter Tryd.func17, Tryd.ntmps17
    go_wp2
    go_ret
    exact ⟨by simp [E.out], 0, rfl⟩
/-- What Itoa answers, in every world that the call comes to. -/
def Inv (w0 w : World) : Prop := Below w0.heap.size w0 w
theorem Inv.on {w0 w w' : World} (h : Inv w0 w) (hb : Below w.heap.size w w') : Inv w0 w' := Below.trans h (hb.mono (Below.size h))
def ItoaOn (w0 : World) : Prop := ∀ n : Nat, n ≤ 200 → ∀ w, Inv w0 w → Calls Tryd.prog 16 #[.int .i64 (n : Int)] w fun e w' => e = .returned (.string (digB n)) ∧ Below w.heap.size w w'
def partL (s : ByteArray) : List UInt8 := lineL (36 :: Lib.decDigits s.size) ++ lineL s.data.toList
def frameL (xs : List ByteArray) : List UInt8 := lineL (42 :: Lib.decDigits xs.length) ++ xs.flatMap partL
theorem partL_len (s : ByteArray) (hs : s.size ≤ 200) : (partL s).length ≤ 300 := by
  have h := digB_size s.size (by omega)
  have h2 : (Lib.decDigits s.size).length ≤ 5 := h
  have h3 : s.data.toList.length = s.size := by simp
  unfold partL lineL
  simp only [List.length_append, List.length_cons, List.length_nil, h3]
  omega
theorem flat_len (xs : List ByteArray) (h : ∀ s ∈ xs, s.size ≤ 200) (k : Nat) : ((xs.take k).flatMap partL).length ≤ 300 * k := by
  induction xs generalizing k with
  | nil => simp
  | cons x r ih =>
    cases k with
    | zero => simp
    | succ k =>
      have h1 := ih (fun s hs => h s (by simp [hs])) k
      have h2 := partL_len x (h x (by simp))
      rw [List.take_succ_cons, List.flatMap_cons, List.length_append]
      omega
theorem head_len (n : Nat) (h : n ≤ 200) : (lineL (42 :: Lib.decDigits n)).length ≤ 20 := by
  have h := digB_size n (by omega)
  unfold digB at h
  simp [ByteArray.size] at h
  unfold lineL
  simp
  omega
theorem cut_of (cut : Int) (n : Nat) (h : 0 < n) (h2 : n ≤ 10000000) : ∃ k : Nat, wrap64 ((IntKind.u64.wrap cut).tmod (n : Int)) = (k : Int) ∧ k < n := by
  have e : IntKind.u64.wrap cut = cut % 18446744073709551616 := IntKind.wrap_u64 cut
  have hm : (IntKind.u64.wrap cut).tmod (n : Int) = (cut % 18446744073709551616) % (n : Int) := by
    rw [e]; exact Int.tmod_eq_emod_of_nonneg (Int.emod_nonneg _ (by decide))
  have h3 := Int.emod_nonneg (cut % 18446744073709551616) (show (n : Int) ≠ 0 by omega)
  have h4 := Int.emod_lt_of_pos (cut % 18446744073709551616) (show (0 : Int) < (n : Int) by omega)
  rw [hm, IntWalk.wrap64_in _ (by omega)]
  exact ⟨(cut % 18446744073709551616 % (n : Int)).toNat, by omega, by omega⟩
theorem few_len (xs : List ByteArray) (h : fewB xs = true) : 0 < (frameL xs).length ∧ (frameL xs).length ≤ 7000 := by
  have hl : xs.length ≤ 20 := by unfold fewB at h; rw [Bool.and_eq_true, decide_eq_true_iff] at h; exact h.2
  have hs200 : ∀ s ∈ xs, s.size ≤ 200 := by
    unfold fewB at h; rw [Bool.and_eq_true, List.all_eq_true] at h
    exact fun s hs => of_decide_eq_true (h.1 s hs)
  have h1 := flat_len xs hs200 xs.length
  rw [List.take_length] at h1
  have h2 := head_len xs.length (by omega)
  have h3 : 0 < (lineL (42 :: Lib.decDigits xs.length)).length := by unfold lineL; simp
  unfold frameL
  rw [List.length_append]
  omega
set_option maxHeartbeats 4000000 in
theorem RefFrame16 (w0 : World) (IT : ItoaOn w0) (v : Value) (xs : List ByteArray) (w : World) (hi : Inv w0 w) (h : SSl w v xs) (hf : fewB xs = true) :
    Calls Tryd.prog 5 #[v] w fun e w' => (∃ t : ByteArray, e = .returned (.string t) ∧ t.data.toList = frameL xs) ∧ Below w.heap.size w w' := by
  obtain ⟨A, cap, rfl, h1, h2, h3⟩ := h
  have hl : xs.length ≤ 20 := by unfold fewB at hf; rw [Bool.and_eq_true, decide_eq_true_iff] at hf; exact hf.2
  have hs200 : ∀ s ∈ xs, s.size ≤ 200 := by
    unfold fewB at hf; rw [Bool.and_eq_true, List.all_eq_true] at hf
    exact fun s hs => of_decide_eq_true (hf.1 s hs)
  unfold maxLen at h2; unfold ItoaOn at IT
  have H3 := Lib.hid h3
  have HS := Lib.hid hs200
  have HI := Lib.hid hi
  have IT' := Lib.hid IT
  clear h3 hs200 hf hi IT
  have hd0 := digB_size xs.length (by omega)
  have HB0 := Lib.hid (Below.refl w.heap.size w)
  go_enter Tryd.func5, Tryd.ntmps5
  go_wp2_with (first | (go_at_call 16; (with_reducible refine (IT'.out _ (by omega) _ HI.out).mono ?_); rintro e w1 ⟨rfl, hb1⟩; have HB1 := Lib.hid hb1; clear hb1))
  go_loopw [3, 4] (fun b i wr => ∃ (k : Nat) (t : ByteArray), k ≤ xs.length ∧ i = .int .i64 k ∧ b = .string t ∧ t.size ≤ 20 + 300 * k ∧ Hid (t.data.toList = (lineL (42 :: Lib.decDigits xs.length) ++ (xs.take k).flatMap partL) ∧ Below w.heap.size w wr)) (fun _ i _ => xs.length - (intOf i).toNat)
  case atStart =>
    refine ⟨0, _, Nat.zero_le _, rfl, rfl, ?_, Lib.hid ⟨?_, HB1.out⟩⟩
    · rw [ByteArray.size_append, ByteArray.size_append]; show 1 + _ + 2 ≤ _; omega
    · unfold lineL digB; simp
  case round =>
    obtain ⟨k, t, hk, rfl, rfl, ht, HR⟩ := hrel
    by_cases hlt : k < xs.length
    · obtain ⟨blk, off, rfl, hblk, hc⟩ := H3.out (by intro e; rw [e] at hlt; simp at hlt)
      obtain ⟨s, hs⟩ : ∃ s, xs[k]? = some s := ⟨_, List.getElem?_eq_getElem hlt⟩
      have hs2 := HS.out s (List.mem_of_getElem? hs)
      have hcell := hc k s hs
      have HX := Lib.hid (And.intro hc hs)
      have hd2 := digB_size s.size (by omega)
      have hI := HR.out.2
      have hcell2 := (hI.cell (p := ⟨blk, off + k, none⟩) hblk).trans hcell
      have hik : (k : Int) < (xs.length : Int) := by omega
      clear hc hs hcell
      go_wp2
      have S0 : wr.drew.cell? ⟨blk, off + k, none⟩ = some (.string s) ∧ Below w.heap.size w wr.drew := ⟨hcell2, hI.trans ⟨rfl, rfl, rfl, Nat.le_refl _, fun _ _ => rfl⟩⟩
      have SK := Lib.hid (show ∀ wa wb : World, (wa.cell? ⟨blk, off + k, none⟩ = some (.string s) ∧ Below w.heap.size w wa) → Below wa.heap.size wa wb → (wb.cell? ⟨blk, off + k, none⟩ = some (.string s) ∧ Below w.heap.size w wb) from
        fun wa wb ⟨q1, q2⟩ q3 => ⟨(q3.cell (p := ⟨blk, off + k, none⟩) (by show blk < _; have := Below.size q2; omega)).trans q1, q2.trans (q3.mono (Below.size q2))⟩)
      have ITS := Lib.hid (show ∀ X : World, (X.cell? ⟨blk, off + k, none⟩ = some (.string s) ∧ Below w.heap.size w X) → Calls Tryd.prog 16 #[.int .i64 (s.size : Int)] X fun e w' => e = .returned (.string (digB s.size)) ∧ Below X.heap.size X w' from fun X h => IT'.out s.size (by omega) X (HI.out.on h.2))
      have c36 : (ByteArray.mk #[36]).size = 1 := rfl
      have c13 : (ByteArray.mk #[13, 10]).size = 2 := rfl
      have m1 : ¬ (t.size + 1 > 9223372036854775807) := by omega
      have m2 : ¬ (t.size + 1 + (digB s.size).size > 9223372036854775807) := by omega
      have m3 : ¬ (t.size + 1 + (digB s.size).size + 2 > 9223372036854775807) := by omega
      have m4 : ¬ (t.size + 1 + (digB s.size).size + 2 + s.size > 9223372036854775807) := by omega
      have m5 : ¬ (t.size + 1 + (digB s.size).size + 2 + s.size + 2 > 9223372036854775807) := by omega
      go_region_held3 (fun w' => w'.cell? ⟨blk, off + k, none⟩ = some (.string s) ∧ Below w.heap.size w w') (first | exact S0 | exact SK.out _ _ (by assumption) (by assumption) | exact SK.out _ _ ⟨by assumption, by assumption⟩ (by assumption))
        (first | (go_at_call 16; refine (ITS.out _ ?_).mono ?_; assumption; rintro e w5 ⟨rfl, hb5⟩))
      go_wp2
      have hS5 := hI.trans ((show Below w.heap.size wr wr.drew from ⟨rfl, rfl, rfl, Nat.le_refl _, fun _ _ => rfl⟩).trans (hb5.mono (by have := hI.size; show w.heap.size ≤ wr.heap.size; omega)))
      refine ⟨⟨k + 1, _, by omega, by go_num, rfl, ?_, Lib.hid ⟨?_, hS5⟩⟩, by simp [intOf]; omega⟩
      · rw [ByteArray.size_append, ByteArray.size_append, ByteArray.size_append, ByteArray.size_append, ByteArray.size_append, c36, c13]; omega
      · have e8 : xs.take (k + 1) = xs.take k ++ [s] := by rw [List.take_add_one, HX.out.2]; rfl
        rw [e8, List.flatMap_append, ← List.append_assoc, ← HR.out.1]
        unfold partL lineL digB
        simp
    · have hkl : k = xs.length := by omega
      subst hkl
      rw [List.take_length] at HR
      go_wp2
      go_ret
      exact ⟨⟨t, rfl, HR.out.1⟩, HR.out.2⟩
def Tab (w0 : World) : Prop := Lib.TabIs Tryd.prog w0 "internal/strconv.uint64pow10" .u64 Lib.pow10Tab
theorem gPow : Tryd.prog.globalNamed "internal/strconv.uint64pow10" = some 0 := by kernel_rfl
theorem gPowType : (Tryd.prog.globals[0]?).map (·.type) = some 76 := by kernel_rfl
theorem cells62 : Tryd.prog.cellsOf 76 = 20 := by kernel_rfl
theorem cells55 : Tryd.prog.cellsOf 69 = 1 := by kernel_rfl
theorem ItoaOn.of {w0 : World} (hT : Tab w0) : ItoaOn w0 := by
  intro n hn w hi
  refine (Tryd.strconv_Itoa n (by omega) (by omega) w (Lib.tabBelow_of_tabIs hT w hi)).mono ?_
  rintro e w' ⟨rfl, k, os, rfl⟩
  refine ⟨by rw [Lib.itoa_nonneg]; rfl, Lib.below_grow _ w (Nat.le_refl _) k os⟩
section
variable {H : Type} {enc : TypeId × Value → H} {W : World}
theorem at_of {a : Addr} {n : Nat} {f : Nat → Value} (h : ∀ i, i < n → W.cell? (a.add i) = some (f i)) (hp : 0 < n) :
    ∃ b off, a = ⟨b, off, none⟩ ∧ b < W.heap.size ∧ ∀ j, j < n → W.cell? ⟨b, off + j, none⟩ = some (f j) := by
  obtain ⟨b, off, spot⟩ := a
  have hspot : spot = none := by simpa [Addr.add] using World.cell?_spot (h 0 hp)
  subst hspot
  have h2 : ∀ j, j < n → W.cell? ⟨b, off + j, none⟩ = some (f j) := fun j hj => by rw [← Go.WideShapes.add_plain]; exact h j hj
  refine ⟨b, off, rfl, ?_, h2⟩
  have h0 := h2 0 hp
  rcases Nat.lt_or_ge b W.heap.size with hb | hb
  · exact hb
  · unfold World.cell? at h0
    simp only [Array.getElem?_eq_none hb] at h0
    cases h0
theorem SSl.of_trod {v : Value} {d : DataW H} {ps : List MemPlace} (h : DataW.Trod enc Tryd.prog W 0 (fun _ => true) true 26 v d ps) (hv : ∃ A n c, v = .slice A n c) : ∃ xs, SSl W v xs := by
  obtain ⟨A, n, c, rfl⟩ := hv
  obtain ⟨m, hm⟩ := h
  rcases open_strings Tryd.underlying26 Tryd.underlying9 (by kernel_rfl) hm with ⟨hcs, _⟩ | ⟨a, len, cap, ss, hcs, _, hl, hc, hs, _, hcell, _⟩
  · obtain ⟨rfl, rfl, rfl⟩ : A = none ∧ n = 0 ∧ c = 0 := by simpa [Value.cells] using hcs
    exact ⟨[], none, 0, rfl, Nat.le_refl _, Nat.zero_le _, fun h => absurd rfl h⟩
  · obtain ⟨rfl, rfl, rfl⟩ : A = some a ∧ n = len ∧ c = cap := by simpa [Value.cells] using hcs
    simp only [if_true] at hs
    have e : (ss.take n).length = n := by rw [List.length_take]; omega
    refine ⟨ss.take n, some a, c, by rw [e], by rw [e]; exact hl, hc, fun hne => ?_⟩
    have hn : 0 < n := by
      rcases Nat.eq_zero_or_pos n with h | h
      · subst h; simp at hne
      · exact h
    obtain ⟨b, off, rfl, hb, hcell'⟩ := at_of hcell (by omega)
    refine ⟨b, off, rfl, hb, fun i s hi => ?_⟩
    obtain ⟨hi1, hi2⟩ := List.getElem?_eq_some_iff.1 hi
    rw [e] at hi1
    rw [hcell' i (by omega)]
    rw [List.getElem?_take_of_lt hi1] at hi
    rw [List.getD, hi]; rfl
theorem BSl.of_trod {v : Value} {d : DataW H} {ps : List MemPlace} (h : DataW.Trod enc Tryd.prog W 0 (fun _ => true) true 24 v d ps) (hv : ∃ A n c, v = .slice A n c) : ∃ l, BSl W v l := by
  obtain ⟨A, n, c, rfl⟩ := hv
  obtain ⟨m, hm⟩ := h
  rcases open_ints Tryd.underlying24 Tryd.underlying5 (by kernel_rfl) hm with ⟨hcs, _⟩ | ⟨a, len, cap, zs, hcs, _, hl, hc, hs, _, hcell, hw⟩
  · obtain ⟨rfl, rfl, rfl⟩ : A = none ∧ n = 0 ∧ c = 0 := by simpa [Value.cells] using hcs
    exact ⟨[], none, 0, rfl, Nat.le_refl _, Nat.zero_le _, fun h => absurd rfl h⟩
  · obtain ⟨rfl, rfl, rfl⟩ : A = some a ∧ n = len ∧ c = cap := by simpa [Value.cells] using hcs
    simp only [if_true] at hs
    have e : ((zs.take n).map fun z => UInt8.ofNat z.toNat).length = n := by rw [List.length_map, List.length_take]; omega
    refine ⟨(zs.take n).map fun z => UInt8.ofNat z.toNat, some a, c, by rw [e], by rw [e]; exact hl, hc, fun hne => ?_⟩
    have hn : 0 < n := by
      rcases Nat.eq_zero_or_pos n with h | h
      · subst h; simp at hne
      · exact h
    obtain ⟨b, off, rfl, hb, hcell'⟩ := at_of hcell (by omega)
    refine ⟨b, off, rfl, hb, fun i s hi => ?_⟩
    obtain ⟨hi1, hi2⟩ := List.getElem?_eq_some_iff.1 hi
    rw [e] at hi1
    rw [hcell' i (by omega)]
    rw [List.getElem?_map, List.getElem?_take_of_lt hi1] at hi
    obtain ⟨z, hz, rfl⟩ := Option.map_eq_some_iff.1 hi
    have hwz := bounds_u8 (hw z (List.mem_of_getElem? hz))
    rw [List.getD, hz]
    congr 2
    rw [UInt8.toNat_ofNat']
    show z = _
    omega
end
theorem row_cell {W : World} {base : Nat} {a : Addr} {cs : List Value} (h : W.cells? base a 1 = some cs) : ∃ u, W.cell? a = some u ∧ cs = [u] := by
  obtain ⟨h1, h2, h3⟩ := World.cells?_some h
  match cs, h2 with
  | [u], _ =>
    refine ⟨u, ?_, rfl⟩
    have := h3 0 (by simp)
    obtain ⟨b, off, spot⟩ := a
    simpa [Addr.add] using this
/-- A slice of slices of texts. -/
def RSl (w : World) (v : Value) (xss : List (List ByteArray)) : Prop := ∃ A cap, v = .slice A xss.length cap ∧ xss.length ≤ cap ∧ cap ≤ maxLen ∧
  (xss ≠ [] → ∃ blk off, A = some ⟨blk, off, none⟩ ∧ blk < w.heap.size ∧ ∀ i xs, xss[i]? = some xs → ∃ u, w.cell? ⟨blk, off + i, none⟩ = some u ∧ SSl w u xs)
theorem RSl.of_trod {H : Type} {enc : TypeId × Value → H} {W : World} {v : Value} {d : DataW H} {ps : List MemPlace} (h : DataW.Trod enc Tryd.prog W 0 (fun _ => true) true 22 v d ps) (hv : ∃ A n c, v = .slice A n c) : ∃ xss, RSl W v xss := by
  obtain ⟨A, n, c, rfl⟩ := hv
  obtain ⟨f, hm⟩ := h
  have hc1 : Tryd.prog.cellsOf 26 = 1 := by kernel_rfl
  rcases Go.Deep.open_slice Tryd.underlying22 hm with ⟨hcs, _⟩ | ⟨a, len, cap, m, n', D, Pl, hcs, _, hl, hc, hs, _, hrow⟩
  · obtain ⟨rfl, rfl, rfl⟩ : A = none ∧ n = 0 ∧ c = 0 := by simpa [Value.cells] using hcs
    exact ⟨[], none, 0, rfl, Nat.le_refl _, Nat.zero_le _, fun h => absurd rfl h⟩
  · obtain ⟨rfl, rfl, rfl⟩ : A = some a ∧ n = len ∧ c = cap := by simpa [Value.cells] using hcs
    simp only [if_true] at hs
    subst hs
    rw [hc1] at hrow
    have hr2 : ∀ i, i < m → ∃ u xs, W.cell? (a.add i) = some u ∧ SSl W u xs := by
      intro i hi
      obtain ⟨cs', h1, h2⟩ := hrow i hi
      rw [Nat.mul_one] at h1
      obtain ⟨u, hu, rfl⟩ := row_cell h1
      have hsh : ∃ A n c, u = .slice A n c := by
        rcases open_strings Tryd.underlying26 Tryd.underlying9 (by kernel_rfl) h2 with ⟨hcs, _⟩ | ⟨a, len, cap, ss, hcs, _⟩
        · injection hcs with h _; exact ⟨_, _, _, h⟩
        · injection hcs with h _; exact ⟨_, _, _, h⟩
      obtain ⟨A, n, c, rfl⟩ := hsh
      obtain ⟨xs, hxs⟩ := SSl.of_trod (H := H) (enc := enc) (d := D i) (ps := Pl i) ⟨n', by simpa [Value.cells] using h2⟩ ⟨A, n, c, rfl⟩
      exact ⟨_, xs, hu, hxs⟩
    obtain ⟨U, hU⟩ : ∃ U : Nat → Value, ∀ i, i < m → ∃ xs, W.cell? (a.add i) = some (U i) ∧ SSl W (U i) xs := by
      refine ⟨fun i => if h : i < m then (hr2 i h).choose else Value.bool false, fun i hi => ?_⟩
      have := (hr2 i hi).choose_spec
      simp only [dif_pos hi]
      exact this
    obtain ⟨X, hX⟩ : ∃ X : Nat → List ByteArray, ∀ i, i < m → W.cell? (a.add i) = some (U i) ∧ SSl W (U i) (X i) := by
      refine ⟨fun i => if h : i < m then (hU i h).choose else [], fun i hi => ?_⟩
      have := (hU i hi).choose_spec
      simp only [dif_pos hi]
      exact this
    have e : ((List.range n).map X).length = n := by simp
    refine ⟨(List.range n).map X, some a, m, by rw [e], by rw [e]; exact hl, hc, fun hne => ?_⟩
    have hn : 0 < n := by
      rcases Nat.eq_zero_or_pos n with h | h
      · subst h; simp at hne
      · exact h
    obtain ⟨b, off, rfl, hb, hcell'⟩ := at_of (fun i hi => (hX i hi).1) (by omega)
    refine ⟨b, off, rfl, hb, fun i xs hi => ?_⟩
    rw [List.getElem?_map] at hi
    obtain ⟨j, hj, rfl⟩ := Option.map_eq_some_iff.1 hi
    obtain ⟨hj1, hj2⟩ := List.getElem?_eq_some_iff.1 hj
    simp at hj1 hj2
    subst hj2
    exact ⟨_, hcell' i (by omega), (hX i (by omega)).2⟩
theorem RSl.below {w w' : World} {v : Value} {xss : List (List ByteArray)} (h : RSl w v xss) (hb : Below w.heap.size w w') : RSl w' v xss := by
  obtain ⟨A, cap, h1, h2, h3, h4⟩ := h
  refine ⟨A, cap, h1, h2, h3, fun hne => ?_⟩
  obtain ⟨blk, off, h5, h6, h7⟩ := h4 hne
  have := Below.size hb
  refine ⟨blk, off, h5, by omega, fun i s hs => ?_⟩
  obtain ⟨u, hu, hx⟩ := h7 i s hs
  exact ⟨u, (hb.cell (p := ⟨blk, off + i, none⟩) h6).trans hu, hx.below hb⟩
/-- A slice of whole numbers. -/
def ISl (w : World) (v : Value) (zs : List Int) : Prop := ∃ A cap, v = .slice A zs.length cap ∧ zs.length ≤ cap ∧ cap ≤ maxLen ∧
  (zs ≠ [] → ∃ blk off, A = some ⟨blk, off, none⟩ ∧ blk < w.heap.size ∧ ∀ i z, zs[i]? = some z → w.cell? ⟨blk, off + i, none⟩ = some (.int .i64 z))
theorem ISl.below {w w' : World} {v : Value} {xs : List Int} (h : ISl w v xs) (hb : Below w.heap.size w w') : ISl w' v xs := by
  obtain ⟨A, cap, h1, h2, h3, h4⟩ := h
  refine ⟨A, cap, h1, h2, h3, fun hne => ?_⟩
  obtain ⟨blk, off, h5, h6, h7⟩ := h4 hne
  have := Below.size hb
  exact ⟨blk, off, h5, by omega, fun i s hs => (hb.cell (p := ⟨blk, off + i, none⟩) h6).trans (h7 i s hs)⟩
theorem ISl.of_trod {H : Type} {enc : TypeId × Value → H} {W : World} {v : Value} {d : DataW H} {ps : List MemPlace} (h : DataW.Trod enc Tryd.prog W 0 (fun _ => true) true 23 v d ps) (hv : ∃ A n c, v = .slice A n c) : ∃ l, ISl W v l := by
  obtain ⟨A, n, c, rfl⟩ := hv
  obtain ⟨m, hm⟩ := h
  rcases open_ints Tryd.underlying23 Tryd.underlying3 (by kernel_rfl) hm with ⟨hcs, _⟩ | ⟨a, len, cap, zs, hcs, _, hl, hc, hs, _, hcell, hw⟩
  · obtain ⟨rfl, rfl, rfl⟩ : A = none ∧ n = 0 ∧ c = 0 := by simpa [Value.cells] using hcs
    exact ⟨[], none, 0, rfl, Nat.le_refl _, Nat.zero_le _, fun h => absurd rfl h⟩
  · obtain ⟨rfl, rfl, rfl⟩ : A = some a ∧ n = len ∧ c = cap := by simpa [Value.cells] using hcs
    simp only [if_true] at hs
    have e : (zs.take n).length = n := by rw [List.length_take]; omega
    refine ⟨zs.take n, some a, c, by rw [e], by rw [e]; exact hl, hc, fun hne => ?_⟩
    have hn : 0 < n := by
      rcases Nat.eq_zero_or_pos n with h | h
      · subst h; simp at hne
      · exact h
    obtain ⟨b, off, rfl, hb, hcell'⟩ := at_of hcell (by omega)
    refine ⟨b, off, rfl, hb, fun i s hi => ?_⟩
    obtain ⟨hi1, hi2⟩ := List.getElem?_eq_some_iff.1 hi
    rw [e] at hi1
    rw [hcell' i (by omega)]
    rw [List.getElem?_take_of_lt hi1] at hi
    rw [List.getD, hi]; rfl
theorem conv_one (w : World) (c : UInt8) : (convert 24 9 (.slice (some ⟨w.heap.size, 0, none⟩) 1 1)).run Tryd.prog (w.alloc (.cells #[.int .u8 ((c.toNat : Int) / 4)] 5)).drew = .ok (.string ⟨#[UInt8.ofNat (c.toNat / 4)]⟩) (w.alloc (.cells #[.int .u8 ((c.toNat : Int) / 4)] 5)).drew := by
  refine conv_bs (l := [UInt8.ofNat (c.toNat / 4)]) ⟨_, _, rfl, Nat.le_refl _, by unfold maxLen; decide, fun _ => ⟨w.heap.size, 0, rfl, by simp, fun i x hi => ?_⟩⟩
  have hlt := c.toNat_lt
  match i, hi with
  | 0, hi =>
    cases hi
    show (w.alloc (.cells #[.int .u8 ((c.toNat : Int) / 4)] 5)).cell? _ = _
    rw [World.cell?_alloc_new]
    rw [UInt8.toNat_ofNat']
    simp
    omega
set_option maxRecDepth 1000000 in
set_option maxHeartbeats 4000000 in
theorem Turned18 (v1 v2 : Value) (s : ByteArray) (hs : s.size ≤ 100000) (zs : List Int) (l : List UInt8) (w : World) (h1 : ISl w v1 zs) (h2 : BSl w v2 l) :
    Calls Tryd.prog 6 #[.string s, v1, v2] w fun e w' => ∃ t : ByteArray, e = .returned (.string t) ∧ t.size ≤ 100010 ∧ Below w.heap.size w w' := by
  obtain ⟨A, cap, rfl, a1, a2, a3⟩ := h1
  obtain ⟨A', cap', rfl, c1, c2, c3⟩ := h2
  unfold maxLen at a2 c2
  have HA := Lib.hid a3
  have HC := Lib.hid c3
  have HB0 := Lib.hid (Below.refl w.heap.size w)
  clear a3 c3
  go_enter Tryd.func6, Tryd.ntmps6
  go_wp2_with fail
  go_loopw [0, 7] (fun a i wr => ∃ (k : Nat) (t : ByteArray), k ≤ 4 ∧ i = .int .i64 k ∧ a = .string t ∧ t.size ≤ 100000 + k ∧ Hid (Below w.heap.size w wr)) (fun _ i _ => 4 - (intOf i).toNat)
  case atStart => exact ⟨0, s, by omega, rfl, rfl, by omega, HB0⟩
  case round =>
    obtain ⟨k, t, hk, rfl, rfl, ht, HB⟩ := hrel
    by_cases g1 : k < zs.length
    · by_cases g2 : k < l.length
      · by_cases g3 : k < 4
        · by_cases g4 : 0 < t.size
          · obtain ⟨blk, off, rfl, hblk, hz⟩ := HA.out (by intro e; rw [e] at g1; simp at g1)
            obtain ⟨blk', off', rfl, hblk', hl⟩ := HC.out (by intro e; rw [e] at g2; simp at g2)
            obtain ⟨z, hzk⟩ : ∃ z, zs[k]? = some z := ⟨_, List.getElem?_eq_getElem g1⟩
            obtain ⟨c, hck⟩ : ∃ c, l[k]? = some c := ⟨_, List.getElem?_eq_getElem g2⟩
            have hc1 := (HB.out.cell (p := ⟨blk, off + k, none⟩) hblk).trans (hz k z hzk)
            have hc2 := (HB.out.cell (p := ⟨blk', off' + k, none⟩) hblk').trans (hl k c hck)
            obtain ⟨q, hq, hq2⟩ := cut_of z t.size g4 (by omega)
            have i1 : (k : Int) < (zs.length : Int) := by omega
            have i2 : (k : Int) < (l.length : Int) := by omega
            have i3 : (k : Int) < 4 := by omega
            have i4 : (0 : Int) < (t.size : Int) := by omega
            have hHA := Lib.hid (And.intro hz (And.intro hl (And.intro hzk hck)))
            clear hz hl hzk hck
            obtain ⟨x, hx⟩ : ∃ x : Int, bits BinOp.and IntKind.u8 (c.toNat : Int) 3 = x := ⟨_, rfl⟩
            by_cases x0 : x = 0
            · have t0 : (x == 0) = true := by simp [x0]
              clear x0
              go_wp2_with fail
              simp only [hq]
              have q0 : (0 : Int) ≤ (q : Int) := by omega
              have q1 : (q : Int) ≤ (t.size : Int) := by omega
              have q2 : (q : Int) + 1 ≤ (t.size : Int) := by omega
              have q3 : IntKind.i64.wrap ((q : Int) + 1) = (q : Int) + 1 := IntWalk.i64_in _ (by omega)
              have hcv := conv_one wr c
              go_region
              clear q3 hq hx hcv
              go_wp2
              refine ⟨⟨k + 1, _, by omega, by go_num, rfl, ?_, Lib.hid ?_⟩, by simp [intOf]; omega⟩
              · simp only [ByteArray.size_append, ByteArray.size_extract]
                have e1 : ({ data := #[UInt8.ofNat (c.toNat / 4)] } : ByteArray).size = 1 := rfl
                omega
              · exact (HB.out.alloc (Below.size HB.out) _).trans ⟨rfl, rfl, rfl, Nat.le_refl _, fun _ _ => rfl⟩
            · have t0 : (x == 0) = false := by simp [x0]
              by_cases x1 : x = 1
              · have t1 : (x == 1) = true := by simp [x1]
                clear x1 x0
                go_wp2_with fail
                simp only [hq]
                have q0 : (0 : Int) ≤ (q : Int) := by omega
                have q1 : (q : Int) ≤ (t.size : Int) := by omega
                have q2 : (q : Int) + 1 ≤ (t.size : Int) := by omega
                have q3 : IntKind.i64.wrap ((q : Int) + 1) = (q : Int) + 1 := IntWalk.i64_in _ (by omega)
                have hcv := conv_one wr c
                go_region
                clear q3 hq hx hcv
                go_wp2
                refine ⟨⟨k + 1, _, by omega, by go_num, rfl, ?_, Lib.hid ?_⟩, by simp [intOf]; omega⟩
                · simp only [ByteArray.size_append, ByteArray.size_extract]
                  have e1 : ({ data := #[UInt8.ofNat (c.toNat / 4)] } : ByteArray).size = 1 := rfl
                  omega
                · exact (HB.out.alloc (Below.size HB.out) _).trans ⟨rfl, rfl, rfl, Nat.le_refl _, fun _ _ => rfl⟩
              · have t1 : (x == 1) = false := by simp [x1]
                by_cases x2 : x = 2
                · have t2 : (x == 2) = true := by simp [x2]
                  clear x2 x1 x0
                  go_wp2_with fail
                  simp only [hq]
                  have q0 : (0 : Int) ≤ (q : Int) := by omega
                  have q1 : (q : Int) ≤ (t.size : Int) := by omega
                  have q2 : (q : Int) + 1 ≤ (t.size : Int) := by omega
                  have q3 : IntKind.i64.wrap ((q : Int) + 1) = (q : Int) + 1 := IntWalk.i64_in _ (by omega)
                  go_region
                  clear q3 hq hx
                  go_wp2
                  refine ⟨⟨k + 1, _, by omega, by go_num, rfl, ?_, Lib.hid ?_⟩, by simp [intOf]; omega⟩
                  · simp only [ByteArray.size_append, ByteArray.size_extract]
                    have e1 : ({ data := #[UInt8.ofNat (c.toNat / 4)] } : ByteArray).size = 1 := rfl
                    omega
                  · exact HB.out.trans ⟨rfl, rfl, rfl, Nat.le_refl _, fun _ _ => rfl⟩
                · have t2 : (x == 2) = false := by simp [x2]
                  clear x2 x1 x0
                  go_wp2_with fail
                  simp only [hq]
                  have q0 : (0 : Int) ≤ (q : Int) := by omega
                  have q1 : (q : Int) ≤ (t.size : Int) := by omega
                  have q2 : (q : Int) + 1 ≤ (t.size : Int) := by omega
                  have q3 : IntKind.i64.wrap ((q : Int) + 1) = (q : Int) + 1 := IntWalk.i64_in _ (by omega)
                  have hcv := conv_one wr c
                  go_region
                  clear q3 hq hx hcv
                  go_wp2
                  refine ⟨⟨k + 1, _, by omega, by go_num, rfl, ?_, Lib.hid ?_⟩, by simp [intOf]; omega⟩
                  · simp only [ByteArray.size_append, ByteArray.size_extract]
                    have e1 : ({ data := #[UInt8.ofNat (c.toNat / 4)] } : ByteArray).size = 1 := rfl
                    omega
                  · exact (HB.out.alloc (Below.size HB.out) _).trans ⟨rfl, rfl, rfl, Nat.le_refl _, fun _ _ => rfl⟩
          · have i1 : (k : Int) < (zs.length : Int) := by omega
            have i2 : (k : Int) < (l.length : Int) := by omega
            have i3 : (k : Int) < 4 := by omega
            have i4 : ¬ (0 : Int) < (t.size : Int) := by omega
            go_wp2
            go_ret
            exact ⟨t, by simp, by omega, HB.out⟩
        · have i1 : (k : Int) < (zs.length : Int) := by omega
          have i2 : (k : Int) < (l.length : Int) := by omega
          have i3 : ¬ (k : Int) < 4 := by omega
          go_wp2
          go_ret
          exact ⟨t, by simp, by omega, HB.out⟩
      · have i1 : (k : Int) < (zs.length : Int) := by omega
        have i2 : ¬ (k : Int) < (l.length : Int) := by omega
        go_wp2
        go_ret
        exact ⟨t, by simp, by omega, HB.out⟩
    · have i1 : ¬ (k : Int) < (zs.length : Int) := by omega
      go_wp2
      go_ret
      exact ⟨t, by simp, by omega, HB.out⟩
end Go.Proofs.YtnfflkappbjoeaaDoor
