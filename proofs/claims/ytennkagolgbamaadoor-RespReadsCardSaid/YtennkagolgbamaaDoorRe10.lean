import Derived.Test.YtennkagolgbamaaDoorRe9
import Derived.Deep.RegionHeld3
namespace Go.Proofs.YtennkagolgbamaaDoor
open Go.ChangeShapes Go.WideShapes Go.ChangeAt Go.RowKit Go.Resp

set_option maxHeartbeats 4000000 in
theorem RefFrame16 (w0 : World) (IT : ItoaOn w0) (v : Value) (xs : List ByteArray) (w : World) (hi : Inv w0 w) (h : SSl w v xs) (hf : fewB xs = true) :
    Calls Tryd.prog 16 #[v] w fun e w' => (∃ t : ByteArray, e = .returned (.string t) ∧ t.data.toList = frameL xs) ∧ Below w.heap.size w w' := by
  obtain ⟨A, cap, rfl, h1, h2, h3⟩ := h
  have hl : xs.length ≤ 20 := by unfold fewB at hf; rw [Bool.and_eq_true, decide_eq_true_iff] at hf; exact hf.2
  have hs200 : ∀ s ∈ xs, s.size ≤ 200 := by
    unfold fewB at hf; rw [Bool.and_eq_true, List.all_eq_true] at hf
    exact fun s hs => of_decide_eq_true (hf.1 s hs)
  unfold maxLen at h2; unfold ItoaOn at IT
  have H3 := Lib.hid h3
  have HS := Lib.hid hs200
  have HI := Lib.hid hi
  have IT' := Lib.hid IT
  clear h3 hs200 hf hi IT
  have hd0 := digB_size xs.length (by omega)
  have HB0 := Lib.hid (Below.refl w.heap.size w)
  go_enter Tryd.func16, Tryd.ntmps16
  go_wp2_with (first | (go_at_call 23; (with_reducible refine (IT'.out _ (by omega) _ HI.out).mono ?_); rintro e w1 ⟨rfl, hb1⟩; have HB1 := Lib.hid hb1; clear hb1))
  go_loopw [3, 4] (fun b i wr => ∃ (k : Nat) (t : ByteArray), k ≤ xs.length ∧ i = .int .i64 k ∧ b = .string t ∧ t.size ≤ 20 + 300 * k ∧ Hid (t.data.toList = (lineL (42 :: Lib.decDigits xs.length) ++ (xs.take k).flatMap partL) ∧ Below w.heap.size w wr)) (fun _ i _ => xs.length - (intOf i).toNat)
  case atStart =>
    refine ⟨0, _, Nat.zero_le _, rfl, rfl, ?_, Lib.hid ⟨?_, HB1.out⟩⟩
    · rw [ByteArray.size_append, ByteArray.size_append]; show 1 + _ + 2 ≤ _; omega
    · unfold lineL digB; simp
  case round =>
    obtain ⟨k, t, hk, rfl, rfl, ht, HR⟩ := hrel
    by_cases hlt : k < xs.length
    · obtain ⟨blk, off, rfl, hblk, hc⟩ := H3.out (by intro e; rw [e] at hlt; simp at hlt)
      obtain ⟨s, hs⟩ : ∃ s, xs[k]? = some s := ⟨_, List.getElem?_eq_getElem hlt⟩
      have hs2 := HS.out s (List.mem_of_getElem? hs)
      have hcell := hc k s hs
      have HX := Lib.hid (And.intro hc hs)
      have hd2 := digB_size s.size (by omega)
      have hI := HR.out.2
      have hcell2 := (hI.cell (p := ⟨blk, off + k, none⟩) hblk).trans hcell
      have hik : (k : Int) < (xs.length : Int) := by omega
      clear hc hs hcell
      go_wp2
      have S0 : wr.drew.cell? ⟨blk, off + k, none⟩ = some (.string s) ∧ Below w.heap.size w wr.drew := ⟨hcell2, hI.trans ⟨rfl, rfl, rfl, Nat.le_refl _, fun _ _ => rfl⟩⟩
      have SK := Lib.hid (show ∀ wa wb : World, (wa.cell? ⟨blk, off + k, none⟩ = some (.string s) ∧ Below w.heap.size w wa) → Below wa.heap.size wa wb → (wb.cell? ⟨blk, off + k, none⟩ = some (.string s) ∧ Below w.heap.size w wb) from
        fun wa wb ⟨q1, q2⟩ q3 => ⟨(q3.cell (p := ⟨blk, off + k, none⟩) (by show blk < _; have := Below.size q2; omega)).trans q1, q2.trans (q3.mono (Below.size q2))⟩)
      have ITS := Lib.hid (show ∀ X : World, (X.cell? ⟨blk, off + k, none⟩ = some (.string s) ∧ Below w.heap.size w X) → Calls Tryd.prog 23 #[.int .i64 (s.size : Int)] X fun e w' => e = .returned (.string (digB s.size)) ∧ Below X.heap.size X w' from fun X h => IT'.out s.size (by omega) X (HI.out.on h.2))
      have c36 : (ByteArray.mk #[36]).size = 1 := rfl
      have c13 : (ByteArray.mk #[13, 10]).size = 2 := rfl
      have m1 : ¬ (t.size + 1 > 9223372036854775807) := by omega
      have m2 : ¬ (t.size + 1 + (digB s.size).size > 9223372036854775807) := by omega
      have m3 : ¬ (t.size + 1 + (digB s.size).size + 2 > 9223372036854775807) := by omega
      have m4 : ¬ (t.size + 1 + (digB s.size).size + 2 + s.size > 9223372036854775807) := by omega
      have m5 : ¬ (t.size + 1 + (digB s.size).size + 2 + s.size + 2 > 9223372036854775807) := by omega
      go_region_held3 (fun w' => w'.cell? ⟨blk, off + k, none⟩ = some (.string s) ∧ Below w.heap.size w w') (first | exact S0 | exact SK.out _ _ (by assumption) (by assumption) | exact SK.out _ _ ⟨by assumption, by assumption⟩ (by assumption))
        (first | (go_at_call 23; refine (ITS.out _ ?_).mono ?_; assumption; rintro e w5 ⟨rfl, hb5⟩))
      go_wp2
      have hS5 := hI.trans ((show Below w.heap.size wr wr.drew from ⟨rfl, rfl, rfl, Nat.le_refl _, fun _ _ => rfl⟩).trans (hb5.mono (by have := hI.size; show w.heap.size ≤ wr.heap.size; omega)))
      refine ⟨⟨k + 1, _, by omega, by go_num, rfl, ?_, Lib.hid ⟨?_, hS5⟩⟩, by simp [intOf]; omega⟩
      · rw [ByteArray.size_append, ByteArray.size_append, ByteArray.size_append, ByteArray.size_append, ByteArray.size_append, c36, c13]; omega
      · have e8 : xs.take (k + 1) = xs.take k ++ [s] := by rw [List.take_add_one, HX.out.2]; rfl
        rw [e8, List.flatMap_append, ← List.append_assoc, ← HR.out.1]
        unfold partL lineL digB
        simp
    · have hkl : k = xs.length := by omega
      subst hkl
      rw [List.take_length] at HR
      go_wp2
      go_ret
      exact ⟨⟨t, rfl, HR.out.1⟩, HR.out.2⟩
end Go.Proofs.YtennkagolgbamaaDoor
