/- Texts joined: Tb5 -/
import Derived.Test.YticlacjpgjkhcaaGreatDoorQh15
import Derived.Lib.AppendZeros
import Derived.Deep.AppendLies

/- slices.Grow, slices.Concat of slots. -/
namespace Go.Proofs.YticlacjpgjkhcaaGreatDoor
open Go.ChangeShapes Go.WideShapes Go.ChangeAt Go.RowKit

set_option maxRecDepth 100000 in
set_option maxHeartbeats 4000000 in
theorem Grow_T (w : World) : Calls Tryz.prog 217 #[.slice none 0 0, .int .i64 8] w fun e w' => ∃ g C, e = .returned (.slice (some ⟨g, 0, none⟩) 0 C) ∧ w'.ownsRow w.heap.size 217 1 (.slice (some ⟨g, 0, none⟩) 0 C) 0 [] ∧ Below w.heap.size w w' := by
  obtain ⟨i0, hi, hz0, hz1, hz2⟩ := info_parts iSlot
  have hge := grownCap_ge w 8 0 217
  have hcm := grownCap_le_maxLen w 8 0 217 (by unfold maxLen; omega)
  have hrun := Lib.hid (fun ty => Lib.run_append_nil_zeros (P := Tryz.prog) w 219 3 ty 217 i0 (.slice none 0 0) .i64 .i64 Tryz.underlying219 Tryz.underlying3 hi hz0 8 (by omega) (by omega) (by omega) (by rw [hz2]; omega))
  have e1 : wrap64 (0 - 0) = 0 := by unfold wrap64; omega
  have e2 : wrap64 ((8 : Int) - 0) = 8 := by unfold wrap64; omega
  obtain ⟨C, hC⟩ : ∃ C, grownCap w 8 0 217 = C := ⟨_, rfl⟩
  rw [hC] at hrun hge hcm
  have HCM := Lib.hid hcm
  have HGE := Lib.hid hge
  have e6 : (0 : Int) ≤ (C : Int) := by clear hcm; omega
  clear hC hcm hge hi hz0 hz1 hz2
  go_enter Tryz.func217, Tryz.ntmps217
  go_wp2_with (first | (at_builtin; refine Lib.wpList_append_run _ rfl _ _ _ _ rfl _ _ rfl rfl _ _ (hrun.out _) ?_; refine Hid.out ?_))
  refine Lib.hid ?_
  go_wp2
  go_ret
  refine ⟨w.heap.size, C, rfl, ⟨rfl, .inr ⟨w.heap.size, C, _, rfl, Nat.le_refl _, heap_alloc_new w.drew _, Nat.zero_le _, HCM.out, ?_, by simp⟩⟩, ((Below.refl w.heap.size w).drew).alloc (Nat.le_refl _) _⟩
  have := HGE.out
  clear HCM
  simp [size_zeroCells]
  omega
theorem append_nil_T (w : World) (ty : TypeId) (g0 n c0 : Nat) (hn : n ≤ c0) : (Builtin.append_ #[219, 219] ty #[.slice (some ⟨g0, 0, none⟩) n c0, .slice none 0 0]).run Tryz.prog w = .ok (.slice (some ⟨g0, 0, none⟩) n c0) w := by
  obtain ⟨i0, hi, hz0, hz1, hz2⟩ := info_parts iSlot
  exact run_append_room_src w 219 219 ty 217 i0 Tryz.underlying219 hi g0 0 n c0 _ 0 [] (Src.ofNil w Tryz.underlying219 0) (by omega) (fun j hj => absurd hj (Nat.not_lt_zero _)) (fun j hj => absurd hj (Nat.not_lt_zero _))
theorem row_cap {w : World} {c : Nat} {e : TypeId} {m g n cap : Nat} {xs : List Value} (h : w.ownsRow c e m (.slice (some ⟨g, 0, none⟩) n cap) n xs) : n ≤ cap := by
  unfold World.ownsRow at h
  obtain ⟨_, ⟨h0, _⟩ | ⟨g', cap', cur, h0, h1, h2, h3, _⟩⟩ := h
  · cases h0
  · cases h0
    exact h3
set_option maxRecDepth 100000 in
set_option maxHeartbeats 4000000 in
/-- The slots of two rows, the second of which is none. -/
theorem Concat_T (q g : Nat) (f : Nat → Value) (w : World) (h0 : w.heap[q]? = some (.cells #[.slice (some ⟨g, 0, none⟩) 8 8, .slice none 0 0] 219)) (hS : w.heap[g]? = some (.cells #[f 0, f 1, f 2, f 3, f 4, f 5, f 6, f 7] 217)) (hf1 : ∀ j, j < 8 → (f j).oneCell' = true) : Calls Tryz.prog 189 #[.slice (some ⟨q, 0, none⟩) 2 2] w fun e w' => ∃ g' C', e = .returned (.slice (some ⟨g', 0, none⟩) 8 C') ∧ w'.ownsRow w.heap.size 217 1 (.slice (some ⟨g', 0, none⟩) 8 C') 8 [f 0, f 1, f 2, f 3, f 4, f 5, f 6, f 7] ∧ Below w.heap.size w w' := by
  have GR := Lib.hid (Grow_T w)
  have CQ := Lib.hid (show ∀ X, Below w.heap.size w X → X.cell? ⟨q, 0, none⟩ = some (.slice (some ⟨g, 0, none⟩) 8 8) ∧ X.cell? ⟨q, 1, none⟩ = some (.slice none 0 0) from fun X hb => by
    have h1 := blk_below h0 hb
    exact ⟨cell_of_row _ q _ _ 219 (0, 0) h1, cell_of_row _ q _ _ 219 (0, 0) h1⟩)
  have SC := Lib.hid (show ∀ X, Below w.heap.size w X → X.heap[g]? = some (.cells #[f 0, f 1, f 2, f 3, f 4, f 5, f 6, f 7] 217) from fun X hb => blk_below hS hb)
  obtain ⟨c0, c1⟩ := CQ.out w (Below.refl _ _)
  clear h0 hS
  go_enter Tryz.func189, Tryz.ntmps189
  go_wp2
  go_loopw [3, 5, 11] (fun m _ iv wr => ((m = .int .i64 0 ∧ iv = .int .i64 0) ∨ (m = .int .i64 8 ∧ (iv = .int .i64 1 ∨ iv = .int .i64 2))) ∧ w = wr) (fun _ _ iv _ => 2 - (intOf iv).toNat)
  case atStart => exact ⟨.inl ⟨rfl, rfl⟩, rfl⟩
  case round =>
    obtain ⟨⟨rfl, rfl⟩ | ⟨rfl, rfl | rfl⟩, rfl⟩ := hrel
    · go_wp2
      exact ⟨⟨.inr ⟨by simp, .inl (by simp)⟩, trivial⟩, by simp [intOf]⟩
    · go_wp2
      exact ⟨⟨.inr ⟨by simp, .inr (by simp)⟩, trivial⟩, by simp [intOf]⟩
    · go_wp2_with (first | (go_at_call 217; (with_reducible refine (GR.out).mono ?_); rintro e w4 ⟨g4, C4, rfl, h3, h6⟩; have R4 := Lib.hid h3; have B4 := Lib.hid h6; clear h3 h6 GR))
      go_loopw [6, 8, 27] (fun v _ iv wr => (v = .slice (some ⟨g4, 0, none⟩) 0 C4 ∧ iv = .int .i64 0 ∧ w4 = wr) ∨ (∃ g5 C5, v = .slice (some ⟨g5, 0, none⟩) 8 C5 ∧ (iv = .int .i64 1 ∨ iv = .int .i64 2) ∧ Hid (wr.ownsRow w.heap.size 217 1 (.slice (some ⟨g5, 0, none⟩) 8 C5) 8 [f 0, f 1, f 2, f 3, f 4, f 5, f 6, f 7] ∧ Below w.heap.size w wr))) (fun _ _ iv _ => 2 - (intOf iv).toNat)
      case atStart => exact .inl ⟨rfl, rfl, rfl⟩
      case round =>
        obtain ⟨rfl, rfl, rfl⟩ | ⟨g5, C5, rfl, rfl | rfl, HH⟩ := hrel
        · obtain ⟨c0, c1⟩ := CQ.out _ B4.out
          obtain ⟨i0, hi0, hz0, hz1, hz2⟩ := info_parts iSlot
          have NW := Lib.hid (show ∀ (j : Nat) (u : Value), ([f 0, f 1, f 2, f 3, f 4, f 5, f 6, f 7] : List Value)[j]? = some u → w4.cell? ((⟨g, 0, none⟩ : Addr).add j) = some u from news_blk (SC.out _ B4.out))
          have ON := Lib.hid (show ∀ u ∈ ([f 0, f 1, f 2, f 3, f 4, f 5, f 6, f 7] : List Value), u.oneCell' = true from fun u hu => by
            simp only [List.mem_cons, List.not_mem_nil, or_false] at hu
            rcases hu with rfl | rfl | rfl | rfl | rfl | rfl | rfl | rfl <;> exact hf1 _ (by omega))
          have ZW := Lib.hid (Below.size B4.out)
          go_wp2_with (first | (at_builtin; refine wpList_append_lies _ rfl _ _ 219 rfl w.heap.size 217 i0 _ 1 24 Tryz.underlying219 hi0 hz0 hz1 hz2 rfl (by decide) (.slice (some ⟨g4, 0, none⟩) 0 C4) 0 [] rfl R4.out ⟨g, 0, none⟩ 8 8 [f 0, f 1, f 2, f 3, f 4, f 5, f 6, f 7] rfl rfl NW.out ON.out (by decide) (by unfold maxLen; omega) (by omega) ZW.out _ rfl ?_; intro g5 C5 w5 hO5 hG5 h5 h6; have O5 := Lib.hid hO5; have G5 := Lib.hid hG5; clear hO5 hG5 h5 h6))
          exact ⟨.inr ⟨g5, C5, rfl, .inl (by simp), Lib.hid ⟨O5.out, B4.out.grown G5.out (Below.size B4.out) (fun k hk => (row_own R4.out k hk).1)⟩⟩, by simp [intOf]⟩
        · obtain ⟨c0, c1⟩ := CQ.out _ HH.out.2
          have AN := Lib.hid (fun ty => append_nil_T wr ty g5 8 C5 (row_cap HH.out.1))
          go_wp2_with (first | (at_builtin; refine Lib.wpList_append_run _ rfl _ _ _ _ rfl _ _ rfl rfl _ _ (AN.out _) ?_))
          exact ⟨.inr ⟨g5, C5, rfl, .inr (by simp), HH⟩, by simp [intOf]⟩
        · go_wp2
          go_ret
          exact ⟨g5, C5, rfl, HH.out.1, HH.out.2⟩
end Go.Proofs.YticlacjpgjkhcaaGreatDoor
