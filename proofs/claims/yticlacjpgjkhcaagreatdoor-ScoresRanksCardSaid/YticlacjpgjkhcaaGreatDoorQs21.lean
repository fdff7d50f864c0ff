/- Texts joined: S9 -/
import Derived.Test.YticlacjpgjkhcaaGreatDoorQs20
import Derived.BigRegion
import Derived.Deep.OwnRows
set_option linter.unusedVariables false
set_option linter.unusedSimpArgs false

/- A skip list: all of it; a new one; trailing zeros. -/
namespace Go.Proofs.YticlacjpgjkhcaaGreatDoor
open Go.ChangeShapes Go.WideShapes Go.ChangeAt Go.RowKit

/-- The table that bits.TrailingZeros reads. -/
def DB (w : World) : Prop := ∀ j, j < 64 → w.cell? ⟨3, j, none⟩ = some (.int .u8 (Lib.deBruijn64tab.getD j 0 : Nat))
theorem DB.at_ {w0 w : World} (h : DB w0) (hb : Below w0.heap.size w0 w) : DB w := fun j hj => by
  have h0 := h j hj
  have hl : 3 < w0.heap.size := by
    rcases Nat.lt_or_ge 3 w0.heap.size with h | h
    · exact h
    · unfold World.cell? at h0
      simp only [Array.getElem?_eq_none h] at h0
      cases h0
  exact (hb.cell (p := ⟨3, j, none⟩) hl).trans h0
set_option maxRecDepth 100000 in
set_option maxHeartbeats 4000000 in
theorem tz64c (x k idx : Nat) (w : World) (hx0 : ((x : Int) == 0) = false)
    (key : IntKind.u64.wrap (bits BinOp.and IntKind.u64 (x : Int) (IntKind.u64.wrap (-(x : Int))) * 285870213051353865) / 288230376151711744 = (idx : Int))
    (hi : idx < 64) (hk : k < 64) (hcell : w.cell? ⟨3, idx, none⟩ = some (.int .u8 k)) : Calls Tryz.prog 225 #[.int .u64 x] w fun e w' => e = .returned (.int .i64 k) ∧ w' = w := by
  go_enter Tryz.func225, Tryz.ntmps225
  go_wp2_with (simp only [key])
  go_ret
  exact ⟨rfl, rfl⟩
set_option maxRecDepth 100000 in
set_option maxHeartbeats 4000000 in
theorem tz64z (w : World) : Calls Tryz.prog 225 #[.int .u64 0] w fun e w' => e = .returned (.int .i64 64) ∧ w' = w := by
  go_enter Tryz.func225, Tryz.ntmps225
  go_wp2
  go_ret
  exact ⟨rfl, rfl⟩
theorem tz64_any (x : Nat) (hx : x < 18446744073709551616) (w : World) (hT : DB w) : Calls Tryz.prog 225 #[.int .u64 x] w fun e w' => (∃ v : Nat, v ≤ 64 ∧ e = .returned (.int .i64 v)) ∧ w' = w := by
  by_cases hx0 : x = 0
  · subst hx0
    exact (tz64z w).mono fun e w' h => ⟨⟨64, Nat.le_refl _, h.1⟩, h.2⟩
  · obtain ⟨hlow, hk⟩ := Lib.lowest_bit 64 x hx0 hx
    obtain ⟨hi, htab⟩ := Lib.deBruijn64_at _ hk
    have hcell := hT _ hi
    rw [htab] at hcell
    exact (tz64c x _ _ w (by simp; omega) (tz64_key x _ hx hx0 hlow) hi hk hcell).mono fun e w' h => ⟨⟨_, by omega, h.1⟩, h.2⟩
set_option maxRecDepth 100000 in
set_option maxHeartbeats 4000000 in
theorem tz_any (x : Nat) (hx : x < 18446744073709551616) (w : World) (hT : DB w) : Calls Tryz.prog 206 #[.int .u64 x] w fun e w' => (∃ v : Nat, v ≤ 64 ∧ e = .returned (.int .i64 v)) ∧ w' = w := by
  have T := Lib.hid (tz64_any x hx w hT)
  have hw : IntKind.u64.wrap (x : Int) = (x : Int) := by rw [IntKind.wrap_u64]; omega
  clear hT
  go_enter Tryz.func206, Tryz.ntmps206
  go_wp2_with (first | (go_at_call 225; (with_reducible refine (T.out).mono ?_); rintro e w2 ⟨⟨v, hv, rfl⟩, hw2⟩; obtain rfl := hw2.symm))
  go_ret
  exact ⟨⟨v, hv, rfl⟩, rfl⟩
set_option maxRecDepth 100000 in
set_option maxHeartbeats 4000000 in
theorem Range_nil (c sp : Nat) (w : World) (h : SK w c sp []) : Calls Tryz.prog 126 #[.pointer (some ⟨sp, 0, none⟩), .int .i64 0, .int .i64 (-1)] w fun e w' => e = .returned (.slice none 0 0) ∧ w' = w := by
  obtain ⟨bM, hd, L, E, made, high, h, hz⟩ := h
  have hl : L = [] := by simpa [zN] using hz
  subst hl
  have LN := Lib.hid (Len_any c sp bM hd [] E made high w h)
  clear h
  go_enter Tryz.func126, Tryz.ntmps126
  go_wp2_with (first | (go_at_call 123; (with_reducible refine (LN.out).mono ?_); rintro e w2 ⟨rfl, hw2⟩; obtain rfl := hw2.symm))
  go_ret
  exact ⟨rfl, rfl⟩
set_option maxRecDepth 100000 in
set_option maxHeartbeats 4000000 in
theorem All_any (c sp : Nat) (Z : List (ByteArray × Int)) (n : Nat) (hn : Z.length = n) (w : World) (h : SK w c sp Z) (hlen : Z.length ≤ 100000) : Calls Tryz.prog 177 #[.pointer (some ⟨sp, 0, none⟩)] w fun e w' => ∃ A C, e = .returned (.slice A n C) ∧ RS w' w.heap.size (.slice A n C) Z ∧ Below w.heap.size w w' := by
  subst hn
  cases hz : Z with
  | nil =>
    subst hz
    have RN := Lib.hid (Range_nil c sp w h)
    clear h hlen
    go_enter Tryz.func177, Tryz.ntmps177
    go_wp2_with (first | (go_at_call 126; (with_reducible refine (RN.out).mono ?_); rintro e w2 ⟨rfl, hw2⟩; obtain rfl := hw2.symm))
    go_ret
    exact ⟨none, 0, rfl, World.ownsRow_nil _ _ _ _, Below.refl _ _⟩
  | cons p Z' =>
    rw [← hz]
    have h1 : 1 ≤ Z.length := by rw [hz]; simp
    have RN := Range_any c sp Z 0 Z.length (-1) h1 (by omega) (.inr ⟨by decide, by omega⟩) w h hlen
    rw [List.drop_zero, List.take_length] at RN
    obtain ⟨n, hn⟩ : ∃ n : Nat, Z.length = n := ⟨_, rfl⟩
    rw [hn] at RN ⊢
    have RN := Lib.hid (show Calls Tryz.prog 126 #[.pointer (some ⟨sp, 0, none⟩), .int .i64 0, .int .i64 (-1)] w fun e w' => ∃ A C, e = .returned (.slice A n C) ∧ RS w' w.heap.size (.slice A n C) Z ∧ Below w.heap.size w w' from RN)
    clear h hlen hz h1 hn
    go_enter Tryz.func177, Tryz.ntmps177
    go_wp2_with (first | (go_at_call 126; (with_reducible refine (RN.out).mono ?_); rintro e w2 ⟨A, C, rfl, hR, hb⟩))
    go_ret
    exact ⟨A, C, rfl, hR, hb⟩
/-- Five blocks made one by one. -/
theorem al5 (w : World) (o1 o2 o3 o4 o5 : Obj) : (((((w.alloc o1).alloc o2).alloc o3).alloc o4).alloc o5).heap[w.heap.size]? = some o1 ∧ (((((w.alloc o1).alloc o2).alloc o3).alloc o4).alloc o5).heap[w.heap.size + 1]? = some o2 ∧ (((((w.alloc o1).alloc o2).alloc o3).alloc o4).alloc o5).heap[w.heap.size + 1 + 1]? = some o3 ∧ (((((w.alloc o1).alloc o2).alloc o3).alloc o4).alloc o5).heap[w.heap.size + 1 + 1 + 1]? = some o4 ∧ (((((w.alloc o1).alloc o2).alloc o3).alloc o4).alloc o5).heap[w.heap.size + 1 + 1 + 1 + 1]? = some o5 ∧ Below w.heap.size w (((((w.alloc o1).alloc o2).alloc o3).alloc o4).alloc o5) := by
  refine ⟨blk_below (blk_below (blk_below (blk_below (heap_alloc_new w _) alloc_old) alloc_old) alloc_old) alloc_old, blk_below (blk_below (blk_below (heap2L w _) alloc_old) alloc_old) alloc_old, ?_, ?_, ?_, (((alloc_old.trans (alloc_old.mono (by simp))).trans (alloc_old.mono (by simp; omega))).trans (alloc_old.mono (by simp; omega))).trans (alloc_old.mono (by simp; omega))⟩
  · exact blk_below (blk_below (show (((w.alloc o1).alloc o2).alloc o3).heap[w.heap.size + 1 + 1]? = _ by have := heap_alloc_new ((w.alloc o1).alloc o2) o3; simpa using this) alloc_old) alloc_old
  · exact blk_below (show ((((w.alloc o1).alloc o2).alloc o3).alloc o4).heap[w.heap.size + 1 + 1 + 1]? = _ by have := heap_alloc_new (((w.alloc o1).alloc o2).alloc o3) o4; simpa using this) alloc_old
  · have := heap_alloc_new ((((w.alloc o1).alloc o2).alloc o3).alloc o4) o5
    simpa using this
/-- A new set, from its five blocks. -/
theorem newSK {w X : World} {a nx wd bM sp : Nat} (hX : Below w.heap.size w X) (l1 : w.heap.size ≤ a) (l2 : w.heap.size ≤ nx) (l3 : w.heap.size ≤ wd) (l4 : w.heap.size ≤ bM) (l5 : w.heap.size ≤ sp) (h1 : X.heap[nx]? = some (.cells #[.pointer none, .pointer none, .pointer none, .pointer none, .pointer none, .pointer none, .pointer none, .pointer none, .pointer none, .pointer none, .pointer none, .pointer none, .pointer none, .pointer none, .pointer none, .pointer none, .pointer none, .pointer none, .pointer none, .pointer none] 195)) (h2 : X.heap[wd]? = some (.cells #[.int .i64 0, .int .i64 0, .int .i64 0, .int .i64 0, .int .i64 0, .int .i64 0, .int .i64 0, .int .i64 0, .int .i64 0, .int .i64 0, .int .i64 0, .int .i64 0, .int .i64 0, .int .i64 0, .int .i64 0, .int .i64 0, .int .i64 0, .int .i64 0, .int .i64 0, .int .i64 0] 3)) (h3 : X.heap[a]? = some (.cells #[.string ⟨#[]⟩, .int .i64 0, .slice (some ⟨nx, 0, none⟩) 20 20, .slice (some ⟨wd, 0, none⟩) 20 20] 207)) (h4 : X.heap[bM]? = some (.map #[] 0)) (h5 : X.heap[sp]? = some (.cells #[.pointer (some ⟨a, 0, none⟩), .map (some bM), .int .u64 0, .int .i64 1] 197)) : SK X w.heap.size sp [] := by
  refine ⟨bM, ⟨⟨#[]⟩, 0, 20, a, nx, wd⟩, [], [], 0, 1, ⟨h5, l5, l4, ⟨#[], 0, h4, rfl, Go.MapKept.stamped_empty 0⟩, List.nodup_nil, fun n => rfl, ⟨fun y hy => ?_, List.pairwise_singleton _ _, rfl, fun k hk => ⟨fun _ => ⟨?_, ?_⟩, trivial⟩⟩, List.Pairwise.nil, List.nodup_nil, by decide⟩, rfl⟩
  · simp at hy
    subst hy
    exact ⟨h3, ⟨_, h1, rfl⟩, ⟨_, h2, rfl⟩, l1, l2, l3, (by show 1 ≤ 20; decide), (by show 20 ≤ 20; decide)⟩
  · rw [cell_of_row _ _ _ _ _ (0, 0) h1]
    rcases (show k = 0 ∨ k = 1 ∨ k = 2 ∨ k = 3 ∨ k = 4 ∨ k = 5 ∨ k = 6 ∨ k = 7 ∨ k = 8 ∨ k = 9 ∨ k = 10 ∨ k = 11 ∨ k = 12 ∨ k = 13 ∨ k = 14 ∨ k = 15 ∨ k = 16 ∨ k = 17 ∨ k = 18 ∨ k = 19 by omega) with rfl | rfl | rfl | rfl | rfl | rfl | rfl | rfl | rfl | rfl | rfl | rfl | rfl | rfl | rfl | rfl | rfl | rfl | rfl | rfl <;> rfl
  · rw [cell_of_row _ _ _ _ _ (0, 0) h2]
    rcases (show k = 0 ∨ k = 1 ∨ k = 2 ∨ k = 3 ∨ k = 4 ∨ k = 5 ∨ k = 6 ∨ k = 7 ∨ k = 8 ∨ k = 9 ∨ k = 10 ∨ k = 11 ∨ k = 12 ∨ k = 13 ∨ k = 14 ∨ k = 15 ∨ k = 16 ∨ k = 17 ∨ k = 18 ∨ k = 19 by omega) with rfl | rfl | rfl | rfl | rfl | rfl | rfl | rfl | rfl | rfl | rfl | rfl | rfl | rfl | rfl | rfl | rfl | rfl | rfl | rfl <;> rfl
theorem NS1 (w : World) : SK (((((w.alloc (.cells #[.pointer none, .pointer none, .pointer none, .pointer none, .pointer none, .pointer none, .pointer none, .pointer none, .pointer none, .pointer none, .pointer none, .pointer none, .pointer none, .pointer none, .pointer none, .pointer none, .pointer none, .pointer none, .pointer none, .pointer none] 195)).alloc (.cells #[.int .i64 0, .int .i64 0, .int .i64 0, .int .i64 0, .int .i64 0, .int .i64 0, .int .i64 0, .int .i64 0, .int .i64 0, .int .i64 0, .int .i64 0, .int .i64 0, .int .i64 0, .int .i64 0, .int .i64 0, .int .i64 0, .int .i64 0, .int .i64 0, .int .i64 0, .int .i64 0] 3)).alloc (.map #[] 0)).alloc (.cells #[.string ⟨#[]⟩, .int .i64 0, .slice (some ⟨w.heap.size, 0, none⟩) 20 20, .slice (some ⟨w.heap.size + 1, 0, none⟩) 20 20] 207)).alloc (.cells #[.pointer (some ⟨w.heap.size + 1 + 1 + 1, 0, none⟩), .map (some (w.heap.size + 1 + 1)), .int .u64 0, .int .i64 1] 197)).drew w.heap.size (w.heap.size + 1 + 1 + 1 + 1) [] :=
  newSK (al5 w _ _ _ _ _).2.2.2.2.2.drew (by omega) (by omega) (by omega) (by omega) (by omega) (al5 w _ _ _ _ _).1 (al5 w _ _ _ _ _).2.1 (al5 w _ _ _ _ _).2.2.2.1 (al5 w _ _ _ _ _).2.2.1 (al5 w _ _ _ _ _).2.2.2.2.1
theorem NS2 (w : World) : SK (((((w.alloc (.cells #[.pointer none, .pointer none, .pointer none, .pointer none, .pointer none, .pointer none, .pointer none, .pointer none, .pointer none, .pointer none, .pointer none, .pointer none, .pointer none, .pointer none, .pointer none, .pointer none, .pointer none, .pointer none, .pointer none, .pointer none] 195)).alloc (.cells #[.int .i64 0, .int .i64 0, .int .i64 0, .int .i64 0, .int .i64 0, .int .i64 0, .int .i64 0, .int .i64 0, .int .i64 0, .int .i64 0, .int .i64 0, .int .i64 0, .int .i64 0, .int .i64 0, .int .i64 0, .int .i64 0, .int .i64 0, .int .i64 0, .int .i64 0, .int .i64 0] 3)).alloc (.cells #[.string ⟨#[]⟩, .int .i64 0, .slice (some ⟨w.heap.size, 0, none⟩) 20 20, .slice (some ⟨w.heap.size + 1, 0, none⟩) 20 20] 207)).alloc (.map #[] 0)).alloc (.cells #[.pointer (some ⟨w.heap.size + 1 + 1, 0, none⟩), .map (some (w.heap.size + 1 + 1 + 1)), .int .u64 0, .int .i64 1] 197)).drew w.heap.size (w.heap.size + 1 + 1 + 1 + 1) [] :=
  newSK (al5 w _ _ _ _ _).2.2.2.2.2.drew (by omega) (by omega) (by omega) (by omega) (by omega) (al5 w _ _ _ _ _).1 (al5 w _ _ _ _ _).2.1 (al5 w _ _ _ _ _).2.2.1 (al5 w _ _ _ _ _).2.2.2.1 (al5 w _ _ _ _ _).2.2.2.2.1
theorem NS3 (w : World) : SK (((((w.alloc (.cells #[.pointer none, .pointer none, .pointer none, .pointer none, .pointer none, .pointer none, .pointer none, .pointer none, .pointer none, .pointer none, .pointer none, .pointer none, .pointer none, .pointer none, .pointer none, .pointer none, .pointer none, .pointer none, .pointer none, .pointer none] 195)).alloc (.map #[] 0)).alloc (.cells #[.int .i64 0, .int .i64 0, .int .i64 0, .int .i64 0, .int .i64 0, .int .i64 0, .int .i64 0, .int .i64 0, .int .i64 0, .int .i64 0, .int .i64 0, .int .i64 0, .int .i64 0, .int .i64 0, .int .i64 0, .int .i64 0, .int .i64 0, .int .i64 0, .int .i64 0, .int .i64 0] 3)).alloc (.cells #[.string ⟨#[]⟩, .int .i64 0, .slice (some ⟨w.heap.size, 0, none⟩) 20 20, .slice (some ⟨w.heap.size + 1 + 1, 0, none⟩) 20 20] 207)).alloc (.cells #[.pointer (some ⟨w.heap.size + 1 + 1 + 1, 0, none⟩), .map (some (w.heap.size + 1)), .int .u64 0, .int .i64 1] 197)).drew w.heap.size (w.heap.size + 1 + 1 + 1 + 1) [] :=
  newSK (al5 w _ _ _ _ _).2.2.2.2.2.drew (by omega) (by omega) (by omega) (by omega) (by omega) (al5 w _ _ _ _ _).1 (al5 w _ _ _ _ _).2.2.1 (al5 w _ _ _ _ _).2.2.2.1 (al5 w _ _ _ _ _).2.1 (al5 w _ _ _ _ _).2.2.2.2.1
theorem NS4 (w : World) : SK (((((w.alloc (.cells #[.int .i64 0, .int .i64 0, .int .i64 0, .int .i64 0, .int .i64 0, .int .i64 0, .int .i64 0, .int .i64 0, .int .i64 0, .int .i64 0, .int .i64 0, .int .i64 0, .int .i64 0, .int .i64 0, .int .i64 0, .int .i64 0, .int .i64 0, .int .i64 0, .int .i64 0, .int .i64 0] 3)).alloc (.cells #[.pointer none, .pointer none, .pointer none, .pointer none, .pointer none, .pointer none, .pointer none, .pointer none, .pointer none, .pointer none, .pointer none, .pointer none, .pointer none, .pointer none, .pointer none, .pointer none, .pointer none, .pointer none, .pointer none, .pointer none] 195)).alloc (.map #[] 0)).alloc (.cells #[.string ⟨#[]⟩, .int .i64 0, .slice (some ⟨w.heap.size + 1, 0, none⟩) 20 20, .slice (some ⟨w.heap.size, 0, none⟩) 20 20] 207)).alloc (.cells #[.pointer (some ⟨w.heap.size + 1 + 1 + 1, 0, none⟩), .map (some (w.heap.size + 1 + 1)), .int .u64 0, .int .i64 1] 197)).drew w.heap.size (w.heap.size + 1 + 1 + 1 + 1) [] :=
  newSK (al5 w _ _ _ _ _).2.2.2.2.2.drew (by omega) (by omega) (by omega) (by omega) (by omega) (al5 w _ _ _ _ _).2.1 (al5 w _ _ _ _ _).1 (al5 w _ _ _ _ _).2.2.2.1 (al5 w _ _ _ _ _).2.2.1 (al5 w _ _ _ _ _).2.2.2.2.1
theorem NS5 (w : World) : SK (((((w.alloc (.cells #[.int .i64 0, .int .i64 0, .int .i64 0, .int .i64 0, .int .i64 0, .int .i64 0, .int .i64 0, .int .i64 0, .int .i64 0, .int .i64 0, .int .i64 0, .int .i64 0, .int .i64 0, .int .i64 0, .int .i64 0, .int .i64 0, .int .i64 0, .int .i64 0, .int .i64 0, .int .i64 0] 3)).alloc (.cells #[.pointer none, .pointer none, .pointer none, .pointer none, .pointer none, .pointer none, .pointer none, .pointer none, .pointer none, .pointer none, .pointer none, .pointer none, .pointer none, .pointer none, .pointer none, .pointer none, .pointer none, .pointer none, .pointer none, .pointer none] 195)).alloc (.cells #[.string ⟨#[]⟩, .int .i64 0, .slice (some ⟨w.heap.size + 1, 0, none⟩) 20 20, .slice (some ⟨w.heap.size, 0, none⟩) 20 20] 207)).alloc (.map #[] 0)).alloc (.cells #[.pointer (some ⟨w.heap.size + 1 + 1, 0, none⟩), .map (some (w.heap.size + 1 + 1 + 1)), .int .u64 0, .int .i64 1] 197)).drew w.heap.size (w.heap.size + 1 + 1 + 1 + 1) [] :=
  newSK (al5 w _ _ _ _ _).2.2.2.2.2.drew (by omega) (by omega) (by omega) (by omega) (by omega) (al5 w _ _ _ _ _).2.1 (al5 w _ _ _ _ _).1 (al5 w _ _ _ _ _).2.2.1 (al5 w _ _ _ _ _).2.2.2.1 (al5 w _ _ _ _ _).2.2.2.2.1
theorem NS6 (w : World) : SK (((((w.alloc (.cells #[.int .i64 0, .int .i64 0, .int .i64 0, .int .i64 0, .int .i64 0, .int .i64 0, .int .i64 0, .int .i64 0, .int .i64 0, .int .i64 0, .int .i64 0, .int .i64 0, .int .i64 0, .int .i64 0, .int .i64 0, .int .i64 0, .int .i64 0, .int .i64 0, .int .i64 0, .int .i64 0] 3)).alloc (.map #[] 0)).alloc (.cells #[.pointer none, .pointer none, .pointer none, .pointer none, .pointer none, .pointer none, .pointer none, .pointer none, .pointer none, .pointer none, .pointer none, .pointer none, .pointer none, .pointer none, .pointer none, .pointer none, .pointer none, .pointer none, .pointer none, .pointer none] 195)).alloc (.cells #[.string ⟨#[]⟩, .int .i64 0, .slice (some ⟨w.heap.size + 1 + 1, 0, none⟩) 20 20, .slice (some ⟨w.heap.size, 0, none⟩) 20 20] 207)).alloc (.cells #[.pointer (some ⟨w.heap.size + 1 + 1 + 1, 0, none⟩), .map (some (w.heap.size + 1)), .int .u64 0, .int .i64 1] 197)).drew w.heap.size (w.heap.size + 1 + 1 + 1 + 1) [] :=
  newSK (al5 w _ _ _ _ _).2.2.2.2.2.drew (by omega) (by omega) (by omega) (by omega) (by omega) (al5 w _ _ _ _ _).2.2.1 (al5 w _ _ _ _ _).1 (al5 w _ _ _ _ _).2.2.2.1 (al5 w _ _ _ _ _).2.1 (al5 w _ _ _ _ _).2.2.2.2.1
theorem NS7 (w : World) : SK (((((w.alloc (.map #[] 0)).alloc (.cells #[.pointer none, .pointer none, .pointer none, .pointer none, .pointer none, .pointer none, .pointer none, .pointer none, .pointer none, .pointer none, .pointer none, .pointer none, .pointer none, .pointer none, .pointer none, .pointer none, .pointer none, .pointer none, .pointer none, .pointer none] 195)).alloc (.cells #[.int .i64 0, .int .i64 0, .int .i64 0, .int .i64 0, .int .i64 0, .int .i64 0, .int .i64 0, .int .i64 0, .int .i64 0, .int .i64 0, .int .i64 0, .int .i64 0, .int .i64 0, .int .i64 0, .int .i64 0, .int .i64 0, .int .i64 0, .int .i64 0, .int .i64 0, .int .i64 0] 3)).alloc (.cells #[.string ⟨#[]⟩, .int .i64 0, .slice (some ⟨w.heap.size + 1, 0, none⟩) 20 20, .slice (some ⟨w.heap.size + 1 + 1, 0, none⟩) 20 20] 207)).alloc (.cells #[.pointer (some ⟨w.heap.size + 1 + 1 + 1, 0, none⟩), .map (some (w.heap.size)), .int .u64 0, .int .i64 1] 197)).drew w.heap.size (w.heap.size + 1 + 1 + 1 + 1) [] :=
  newSK (al5 w _ _ _ _ _).2.2.2.2.2.drew (by omega) (by omega) (by omega) (by omega) (by omega) (al5 w _ _ _ _ _).2.1 (al5 w _ _ _ _ _).2.2.1 (al5 w _ _ _ _ _).2.2.2.1 (al5 w _ _ _ _ _).1 (al5 w _ _ _ _ _).2.2.2.2.1
theorem NS8 (w : World) : SK (((((w.alloc (.map #[] 0)).alloc (.cells #[.int .i64 0, .int .i64 0, .int .i64 0, .int .i64 0, .int .i64 0, .int .i64 0, .int .i64 0, .int .i64 0, .int .i64 0, .int .i64 0, .int .i64 0, .int .i64 0, .int .i64 0, .int .i64 0, .int .i64 0, .int .i64 0, .int .i64 0, .int .i64 0, .int .i64 0, .int .i64 0] 3)).alloc (.cells #[.pointer none, .pointer none, .pointer none, .pointer none, .pointer none, .pointer none, .pointer none, .pointer none, .pointer none, .pointer none, .pointer none, .pointer none, .pointer none, .pointer none, .pointer none, .pointer none, .pointer none, .pointer none, .pointer none, .pointer none] 195)).alloc (.cells #[.string ⟨#[]⟩, .int .i64 0, .slice (some ⟨w.heap.size + 1 + 1, 0, none⟩) 20 20, .slice (some ⟨w.heap.size + 1, 0, none⟩) 20 20] 207)).alloc (.cells #[.pointer (some ⟨w.heap.size + 1 + 1 + 1, 0, none⟩), .map (some (w.heap.size)), .int .u64 0, .int .i64 1] 197)).drew w.heap.size (w.heap.size + 1 + 1 + 1 + 1) [] :=
  newSK (al5 w _ _ _ _ _).2.2.2.2.2.drew (by omega) (by omega) (by omega) (by omega) (by omega) (al5 w _ _ _ _ _).2.2.1 (al5 w _ _ _ _ _).2.1 (al5 w _ _ _ _ _).2.2.2.1 (al5 w _ _ _ _ _).1 (al5 w _ _ _ _ _).2.2.2.2.1
set_option maxRecDepth 100000 in
set_option maxHeartbeats 8000000 in
theorem New_any (w : World) : Calls Tryz.prog 182 #[] w fun e w' => ∃ sp, e = .returned (.pointer (some ⟨sp, 0, none⟩)) ∧ SK w' w.heap.size sp [] ∧ Below w.heap.size w w' := by
  have hmm := @run_makeMap Tryz.prog
  have mk1 : ∀ X, (Instr.makeSlice 205 (.int .i64 20) (.int .i64 20)).run Tryz.prog X = .ok (.slice (some ⟨X.heap.size, 0, none⟩) 20 20) (X.alloc (.cells #[.pointer none, .pointer none, .pointer none, .pointer none, .pointer none, .pointer none, .pointer none, .pointer none, .pointer none, .pointer none, .pointer none, .pointer none, .pointer none, .pointer none, .pointer none, .pointer none, .pointer none, .pointer none, .pointer none, .pointer none] 195)) := fun X => by
    have h := run_make_row' (P := Tryz.prog) 205 195 (.pointer none) 8 Tryz.underlying205 (by kernel_rfl) rfl .i64 .i64 20 (by decide) (by decide) X
    rw [show madeCells #[Value.pointer none] 20 = #[.pointer none, .pointer none, .pointer none, .pointer none, .pointer none, .pointer none, .pointer none, .pointer none, .pointer none, .pointer none, .pointer none, .pointer none, .pointer none, .pointer none, .pointer none, .pointer none, .pointer none, .pointer none, .pointer none, .pointer none] from by kernel_rfl] at h
    exact h
  have mk2 : ∀ X, (Instr.makeSlice 22 (.int .i64 20) (.int .i64 20)).run Tryz.prog X = .ok (.slice (some ⟨X.heap.size, 0, none⟩) 20 20) (X.alloc (.cells #[.int .i64 0, .int .i64 0, .int .i64 0, .int .i64 0, .int .i64 0, .int .i64 0, .int .i64 0, .int .i64 0, .int .i64 0, .int .i64 0, .int .i64 0, .int .i64 0, .int .i64 0, .int .i64 0, .int .i64 0, .int .i64 0, .int .i64 0, .int .i64 0, .int .i64 0, .int .i64 0] 3)) := fun X => by
    have h := run_make_row' (P := Tryz.prog) 22 3 (.int .i64 0) 8 Tryz.underlying22 (by kernel_rfl) rfl .i64 .i64 20 (by decide) (by decide) X
    rw [show madeCells #[Value.int .i64 0] 20 = #[.int .i64 0, .int .i64 0, .int .i64 0, .int .i64 0, .int .i64 0, .int .i64 0, .int .i64 0, .int .i64 0, .int .i64 0, .int .i64 0, .int .i64 0, .int .i64 0, .int .i64 0, .int .i64 0, .int .i64 0, .int .i64 0, .int .i64 0, .int .i64 0, .int .i64 0, .int .i64 0] from by kernel_rfl] at h
    exact h
  go_enter Tryz.func182, Tryz.ntmps182
  go_wp2_with fail
  go_region
  all_goals (
    go_wp2
    go_ret
    first | exact ⟨_, rfl, NS1 w, (al5 w _ _ _ _ _).2.2.2.2.2.drew⟩ | exact ⟨_, rfl, NS2 w, (al5 w _ _ _ _ _).2.2.2.2.2.drew⟩ | exact ⟨_, rfl, NS3 w, (al5 w _ _ _ _ _).2.2.2.2.2.drew⟩ | exact ⟨_, rfl, NS4 w, (al5 w _ _ _ _ _).2.2.2.2.2.drew⟩ | exact ⟨_, rfl, NS5 w, (al5 w _ _ _ _ _).2.2.2.2.2.drew⟩ | exact ⟨_, rfl, NS6 w, (al5 w _ _ _ _ _).2.2.2.2.2.drew⟩ | exact ⟨_, rfl, NS7 w, (al5 w _ _ _ _ _).2.2.2.2.2.drew⟩ | exact ⟨_, rfl, NS8 w, (al5 w _ _ _ _ _).2.2.2.2.2.drew⟩)
end Go.Proofs.YticlacjpgjkhcaaGreatDoor
