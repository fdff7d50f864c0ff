/- Texts joined: V7P, Pl1, V5P, Pl2 -/
import Derived.Test.YticlacjpgjkhcaaGreatDoorQn15
import Derived.Test.YticlacjpgjkhcaaGreatDoorRows
import Derived.WalkKit
import Derived.ProofKit
import Derived.OpenShut
import Derived.WalkLawsBesides
import Derived.Outline
import Derived.Lib.Hide
import Derived.Deep.RegionWith
import Derived.BigQuiet
import Derived.Deep.QuietTactic
import Derived.Laws.BitsAllLaws
import Derived.Test.YticlacjpgjkhcaaGreatDoorQn14

/- Entries of kind P: copies, sizes, which may be. -/
namespace Go.Proofs.YticlacjpgjkhcaaGreatDoor
open Go.ChangeShapes Go.WideShapes Go.ChangeAt Go.RowKit Go.Fl

set_option maxRecDepth 100000 in
set_option maxHeartbeats 4000000 in
theorem sCloneP (k : ByteArray) (u : Int) (g0 cap : Nat) (l : List (ByteArray × Int × Int)) (n : Nat) (hn : l.length = n) (h1 : 1 ≤ n) (hm : n ≤ 1000) (c : Nat) (w : World) (h : RP w c (.slice (some ⟨g0, 0, none⟩) n cap) l) : Calls Tryz.prog 34 #[.agg #[.string k, .int .i64 5, .string ⟨#[]⟩, .slice none 0 0, .slice none 0 0, .slice none 0 0, .slice (some ⟨g0, 0, none⟩) n cap, .int .i64 u]] w fun e w' => ∃ g C, e = .returned (.agg #[.string k, .int .i64 5, .string ⟨#[]⟩, .slice none 0 0, .slice none 0 0, .slice none 0 0, .slice (some ⟨g, 0, none⟩) n C, .int .i64 u]) ∧ RP w' w.heap.size (.slice (some ⟨g, 0, none⟩) n C) l ∧ Below w.heap.size w w' := by
  have hb1 := Lib.hid (show ((w.alloc (.cells #[.string k, .int .i64 5, .string ⟨#[]⟩, .slice none 0 0, .slice none 0 0, .slice none 0 0, .slice (some ⟨g0, 0, none⟩) n cap, .int .i64 u] 66)).alloc (.cells #[.string ⟨#[]⟩, .int .i64 0, .string ⟨#[]⟩, .slice none 0 0, .slice none 0 0, .slice none 0 0, .slice none 0 0, .int .i64 0] 66)).heap[w.heap.size]? = some (.cells #[.string k, .int .i64 5, .string ⟨#[]⟩, .slice none 0 0, .slice none 0 0, .slice none 0 0, .slice (some ⟨g0, 0, none⟩) n cap, .int .i64 u] 66) from blk_below (heap_alloc_new w _) alloc_old)
  have hb2 := Lib.hid (heap2L (o := .cells #[.string k, .int .i64 5, .string ⟨#[]⟩, .slice none 0 0, .slice none 0 0, .slice none 0 0, .slice (some ⟨g0, 0, none⟩) n cap, .int .i64 u] 66) w (.cells #[.string ⟨#[]⟩, .int .i64 0, .string ⟨#[]⟩, .slice none 0 0, .slice none 0 0, .slice none 0 0, .slice none 0 0, .int .i64 0] 66))
  have hb3 := Lib.hid (show Below w.heap.size w ((w.alloc (.cells #[.string k, .int .i64 5, .string ⟨#[]⟩, .slice none 0 0, .slice none 0 0, .slice none 0 0, .slice (some ⟨g0, 0, none⟩) n cap, .int .i64 u] 66)).alloc (.cells #[.string ⟨#[]⟩, .int .i64 0, .string ⟨#[]⟩, .slice none 0 0, .slice none 0 0, .slice none 0 0, .slice none 0 0, .int .i64 0] 66)) from alloc_old.trans (alloc_old.mono (by simp)))
  have V := Lib.hid (VCloneP g0 cap l n hn h1 hm c _ (h.below hb3.out))
  have hz : ((w.alloc (.cells #[.string k, .int .i64 5, .string ⟨#[]⟩, .slice none 0 0, .slice none 0 0, .slice none 0 0, .slice (some ⟨g0, 0, none⟩) n cap, .int .i64 u] 66)).alloc (.cells #[.string ⟨#[]⟩, .int .i64 0, .string ⟨#[]⟩, .slice none 0 0, .slice none 0 0, .slice none 0 0, .slice none 0 0, .int .i64 0] 66)).heap.size = w.heap.size + 2 := by simp
  have HZ := Lib.hid hz
  clear h hz
  go_enter Tryz.func34, Tryz.ntmps34
  go_wp2_with (first | (go_at_call 93; (with_reducible refine (V.out).mono ?_); rintro e w1 ⟨g, C, rfl, hT, h1⟩; have HT := Lib.hid hT; have B1 := Lib.hid h1; clear hT h1; obtain ⟨⟨c0, c1, c2, c3, c4, c5, c6, c7⟩, ⟨f0, f1, f2, f3, f4, f5, f6, f7⟩, z1⟩ := cells8 (blk_below hb1.out B1.out); obtain ⟨⟨d0, d1, d2, d3, d4, d5, d6, d7⟩, ⟨g0, g1, g2, g3, g4, g5, g6, g7⟩, z2⟩ := cells8 (blk_below hb2.out B1.out)))
  have hz := HZ.out
  have hno : ∀ g', (Value.slice (some ⟨g, 0, none⟩) n C).ownBlock = some g' → g' ≠ w.heap.size ∧ g' ≠ w.heap.size + 1 := fun g' hg' => by
    have := (row_own HT.out g' hg').1
    omega
  exact bodyPost_ret (v := .agg #[.string k, .int .i64 5, .string ⟨#[]⟩, .slice none 0 0, .slice none 0 0, .slice none 0 0, .slice (some ⟨g, 0, none⟩) n C, .int .i64 u]) (by simp [results, Tryz.results34, go_sem, d0, d1, d2, d3, d4, d5, d6, d7]) rfl ⟨g, C, rfl, (HT.out.kept (fun g' hg' => (far8b (hno g' hg').2 _ _ _ _ _ _ _ _).trans (far6b (hno g' hg').1 _ _ _ _ _ _))).mono (by omega), ((((((((((((((hb3.out.trans (B1.out.mono (by omega))).setCell (Nat.le_refl _) _).setCell (Nat.le_refl _) _).setCell (Nat.le_refl _) _).setCell (Nat.le_refl _) _).setCell (Nat.le_refl _) _).setCell (Nat.le_refl _) _).setCell (Nat.le_succ _) _).setCell (Nat.le_succ _) _).setCell (Nat.le_succ _) _).setCell (Nat.le_succ _) _).setCell (Nat.le_succ _) _).setCell (Nat.le_succ _) _).setCell (Nat.le_succ _) _).setCell (Nat.le_succ _) _⟩
set_option maxRecDepth 100000 in
set_option maxHeartbeats 4000000 in
theorem sSizeP (k : ByteArray) (u : Int) (hk : k.size ≤ 1000000) (g0 cap : Nat) (l : List (ByteArray × Int × Int)) (n : Nat) (hn : l.length = n) (h1 : 1 ≤ n) (hm : n ≤ 1000) (c : Nat) (w : World) (h : RP w c (.slice (some ⟨g0, 0, none⟩) n cap) l) (hs : sumSz (tP l) ≤ 1000000000) : Calls Tryz.prog 50 #[.agg #[.string k, .int .i64 5, .string ⟨#[]⟩, .slice none 0 0, .slice none 0 0, .slice none 0 0, .slice (some ⟨g0, 0, none⟩) n cap, .int .i64 u]] w fun e w' => e = .returned (.int .i64 (48 + (k.size : Int) + 16 * (n : Int) + (sumSz (tP l) : Int))) ∧ Below w.heap.size w w' := by
  obtain ⟨q1, q2⟩ := sz_e n (sumSz (tP l)) k.size hk (by omega) hs
  obtain ⟨W, hW⟩ : ∃ W, w.alloc (.cells #[.string k, .int .i64 5, .string ⟨#[]⟩, .slice none 0 0, .slice none 0 0, .slice none 0 0, .slice (some ⟨g0, 0, none⟩) n cap, .int .i64 u] 66) = W := ⟨_, rfl⟩
  have hb1 : W.heap[w.heap.size]? = some (.cells #[.string k, .int .i64 5, .string ⟨#[]⟩, .slice none 0 0, .slice none 0 0, .slice none 0 0, .slice (some ⟨g0, 0, none⟩) n cap, .int .i64 u] 66) := by rw [← hW]; exact heap_alloc_new w _
  have hb3 : Below w.heap.size w W := by rw [← hW]; exact alloc_old
  have hz : w.heap.size ≤ W.heap.size := Below.size hb3
  have Q := Lib.hid (SizeP g0 cap l n hn h1 hm c W.drew (h.below hb3.drew) hs)
  have K := Lib.hid (show ∀ X, Below W.heap.size W X → (X.cell? ⟨w.heap.size, 0, none⟩ = some (.string k) ∧ X.cell? ⟨w.heap.size, 1, none⟩ = some (.int .i64 5) ∧ X.cell? ⟨w.heap.size, 2, none⟩ = some (.string ⟨#[]⟩) ∧ X.cell? ⟨w.heap.size, 3, none⟩ = some (.slice none 0 0) ∧ X.cell? ⟨w.heap.size, 4, none⟩ = some (.slice none 0 0) ∧ X.cell? ⟨w.heap.size, 5, none⟩ = some (.slice none 0 0) ∧ X.cell? ⟨w.heap.size, 6, none⟩ = some (.slice (some ⟨g0, 0, none⟩) n cap)) from fun X hb => by
    obtain ⟨⟨c0, c1, c2, c3, c4, c5, c6, c7⟩, _⟩ := cells8 (blk_below hb1 hb)
    exact ⟨c0, c1, c2, c3, c4, c5, c6⟩)
  have S0 : ((W.drew.cell? ⟨w.heap.size, 0, none⟩ = some (.string k) ∧ W.drew.cell? ⟨w.heap.size, 1, none⟩ = some (.int .i64 5) ∧ W.drew.cell? ⟨w.heap.size, 2, none⟩ = some (.string ⟨#[]⟩) ∧ W.drew.cell? ⟨w.heap.size, 3, none⟩ = some (.slice none 0 0) ∧ W.drew.cell? ⟨w.heap.size, 4, none⟩ = some (.slice none 0 0) ∧ W.drew.cell? ⟨w.heap.size, 5, none⟩ = some (.slice none 0 0) ∧ W.drew.cell? ⟨w.heap.size, 6, none⟩ = some (.slice (some ⟨g0, 0, none⟩) n cap)) ∧ Below W.heap.size W W.drew) := ⟨K.out _ (Below.refl W.heap.size W).drew, (Below.refl W.heap.size W).drew⟩
  have SK := Lib.hid (show ∀ Y X : World, Below X.heap.size X Y → ((X.cell? ⟨w.heap.size, 0, none⟩ = some (.string k) ∧ X.cell? ⟨w.heap.size, 1, none⟩ = some (.int .i64 5) ∧ X.cell? ⟨w.heap.size, 2, none⟩ = some (.string ⟨#[]⟩) ∧ X.cell? ⟨w.heap.size, 3, none⟩ = some (.slice none 0 0) ∧ X.cell? ⟨w.heap.size, 4, none⟩ = some (.slice none 0 0) ∧ X.cell? ⟨w.heap.size, 5, none⟩ = some (.slice none 0 0) ∧ X.cell? ⟨w.heap.size, 6, none⟩ = some (.slice (some ⟨g0, 0, none⟩) n cap)) ∧ Below W.heap.size W X) → ((Y.cell? ⟨w.heap.size, 0, none⟩ = some (.string k) ∧ Y.cell? ⟨w.heap.size, 1, none⟩ = some (.int .i64 5) ∧ Y.cell? ⟨w.heap.size, 2, none⟩ = some (.string ⟨#[]⟩) ∧ Y.cell? ⟨w.heap.size, 3, none⟩ = some (.slice none 0 0) ∧ Y.cell? ⟨w.heap.size, 4, none⟩ = some (.slice none 0 0) ∧ Y.cell? ⟨w.heap.size, 5, none⟩ = some (.slice none 0 0) ∧ Y.cell? ⟨w.heap.size, 6, none⟩ = some (.slice (some ⟨g0, 0, none⟩) n cap)) ∧ Below W.heap.size W Y) from fun Y X hb h => ⟨K.out _ (belT h.2 hb), belT h.2 hb⟩)
  have HB := Lib.hid hb3
  clear hb1 hb3 h
  go_enter Tryz.func50, Tryz.ntmps50
  go_wp2

  clear hW
  go_region_held3 (fun X => ((X.cell? ⟨w.heap.size, 0, none⟩ = some (.string k) ∧ X.cell? ⟨w.heap.size, 1, none⟩ = some (.int .i64 5) ∧ X.cell? ⟨w.heap.size, 2, none⟩ = some (.string ⟨#[]⟩) ∧ X.cell? ⟨w.heap.size, 3, none⟩ = some (.slice none 0 0) ∧ X.cell? ⟨w.heap.size, 4, none⟩ = some (.slice none 0 0) ∧ X.cell? ⟨w.heap.size, 5, none⟩ = some (.slice none 0 0) ∧ X.cell? ⟨w.heap.size, 6, none⟩ = some (.slice (some ⟨g0, 0, none⟩) n cap)) ∧ Below W.heap.size W X)) (first | exact S0 | exact SK.out _ _ (by assumption) (by assumption) | exact SK.out _ _ (by assumption) ⟨by assumption, by assumption⟩)
    (first | (go_at_call 113; refine (Q.out).mono ?_; rintro e w5 ⟨rfl, hb5⟩))
  go_wp2
  go_ret
  exact ⟨by simp, HB.out.trans ((belT S0.2 hb5).mono hz)⟩
set_option maxRecDepth 100000 in
set_option maxHeartbeats 4000000 in
theorem sMayP (k : ByteArray) (hk1 : 1 ≤ k.size) (hk : k.size ≤ 512) (u : Int) (hu0 : 0 ≤ u) (hu1 : u ≤ 1125899906842624) (g0 cap n : Nat) (w : World) (hV : ∀ X, Below w.heap.size w X → Calls Tryz.prog 114 #[.agg #[.int .i64 5, .string ⟨#[]⟩, .slice none 0 0, .slice none 0 0, .slice none 0 0, .slice (some ⟨g0, 0, none⟩) n cap]] X fun e w' => e = .returned (.bool true) ∧ Below X.heap.size X w') : Calls Tryz.prog 51 #[.agg #[.string k, .int .i64 5, .string ⟨#[]⟩, .slice none 0 0, .slice none 0 0, .slice none 0 0, .slice (some ⟨g0, 0, none⟩) n cap, .int .i64 u]] w fun e w' => e = .returned (.bool true) ∧ Below w.heap.size w w' := by
  have i1 : (1 : Int) ≤ (k.size : Int) := by omega
  have i2 : (k.size : Int) ≤ 512 := by omega
  have V := Lib.hid (hV (w.alloc (.cells #[.string k, .int .i64 5, .string ⟨#[]⟩, .slice none 0 0, .slice none 0 0, .slice none 0 0, .slice (some ⟨g0, 0, none⟩) n cap, .int .i64 u] 66)) alloc_old)
  have hb1 := Lib.hid (heap_alloc_new w (.cells #[.string k, .int .i64 5, .string ⟨#[]⟩, .slice none 0 0, .slice none 0 0, .slice none 0 0, .slice (some ⟨g0, 0, none⟩) n cap, .int .i64 u] 66))
  clear hV hk1 hk
  go_enter Tryz.func51, Tryz.ntmps51
  go_wp2_with (first | (go_at_call 114; (with_reducible refine (V.out).mono ?_); rintro e w1 ⟨rfl, h1⟩; have B1 := Lib.hid h1; clear h1; obtain ⟨⟨c0, c1, c2, c3, c4, c5, c6, c7⟩, _, z1⟩ := cells8 (blk_below hb1.out B1.out)))
  go_ret
  exact ⟨by simp, alloc_old.trans (B1.out.mono (by simp))⟩
end Go.Proofs.YticlacjpgjkhcaaGreatDoor

namespace Go.Proofs.YticlacjpgjkhcaaGreatDoor
open Go.ChangeShapes Go.WideShapes Go.ChangeAt Go.RowKit Go.Fl

theorem bits_run (b : Nat) (w : World) : (callFunc 229 #[.float .f64 b]).run Tryz.prog w = .ok (.value (.int .u64 b)) w := by kernel_rfl
theorem frombits_run (n : Int) (w : World) : (callFunc 246 #[.int .u64 n]).run Tryz.prog w = .ok (.value (.float .f64 n.toNat)) w := by kernel_rfl
theorem trunc_entry (b : Nat) (w : World) : (callFunc 244 #[.float .f64 b]).run Tryz.prog w = ((Extern.MathFloor.toIntegral "math.archTrunc" .zero #[.float .f64 b]).run Tryz.prog w).andThen fun v w' => .ok (.value v) w' :=
  run_callFunc_extern Tryz.func244 (by kernel_rfl) (by kernel_rfl) (by kernel_rfl) (by kernel_rfl) _ w
theorem trunc_run (s : Bool) (m : Nat) (hm : m < 2 ^ 53) (w : World) : (callFunc 244 #[.float .f64 (fz s m)]).run Tryz.prog w = .ok (.value (.float .f64 (fz s m))) w := by
  rw [trunc_entry]
  obtain ⟨k, hk⟩ := read_fz s m hm
  have hd : FloatKind.f64.decode (fz s m) = .number s (m * 2 ^ k) (-(k : Int)) := hk
  have hi := rep_integral .zero ⟨k, hk⟩
  have e : Extern.MathFloor.toIntegral "math.archTrunc" .zero #[.float .f64 (fz s m)] = pure (Value.float .f64 (FloatKind.f64.encode (Ieee.Datum.integral .zero (.number s (m * 2 ^ k) (-(k : Int)))))) := by
    show (match FloatKind.f64.decode (fz s m) with
      | .nan s t => _
      | d => pure (Value.float .f64 (FloatKind.f64.encode (d.integral .zero)))) = _
    rw [hd]
  rw [e, ← hk, hi]
  rfl

theorem trunc_any (s : Bool) (m : Nat) (hm : m < 2 ^ 53) (w : World) : Calls Tryz.prog 235 #[.float .f64 (fz s m)] w fun e w' => e = .returned (.float .f64 (fz s m)) ∧ w = w' := by
  have h1 := trunc_run s m hm
  go_enter Tryz.func235, Tryz.ntmps235
  go_wp2
  go_ret
  exact ⟨rfl, rfl⟩

theorem fz_lt (m : Nat) (hm : m < 2 ^ 53) : fz false m < 2 ^ 63 := by
  by_cases h : m = 0
  · subst h; rw [fz_zero, word_false]; decide
  · have := rung_lt hm h
    rw [fz_pos false m hm h, word_false]
    omega
theorem fz_true (m : Nat) (hm : m < 2 ^ 53) : fz true m = 2 ^ 63 + fz false m := by
  by_cases h : m = 0
  · subst h; rw [fz_zero, fz_zero, word_true, word_false]
  · rw [fz_pos _ m hm h, fz_pos _ m hm h, word_true, word_false]

theorem fz_lt64 (s : Bool) (m : Nat) (hm : m < 2 ^ 53) : fz s m < 2 ^ 64 := by
  have h := fz_lt m hm
  cases s
  · omega
  · rw [fz_true m hm]; omega
theorem abs_bits (s : Bool) (m : Nat) (hm : m < 2 ^ 53) : (bits BinOp.andNot IntKind.u64 (↑(fz s m)) 9223372036854775808).toNat = fz false m := by
  have h := fz_lt m hm
  have h' := fz_lt64 s m hm
  rw [u64_andNot _ _ (by omega) (by omega) (by omega) (by omega)]
  have e : (18446744073709551615 - Int.toNat 9223372036854775808 : Nat) = 2 ^ 63 - 1 := by decide
  rw [e, Nat.and_two_pow_sub_one_eq_mod]
  cases s
  · simp; omega
  · rw [fz_true m hm]; simp; omega
theorem sign_bits (s : Bool) (m : Nat) (hm : m < 2 ^ 53) : decide (wrap64 (fz s m : Int) < 0) = s := by
  have h := fz_lt m hm
  unfold wrap64
  cases s
  · simp; omega
  · rw [fz_true m hm]; simp; omega

theorem abs_any (s : Bool) (m : Nat) (hm : m < 2 ^ 53) (w : World) : Calls Tryz.prog 236 #[.float .f64 (fz s m)] w fun e w' => e = .returned (.float .f64 (fz false m)) ∧ w = w' := by
  have h1 := bits_run (fz s m)
  have h2 := frombits_run
  have h3 := Lib.hid (abs_bits s m hm)
  go_enter Tryz.func236, Tryz.ntmps236
  go_wp2
  go_ret
  exact ⟨by simp [h3.out], rfl⟩
theorem signbit_any (s : Bool) (m : Nat) (hm : m < 2 ^ 53) (w : World) : Calls Tryz.prog 237 #[.float .f64 (fz s m)] w fun e w' => e = .returned (.bool s) ∧ w = w' := by
  have h1 := bits_run (fz s m)
  have h3 := Lib.hid (sign_bits s m hm)
  go_enter Tryz.func237, Tryz.ntmps237
  go_wp2
  go_ret
  exact ⟨by simp [h3.out], rfl⟩
theorem lit_max : (4697254411347427328 : Nat) = fz false 1048576 := by decide
theorem lit_zero : (0 : Nat) = fz false 0 := by decide
theorem cmp_lt {a b : Int} (h : a < b) : compare a b = .lt := by
  show compareOfLessAndEq _ _ = _
  unfold compareOfLessAndEq
  rw [if_pos h]
theorem cmp_gt {a b : Int} (h : b < a) : compare a b = .gt := by
  show compareOfLessAndEq _ _ = _
  unfold compareOfLessAndEq
  rw [if_neg (by omega), if_neg (by omega)]
theorem cmp_eq {a b : Int} (h : a = b) : compare a b = .eq := by subst h; simp
/-- May a part be? -/
theorem whole_yes (s : Bool) (m : Nat) (hm : m ≤ 1048576) (hz : m ≠ 0 ∨ s = false) (w : World) : Calls Tryz.prog 213 #[.float .f64 (fz s m)] w fun e w' => e = .returned (.bool true) ∧ w = w' := by
  have hm' : m < 2 ^ 53 := by omega
  have h1 : FloatKind.f64.format.order (fz s m) (fz s m) = some Ordering.eq := by rw [f64, order_fz hm' hm', cmp_eq rfl]
  have h2 : (FloatKind.f64.format.order (fz false m) 4697254411347427328 == some .lt || FloatKind.f64.format.order (fz false m) 4697254411347427328 == some .eq) = true := by
    rw [f64, lit_max, order_fz hm' (by decide)]
    by_cases h : m = 1048576
    · rw [cmp_eq (by simp [sg, h])]; rfl
    · rw [cmp_lt (by simp [sg]; omega)]; rfl
  have h3 := hz
  clear hz
  by_cases h0 : m = 0
  · subst h0
    obtain rfl : s = false := by simpa using h3
    have h4 : FloatKind.f64.format.order (fz false 0) 0 = some Ordering.eq := by decide
    clear h3
    go_enter Tryz.func213, Tryz.ntmps213
    go_wp2_with (first | (go_at_call 235; refine (trunc_any _ _ hm' _).mono ?_; rintro e w' ⟨rfl, rfl⟩) | (go_at_call 236; refine (abs_any _ _ hm' _).mono ?_; rintro e w' ⟨rfl, rfl⟩) | (go_at_call 237; refine (signbit_any _ _ hm' _).mono ?_; rintro e w' ⟨rfl, rfl⟩))
    go_ret
    exact ⟨by simp, rfl⟩
  · have h4 : (FloatKind.f64.format.order (fz s m) 0 == some Ordering.eq) = false := by
      rw [f64, lit_zero, order_fz hm' (by decide)]
      cases s
      · rw [cmp_gt (by simp [sg]; omega)]; rfl
      · rw [cmp_lt (by simp [sg]; omega)]; rfl
    clear h3
    go_enter Tryz.func213, Tryz.ntmps213
    go_wp2_with (first | (go_at_call 235; refine (trunc_any _ _ hm' _).mono ?_; rintro e w' ⟨rfl, rfl⟩) | (go_at_call 236; refine (abs_any _ _ hm' _).mono ?_; rintro e w' ⟨rfl, rfl⟩) | (go_at_call 237; refine (signbit_any _ _ hm' _).mono ?_; rintro e w' ⟨rfl, rfl⟩))
    go_ret
    exact ⟨by simp, rfl⟩
theorem whole_no (s : Bool) (m : Nat) (hm : 1048576 < m) (hm' : m < 2 ^ 53) (w : World) : Calls Tryz.prog 213 #[.float .f64 (fz s m)] w fun e w' => e = .returned (.bool false) ∧ w = w' := by
  have h1 : FloatKind.f64.format.order (fz s m) (fz s m) = some Ordering.eq := by rw [f64, order_fz hm' hm', cmp_eq rfl]
  have h2 : FloatKind.f64.format.order (fz false m) 4697254411347427328 = some .gt := by
    rw [f64, lit_max, order_fz hm' (by decide)]
    rw [cmp_gt (by simp [sg]; omega)]
  go_enter Tryz.func213, Tryz.ntmps213
  go_wp2_with (first | (go_at_call 235; refine (trunc_any _ _ hm' _).mono ?_; rintro e w' ⟨rfl, rfl⟩) | (go_at_call 236; refine (abs_any _ _ hm' _).mono ?_; rintro e w' ⟨rfl, rfl⟩) | (go_at_call 237; refine (signbit_any _ _ hm' _).mono ?_; rintro e w' ⟨rfl, rfl⟩))
  go_ret
  exact ⟨by simp, rfl⟩
def okI (n : Int) : Bool := decide (-1048576 ≤ n ∧ n ≤ 1048576)
theorem whole_fi (n : Int) (hn : n.natAbs < 2 ^ 53) (w : World) : Calls Tryz.prog 213 #[.float .f64 (fi n)] w fun e w' => e = .returned (.bool (okI n)) ∧ w = w' := by
  by_cases h : n.natAbs ≤ 1048576
  · rw [show okI n = true from by simp [okI]; omega]
    exact whole_yes _ _ h (by by_cases h0 : n.natAbs = 0 <;> simp [h0]; omega) w
  · rw [show okI n = false from by simp [okI]; omega]
    exact whole_no _ _ (by omega) hn w
theorem may_fi (x y : Int) (hx : x.natAbs < 2 ^ 53) (hy : y.natAbs < 2 ^ 53) (w : World) : Calls Tryz.prog 162 #[.complex .f64 (fi x) (fi y)] w fun e w' => e = .returned (.bool (okI x && okI y)) ∧ w = w' := by
  cases h : okI x
  · have hx' := Lib.hid (whole_fi x hx w)
    rw [h] at hx'
    go_enter Tryz.func162, Tryz.ntmps162
    go_wp2_with (first | (go_at_call 213; refine (hx'.out).mono ?_; rintro e w' ⟨rfl, rfl⟩))
    go_ret
    exact ⟨by simp, rfl⟩
  · have hx' := Lib.hid (whole_fi x hx w)
    rw [h] at hx'
    have hy' := Lib.hid (whole_fi y hy w)
    go_enter Tryz.func162, Tryz.ntmps162
    go_wp2_with (first | (go_at_call_of 213 (Value.float .f64 (fi x)); refine (hx'.out).mono ?_; rintro e w' ⟨rfl, rfl⟩) | (go_at_call 213; refine (hy'.out).mono ?_; rintro e w' ⟨rfl, rfl⟩))
    go_ret
    exact ⟨by simp, rfl⟩
end Go.Proofs.YticlacjpgjkhcaaGreatDoor

/- Values of kind P: which may be. -/
namespace Go.Proofs.YticlacjpgjkhcaaGreatDoor
open Go.ChangeShapes Go.WideShapes Go.ChangeAt Go.RowKit Go.Fl

set_option maxRecDepth 100000 in
set_option maxHeartbeats 4000000 in
theorem lessP (p q : ByteArray × Int × Int) (h : bl p.1 < bl q.1) (w : World) : Calls Tryz.prog 171 #[.agg #[.string p.1, .complex .f64 (fi p.2.1) (fi p.2.2)], .agg #[.string q.1, .complex .f64 (fi q.2.1) (fi q.2.2)]] w fun e w' => e = .returned (.bool true) ∧ Below w.heap.size w w' := by
  have e : Op.bytesLess p.1.toList q.1.toList = true := by rw [less_bl]; exact decide_eq_true h
  go_enter Tryz.func171, Tryz.ntmps171
  go_wp2
  exact bodyPost_ret (v := .bool true) (by simp [results, Tryz.results171, go_sem]) rfl ⟨rfl, alloc_old.trans (alloc_old.mono (by simp))⟩
theorem okI_absN {x : Int} (h : okI x = true) : x.natAbs < 2 ^ 53 := by simp [okI] at h; omega
set_option maxRecDepth 100000 in
set_option maxHeartbeats 4000000 in
theorem MayP (g C : Nat) (l : List (ByteArray × Int × Int)) (n : Nat) (hn : l.length = n) (h1 : 1 ≤ n) (hm : n ≤ 1000) (c : Nat) (w : World) (h : RP w c (.slice (some ⟨g, 0, none⟩) n C) l) (hok : ∀ p ∈ l, okI p.2.1 = true ∧ okI p.2.2 = true) (hsz : ∀ s ∈ tP l, s.size ≤ 4096) (hs : 16 + 16 * n + sumSz (tP l) ≤ 262144) (hr : ∀ (i : Nat) (p q : ByteArray × Int × Int), l[i]? = some p → l[i + 1]? = some q → bl p.1 < bl q.1) : Calls Tryz.prog 114 #[.agg #[.int .i64 5, .string ⟨#[]⟩, .slice none 0 0, .slice none 0 0, .slice none 0 0, .slice (some ⟨g, 0, none⟩) n C]] w fun e w' => e = .returned (.bool true) ∧ Below w.heap.size w w' := by
  have CN := Lib.hid (fun X => countP (some ⟨g, 0, none⟩) n C X)
  have TX := Lib.hid (fun X (hX : Below w.heap.size w X) => textsP 5 g C l n hn hm c X (h.below hX))
  have SZ := Lib.hid (fun X (hX : Below w.heap.size w X) => SizeP g C l n hn h1 hm c X (h.below hX) (by omega))
  have F1 := Lib.hid (fun X (hX : Below w.heap.size w X) => riseP (some ⟨g, 0, none⟩) C l n hn h1 (by omega) c X (h.below hX) (fun i p q hp hq Y => lessP p q (hr i p q hp hq) Y))
  have F2 := Lib.hid rise49
  have F3 := Lib.hid rise53
  have F4 := Lib.hid once55
  have B0 := Lib.hid (alloc_old (w := w) (o := .cells #[.int .i64 5, .string ⟨#[]⟩, .slice none 0 0, .slice none 0 0, .slice none 0 0, .slice (some ⟨g, 0, none⟩) n C] 64))
  have R0 := Lib.hid (heap_alloc_new w (.cells #[.int .i64 5, .string ⟨#[]⟩, .slice none 0 0, .slice none 0 0, .slice none 0 0, .slice (some ⟨g, 0, none⟩) n C] 64))
  have HTN := Lib.hid (show (tP l).length = n * 1 by rw [tP_len, hn])
  have g1 : ¬ (n : Int) < 1 := by omega
  have g2 : ¬ (1000 : Int) < (n : Int) := by omega
  have g3 : 16 + 16 * (n : Int) + (sumSz (tP l) : Int) ≤ 262144 := by omega
  obtain ⟨xs, hxs⟩ : ∃ xs, tP l = xs := ⟨_, rfl⟩
  rw [hxs] at TX SZ HTN hsz g3
  have HSZ := Lib.hid hsz
  have HOK := Lib.hid hok
  have HPX := Lib.hid (fun X (hX : Below w.heap.size w X) (i : Nat) (p : ByteArray × Int × Int) (hp : l[i]? = some p) => (h.below hX).at hn i p hp)
  have HLN := Lib.hid hn
  clear h hs hxs hr hn hsz hok
  go_enter Tryz.func114, Tryz.ntmps114
  go_wp2_with (first | (go_at_call 167; (with_reducible refine (CN.out _).mono ?_); rintro e w1 ⟨rfl, hb⟩; have B1 := Lib.hid (B0.out.trans (hb.mono (Below.size B0.out))); have R1 := Lib.hid (blk_below R0.out hb); clear hb; obtain ⟨⟨c0, c1, c2, c3, c4, c5⟩, _⟩ := cells6 R1.out; refine Hid.out ?_))
  refine Lib.hid ?_
  have RN := Lib.hid (heap_alloc_new w1 (.cells #[.int .i64 0, .int .i64 0, .int .i64 0, .int .i64 (n : Int)] 186))
  have B2 := Lib.hid (B1.out.trans ((alloc_old (o := .cells #[.int .i64 0, .int .i64 0, .int .i64 0, .int .i64 (n : Int)] 186)).mono (Below.size B1.out)))
  have R2 := Lib.hid (blk_below R1.out (alloc_old (o := .cells #[.int .i64 0, .int .i64 0, .int .i64 0, .int .i64 (n : Int)] 186)))
  obtain ⟨⟨c0, c1, c2, c3, c4, c5⟩, _⟩ := cells6 R2.out
  obtain ⟨⟨n0, n1, n2, n3⟩, _⟩ := cells4 RN.out
  have T2 := Lib.hid (TX.out _ B2.out)
  go_wp2_with (first | (go_at_call 166; (with_reducible refine (T2.out).mono ?_); rintro e w3 ⟨v3, rfl, hT3, hb⟩; have T3 := Lib.hid hT3; clear hT3; have B3 := Lib.hid (B2.out.trans (hb.mono (Below.size B2.out))); have R3 := Lib.hid (blk_below R2.out hb); clear hb; obtain ⟨⟨c0, c1, c2, c3, c4, c5⟩, _⟩ := cells6 R3.out; refine Hid.out ?_))
  refine Lib.hid ?_
  have hne : xs ≠ [] := by intro e; have := HTN.out; rw [e] at this; simp at this; omega
  obtain ⟨A3, cap3, rfl, s2, s3, s4⟩ := T3.out.ssl
  obtain ⟨blk, off, rfl, hblt, hcell⟩ := s4 hne
  clear s2 s3 s4 n0 n1 n2 n3 hne
  have HCL := Lib.hid hcell
  have hxm : xs.length ≤ 1000000 := by rw [HTN.out]; omega
  clear hcell
  go_wp2
  go_loopw [62] (fun i wr => ∃ k : Nat, k ≤ xs.length ∧ i = .int .i64 k ∧ w3 = wr) (fun i _ => xs.length - (iOfL i).toNat)
  case atStart => exact ⟨0, Nat.zero_le _, rfl, rfl⟩
  case round =>
    obtain ⟨k, hk, rfl, rfl⟩ := hrel
    by_cases hlt : k < xs.length
    · have i0 : (k : Int) < (xs.length : Int) := by omega
      obtain ⟨s, hs0⟩ := some_at hlt
      have x0 := HCL.out k s hs0
      have hs1 := HSZ.out s (List.mem_of_getElem? hs0)
      have i1 : ¬ (4096 : Int) < (s.size : Int) := by omega
      clear hs0 hs1
      go_wp2
      exact ⟨⟨k + 1, hlt, by go_num, trivial⟩, by simp [iOfL]; omega⟩
    · have i0 : ¬ (k : Int) < (xs.length : Int) := by omega
      clear hlt
      go_wp2
      go_loopw [73] (fun i wr => ∃ k : Nat, k ≤ n ∧ i = .int .i64 k ∧ Hid (Below w3.heap.size w3 wr)) (fun i _ => n - (iOfL i).toNat)
      case atStart => exact ⟨0, Nat.zero_le _, rfl, Lib.hid (Below.refl _ _)⟩
      case round =>
        obtain ⟨k, hk, rfl, HW⟩ := hrel
        have B3' := Lib.hid (B3.out.trans (HW.out.mono (Below.size B3.out)))
        have R3' := Lib.hid (blk_below R3.out HW.out)
        obtain ⟨⟨c0, c1, c2, c3, c4, c5⟩, _⟩ := cells6 R3'.out
        by_cases hlt : k < n
        · have i0 : (k : Int) < (n : Int) := by omega
          obtain ⟨p, hp⟩ : ∃ p, l[k]? = some p := ⟨_, List.getElem?_eq_getElem (by rw [HLN.out]; exact hlt)⟩
          obtain ⟨d0, d1⟩ := HPX.out _ B3'.out k p hp
          obtain ⟨o1, o2⟩ := HOK.out p (List.mem_of_getElem? hp)
          have A1 := okI_absN o1
          have A2 := okI_absN o2
          have ML := Lib.hid (fun X => may_fi p.2.1 p.2.2 A1 A2 X)
          rw [o1, o2] at ML
          have AA := Lib.hid (alloc_old (w := wr) (o := .cells #[.string p.1, .complex .f64 (fi p.2.1) (fi p.2.2)] 110))
          clear hp A1 A2 o1 o2
          go_wp2_with (first | (go_at_call 162; (with_reducible refine (ML.out _).mono ?_); rintro e w4 ⟨rfl, rfl⟩))
          exact ⟨⟨k + 1, hlt, by go_num, Lib.hid (HW.out.trans (AA.out.mono (Below.size HW.out)))⟩, by simp [iOfL]; omega⟩
        · have i0 : ¬ (k : Int) < (n : Int) := by omega
          clear hlt
          go_wp2_with (first | (go_at_call 168; (with_reducible refine (F2.out _ _).mono ?_); rintro e w4 ⟨rfl, hb⟩; have B4 := Lib.hid (B3'.out.trans (hb.mono (Below.size B3'.out))); have R4 := Lib.hid (blk_below R3'.out hb); clear hb; obtain ⟨⟨c0, c1, c2, c3, c4, c5⟩, _⟩ := cells6 R4.out; have F14 := Lib.hid (F1.out _ B4.out)) | (go_at_call 170; (with_reducible refine (F14.out).mono ?_); rintro e w5 ⟨rfl, hb⟩; have B5 := Lib.hid (B4.out.trans (hb.mono (Below.size B4.out))); have R5 := Lib.hid (blk_below R4.out hb); clear hb; obtain ⟨⟨c0, c1, c2, c3, c4, c5⟩, _⟩ := cells6 R5.out) | (go_at_call 172; (with_reducible refine (F3.out _ _).mono ?_); rintro e w6 ⟨rfl, hb⟩; have B6 := Lib.hid (B5.out.trans (hb.mono (Below.size B5.out))); have R6 := Lib.hid (blk_below R5.out hb); clear hb; obtain ⟨⟨c0, c1, c2, c3, c4, c5⟩, _⟩ := cells6 R6.out) | (go_at_call 174; (with_reducible refine (F4.out _).mono ?_); rintro e w7 ⟨rfl, hb⟩; have B7 := Lib.hid (B6.out.trans (hb.mono (Below.size B6.out))); have R7 := Lib.hid (blk_below R6.out hb); clear hb; obtain ⟨⟨c0, c1, c2, c3, c4, c5⟩, _⟩ := cells6 R7.out; have S7 := Lib.hid (SZ.out _ B7.out)) | (go_at_call 113; (with_reducible refine (S7.out).mono ?_); rintro e w8 ⟨rfl, hb⟩; have B8 := Lib.hid (B7.out.trans (hb.mono (Below.size B7.out))); clear hb))
          go_ret
          exact ⟨by simp, B8.out⟩
end Go.Proofs.YticlacjpgjkhcaaGreatDoor

namespace Go.Proofs.YticlacjpgjkhcaaGreatDoor
open Go.ChangeShapes Go.WideShapes Go.ChangeAt Go.RowKit Go.Fl

theorem add0 (s : Bool) (m : Nat) (hm : m < 2 ^ 53) : floatBits .add .f64 (fz s m) 0 = some (fi (sg s m)) := by
  show Ieee.double.add (fz s m) 0 = _
  have hb : (sg s m + sg false 0).natAbs < 2 ^ 53 := by cases s <;> simp [sg] <;> omega
  have := add_fz (s := s) (t := false) hm (by decide) hb
  rw [← lit_zero] at this
  rw [this]
  have e : sg s m + sg false 0 = sg s m := by simp [sg]
  rw [e]
  congr 1
  unfold fi
  congr 1
  by_cases h : sg s m = 0
  · simp [h]
  · simp [h]
theorem sg_abs (s : Bool) (m : Nat) : (sg s m).natAbs = m := by cases s <;> simp [sg]
theorem plain_any (s t : Bool) (m n : Nat) (hm : m < 2 ^ 53) (hn : n < 2 ^ 53) (w : World) : Calls Tryz.prog 164 #[.complex .f64 (fz s m) (fz t n)] w fun e w' => e = .returned (.complex .f64 (fi (sg s m)) (fi (sg t n))) ∧ w = w' := by
  have h1 := fun w => run_float_arith (P := Tryz.prog) w .add 125 .f64 _ _ _ (add0 s m hm)
  have h2 := fun w => run_float_arith (P := Tryz.prog) w .add 125 .f64 _ _ _ (add0 t n hn)
  go_enter Tryz.func164, Tryz.ntmps164
  go_wp2
  go_ret
  exact ⟨rfl, rfl⟩
theorem made_yes (x y u v : Int) (s t : Bool) (m n : Nat) (hx : okI x = true) (hy : okI y = true) (hu : okI u = true) (hv : okI v = true) (hm : m ≤ 1048576) (hn : n ≤ 1048576) (w : World) :
    Calls Tryz.prog 112 #[.complex .f64 (fi x) (fi y), .complex .f64 (fi u) (fi v), .complex .f64 (fz s m) (fz t n)] w fun e w' => e = .returned (.tuple #[.complex .f64 (fi (sg s m)) (fi (sg t n)), .bool true]) ∧ w = w' := by
  have c1 := may_fi x y (by simp [okI] at hx; omega) (by simp [okI] at hy; omega) w
  have c2 := may_fi u v (by simp [okI] at hu; omega) (by simp [okI] at hv; omega) w
  have c3 := may_fi (sg s m) (sg t n) (by rw [sg_abs]; omega) (by rw [sg_abs]; omega) w
  have k1 : okI (sg s m) = true := by have := sg_abs s m; simp [okI]; omega
  have k2 : okI (sg t n) = true := by have := sg_abs t n; simp [okI]; omega
  rw [hx, hy] at c1
  rw [hu, hv] at c2
  rw [k1, k2] at c3
  have C0 := Lib.hid (plain_any s t m n (by omega) (by omega) w)
  have C1 := Lib.hid c1
  have C2 := Lib.hid c2
  have C3 := Lib.hid c3
  clear c1 c2 c3 k1 k2 hx hy hu hv
  go_enter Tryz.func112, Tryz.ntmps112
  go_wp2_with (first | (go_at_call 164; refine (C0.out).mono ?_; rintro e w' ⟨rfl, rfl⟩) | (go_at_call 162; first | (with_reducible refine (C1.out).mono ?_) | (with_reducible refine (C2.out).mono ?_) | (with_reducible refine (C3.out).mono ?_)); rintro e w' ⟨rfl, rfl⟩)
  go_ret2
  exact ⟨by simp, rfl⟩
theorem made_no (x y u v : Int) (s t : Bool) (m n : Nat) (hx : okI x = true) (hy : okI y = true) (hu : okI u = true) (hv : okI v = true) (hm : m < 2 ^ 53) (hn : n < 2 ^ 53) (h : 1048576 < m ∨ 1048576 < n) (w : World) :
    Calls Tryz.prog 112 #[.complex .f64 (fi x) (fi y), .complex .f64 (fi u) (fi v), .complex .f64 (fz s m) (fz t n)] w fun e w' => e = .returned (.tuple #[.complex .f64 0 0, .bool false]) ∧ w = w' := by
  have c1 := may_fi x y (by simp [okI] at hx; omega) (by simp [okI] at hy; omega) w
  have c2 := may_fi u v (by simp [okI] at hu; omega) (by simp [okI] at hv; omega) w
  have c3 := may_fi (sg s m) (sg t n) (by rw [sg_abs]; omega) (by rw [sg_abs]; omega) w
  have k1 : (okI (sg s m) && okI (sg t n)) = false := by have := sg_abs s m; have := sg_abs t n; simp [okI]; omega
  rw [hx, hy] at c1
  rw [hu, hv] at c2
  rw [k1] at c3
  have C0 := Lib.hid (plain_any s t m n (by omega) (by omega) w)
  have C1 := Lib.hid c1
  have C2 := Lib.hid c2
  have C3 := Lib.hid c3
  clear c1 c2 c3 k1 hx hy hu hv h
  go_enter Tryz.func112, Tryz.ntmps112
  go_wp2_with (first | (go_at_call 164; refine (C0.out).mono ?_; rintro e w' ⟨rfl, rfl⟩) | (go_at_call 162; first | (with_reducible refine (C1.out).mono ?_) | (with_reducible refine (C2.out).mono ?_) | (with_reducible refine (C3.out).mono ?_)); rintro e w' ⟨rfl, rfl⟩)
  go_ret2
  exact ⟨by simp, rfl⟩
/-- What a point comes to, if it may be. -/
def ptI (re im : Int) : Value := if okI re && okI im then .tuple #[.complex .f64 (fi re) (fi im), .bool true] else .tuple #[.complex .f64 0 0, .bool false]
theorem made_any (x y u v : Int) (s t : Bool) (m n : Nat) (hx : okI x = true) (hy : okI y = true) (hu : okI u = true) (hv : okI v = true) (hm : m < 2 ^ 53) (hn : n < 2 ^ 53) (w : World) :
    Calls Tryz.prog 112 #[.complex .f64 (fi x) (fi y), .complex .f64 (fi u) (fi v), .complex .f64 (fz s m) (fz t n)] w fun e w' => e = .returned (ptI (sg s m) (sg t n)) ∧ w = w' := by
  have a1 := sg_abs s m
  have a2 := sg_abs t n
  by_cases h : m ≤ 1048576 ∧ n ≤ 1048576
  · rw [show ptI (sg s m) (sg t n) = .tuple #[.complex .f64 (fi (sg s m)) (fi (sg t n)), .bool true] from by
      unfold ptI; rw [if_pos]; simp [okI]; omega]
    exact made_yes x y u v s t m n hx hy hu hv h.1 h.2 w
  · rw [show ptI (sg s m) (sg t n) = .tuple #[.complex .f64 0 0, .bool false] from by
      unfold ptI; rw [if_neg]; simp [okI]; omega]
    exact made_no x y u v s t m n hx hy hu hv hm hn (by omega) w

theorem fi_fz (n : Int) : fi n = fz (decide (n < 0)) n.natAbs := rfl
theorem addI (a b : Int) (ha : a.natAbs < 2 ^ 53) (hb : b.natAbs < 2 ^ 53) (hab : (a + b).natAbs < 2 ^ 53) : floatBits .add .f64 (fi a) (fi b) = some (fi (a + b)) := by
  show Ieee.double.add (fi a) (fi b) = _
  have := add_fz (s := decide (a < 0)) (t := decide (b < 0)) ha hb (by rw [sg_fi, sg_fi]; exact hab)
  rw [fi_fz, fi_fz, this, sg_fi, sg_fi]
  congr 1
  unfold fi
  congr 1
  by_cases h : a + b = 0
  · rw [if_pos h]; simp [h]; omega
  · rw [if_neg h]
theorem addC (x y u v : Int) (hx : x.natAbs ≤ 1048576) (hy : y.natAbs ≤ 1048576) (hu : u.natAbs ≤ 1048576) (hv : v.natAbs ≤ 1048576) : cSumBits .add .f64 (fi x) (fi y) (fi u) (fi v) = some (fi (x + u), fi (y + v)) := by
  unfold cSumBits
  rw [addI x u (by omega) (by omega) (by omega), addI y v (by omega) (by omega) (by omega)]
  rfl
theorem okI_abs {x : Int} (h : okI x = true) : x.natAbs ≤ 1048576 := by simp [okI] at h; omega
theorem Add_any (x y u v : Int) (hx : okI x = true) (hy : okI y = true) (hu : okI u = true) (hv : okI v = true) (w : World) :
    Calls Tryz.prog 47 #[.complex .f64 (fi x) (fi y), .complex .f64 (fi u) (fi v)] w fun e w' => e = .returned (ptI (x + u) (y + v)) ∧ w = w' := by
  have ax := okI_abs hx
  have ay := okI_abs hy
  have au := okI_abs hu
  have av := okI_abs hv
  have h1 := fun w => run_complex_sum (P := Tryz.prog) w .add (.inl rfl) 107 .f64 _ _ _ _ _ _ (addC x y u v ax ay au av)
  have c := made_any x y u v (decide (x + u < 0)) (decide (y + v < 0)) (x + u).natAbs (y + v).natAbs hx hy hu hv (by omega) (by omega) w
  rw [sg_fi, sg_fi, ← fi_fz, ← fi_fz] at c
  have C := Lib.hid c
  clear c hx hy hu hv
  by_cases hok : okI (x + u) && okI (y + v)
  · have e : ptI (x + u) (y + v) = .tuple #[.complex .f64 (fi (x + u)) (fi (y + v)), .bool true] := by unfold ptI; rw [if_pos hok]
    rw [e] at C
    have E := Lib.hid e
    clear e
    go_enter Tryz.func47, Tryz.ntmps47
    go_wp2_with (go_at_call 112; refine (C.out).mono ?_; rintro e w' ⟨rfl, rfl⟩)
    go_ret2
    exact ⟨by rw [E.out]; simp, rfl⟩
  · have e : ptI (x + u) (y + v) = .tuple #[.complex .f64 0 0, .bool false] := by unfold ptI; rw [if_neg hok]
    rw [e] at C
    have E := Lib.hid e
    clear e
    go_enter Tryz.func47, Tryz.ntmps47
    go_wp2_with (go_at_call 112; refine (C.out).mono ?_; rintro e w' ⟨rfl, rfl⟩)
    go_ret2
    exact ⟨by rw [E.out]; simp, rfl⟩
end Go.Proofs.YticlacjpgjkhcaaGreatDoor
