/- The space: a key's entry that is not over. -/
import Derived.Test.YtllaeocclpaiaaaGreatDoorSt4
namespace Go.Proofs.YtllaeocclpaiaaaGreatDoor
open Go.ChangeShapes Go.WideShapes Go.ChangeAt Go.RowKit

/-- An entry is not over. -/
def Lives (u now : Int) : Prop := u = 0 ∨ (0 < u ∧ now < u)
theorem Over_kd (k t : ByteArray) (kd u n : Int) (h : Lives u n) (w : World) : Calls Tryz.prog 58 #[.agg #[.string k, .int .i64 kd, .string t, .slice none 0 0, .slice none 0 0, .slice none 0 0, .slice none 0 0, .int .i64 u], .int .i64 n] w fun e w' => e = .returned (.bool false) ∧ Below w.heap.size w w' := by
  rcases h with rfl | ⟨h0, h1⟩
  · go_enter Tryz.func58, Tryz.ntmps58
    go_wp2
    go_ret
    exact ⟨rfl, alloc_old⟩
  · have g1 : ¬ u = 0 := by omega
    have g2 : (u == 0) = false := by rw [beq_eq_false_iff_ne]; exact g1
    have g3 : ¬ u ≤ n := by omega
    go_enter Tryz.func58, Tryz.ntmps58
    go_wp2
    go_ret
    exact ⟨by simp, alloc_old⟩
set_option maxRecDepth 100000 in
set_option maxHeartbeats 2000000 in
theorem Get_yes (bS bM : Nat) (l : MapT.Ents) (k t : ByteArray) (u kd now : Int) (hf : MapT.find k l = some (.agg #[.string k, .int .i64 kd, .string t, .slice none 0 0, .slice none 0 0, .slice none 0 0, .slice none 0 0, .int .i64 u])) (hl : Lives u now) (w : World) (h : SP w bS bM l) : Calls Tryz.prog 77 #[.pointer (some ⟨bS, 0, none⟩), .string k, .int .i64 now] w fun e w' => e = .returned (.tuple #[.agg #[.string k, .int .i64 kd, .string t, .slice none 0 0, .slice none 0 0, .slice none 0 0, .slice none 0 0, .int .i64 u], .bool true]) ∧ Below w.heap.size w w' := by
  have H := Lib.hid (Has_yes bS bM l k t u kd hf _ (h.below (alloc_old (w := w) (o := .cells #[.string ⟨#[]⟩, .int .i64 0, .string ⟨#[]⟩, .slice none 0 0, .slice none 0 0, .slice none 0 0, .slice none 0 0, .int .i64 0] 33))))
  have O := Lib.hid (fun w => Over_kd k t kd u now hl w)
  have z0 := Lib.hid (heap_alloc_new w (.cells #[.string ⟨#[]⟩, .int .i64 0, .string ⟨#[]⟩, .slice none 0 0, .slice none 0 0, .slice none 0 0, .slice none 0 0, .int .i64 0] 33))
  clear h hf hl
  go_enter Tryz.func77, Tryz.ntmps77
  go_wp2_with (first | (go_at_call 90; (with_reducible refine (H.out).mono ?_); rintro e w1 ⟨rfl, h1⟩; have B1 := Lib.hid h1; clear h1; refine Hid.out ?_))
  refine Lib.hid ?_
  have zE := Lib.hid (heap_alloc_new w1 (.cells #[.string k, .int .i64 kd, .string t, .slice none 0 0, .slice none 0 0, .slice none 0 0, .slice none 0 0, .int .i64 u] 33))
  go_wp2_with (first | (go_at_call 58; (with_reducible refine (O.out _).mono ?_); rintro e w2 ⟨rfl, h2⟩; have B2 := Lib.hid h2; clear h2; obtain ⟨⟨c0, c1, c2, c3, c4, c5, c6, c7⟩, ⟨f0, f1, f2, f3, f4, f5, f6, f7⟩, z1⟩ := cells8 (blk_below z0.out (belA B1.out B2.out)); obtain ⟨⟨d0, d1, d2, d3, d4, d5, d6, d7⟩, _, z2⟩ := cells8 (blk_below zE.out B2.out)))
  exact bodyPost_ret (v := .tuple #[.agg #[.string k, .int .i64 kd, .string t, .slice none 0 0, .slice none 0 0, .slice none 0 0, .slice none 0 0, .int .i64 u], .bool true]) (by simp [results, Tryz.results77, go_sem, c0, c1, c2, c3, c4, c5, c6, c7]) rfl ⟨rfl, (((((((((alloc_old.trans ((belA B1.out B2.out).mono (by simp))).setCell (Nat.le_refl _) _).setCell (Nat.le_refl _) _).setCell (Nat.le_refl _) _).setCell (Nat.le_refl _) _).setCell (Nat.le_refl _) _).setCell (Nat.le_refl _) _).setCell (Nat.le_refl _) _).setCell (Nat.le_refl _) _)⟩
set_option maxRecDepth 100000 in
set_option maxHeartbeats 2000000 in
theorem Get_no (bS bM : Nat) (l : MapT.Ents) (k : ByteArray) (now : Int) (hf : MapT.find k l = none) (w : World) (h : SP w bS bM l) : Calls Tryz.prog 77 #[.pointer (some ⟨bS, 0, none⟩), .string k, .int .i64 now] w fun e w' => e = .returned (.tuple #[.agg #[.string ⟨#[]⟩, .int .i64 0, .string ⟨#[]⟩, .slice none 0 0, .slice none 0 0, .slice none 0 0, .slice none 0 0, .int .i64 0], .bool false]) ∧ Below w.heap.size w w' := by
  have H := Lib.hid (Has_no bS bM l k hf _ (h.below (alloc_old (w := w) (o := .cells #[.string ⟨#[]⟩, .int .i64 0, .string ⟨#[]⟩, .slice none 0 0, .slice none 0 0, .slice none 0 0, .slice none 0 0, .int .i64 0] 33))))
  have z0 := Lib.hid (heap_alloc_new w (.cells #[.string ⟨#[]⟩, .int .i64 0, .string ⟨#[]⟩, .slice none 0 0, .slice none 0 0, .slice none 0 0, .slice none 0 0, .int .i64 0] 33))
  clear h hf
  go_enter Tryz.func77, Tryz.ntmps77
  go_wp2_with (first | (go_at_call 90; (with_reducible refine (H.out).mono ?_); rintro e w1 ⟨rfl, h1⟩; have B1 := Lib.hid h1; clear h1; obtain ⟨⟨c0, c1, c2, c3, c4, c5, c6, c7⟩, ⟨f0, f1, f2, f3, f4, f5, f6, f7⟩, z1⟩ := cells8 (blk_below z0.out B1.out)))
  exact bodyPost_ret (v := .tuple #[.agg #[.string ⟨#[]⟩, .int .i64 0, .string ⟨#[]⟩, .slice none 0 0, .slice none 0 0, .slice none 0 0, .slice none 0 0, .int .i64 0], .bool false]) (by simp [results, Tryz.results77, go_sem, c0, c1, c2, c3, c4, c5, c6, c7, z1]) rfl ⟨rfl, ((((((((((alloc_old.trans (B1.out.mono (by simp))).setCell (Nat.le_refl _) _).setCell (Nat.le_refl _) _).setCell (Nat.le_refl _) _).setCell (Nat.le_refl _) _).setCell (Nat.le_refl _) _).setCell (Nat.le_refl _) _).setCell (Nat.le_refl _) _).setCell (Nat.le_refl _) _)).alloc (by have := Below.size B1.out; simp at this ⊢; omega) _⟩
theorem Over_yes (k t : ByteArray) (kd u n : Int) (h0 : 0 < u) (h1 : u ≤ n) (w : World) : Calls Tryz.prog 58 #[.agg #[.string k, .int .i64 kd, .string t, .slice none 0 0, .slice none 0 0, .slice none 0 0, .slice none 0 0, .int .i64 u], .int .i64 n] w fun e w' => e = .returned (.bool true) ∧ Below w.heap.size w w' := by
  have g1 : ¬ u = 0 := by omega
  have g2 : (u == 0) = false := by rw [beq_eq_false_iff_ne]; exact g1
  go_enter Tryz.func58, Tryz.ntmps58
  go_wp2
  go_ret
  exact ⟨by simp; exact g1, alloc_old⟩
set_option maxRecDepth 100000 in
set_option maxHeartbeats 2000000 in
theorem Get_over (bS bM : Nat) (l : MapT.Ents) (k t : ByteArray) (u kd now : Int) (hf : MapT.find k l = some (.agg #[.string k, .int .i64 kd, .string t, .slice none 0 0, .slice none 0 0, .slice none 0 0, .slice none 0 0, .int .i64 u])) (h0 : 0 < u) (h1 : u ≤ now) (w : World) (h : SP w bS bM l) : Calls Tryz.prog 77 #[.pointer (some ⟨bS, 0, none⟩), .string k, .int .i64 now] w fun e w' => e = .returned (.tuple #[.agg #[.string ⟨#[]⟩, .int .i64 0, .string ⟨#[]⟩, .slice none 0 0, .slice none 0 0, .slice none 0 0, .slice none 0 0, .int .i64 0], .bool false]) ∧ Below w.heap.size w w' := by
  have H := Lib.hid (Has_yes bS bM l k t u kd hf _ (h.below (alloc_old (w := w) (o := .cells #[.string ⟨#[]⟩, .int .i64 0, .string ⟨#[]⟩, .slice none 0 0, .slice none 0 0, .slice none 0 0, .slice none 0 0, .int .i64 0] 33))))
  have O := Lib.hid (fun w => Over_yes k t kd u now h0 h1 w)
  have z0 := Lib.hid (heap_alloc_new w (.cells #[.string ⟨#[]⟩, .int .i64 0, .string ⟨#[]⟩, .slice none 0 0, .slice none 0 0, .slice none 0 0, .slice none 0 0, .int .i64 0] 33))
  clear h hf h0 h1
  go_enter Tryz.func77, Tryz.ntmps77
  go_wp2_with (first | (go_at_call 90; (with_reducible refine (H.out).mono ?_); rintro e w1 ⟨rfl, h1⟩; have B1 := Lib.hid h1; clear h1; refine Hid.out ?_))
  refine Lib.hid ?_
  have zE := Lib.hid (heap_alloc_new w1 (.cells #[.string k, .int .i64 kd, .string t, .slice none 0 0, .slice none 0 0, .slice none 0 0, .slice none 0 0, .int .i64 u] 33))
  go_wp2_with (first | (go_at_call 58; (with_reducible refine (O.out _).mono ?_); rintro e w2 ⟨rfl, h2⟩; have B2 := Lib.hid h2; clear h2; obtain ⟨⟨c0, c1, c2, c3, c4, c5, c6, c7⟩, ⟨f0, f1, f2, f3, f4, f5, f6, f7⟩, z1⟩ := cells8 (blk_below z0.out (belA B1.out B2.out)); obtain ⟨⟨d0, d1, d2, d3, d4, d5, d6, d7⟩, _, z2⟩ := cells8 (blk_below zE.out B2.out)))
  exact bodyPost_ret (v := .tuple #[.agg #[.string ⟨#[]⟩, .int .i64 0, .string ⟨#[]⟩, .slice none 0 0, .slice none 0 0, .slice none 0 0, .slice none 0 0, .int .i64 0], .bool false]) (by simp [results, Tryz.results77, go_sem, c0, c1, c2, c3, c4, c5, c6, c7]) rfl ⟨rfl, (((((((((alloc_old.trans ((belA B1.out B2.out).mono (by simp))).setCell (Nat.le_refl _) _).setCell (Nat.le_refl _) _).setCell (Nat.le_refl _) _).setCell (Nat.le_refl _) _).setCell (Nat.le_refl _) _).setCell (Nat.le_refl _) _).setCell (Nat.le_refl _) _).setCell (Nat.le_refl _) _)⟩
end Go.Proofs.YtllaeocclpaiaaaGreatDoor
