/- A job's look at a key of a kind; a job's number. -/
import Derived.Test.YtaomiglmahklfaaGreatDoorSt6
namespace Go.Proofs.YtaomiglmahklfaaGreatDoor
open Go.ChangeShapes Go.WideShapes Go.ChangeAt Go.RowKit

set_option maxRecDepth 100000 in
set_option maxHeartbeats 4000000 in
theorem Of_yes (bS bM j : Nat) (l : MapT.Ents) (k : ByteArray) (now : Int) (vA vl : Value) (kd : Int) (t : ByteArray) (u : Int) (hf : MapT.find k l = some (.agg #[.string k, .int .i64 kd, .string t, .slice none 0 0, .slice none 0 0, .slice none 0 0, .slice none 0 0, .int .i64 u])) (hl : Lives u now) (w : World) (h : SP w bS bM l) (hj : JB w j bS now vA vl) : Calls Tryz.prog 65 #[.pointer (some ⟨j, 0, none⟩), .string k, .int .i64 kd] w fun e w' => e = .returned (.tuple #[.agg #[.string k, .int .i64 kd, .string t, .slice none 0 0, .slice none 0 0, .slice none 0 0, .slice none 0 0, .int .i64 u], .bool true]) ∧ Below w.heap.size w w' := by
  have G := Lib.hid (JGet_yes bS bM j l k now vA vl t u kd hf hl _ (h.below (alloc_old (w := w) (o := .cells #[.string ⟨#[]⟩, .int .i64 0, .string ⟨#[]⟩, .slice none 0 0, .slice none 0 0, .slice none 0 0, .slice none 0 0, .int .i64 0] 33))) (hj.below (alloc_old (w := w) (o := .cells #[.string ⟨#[]⟩, .int .i64 0, .string ⟨#[]⟩, .slice none 0 0, .slice none 0 0, .slice none 0 0, .slice none 0 0, .int .i64 0] 33))))
  have z0 := Lib.hid (heap_alloc_new w (.cells #[.string ⟨#[]⟩, .int .i64 0, .string ⟨#[]⟩, .slice none 0 0, .slice none 0 0, .slice none 0 0, .slice none 0 0, .int .i64 0] 33))
  clear h hj hf hl
  go_enter Tryz.func65, Tryz.ntmps65
  go_wp2_with (first | (go_at_call 70; (with_reducible refine (G.out).mono ?_); rintro e w1 ⟨rfl, h1⟩; have B1 := Lib.hid h1; clear h1; obtain ⟨⟨c0, c1, c2, c3, c4, c5, c6, c7⟩, ⟨f0, f1, f2, f3, f4, f5, f6, f7⟩, z1⟩ := cells8 (blk_below z0.out B1.out)))
  exact bodyPost_ret (v := .tuple #[.agg #[.string k, .int .i64 kd, .string t, .slice none 0 0, .slice none 0 0, .slice none 0 0, .slice none 0 0, .int .i64 u], .bool true]) (by simp [results, Tryz.results65, go_sem, c0, c1, c2, c3, c4, c5, c6, c7, z1]) rfl ⟨rfl, (((((((((alloc_old.trans (B1.out.mono (by simp))).setCell (Nat.le_refl _) _).setCell (Nat.le_refl _) _).setCell (Nat.le_refl _) _).setCell (Nat.le_refl _) _).setCell (Nat.le_refl _) _).setCell (Nat.le_refl _) _).setCell (Nat.le_refl _) _).setCell (Nat.le_refl _) _).alloc (by have := Below.size B1.out; simp at this ⊢; omega) _⟩
set_option maxRecDepth 100000 in
set_option maxHeartbeats 4000000 in
theorem Of_no (bS bM j : Nat) (l : MapT.Ents) (k : ByteArray) (now : Int) (vA vl : Value) (kd : Int) (hf : MapT.find k l = none) (w : World) (h : SP w bS bM l) (hj : JB w j bS now vA vl) : Calls Tryz.prog 65 #[.pointer (some ⟨j, 0, none⟩), .string k, .int .i64 kd] w fun e w' => e = .returned (.tuple #[.agg #[.string k, .int .i64 kd, .string ⟨#[]⟩, .slice none 0 0, .slice none 0 0, .slice none 0 0, .slice none 0 0, .int .i64 0], .bool false]) ∧ Below w.heap.size w w' := by
  have G := Lib.hid (JGet_no bS bM j l k now vA vl hf _ (h.below (alloc_old (w := w) (o := .cells #[.string ⟨#[]⟩, .int .i64 0, .string ⟨#[]⟩, .slice none 0 0, .slice none 0 0, .slice none 0 0, .slice none 0 0, .int .i64 0] 33))) (hj.below (alloc_old (w := w) (o := .cells #[.string ⟨#[]⟩, .int .i64 0, .string ⟨#[]⟩, .slice none 0 0, .slice none 0 0, .slice none 0 0, .slice none 0 0, .int .i64 0] 33))))
  have z0 := Lib.hid (heap_alloc_new w (.cells #[.string ⟨#[]⟩, .int .i64 0, .string ⟨#[]⟩, .slice none 0 0, .slice none 0 0, .slice none 0 0, .slice none 0 0, .int .i64 0] 33))
  clear h hj hf 
  go_enter Tryz.func65, Tryz.ntmps65
  go_wp2_with (first | (go_at_call 70; (with_reducible refine (G.out).mono ?_); rintro e w1 ⟨rfl, h1⟩; have B1 := Lib.hid h1; clear h1; obtain ⟨⟨c0, c1, c2, c3, c4, c5, c6, c7⟩, ⟨f0, f1, f2, f3, f4, f5, f6, f7⟩, z1⟩ := cells8 (blk_below z0.out B1.out)))
  exact bodyPost_ret (v := .tuple #[.agg #[.string k, .int .i64 kd, .string ⟨#[]⟩, .slice none 0 0, .slice none 0 0, .slice none 0 0, .slice none 0 0, .int .i64 0], .bool false]) (by simp [results, Tryz.results65, go_sem, c0, c1, c2, c3, c4, c5, c6, c7, z1]) rfl ⟨rfl, (((((((((alloc_old.trans (B1.out.mono (by simp))).setCell (Nat.le_refl _) _).setCell (Nat.le_refl _) _).setCell (Nat.le_refl _) _).setCell (Nat.le_refl _) _).setCell (Nat.le_refl _) _).setCell (Nat.le_refl _) _).setCell (Nat.le_refl _) _).setCell (Nat.le_refl _) _).alloc (by have := Below.size B1.out; simp at this ⊢; omega) _⟩
end Go.Proofs.YtaomiglmahklfaaGreatDoor
