/- Texts joined: St1, St2, St3, MapT -/
import Derived.Test.YtjfejmdnjbekkaaGreatDoorRows
import Derived.WalkKit
import Derived.ProofKit
import Derived.OpenShut
import Derived.WalkLawsBesides
import Derived.Outline
import Derived.Lib.Hide
import Derived.Below
import Derived.Deep.QuietTactic
import Derived.BigQuiet
import Derived.Deep.RegionHeld3
import Derived.StillTailTactics
import Derived.Maps.OwnOps
import Derived.Maps.OwnSet
set_option linter.unusedVariables false
set_option linter.unusedSimpArgs false

/- Replies; values and entries that are texts. -/
namespace Go.Proofs.YtjfejmdnjbekkaaGreatDoor
open Go.ChangeShapes Go.WideShapes Go.ChangeAt Go.RowKit

theorem alloc_old {w : World} {o : Obj} : Below w.heap.size w (w.alloc o) := (Below.refl w.heap.size w).alloc (Nat.le_refl _) o
theorem belT {W w1 w2 : World} (h1 : Below W.heap.size W w1) (h2 : Below w1.heap.size w1 w2) : Below W.heap.size W w2 := h1.trans (h2.mono (Below.size h1))
theorem belA {W w1 w2 : World} {o : Obj} (h1 : Below W.heap.size W w1) (h2 : Below (w1.alloc o).heap.size (w1.alloc o) w2) : Below W.heap.size W w2 :=
  belT h1 (((Below.refl w1.heap.size w1).alloc (Nat.le_refl _) o).trans (h2.mono (by simp)))
theorem below_drewN {B : Nat} {a w : World} (h : Below B a w) (n : Nat) : Below B a (w.drewN n) := by
  induction n with
  | zero => exact h
  | succ n ih => exact Below.drew ih
theorem Err64 (n : Int) (w : World) : Calls Tryz.prog 29 #[.int .i64 n] w fun e w' => e = .returned (.agg #[.int .i64 2, .int .i64 n, .string ⟨#[]⟩, .slice none 0 0]) ∧ Below w.heap.size w w' := by
  go_enter Tryz.func29, Tryz.ntmps29
  go_wp2
  exact bodyPost_ret (v := .agg #[.int .i64 2, .int .i64 n, .string ⟨#[]⟩, .slice none 0 0]) (by simp [results, Tryz.results29, go_sem]) rfl ⟨rfl, (Below.refl _ _).alloc (Nat.le_refl _) _⟩
theorem Nil66 (w : World) : Calls Tryz.prog 23 #[] w fun e w' => e = .returned (.agg #[.int .i64 5, .int .i64 0, .string ⟨#[]⟩, .slice none 0 0]) ∧ Below w.heap.size w w' := by
  go_enter Tryz.func23, Tryz.ntmps23
  go_wp2
  exact bodyPost_ret (v := .agg #[.int .i64 5, .int .i64 0, .string ⟨#[]⟩, .slice none 0 0]) (by simp [results, Tryz.results23, go_sem]) rfl ⟨rfl, (Below.refl _ _).alloc (Nat.le_refl _) _⟩
theorem Bulk67 (s : ByteArray) (w : World) : Calls Tryz.prog 20 #[.string s] w fun e w' => e = .returned (.agg #[.int .i64 4, .int .i64 0, .string s, .slice none 0 0]) ∧ Below w.heap.size w w' := by
  go_enter Tryz.func20, Tryz.ntmps20
  go_wp2
  exact bodyPost_ret (v := .agg #[.int .i64 4, .int .i64 0, .string s, .slice none 0 0]) (by simp [results, Tryz.results20, go_sem]) rfl ⟨rfl, (Below.refl _ _).alloc (Nat.le_refl _) _⟩
theorem OK74 (w : World) : Calls Tryz.prog 187 #[] w fun e w' => e = .returned (.agg #[.int .i64 1, .int .i64 0, .string ⟨#[79, 75]⟩, .slice none 0 0]) ∧ Below w.heap.size w w' := by
  go_enter Tryz.func187, Tryz.ntmps187
  go_wp2
  exact bodyPost_ret (v := .agg #[.int .i64 1, .int .i64 0, .string ⟨#[79, 75]⟩, .slice none 0 0]) (by simp [results, Tryz.results187, go_sem]) rfl ⟨rfl, (Below.refl _ _).alloc (Nat.le_refl _) _⟩
theorem Int75 (n : Int) (w : World) : Calls Tryz.prog 21 #[.int .i64 n] w fun e w' => e = .returned (.agg #[.int .i64 3, .int .i64 n, .string ⟨#[]⟩, .slice none 0 0]) ∧ Below w.heap.size w w' := by
  go_enter Tryz.func21, Tryz.ntmps21
  go_wp2
  exact bodyPost_ret (v := .agg #[.int .i64 3, .int .i64 n, .string ⟨#[]⟩, .slice none 0 0]) (by simp [results, Tryz.results21, go_sem]) rfl ⟨rfl, (Below.refl _ _).alloc (Nat.le_refl _) _⟩
theorem text73 (s : ByteArray) (w : World) : Calls Tryz.prog 196 #[.string s] w fun e w' => e = .returned (.agg #[.int .i64 1, .string s, .slice none 0 0, .slice none 0 0, .slice none 0 0, .slice none 0 0]) ∧ Below w.heap.size w w' := by
  go_enter Tryz.func196, Tryz.ntmps196
  go_wp2
  exact bodyPost_ret (v := .agg #[.int .i64 1, .string s, .slice none 0 0, .slice none 0 0, .slice none 0 0, .slice none 0 0]) (by simp [results, Tryz.results196, go_sem]) rfl ⟨rfl, (Below.refl _ _).alloc (Nat.le_refl _) _⟩
theorem Over_no (k t : ByteArray) (n : Int) (w : World) : Calls Tryz.prog 192 #[.agg #[.string k, .int .i64 1, .string t, .slice none 0 0, .slice none 0 0, .slice none 0 0, .slice none 0 0, .int .i64 0], .int .i64 n] w fun e w' => e = .returned (.bool false) ∧ Below w.heap.size w w' := by
  go_enter Tryz.func192, Tryz.ntmps192
  go_wp2
  go_ret
  exact ⟨rfl, alloc_old⟩
theorem Over_at (k t : ByteArray) (u n : Int) (hu : n < u) (h0 : 0 < u) (w : World) : Calls Tryz.prog 192 #[.agg #[.string k, .int .i64 1, .string t, .slice none 0 0, .slice none 0 0, .slice none 0 0, .slice none 0 0, .int .i64 u], .int .i64 n] w fun e w' => e = .returned (.bool false) ∧ Below w.heap.size w w' := by
  have g1 : ¬ u = 0 := by omega
  have g2 : (u == 0) = false := by rw [beq_eq_false_iff_ne]; exact g1
  have g3 : ¬ u ≤ n := by omega
  go_enter Tryz.func192, Tryz.ntmps192
  go_wp2
  go_ret
  exact ⟨by simp, alloc_old⟩
theorem Clone57 (w : World) : Calls Tryz.prog 65 #[.slice none 0 0] w fun e w' => e = .returned (.slice none 0 0) ∧ w' = w := by
  have hq : ∀ w, (binOp .eql 38 (.slice none 0 0) (.slice none 0 0)).run Tryz.prog w = .ok (.bool true) w := fun w => by kernel_rfl
  go_enter Tryz.func65, Tryz.ntmps65
  go_wp2
  go_ret
  exact ⟨rfl, rfl⟩
theorem Clone58 (w : World) : Calls Tryz.prog 66 #[.slice none 0 0] w fun e w' => e = .returned (.slice none 0 0) ∧ w' = w := by
  have hq : ∀ w, (binOp .eql 78 (.slice none 0 0) (.slice none 0 0)).run Tryz.prog w = .ok (.bool true) w := fun w => by kernel_rfl
  go_enter Tryz.func66, Tryz.ntmps66
  go_wp2
  go_ret
  exact ⟨rfl, rfl⟩
theorem Clone59 (w : World) : Calls Tryz.prog 67 #[.slice none 0 0] w fun e w' => e = .returned (.slice none 0 0) ∧ w' = w := by
  have hq : ∀ w, (binOp .eql 79 (.slice none 0 0) (.slice none 0 0)).run Tryz.prog w = .ok (.bool true) w := fun w => by kernel_rfl
  go_enter Tryz.func67, Tryz.ntmps67
  go_wp2
  go_ret
  exact ⟨rfl, rfl⟩
theorem Clone60 (w : World) : Calls Tryz.prog 68 #[.slice none 0 0] w fun e w' => e = .returned (.slice none 0 0) ∧ w' = w := by
  have hq : ∀ w, (binOp .eql 80 (.slice none 0 0) (.slice none 0 0)).run Tryz.prog w = .ok (.bool true) w := fun w => by kernel_rfl
  go_enter Tryz.func68, Tryz.ntmps68
  go_wp2
  go_ret
  exact ⟨rfl, rfl⟩
theorem count46 (t : ByteArray) (w : World) : Calls Tryz.prog 252 #[.agg #[.int .i64 1, .string t, .slice none 0 0, .slice none 0 0, .slice none 0 0, .slice none 0 0]] w fun e w' => e = .returned (.agg #[.int .i64 0, .int .i64 0, .int .i64 0, .int .i64 0]) ∧ Below w.heap.size w w' := by
  go_enter Tryz.func252, Tryz.ntmps252
  go_wp2
  exact bodyPost_ret (v := .agg #[.int .i64 0, .int .i64 0, .int .i64 0, .int .i64 0]) (by simp [results, Tryz.results252, go_sem]) rfl ⟨rfl, ((Below.refl _ _).alloc (Nat.le_refl _) _).alloc (by simp) _⟩
theorem Size24 (t : ByteArray) (ht : t.size ≤ 1000000) (w : World) : Calls Tryz.prog 177 #[.agg #[.int .i64 1, .string t, .slice none 0 0, .slice none 0 0, .slice none 0 0, .slice none 0 0]] w fun e w' => e = .returned (.int .i64 (16 + (t.size : Int))) ∧ Below w.heap.size w w' := by
  go_enter Tryz.func177, Tryz.ntmps177
  go_wp2
  go_ret
  exact ⟨by simp, alloc_old⟩
theorem VMay23 (t : ByteArray) (ht : t.size ≤ 4096) (w : World) : Calls Tryz.prog 178 #[.agg #[.int .i64 1, .string t, .slice none 0 0, .slice none 0 0, .slice none 0 0, .slice none 0 0]] w fun e w' => e = .returned (.bool true) ∧ Below w.heap.size w w' := by
  have C := Lib.hid (fun w => count46 t w)
  have i1 : (t.size : Int) ≤ 4096 := by omega
  have hn := Lib.hid (alloc_old (w := w) (o := .cells #[.int .i64 1, .string t, .slice none 0 0, .slice none 0 0, .slice none 0 0, .slice none 0 0] 82))
  have hc := fun (w1 : World) (hb : Below (w.alloc (.cells #[.int .i64 1, .string t, .slice none 0 0, .slice none 0 0, .slice none 0 0, .slice none 0 0] 82)).heap.size (w.alloc (.cells #[.int .i64 1, .string t, .slice none 0 0, .slice none 0 0, .slice none 0 0, .slice none 0 0] 82)) w1) => (show w1.cell? ⟨w.heap.size, 0, none⟩ = some (.int .i64 1) ∧ w1.cell? ⟨w.heap.size, 1, none⟩ = some (.string t) ∧ w.heap.size < w1.heap.size from
    ⟨(hb.cell (p := ⟨w.heap.size, 0, none⟩) (by simp)).trans (by simp), (hb.cell (p := ⟨w.heap.size, 1, none⟩) (by simp)).trans (by simp), by have := Below.size hb; simp at this; omega⟩)
  have HC := Lib.hid hc
  clear hc
  go_enter Tryz.func178, Tryz.ntmps178
  go_wp2_with (first | (go_at_call 252; (with_reducible refine (C.out _).mono ?_); rintro e w1 ⟨rfl, h1⟩; have B1 := Lib.hid h1; clear h1; obtain ⟨c0, c1, hz⟩ := HC.out _ B1.out))

  go_ret
  exact ⟨by simp, (hn.out.trans (B1.out.mono (by simp))).alloc (by omega) _⟩
end Go.Proofs.YtjfejmdnjbekkaaGreatDoor

/- Copies and sizes of entries that are texts; which may be. -/
namespace Go.Proofs.YtjfejmdnjbekkaaGreatDoor
open Go.ChangeShapes Go.WideShapes Go.ChangeAt Go.RowKit

/-- A block of six cells that is known whole. -/
theorem cells6 {X : World} {b : Nat} {a0 a1 a2 a3 a4 a5 : Value} {t : TypeId} (h : X.heap[b]? = some (.cells #[a0, a1, a2, a3, a4, a5] t)) :
    (X.cell? ⟨b, 0, none⟩ = some a0 ∧ X.cell? ⟨b, 1, none⟩ = some a1 ∧ X.cell? ⟨b, 2, none⟩ = some a2 ∧ X.cell? ⟨b, 3, none⟩ = some a3 ∧ X.cell? ⟨b, 4, none⟩ = some a4 ∧ X.cell? ⟨b, 5, none⟩ = some a5) ∧
    (X.frozen? ⟨b, 0, none⟩ = false ∧ X.frozen? ⟨b, 1, none⟩ = false ∧ X.frozen? ⟨b, 2, none⟩ = false ∧ X.frozen? ⟨b, 3, none⟩ = false ∧ X.frozen? ⟨b, 4, none⟩ = false ∧ X.frozen? ⟨b, 5, none⟩ = false) := by
  refine ⟨⟨?_, ?_, ?_, ?_, ?_, ?_⟩, ⟨?_, ?_, ?_, ?_, ?_, ?_⟩⟩ <;> simp [World.cell?, World.frozen?, h]
set_option maxRecDepth 100000 in
set_option maxHeartbeats 2000000 in
theorem VClone25 (kd : Int) (t : ByteArray) (w : World) : Calls Tryz.prog 49 #[.agg #[.int .i64 kd, .string t, .slice none 0 0, .slice none 0 0, .slice none 0 0, .slice none 0 0]] w fun e w' => e = .returned (.agg #[.int .i64 kd, .string t, .slice none 0 0, .slice none 0 0, .slice none 0 0, .slice none 0 0]) ∧ Below w.heap.size w w' := by
  go_enter Tryz.func49, Tryz.ntmps49
  go_wp2
  obtain ⟨W, hW⟩ : ∃ W, ((w.alloc (.cells #[.int .i64 kd, .string t, .slice none 0 0, .slice none 0 0, .slice none 0 0, .slice none 0 0] 82)).alloc (.cells #[.int .i64 0, .string ⟨#[]⟩, .slice none 0 0, .slice none 0 0, .slice none 0 0, .slice none 0 0] 82)) = W := ⟨_, rfl⟩
  have hz : W.heap.size = w.heap.size + 2 := by rw [← hW]; simp
  have hB : Below w.heap.size w W := by rw [← hW]; exact ((Below.refl _ _).alloc (Nat.le_refl _) _).alloc (by simp) _
  have S0 : W.drew.cell? ⟨w.heap.size, 0, none⟩ = some (.int .i64 kd) ∧ W.drew.cell? ⟨w.heap.size, 1, none⟩ = some (.string t) ∧ W.drew.cell? ⟨w.heap.size, 2, none⟩ = some (.slice none 0 0) ∧ W.drew.cell? ⟨w.heap.size, 3, none⟩ = some (.slice none 0 0) ∧ W.drew.cell? ⟨w.heap.size, 4, none⟩ = some (.slice none 0 0) ∧ W.drew.cell? ⟨w.heap.size, 5, none⟩ = some (.slice none 0 0) := by
    rw [← hW]; refine ⟨?_, ?_, ?_, ?_, ?_, ?_⟩ <;> simp
  have hb1 : W.heap[w.heap.size + 1]? = some (.cells #[.int .i64 0, .string ⟨#[]⟩, .slice none 0 0, .slice none 0 0, .slice none 0 0, .slice none 0 0] 82) := by
    rw [← hW]
    have := heap_alloc_new (w.alloc (.cells #[.int .i64 kd, .string t, .slice none 0 0, .slice none 0 0, .slice none 0 0, .slice none 0 0] 82)) (.cells #[.int .i64 0, .string ⟨#[]⟩, .slice none 0 0, .slice none 0 0, .slice none 0 0, .slice none 0 0] 82)
    rw [World.size_alloc] at this
    exact this
  obtain ⟨c0, f0⟩ := cells6 hb1
  rw [hW]
  clear hW
  obtain ⟨s0, s1, s2, s3, s4, s5⟩ := S0
  have HB := Lib.hid hB
  clear hB
  go_still_tail 17, (by kernel_rfl)
  still_call (Clone57 _)
  repeat still_step
  still_call (Clone58 _)
  repeat still_step
  still_call (Clone59 _)
  repeat still_step
  still_call (Clone60 _)
  repeat still_step
  refine wpStill_nil ?_
  have hz2 : w.heap.size + 1 < W.drew.heap.size := by show _ < W.heap.size; omega
  have hb2 : W.drew.heap[w.heap.size + 1]? = some (.cells #[.int .i64 0, .string ⟨#[]⟩, .slice none 0 0, .slice none 0 0, .slice none 0 0, .slice none 0 0] 82) := hb1
  have HD := Lib.hid HB.out.drew
  clear c0 f0
  obtain ⟨⟨c0, c1, c2, c3, c4, c5⟩, ⟨f0, f1, f2, f3, f4, f5⟩⟩ := cells6 hb2
  clear s0 s1 s2 s3 s4 s5 hz hb1 hb2
  change wpList _ _ _ _ _ W.drew
  generalize W.drew = w2 at hz2 HD c0 c1 c2 c3 c4 c5 f0 f1 f2 f3 f4 f5 ⊢
  go_wp2

  exact bodyPost_ret (v := .agg #[.int .i64 kd, .string t, .slice none 0 0, .slice none 0 0, .slice none 0 0, .slice none 0 0]) (by simp [results, Tryz.results49, go_sem, c0, c1, c2, c3, c4, c5]) rfl ⟨rfl, ((((((HD.out.setCell (Nat.le_succ _) _).setCell (Nat.le_succ _) _).setCell (Nat.le_succ _) _).setCell (Nat.le_succ _) _).setCell (Nat.le_succ _) _).setCell (Nat.le_succ _) _)⟩
end Go.Proofs.YtjfejmdnjbekkaaGreatDoor

/- Entries that are texts: copy, size, which may be. -/
namespace Go.Proofs.YtjfejmdnjbekkaaGreatDoor
open Go.ChangeShapes Go.WideShapes Go.ChangeAt Go.RowKit

/-- A block of eight cells that is known whole. -/
theorem cells8 {X : World} {b : Nat} {a0 a1 a2 a3 a4 a5 a6 a7 : Value} {t : TypeId} (h : X.heap[b]? = some (.cells #[a0, a1, a2, a3, a4, a5, a6, a7] t)) :
    (X.cell? ⟨b, 0, none⟩ = some a0 ∧ X.cell? ⟨b, 1, none⟩ = some a1 ∧ X.cell? ⟨b, 2, none⟩ = some a2 ∧ X.cell? ⟨b, 3, none⟩ = some a3 ∧ X.cell? ⟨b, 4, none⟩ = some a4 ∧ X.cell? ⟨b, 5, none⟩ = some a5 ∧ X.cell? ⟨b, 6, none⟩ = some a6 ∧ X.cell? ⟨b, 7, none⟩ = some a7) ∧
    (X.frozen? ⟨b, 0, none⟩ = false ∧ X.frozen? ⟨b, 1, none⟩ = false ∧ X.frozen? ⟨b, 2, none⟩ = false ∧ X.frozen? ⟨b, 3, none⟩ = false ∧ X.frozen? ⟨b, 4, none⟩ = false ∧ X.frozen? ⟨b, 5, none⟩ = false ∧ X.frozen? ⟨b, 6, none⟩ = false ∧ X.frozen? ⟨b, 7, none⟩ = false) ∧ b < X.heap.size := by
  refine ⟨⟨?_, ?_, ?_, ?_, ?_, ?_, ?_, ?_⟩, ⟨?_, ?_, ?_, ?_, ?_, ?_, ?_, ?_⟩, (Array.getElem?_eq_some_iff.1 h).1⟩ <;> simp [World.cell?, World.frozen?, h]
theorem blk_below {W w : World} {b : Nat} {o : Obj} (h : W.heap[b]? = some o) (hb : Below W.heap.size W w) : w.heap[b]? = some o := (hb.block b (Array.getElem?_eq_some_iff.1 h).1).trans h
set_option maxRecDepth 100000 in
set_option maxHeartbeats 2000000 in
theorem clone17 (k : ByteArray) (kd : Int) (t : ByteArray) (u : Int) (w : World) : Calls Tryz.prog 62 #[.agg #[.string k, .int .i64 kd, .string t, .slice none 0 0, .slice none 0 0, .slice none 0 0, .slice none 0 0, .int .i64 u]] w fun e w' => e = .returned (.agg #[.string k, .int .i64 kd, .string t, .slice none 0 0, .slice none 0 0, .slice none 0 0, .slice none 0 0, .int .i64 u]) ∧ Below w.heap.size w w' := by
  have V := Lib.hid (fun w => VClone25 kd t w)
  have hb1 := Lib.hid (show ((w.alloc (.cells #[.string k, .int .i64 kd, .string t, .slice none 0 0, .slice none 0 0, .slice none 0 0, .slice none 0 0, .int .i64 u] 84)).alloc (.cells #[.string ⟨#[]⟩, .int .i64 0, .string ⟨#[]⟩, .slice none 0 0, .slice none 0 0, .slice none 0 0, .slice none 0 0, .int .i64 0] 84)).heap[w.heap.size]? = some (.cells #[.string k, .int .i64 kd, .string t, .slice none 0 0, .slice none 0 0, .slice none 0 0, .slice none 0 0, .int .i64 u] 84) from blk_below (heap_alloc_new w _) alloc_old)
  have hb2 := Lib.hid (show ((w.alloc (.cells #[.string k, .int .i64 kd, .string t, .slice none 0 0, .slice none 0 0, .slice none 0 0, .slice none 0 0, .int .i64 u] 84)).alloc (.cells #[.string ⟨#[]⟩, .int .i64 0, .string ⟨#[]⟩, .slice none 0 0, .slice none 0 0, .slice none 0 0, .slice none 0 0, .int .i64 0] 84)).heap[w.heap.size + 1]? = some (.cells #[.string ⟨#[]⟩, .int .i64 0, .string ⟨#[]⟩, .slice none 0 0, .slice none 0 0, .slice none 0 0, .slice none 0 0, .int .i64 0] 84) from by have := heap_alloc_new (w.alloc (.cells #[.string k, .int .i64 kd, .string t, .slice none 0 0, .slice none 0 0, .slice none 0 0, .slice none 0 0, .int .i64 u] 84)) (.cells #[.string ⟨#[]⟩, .int .i64 0, .string ⟨#[]⟩, .slice none 0 0, .slice none 0 0, .slice none 0 0, .slice none 0 0, .int .i64 0] 84); rw [World.size_alloc] at this; exact this)
  have hb3 := Lib.hid (show Below w.heap.size w ((w.alloc (.cells #[.string k, .int .i64 kd, .string t, .slice none 0 0, .slice none 0 0, .slice none 0 0, .slice none 0 0, .int .i64 u] 84)).alloc (.cells #[.string ⟨#[]⟩, .int .i64 0, .string ⟨#[]⟩, .slice none 0 0, .slice none 0 0, .slice none 0 0, .slice none 0 0, .int .i64 0] 84)) from alloc_old.trans (alloc_old.mono (by simp)))
  go_enter Tryz.func62, Tryz.ntmps62
  go_wp2_with (first | (go_at_call 49; (with_reducible refine (V.out _).mono ?_); rintro e w1 ⟨rfl, h1⟩; have B1 := Lib.hid h1; clear h1; obtain ⟨⟨c0, c1, c2, c3, c4, c5, c6, c7⟩, ⟨f0, f1, f2, f3, f4, f5, f6, f7⟩, z1⟩ := cells8 (blk_below hb1.out B1.out); obtain ⟨⟨d0, d1, d2, d3, d4, d5, d6, d7⟩, ⟨g0, g1, g2, g3, g4, g5, g6, g7⟩, z2⟩ := cells8 (blk_below hb2.out B1.out)))
  exact bodyPost_ret (v := .agg #[.string k, .int .i64 kd, .string t, .slice none 0 0, .slice none 0 0, .slice none 0 0, .slice none 0 0, .int .i64 u]) (by simp [results, Tryz.results62, go_sem, d0, d1, d2, d3, d4, d5, d6, d7]) rfl ⟨rfl, ((((((((((((((hb3.out.trans (B1.out.mono (by simp; omega))).setCell (Nat.le_refl _) _).setCell (Nat.le_refl _) _).setCell (Nat.le_refl _) _).setCell (Nat.le_refl _) _).setCell (Nat.le_refl _) _).setCell (Nat.le_refl _) _).setCell (Nat.le_succ _) _).setCell (Nat.le_succ _) _).setCell (Nat.le_succ _) _).setCell (Nat.le_succ _) _).setCell (Nat.le_succ _) _).setCell (Nat.le_succ _) _).setCell (Nat.le_succ _) _).setCell (Nat.le_succ _) _⟩
set_option maxRecDepth 100000 in
set_option maxHeartbeats 4000000 in
theorem size16 (k t : ByteArray) (hk : k.size ≤ 1000000) (ht : t.size ≤ 1000000) (u : Int) (w : World) : Calls Tryz.prog 69 #[.agg #[.string k, .int .i64 1, .string t, .slice none 0 0, .slice none 0 0, .slice none 0 0, .slice none 0 0, .int .i64 u]] w fun e w' => e = .returned (.int .i64 (48 + (k.size : Int) + t.size)) ∧ Below w.heap.size w w' := by
  have Q := Lib.hid (fun w => Size24 t ht w)
  have q1 : IntKind.i64.wrap (32 + (k.size : Int)) = 32 + (k.size : Int) := IntWalk.i64_in _ (by omega)
  have q2 : IntKind.i64.wrap (32 + (k.size : Int) + (16 + (t.size : Int))) = 48 + (k.size : Int) + t.size := (IntWalk.i64_in _ (by omega)).trans (by omega)
  obtain ⟨W, hW⟩ : ∃ W, w.alloc (.cells #[.string k, .int .i64 1, .string t, .slice none 0 0, .slice none 0 0, .slice none 0 0, .slice none 0 0, .int .i64 u] 84) = W := ⟨_, rfl⟩
  have hb1 : W.heap[w.heap.size]? = some (.cells #[.string k, .int .i64 1, .string t, .slice none 0 0, .slice none 0 0, .slice none 0 0, .slice none 0 0, .int .i64 u] 84) := by rw [← hW]; exact heap_alloc_new w _
  have hb3 : Below w.heap.size w W := by rw [← hW]; exact alloc_old
  have hz : w.heap.size ≤ W.heap.size := Below.size hb3
  have K := Lib.hid (show ∀ X, Below W.heap.size W X → (X.cell? ⟨w.heap.size, 0, none⟩ = some (.string k) ∧ X.cell? ⟨w.heap.size, 1, none⟩ = some (.int .i64 1) ∧ X.cell? ⟨w.heap.size, 2, none⟩ = some (.string t) ∧ X.cell? ⟨w.heap.size, 3, none⟩ = some (.slice none 0 0) ∧ X.cell? ⟨w.heap.size, 4, none⟩ = some (.slice none 0 0) ∧ X.cell? ⟨w.heap.size, 5, none⟩ = some (.slice none 0 0) ∧ X.cell? ⟨w.heap.size, 6, none⟩ = some (.slice none 0 0)) from fun X hb => by
    obtain ⟨⟨c0, c1, c2, c3, c4, c5, c6, c7⟩, _⟩ := cells8 (blk_below hb1 hb)
    exact ⟨c0, c1, c2, c3, c4, c5, c6⟩)
  have S0 : ((W.drew.cell? ⟨w.heap.size, 0, none⟩ = some (.string k) ∧ W.drew.cell? ⟨w.heap.size, 1, none⟩ = some (.int .i64 1) ∧ W.drew.cell? ⟨w.heap.size, 2, none⟩ = some (.string t) ∧ W.drew.cell? ⟨w.heap.size, 3, none⟩ = some (.slice none 0 0) ∧ W.drew.cell? ⟨w.heap.size, 4, none⟩ = some (.slice none 0 0) ∧ W.drew.cell? ⟨w.heap.size, 5, none⟩ = some (.slice none 0 0) ∧ W.drew.cell? ⟨w.heap.size, 6, none⟩ = some (.slice none 0 0)) ∧ Below W.heap.size W W.drew) := ⟨K.out _ (Below.refl W.heap.size W).drew, (Below.refl W.heap.size W).drew⟩
  have SK := Lib.hid (show ∀ Y X : World, Below X.heap.size X Y → ((X.cell? ⟨w.heap.size, 0, none⟩ = some (.string k) ∧ X.cell? ⟨w.heap.size, 1, none⟩ = some (.int .i64 1) ∧ X.cell? ⟨w.heap.size, 2, none⟩ = some (.string t) ∧ X.cell? ⟨w.heap.size, 3, none⟩ = some (.slice none 0 0) ∧ X.cell? ⟨w.heap.size, 4, none⟩ = some (.slice none 0 0) ∧ X.cell? ⟨w.heap.size, 5, none⟩ = some (.slice none 0 0) ∧ X.cell? ⟨w.heap.size, 6, none⟩ = some (.slice none 0 0)) ∧ Below W.heap.size W X) → ((Y.cell? ⟨w.heap.size, 0, none⟩ = some (.string k) ∧ Y.cell? ⟨w.heap.size, 1, none⟩ = some (.int .i64 1) ∧ Y.cell? ⟨w.heap.size, 2, none⟩ = some (.string t) ∧ Y.cell? ⟨w.heap.size, 3, none⟩ = some (.slice none 0 0) ∧ Y.cell? ⟨w.heap.size, 4, none⟩ = some (.slice none 0 0) ∧ Y.cell? ⟨w.heap.size, 5, none⟩ = some (.slice none 0 0) ∧ Y.cell? ⟨w.heap.size, 6, none⟩ = some (.slice none 0 0)) ∧ Below W.heap.size W Y) from fun Y X hb h => ⟨K.out _ (belT h.2 hb), belT h.2 hb⟩)
  have HB := Lib.hid hb3
  clear hb1 hb3
  go_enter Tryz.func69, Tryz.ntmps69
  go_wp2

  clear hW
  go_region_held3 (fun X => ((X.cell? ⟨w.heap.size, 0, none⟩ = some (.string k) ∧ X.cell? ⟨w.heap.size, 1, none⟩ = some (.int .i64 1) ∧ X.cell? ⟨w.heap.size, 2, none⟩ = some (.string t) ∧ X.cell? ⟨w.heap.size, 3, none⟩ = some (.slice none 0 0) ∧ X.cell? ⟨w.heap.size, 4, none⟩ = some (.slice none 0 0) ∧ X.cell? ⟨w.heap.size, 5, none⟩ = some (.slice none 0 0) ∧ X.cell? ⟨w.heap.size, 6, none⟩ = some (.slice none 0 0)) ∧ Below W.heap.size W X)) (first | exact S0 | exact SK.out _ _ (by assumption) (by assumption) | exact SK.out _ _ (by assumption) ⟨by assumption, by assumption⟩)
    (first | (go_at_call 177; refine (Q.out _).mono ?_; rintro e w5 ⟨rfl, hb5⟩))
  go_wp2
  go_ret
  exact ⟨by simp, HB.out.trans ((belT S0.2 hb5).mono hz)⟩
end Go.Proofs.YtjfejmdnjbekkaaGreatDoor

/- A map keyed by texts, with elements of any type: look-up, store, delete, length, by what the map holds. -/
namespace Go.MapT
open Go.MapKept Go.RowKit

/-- What a map holds, oldest entry first. -/
abbrev Ents := List (ByteArray × Value)
def find (k : ByteArray) : Ents → Option Value
  | [] => none
  | (x, v) :: r => if x = k then some v else find k r
def put (k : ByteArray) (u : Value) : Ents → Ents
  | [] => [(k, u)]
  | (x, v) :: r => if x = k then (x, u) :: r else (x, v) :: put k u r
def del (k : ByteArray) : Ents → Ents
  | [] => []
  | (x, v) :: r => if x = k then r else (x, v) :: del k r
def pairs (es : List MapEntry) : List (Value × Value) := es.map fun e => (e.key, e.val)
def vals (l : Ents) : List (Value × Value) := l.map fun p => (.string p.1, p.2)
/-- Block b is a map that holds these entries. -/
def MB (w : World) (b : Nat) (l : Ents) : Prop := ∃ es clock, w.heap[b]? = some (.map es clock) ∧ pairs es.toList = vals l ∧ Stamped es clock
theorem MB.lt {w : World} {b : Nat} {l : Ents} (h : MB w b l) : b < w.heap.size := by
  obtain ⟨es, c, h1, _⟩ := h
  exact (Array.getElem?_eq_some_iff.1 h1).1
theorem MB.kept {w w' : World} {b : Nat} {l : Ents} (h : MB w b l) (hb : w'.heap[b]? = w.heap[b]?) : MB w' b l := by
  obtain ⟨es, c, h1, h2, h3⟩ := h
  exact ⟨es, c, hb.trans h1, h2, h3⟩
theorem MB.below {w w' : World} {b : Nat} {l : Ents} (h : MB w b l) (hb : Below w.heap.size w w') : MB w' b l := h.kept (hb.block b h.lt)
theorem MB.size {w : World} {b : Nat} {l : Ents} (h : MB w b l) : ∃ es clock, w.heap[b]? = some (.map es clock) ∧ es.size = l.length := by
  obtain ⟨es, c, h1, h2, _⟩ := h
  refine ⟨es, c, h1, ?_⟩
  have := congrArg List.length h2
  simpa [pairs, vals] using this
theorem MB.made (w : World) : MB (w.alloc (.map #[] 0)) w.heap.size [] := ⟨#[], 0, by simp [World.alloc, -World.alloc_eq], rfl, stamped_empty 0⟩
theorem findNow_ents (k : ByteArray) : ∀ (es : List MapEntry) (l : Ents) (i : Nat), pairs es = vals l →
    (∃ j e, Instr.findNow .string (.string k) es i = some (some (i + j, e.val)) ∧ es[j]? = some e ∧ e.key = .string k ∧ find k l = some e.val ∧
      (∀ u, pairs (es.modify j fun e => { e with key := .string k, val := u }) = vals (put k u l) ∧ pairs (es.eraseIdx j) = vals (del k l))) ∨
    (Instr.findNow .string (.string k) es i = some none ∧ find k l = none ∧ (∀ u c, pairs (es ++ [⟨.string k, u, c⟩]) = vals (put k u l)) ∧ del k l = l) := by
  intro es
  induction es with
  | nil =>
    intro l i h
    have : l = [] := by cases l with
      | nil => rfl
      | cons a r => simp [pairs, vals] at h
    subst this
    exact .inr ⟨rfl, rfl, fun u c => rfl, rfl⟩
  | cons e r ih =>
    intro l i h
    cases l with
    | nil => simp [pairs, vals] at h
    | cons p q =>
      obtain ⟨x, v⟩ := p
      simp only [pairs, vals, List.map_cons, List.cons.injEq, Prod.mk.injEq] at h
      obtain ⟨⟨h1, h2⟩, h3⟩ := h
      by_cases hx : x = k
      · subst hx
        have hb : (x == x) = true := (bytes_beq x x).2 rfl
        refine .inl ⟨0, e, ?_, rfl, h1, by simp [find, h2], fun u => ⟨?_, ?_⟩⟩
        · unfold Instr.findNow
          rw [h1]
          simp [Instr.sameNow, hb]
        · simp [pairs, vals, put, h3]
        · simp [pairs, vals, del, h3]
      · have hb : (k == x) = false := by
          cases hh : (k == x) with
          | false => rfl
          | true => exact absurd ((bytes_beq k x).1 hh).symm hx
        have hs : Instr.findNow .string (.string k) (e :: r) i = Instr.findNow .string (.string k) r (i + 1) := by
          conv => lhs; unfold Instr.findNow
          rw [h1]
          simp [Instr.sameNow, hb]
        rcases ih q (i + 1) h3 with ⟨j, e', g1, g2, g3, g4, g5⟩ | ⟨g1, g2, g3, g4⟩
        · refine .inl ⟨j + 1, e', ?_, by simpa using g2, g3, by simp [find, hx, g4], fun u => ⟨?_, ?_⟩⟩
          · rw [hs, g1, show i + 1 + j = i + (j + 1) by omega]
          · have := (g5 u).1
            simp only [pairs, vals] at this
            simp [pairs, vals, put, hx, h1, h2, this]
          · have := (g5 u).2
            simp only [pairs, vals] at this
            simp [pairs, vals, del, hx, h1, h2, this]
        · refine .inr ⟨by rw [hs, g1], by simp [find, hx, g2], fun u c => ?_, by simp [del, hx, g4]⟩
          have := g3 u c
          simp only [pairs, vals] at this
          simp only [pairs, vals, List.cons_append, List.map_cons, put, hx, if_false, this, h1, h2]
section
variable {P : Program} {t key elem : TypeId} {w : World} {b : Nat} {l : Ents}
theorem isKey (k : ByteArray) : IsKey .string (.string k) := trivial
theorem none_key (k : ByteArray) : ∀ (es : List MapEntry) (l : Ents), pairs es = vals l → find k l = none → ∀ x ∈ es, x.key ≠ .string k := by
  intro es
  induction es with
  | nil => intro l _ _ x hx; cases hx
  | cons e r ih =>
    intro l h hf x hx
    cases l with
    | nil => simp [pairs, vals] at h
    | cons p q =>
      obtain ⟨y, v⟩ := p
      simp only [pairs, vals, List.map_cons, List.cons.injEq, Prod.mk.injEq] at h
      obtain ⟨⟨h1, h2⟩, h3⟩ := h
      unfold find at hf
      by_cases hy : y = k
      · rw [if_pos hy] at hf; cases hf
      · rw [if_neg hy] at hf
        rcases List.mem_cons.1 hx with rfl | hx
        · rw [h1]; intro e9; cases e9; exact hy rfl
        · exact ih q h3 hf x hx
theorem run_lookup (ht : P.underlying t = some (.map key elem)) (hk : P.underlying key = some .string) (h : MB w b l) (k : ByteArray) (ok : Bool) (z : Value) (hz : (zeroValue elem).run P w = .ok z w) :
    (Instr.lookup t (.map (some b)) (.string k) ok).run P w = .ok (if ok then .tuple #[(find k l).getD z, .bool (find k l).isSome] else (find k l).getD z) w := by
  obtain ⟨es, c, h1, h2, _⟩ := h
  rcases findNow_ents k es.toList l 0 h2 with ⟨j, e, g1, _, _, g2, _⟩ | ⟨g1, g2, _⟩
  · cases ok <;> simp [Instr.lookup, run_underlying ht, MapKept.run_getObj_map h1, MapKept.run_checkKey hk (isKey k), MapKept.run_findKey hk g1, g2, Result.andThen]
  · cases ok <;> simp [Instr.lookup, run_underlying ht, MapKept.run_getObj_map h1, MapKept.run_checkKey hk (isKey k), MapKept.run_findKey hk g1, g2, hz, Result.andThen]
theorem run_update (ht : P.underlying t = some (.map key elem)) (hk : P.underlying key = some .string) (h : MB w b l) (k : ByteArray) (u : Value) :
    ∃ w', (Instr.mapUpdate t (.map (some b)) (.string k) u).run P w = .ok () w' ∧ MB w' b (put k u l) ∧ w.grownBy w' (some b) ∧ w'.heap.size = w.heap.size := by
  obtain ⟨es, c, h1, h2, hst⟩ := h
  have hg : ∀ o, w.grownBy { w with heap := w.heap.setIfInBounds b o } (some b) := fun o => ⟨rfl, rfl, rfl, by simp, fun i _ hi => (heap_set h1).2 i (fun e => hi (by rw [e]))⟩
  rcases findNow_ents k es.toList l 0 h2 with ⟨j, e, g1, g2, g3, _, g5⟩ | ⟨g1, g0, g3, _⟩
  · refine ⟨{ w with heap := w.heap.setIfInBounds b (.map (es.modify j fun e => { e with key := .string k, val := u }) c) }, ?_, ⟨_, _, (heap_set h1).1, ?_, stamped_modify hst _ _ (fun _ _ => rfl) (fun e9 _ he9 => by have hj : es[j]? = some e := (by rw [← Array.getElem?_toList]; exact g2); rw [hj] at he9; cases he9; exact g3.symm)⟩, hg _, by simp⟩
    · have hj : es[j]? = some e := by rw [← Array.getElem?_toList]; exact g2
      simp [Instr.mapUpdate, run_underlying ht, MapKept.run_getObj_map h1, MapKept.run_checkKey hk (isKey k), MapKept.run_findKey hk g1, MapKept.run_keyThatStays (isKey k), MapKept.run_setObj_map _ h1, Result.andThen, hj, g3]
    · rw [Array.toList_modify]; exact (g5 u).1
  · refine ⟨{ w with heap := w.heap.setIfInBounds b (.map (es.push ⟨.string k, u, c⟩) (c + 1)) }, ?_, ⟨_, _, (heap_set h1).1, ?_, stamped_push hst (none_key k _ l h2 g0)⟩, hg _, by simp⟩
    · simp [Instr.mapUpdate, run_underlying ht, MapKept.run_getObj_map h1, MapKept.run_checkKey hk (isKey k), MapKept.run_findKey hk g1, MapKept.run_setObj_map _ h1, Result.andThen]
    · rw [Array.toList_push]; exact g3 u c
theorem run_delete (ht : P.underlying t = some (.map key elem)) (hk : P.underlying key = some .string) (h : MB w b l) (k : ByteArray) (ts : Array TypeId) (h0 : ts[0]? = some t) (ty : TypeId) :
    ∃ w', (Builtin.delete_ ts ty #[.map (some b), .string k]).run P w = .ok (.tuple #[]) w' ∧ MB w' b (del k l) ∧ w.grownBy w' (some b) ∧ w'.heap.size = w.heap.size := by
  obtain ⟨es, c, h1, h2, hst⟩ := h
  have hg : ∀ o, w.grownBy { w with heap := w.heap.setIfInBounds b o } (some b) := fun o => ⟨rfl, rfl, rfl, by simp, fun i _ hi => (heap_set h1).2 i (fun e => hi (by rw [e]))⟩
  rcases findNow_ents k es.toList l 0 h2 with ⟨j, e, g1, g2, g3, _, g5⟩ | ⟨g1, _, _, g4⟩
  · have hlt : j < es.size := by have := (List.getElem?_eq_some_iff.1 g2).1; simpa using this
    refine ⟨{ w with heap := w.heap.setIfInBounds b (.map (es.eraseIdxIfInBounds (0 + j)) c) }, ?_, ⟨_, _, (heap_set h1).1, ?_, stamped_erase hst _⟩, hg _, by simp⟩
    · simp [Builtin.delete_, h0, run_underlying ht, MapKept.run_getObj_map h1, MapKept.run_checkKey hk (isKey k), MapKept.run_findKey hk g1, MapKept.run_setObj_map _ h1, Result.andThen]
    · rw [Nat.zero_add]
      have : (es.eraseIdxIfInBounds j).toList = es.toList.eraseIdx j := by simp [Array.eraseIdxIfInBounds, hlt]
      rw [this]; exact (g5 (.bool true)).2
  · refine ⟨{ w with heap := w.heap.setIfInBounds b (.map es c) }, ?_, ⟨_, _, (heap_set h1).1, by rw [g4]; exact h2, hst⟩, hg _, by simp⟩
    · simp [Builtin.delete_, h0, run_underlying ht, MapKept.run_getObj_map h1, MapKept.run_checkKey hk (isKey k), MapKept.run_findKey hk g1, MapKept.run_setObj_map _ h1, Result.andThen]
theorem run_len (ht : P.underlying t = some (.map key elem)) (h : MB w b l) (ty : TypeId) : (Builtin.len_ #[t] ty #[.map (some b)]).run P w = .ok (.int .i64 l.length) w := by
  obtain ⟨es, c, h1, h2⟩ := h.size
  simp [Builtin.len_, run_underlying ht, MapKept.run_getObj_map h1, h2, Result.andThen, goInt]
end
section
variable {P : Program} {t key elem : TypeId} {ops : Array Oper} {rest : List Oper} {o : Oper} {a : Act} {Q : Exit → Act → World → Prop}
theorem at_update (w : World) (hg : o.guard = none) (m x v : Operand) (hop : o.op = Op.mapUpdate t m x v) (ht : P.underlying t = some (.map key elem)) (hk : P.underlying key = some .string)
    (b : Nat) (l : Ents) (hm : a.eval m = .map (some b)) (h : MB w b l) (k : ByteArray) (u : Value) (hx : a.eval x = .string k) (hv : a.eval v = u)
    (hK : ∀ w', MB w' b (put k u l) → w.grownBy w' (some b) → w'.heap.size = w.heap.size → wpList P ops Q rest (a.put o.dst undef) w') : wpList P ops Q (o :: rest) a w := by
  refine wpList_plain hg fun K' hK' => ?_
  obtain ⟨w', hrun, r1, r2, r3⟩ := run_update ht hk h k u
  unfold Oper.wp
  simp [execOp, hop, hm, hx, hv, hrun, Result.andThen]
  exact hK' _ _ (hK w' r1 r2 r3)
theorem at_look (w : World) (hg : o.guard = none) (m x : Operand) (ok : Bool) (hop : o.op = Op.lookup t m x ok) (ht : P.underlying t = some (.map key elem)) (hk : P.underlying key = some .string)
    (b : Nat) (l : Ents) (hm : a.eval m = .map (some b)) (h : MB w b l) (k : ByteArray) (hx : a.eval x = .string k) (z : Value) (hz : (zeroValue elem).run P w = .ok z w) (r : Value)
    (hr : (if ok then .tuple #[(find k l).getD z, .bool (find k l).isSome] else (find k l).getD z) = r)
    (hK : wpList P ops Q rest (a.put o.dst r) w) : wpList P ops Q (o :: rest) a w := by
  refine wpList_plain hg fun K' hK' => ?_
  have hrun := run_lookup ht hk h k ok z hz
  rw [hr] at hrun
  unfold Oper.wp
  simp [execOp, hop, hm, hx, hrun, Result.andThen]
  exact hK' _ _ hK
end
end Go.MapT
