/- Two values are the same: at values of texts. -/
import Derived.Test.YtllaeocclpaiaaaGreatDoorSt20
namespace Go.Proofs.YtllaeocclpaiaaaGreatDoor
open Go.ChangeShapes Go.WideShapes Go.ChangeAt Go.RowKit

theorem new_next (w : World) (o1 o2 : Obj) : ((w.alloc o1).alloc o2).heap[w.heap.size + 1]? = some o2 := by
  have := heap_alloc_new (w.alloc o1) o2
  rw [World.size_alloc] at this
  exact this
theorem bytes_ne {t s : ByteArray} (h : t ≠ s) : ¬ t.toList = s.toList := by
  rw [ByteArray.toList_eq, ByteArray.toList_eq]
  exact fun e => h (bytes_inj e)
theorem Eq101 (w : World) : Calls Tryz.prog 96 #[.slice none 0 0, .slice none 0 0] w fun e w' => e = .returned (.bool true) ∧ Below w.heap.size w w' := by
  go_enter Tryz.func96, Tryz.ntmps96
  go_wp2
  refine wp_loop_once ?_
  go_wp2
  go_ret
  exact ⟨rfl, Below.refl _ _⟩
theorem Eq102 (w : World) : Calls Tryz.prog 97 #[.slice none 0 0, .slice none 0 0] w fun e w' => e = .returned (.bool true) ∧ Below w.heap.size w w' := by
  go_enter Tryz.func97, Tryz.ntmps97
  go_wp2
  refine wp_loop_once ?_
  go_wp2
  go_ret
  exact ⟨rfl, Below.refl _ _⟩
theorem Eq103 (w : World) : Calls Tryz.prog 98 #[.slice none 0 0, .slice none 0 0] w fun e w' => e = .returned (.bool true) ∧ Below w.heap.size w w' := by
  go_enter Tryz.func98, Tryz.ntmps98
  go_wp2
  refine wp_loop_once ?_
  go_wp2
  go_ret
  exact ⟨rfl, Below.refl _ _⟩
theorem Eq99 (f : Value) (w : World) : Calls Tryz.prog 94 #[.slice none 0 0, .slice none 0 0, f] w fun e w' => e = .returned (.bool true) ∧ Below w.heap.size w w' := by
  go_enter Tryz.func94, Tryz.ntmps94
  go_wp2
  refine wp_loop_once ?_
  go_wp2
  go_ret
  exact ⟨rfl, Below.refl _ _⟩
set_option maxRecDepth 100000 in
set_option maxHeartbeats 4000000 in
theorem Same_yes (t : ByteArray) (w : World) : Calls Tryz.prog 81 #[.agg #[.int .i64 1, .string t, .slice none 0 0, .slice none 0 0, .slice none 0 0, .slice none 0 0], .agg #[.int .i64 1, .string t, .slice none 0 0, .slice none 0 0, .slice none 0 0, .slice none 0 0]] w fun e w' => e = .returned (.bool true) ∧ Below w.heap.size w w' := by
  have hmf : ∀ (fn : Fn) (first cap : Array Value) (w : World), (Instr.makeFunc fn first cap).run Tryz.prog w = .ok (.func fn first cap) w := fun _ _ _ _ => rfl
  have hsf : ∀ (a : Addr) (f : Fn) (x y : Array Value) (w : World) (m : Mode), (store a (.func f x y) m).run Tryz.prog w = stored Tryz.prog w a (.func f x y) m := fun a f x y w m => run_store Tryz.prog w a _ m rfl
  have q1 := Lib.hid (fun w => Eq101 w)
  have q2 := Lib.hid (fun w => Eq102 w)
  have q3 := Lib.hid (fun w => Eq103 w)
  have q4 := Lib.hid (fun f w => Eq99 f w)
  have C1 := Lib.hid (fun w1 (hb : Below ((((w.alloc (.cells #[.int .i64 1, .string t, .slice none 0 0, .slice none 0 0, .slice none 0 0, .slice none 0 0] 31)).alloc (.cells #[.int .i64 1, .string t, .slice none 0 0, .slice none 0 0, .slice none 0 0, .slice none 0 0] 31)).alloc (.cells #[.func (.func 92) #[] #[]] 137))).heap.size ((((w.alloc (.cells #[.int .i64 1, .string t, .slice none 0 0, .slice none 0 0, .slice none 0 0, .slice none 0 0] 31)).alloc (.cells #[.int .i64 1, .string t, .slice none 0 0, .slice none 0 0, .slice none 0 0, .slice none 0 0] 31)).alloc (.cells #[.func (.func 92) #[] #[]] 137))) w1) => cells6 (blk_below (show ((((w.alloc (.cells #[.int .i64 1, .string t, .slice none 0 0, .slice none 0 0, .slice none 0 0, .slice none 0 0] 31)).alloc (.cells #[.int .i64 1, .string t, .slice none 0 0, .slice none 0 0, .slice none 0 0, .slice none 0 0] 31)).alloc (.cells #[.func (.func 92) #[] #[]] 137))).heap[w.heap.size]? = some (.cells #[.int .i64 1, .string t, .slice none 0 0, .slice none 0 0, .slice none 0 0, .slice none 0 0] 31) from blk_below (blk_below (heap_alloc_new w _) alloc_old) alloc_old) hb))
  have C2 := Lib.hid (fun w1 (hb : Below ((((w.alloc (.cells #[.int .i64 1, .string t, .slice none 0 0, .slice none 0 0, .slice none 0 0, .slice none 0 0] 31)).alloc (.cells #[.int .i64 1, .string t, .slice none 0 0, .slice none 0 0, .slice none 0 0, .slice none 0 0] 31)).alloc (.cells #[.func (.func 92) #[] #[]] 137))).heap.size ((((w.alloc (.cells #[.int .i64 1, .string t, .slice none 0 0, .slice none 0 0, .slice none 0 0, .slice none 0 0] 31)).alloc (.cells #[.int .i64 1, .string t, .slice none 0 0, .slice none 0 0, .slice none 0 0, .slice none 0 0] 31)).alloc (.cells #[.func (.func 92) #[] #[]] 137))) w1) => cells6 (blk_below (show ((((w.alloc (.cells #[.int .i64 1, .string t, .slice none 0 0, .slice none 0 0, .slice none 0 0, .slice none 0 0] 31)).alloc (.cells #[.int .i64 1, .string t, .slice none 0 0, .slice none 0 0, .slice none 0 0, .slice none 0 0] 31)).alloc (.cells #[.func (.func 92) #[] #[]] 137))).heap[w.heap.size + 1]? = some (.cells #[.int .i64 1, .string t, .slice none 0 0, .slice none 0 0, .slice none 0 0, .slice none 0 0] 31) from blk_below (new_next w _ _) alloc_old) hb))
  have BA := Lib.hid (show Below w.heap.size w ((((w.alloc (.cells #[.int .i64 1, .string t, .slice none 0 0, .slice none 0 0, .slice none 0 0, .slice none 0 0] 31)).alloc (.cells #[.int .i64 1, .string t, .slice none 0 0, .slice none 0 0, .slice none 0 0, .slice none 0 0] 31)).alloc (.cells #[.func (.func 92) #[] #[]] 137))) from (alloc_old.trans (alloc_old.mono (by simp))).trans (alloc_old.mono (by simp; omega)))
  go_enter Tryz.func81, Tryz.ntmps81
  go_wp2_with (first | (go_at_call 94; (with_reducible refine (q4.out _ _).mono ?_); rintro e w1 ⟨rfl, h1⟩; have B1 := Lib.hid h1; clear h1; refine Hid.out ?_))
  refine Lib.hid ?_
  have B2 := Lib.hid (BA.out.trans (B1.out.mono (Below.size BA.out)))
  obtain ⟨⟨a0, a1, a2, a3, a4, a5⟩, _⟩ := C1.out _ B1.out
  obtain ⟨⟨b0, b1, b2, b3, b4, b5⟩, _⟩ := C2.out _ B1.out
  have D := Lib.hid (show ∀ X, Below w1.heap.size w1 X → X.cell? ⟨w.heap.size, 3, none⟩ = some (.slice none 0 0) ∧ X.cell? ⟨w.heap.size, 4, none⟩ = some (.slice none 0 0) ∧ X.cell? ⟨w.heap.size + 1, 3, none⟩ = some (.slice none 0 0) ∧ X.cell? ⟨w.heap.size + 1, 4, none⟩ = some (.slice none 0 0) from fun X hb =>
    have x1 := (C1.out _ (belT B1.out hb)).1
    have x2 := (C2.out _ (belT B1.out hb)).1
    ⟨x1.2.2.2.1, x1.2.2.2.2.1, x2.2.2.2.1, x2.2.2.2.2.1⟩)
  go_wp2_with (first | (go_at_call 96; (with_reducible refine (q1.out _).mono ?_); rintro e w2 ⟨rfl, h1⟩; have B3 := Lib.hid h1; clear h1; obtain ⟨x1, x2, x3, x4⟩ := D.out _ B3.out) | (go_at_call 97; (with_reducible refine (q2.out _).mono ?_); rintro e w3 ⟨rfl, h1⟩; have B4 := Lib.hid (belT B3.out h1); clear h1; obtain ⟨y1, y2, y3, y4⟩ := D.out _ B4.out) | (go_at_call 98; (with_reducible refine (q3.out _).mono ?_); rintro e w4 ⟨rfl, h1⟩; have B5 := Lib.hid (belT B4.out h1); clear h1))
  go_ret
  exact ⟨by simp, belT B2.out B5.out⟩
set_option maxRecDepth 100000 in
set_option maxHeartbeats 4000000 in
theorem Same_no (t s : ByteArray) (hn : t ≠ s) (w : World) : Calls Tryz.prog 81 #[.agg #[.int .i64 1, .string t, .slice none 0 0, .slice none 0 0, .slice none 0 0, .slice none 0 0], .agg #[.int .i64 1, .string s, .slice none 0 0, .slice none 0 0, .slice none 0 0, .slice none 0 0]] w fun e w' => e = .returned (.bool false) ∧ Below w.heap.size w w' := by
  have hmf : ∀ (fn : Fn) (first cap : Array Value) (w : World), (Instr.makeFunc fn first cap).run Tryz.prog w = .ok (.func fn first cap) w := fun _ _ _ _ => rfl
  have hsf : ∀ (a : Addr) (f : Fn) (x y : Array Value) (w : World) (m : Mode), (store a (.func f x y) m).run Tryz.prog w = stored Tryz.prog w a (.func f x y) m := fun a f x y w m => run_store Tryz.prog w a _ m rfl
  have q1 := Lib.hid (fun w => Eq101 w)
  have q2 := Lib.hid (fun w => Eq102 w)
  have q3 := Lib.hid (fun w => Eq103 w)
  have q4 := Lib.hid (fun f w => Eq99 f w)
  have hq := bytes_ne hn
  have C1 := Lib.hid (fun w1 (hb : Below ((((w.alloc (.cells #[.int .i64 1, .string t, .slice none 0 0, .slice none 0 0, .slice none 0 0, .slice none 0 0] 31)).alloc (.cells #[.int .i64 1, .string s, .slice none 0 0, .slice none 0 0, .slice none 0 0, .slice none 0 0] 31)).alloc (.cells #[.func (.func 92) #[] #[]] 137))).heap.size ((((w.alloc (.cells #[.int .i64 1, .string t, .slice none 0 0, .slice none 0 0, .slice none 0 0, .slice none 0 0] 31)).alloc (.cells #[.int .i64 1, .string s, .slice none 0 0, .slice none 0 0, .slice none 0 0, .slice none 0 0] 31)).alloc (.cells #[.func (.func 92) #[] #[]] 137))) w1) => cells6 (blk_below (show ((((w.alloc (.cells #[.int .i64 1, .string t, .slice none 0 0, .slice none 0 0, .slice none 0 0, .slice none 0 0] 31)).alloc (.cells #[.int .i64 1, .string s, .slice none 0 0, .slice none 0 0, .slice none 0 0, .slice none 0 0] 31)).alloc (.cells #[.func (.func 92) #[] #[]] 137))).heap[w.heap.size]? = some (.cells #[.int .i64 1, .string t, .slice none 0 0, .slice none 0 0, .slice none 0 0, .slice none 0 0] 31) from blk_below (blk_below (heap_alloc_new w _) alloc_old) alloc_old) hb))
  have C2 := Lib.hid (fun w1 (hb : Below ((((w.alloc (.cells #[.int .i64 1, .string t, .slice none 0 0, .slice none 0 0, .slice none 0 0, .slice none 0 0] 31)).alloc (.cells #[.int .i64 1, .string s, .slice none 0 0, .slice none 0 0, .slice none 0 0, .slice none 0 0] 31)).alloc (.cells #[.func (.func 92) #[] #[]] 137))).heap.size ((((w.alloc (.cells #[.int .i64 1, .string t, .slice none 0 0, .slice none 0 0, .slice none 0 0, .slice none 0 0] 31)).alloc (.cells #[.int .i64 1, .string s, .slice none 0 0, .slice none 0 0, .slice none 0 0, .slice none 0 0] 31)).alloc (.cells #[.func (.func 92) #[] #[]] 137))) w1) => cells6 (blk_below (show ((((w.alloc (.cells #[.int .i64 1, .string t, .slice none 0 0, .slice none 0 0, .slice none 0 0, .slice none 0 0] 31)).alloc (.cells #[.int .i64 1, .string s, .slice none 0 0, .slice none 0 0, .slice none 0 0, .slice none 0 0] 31)).alloc (.cells #[.func (.func 92) #[] #[]] 137))).heap[w.heap.size + 1]? = some (.cells #[.int .i64 1, .string s, .slice none 0 0, .slice none 0 0, .slice none 0 0, .slice none 0 0] 31) from blk_below (new_next w _ _) alloc_old) hb))
  have BA := Lib.hid (show Below w.heap.size w ((((w.alloc (.cells #[.int .i64 1, .string t, .slice none 0 0, .slice none 0 0, .slice none 0 0, .slice none 0 0] 31)).alloc (.cells #[.int .i64 1, .string s, .slice none 0 0, .slice none 0 0, .slice none 0 0, .slice none 0 0] 31)).alloc (.cells #[.func (.func 92) #[] #[]] 137))) from (alloc_old.trans (alloc_old.mono (by simp))).trans (alloc_old.mono (by simp; omega)))
  go_enter Tryz.func81, Tryz.ntmps81
  go_wp2_with (first | (go_at_call 94; (with_reducible refine (q4.out _ _).mono ?_); rintro e w1 ⟨rfl, h1⟩; have B1 := Lib.hid h1; clear h1; refine Hid.out ?_))
  refine Lib.hid ?_
  have B2 := Lib.hid (BA.out.trans (B1.out.mono (Below.size BA.out)))
  obtain ⟨⟨a0, a1, a2, a3, a4, a5⟩, _⟩ := C1.out _ B1.out
  obtain ⟨⟨b0, b1, b2, b3, b4, b5⟩, _⟩ := C2.out _ B1.out
  have D := Lib.hid (show ∀ X, Below w1.heap.size w1 X → X.cell? ⟨w.heap.size, 3, none⟩ = some (.slice none 0 0) ∧ X.cell? ⟨w.heap.size, 4, none⟩ = some (.slice none 0 0) ∧ X.cell? ⟨w.heap.size + 1, 3, none⟩ = some (.slice none 0 0) ∧ X.cell? ⟨w.heap.size + 1, 4, none⟩ = some (.slice none 0 0) from fun X hb =>
    have x1 := (C1.out _ (belT B1.out hb)).1
    have x2 := (C2.out _ (belT B1.out hb)).1
    ⟨x1.2.2.2.1, x1.2.2.2.2.1, x2.2.2.2.1, x2.2.2.2.2.1⟩)
  clear D
  go_wp2
  go_ret
  exact ⟨by simp, B2.out⟩
end Go.Proofs.YtllaeocclpaiaaaGreatDoor
