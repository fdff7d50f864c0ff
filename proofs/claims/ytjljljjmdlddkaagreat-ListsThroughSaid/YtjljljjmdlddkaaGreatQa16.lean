/- Texts joined: L1, G11 -/
import Derived.Test.YtjljljjmdlddkaaGreatQa13
import Derived.Test.YtjljljjmdlddkaaGreatQa14
import Derived.Test.YtjljljjmdlddkaaGreatQa7
import Derived.Test.YtjljljjmdlddkaaGreatQa15

/- Lists as a kind of values: what the functions of entries do at them; when two are the same. -/
namespace Go.Proofs.YtjljljjmdlddkaaGreat
open Go.ChangeShapes Go.WideShapes Go.ChangeAt Go.RowKit

def VL (w : World) (xs : List ByteArray) (a b c d : Value) : Prop := TR w a xs ∧ xs ≠ [] ∧ b = .slice none 0 0 ∧ c = .slice none 0 0 ∧ d = .slice none 0 0
/-- Lists. -/
def KL : Kd (List ByteArray) where
  kd := 2
  nz := ⟨by decide, by decide⟩
  V := VL
  kept := by
    rintro w w' x a b c d ⟨h1, h2, h3⟩ hb
    exact ⟨h1.kept (fun g hg => hb g (.inl hg)), h2, h3⟩
  typ := by
    rintro w x a b c d g ⟨h1, h2, rfl, rfl, rfl⟩ hg
    obtain ⟨g', e, hlt, cs, hc⟩ := h1.lt
    rcases hg with hg | hg | hg | hg
    · rw [hg] at e
      cases e
      exact ⟨cs, 9, hc, by decide, by decide, by decide, by decide, by decide⟩
    · cases hg
    · cases hg
    · cases hg
/-- Lists that may be. -/
def okL (k : ByteArray) (xs : List ByteArray) : Prop := 1 ≤ k.size ∧ k.size ≤ 512 ∧ xs ≠ [] ∧ xs.length ≤ 31 ∧ ∀ s ∈ xs, s.size ≤ 4096
theorem sumSz_bound : ∀ (xs : List ByteArray), (∀ s ∈ xs, s.size ≤ 4096) → sumSz xs ≤ 4096 * xs.length
  | [], _ => by simp [sumSz]
  | x :: r, h => by
    have h1 := h x List.mem_cons_self
    have h2 := sumSz_bound r (fun s hs => h s (List.mem_cons_of_mem _ hs))
    have h3 : sumSz (x :: r) = x.size + sumSz r := by simp [sumSz]
    rw [h3, List.length_cons]
    omega
/-- What four slices are that hold a list. -/
theorem VL.form {w : World} {xs : List ByteArray} (A3 A4 A5 A6 : Option Addr) (an3 ac3 an4 ac4 an5 ac5 an6 ac6 : Nat) (h : VL w xs (.slice A3 an3 ac3) (.slice A4 an4 ac4) (.slice A5 an5 ac5) (.slice A6 an6 ac6)) : ∃ g, A3 = some ⟨g, 0, none⟩ ∧ an3 = xs.length ∧ A4 = none ∧ an4 = 0 ∧ ac4 = 0 ∧ A5 = none ∧ an5 = 0 ∧ ac5 = 0 ∧ A6 = none ∧ an6 = 0 ∧ ac6 = 0 := by
  obtain ⟨⟨g, C, cs, h1, _⟩, _, h3, h4, h5⟩ := h
  cases h1
  cases h3
  cases h4
  cases h5
  exact ⟨g, rfl, rfl, rfl, rfl, rfl, rfl, rfl, rfl, rfl, rfl, rfl⟩
def KLok : KdOk KL okL where
  sz := fun k xs => 48 + (k.size : Int) + 16 * (xs.length : Int) + (sumSz xs : Int)
  may := by
    rintro k xs A3 A4 A5 A6 an3 ac3 an4 ac4 an5 ac5 an6 ac6 w ⟨h1, h2, h3, h4, h5⟩ hV
    obtain ⟨g, rfl, rfl, rfl, rfl, rfl, rfl, rfl, rfl, rfl, rfl, rfl⟩ := VL.form A3 A4 A5 A6 an3 ac3 an4 ac4 an5 ac5 an6 ac6 hV
    have := sumSz_bound xs h5
    exact May15L k h1 h2 0 (by omega) (by omega) xs _ ac3 h3 (by omega) w hV.1.ssl (by omega) h5 (by omega)
  clone := by
    rintro k xs A3 A4 A5 A6 an3 ac3 an4 ac4 an5 ac5 an6 ac6 w ⟨h1, h2, h3, h4, h5⟩ hV
    obtain ⟨g, rfl, rfl, rfl, rfl, rfl, rfl, rfl, rfl, rfl, rfl, rfl⟩ := VL.form A3 A4 A5 A6 an3 ac3 an4 ac4 an5 ac5 an6 ac6 hV
    refine (clone17L k 0 xs _ ac3 h3 (by omega) w hV.1.ssl).mono ?_
    rintro e w' ⟨g', C, rfl, hT, hge, hb⟩
    refine ⟨some ⟨g', 0, none⟩, none, none, none, xs.length, C, 0, 0, 0, 0, 0, 0, rfl, ⟨hT, h3, rfl, rfl, rfl⟩, fun g9 hg => ?_, hb⟩
    rcases hg with hg | hg | hg | hg
    · cases hg; exact hge
    · cases hg
    · cases hg
    · cases hg
  size := by
    rintro k xs A3 A4 A5 A6 an3 ac3 an4 ac4 an5 ac5 an6 ac6 w ⟨h1, h2, h3, h4, h5⟩ hV
    obtain ⟨g, rfl, rfl, rfl, rfl, rfl, rfl, rfl, rfl, rfl, rfl, rfl⟩ := VL.form A3 A4 A5 A6 an3 ac3 an4 ac4 an5 ac5 an6 ac6 hV
    have := sumSz_bound xs h5
    exact size16L k 0 (by omega) xs _ ac3 h3 (by omega) w hV.1.ssl (by omega)
/-- slices.Equal of two rows of texts. -/
theorem EqL (a b : Value) (xs ys : List ByteArray) (w : World) (h1 : TR w a xs) (h2 : TR w b ys) : Calls Tryz.prog 132 #[a, b] w fun e w' => e = .returned (.bool (decide (xs = ys))) ∧ Below w.heap.size w w' := by
  obtain ⟨g1, C1, cs1, rfl, p1, p2, p3, p4⟩ := h1
  obtain ⟨g2, C2, cs2, rfl, q1, q2, q3, q4⟩ := h2
  have m : (maxLen : Nat) ≤ 9223372036854775807 := by unfold maxLen; omega
  refine (Tryz.slices_Equal_string g1 0 xs.length C1 g2 0 ys.length C2 xs ys w (Nat.le_refl _) (Nat.le_refl _) (by omega) (by omega) (fun j hj => ?_) (fun j hj => ?_)).mono ?_
  · rw [Nat.zero_add, cell_of_row _ g1 _ _ 9 (0, 0) p1, p4 j _ (List.getElem?_eq_getElem hj)]
    simp [List.getD_eq_getElem?_getD, hj]
  · rw [Nat.zero_add, cell_of_row _ g2 _ _ 9 (0, 0) q1, q4 j _ (List.getElem?_eq_getElem hj)]
    simp [List.getD_eq_getElem?_getD, hj]
  · rintro e w' ⟨rfl, q, rfl⟩
    rw [List.take_length, List.take_length]
    exact ⟨rfl, ⟨rfl, rfl, rfl, Nat.le_refl _, fun _ _ => rfl⟩⟩
end Go.Proofs.YtjljljjmdlddkaaGreat

/- Two values of a kind but a text are the same: by what the four comparisons say. -/
namespace Go.Proofs.YtjljljjmdlddkaaGreat
open Go.ChangeShapes Go.WideShapes Go.ChangeAt Go.RowKit

set_option maxRecDepth 100000 in
set_option maxHeartbeats 4000000 in
theorem SameG_true (kd : Int) (A3 A4 A5 A6 : Option Addr) (an3 ac3 an4 ac4 an5 ac5 an6 ac6 : Nat) (Y3 Y4 Y5 Y6 : Option Addr) (yn3 yc3 yn4 yc4 yn5 yc5 yn6 yc6 : Nat) (w : World) (q3 : ∀ X, Below w.heap.size w X → Calls Tryz.prog 132 #[.slice A3 an3 ac3, .slice Y3 yn3 yc3] X fun e w' => e = .returned (.bool true) ∧ Below X.heap.size X w') (q4 : ∀ X, Below w.heap.size w X → Calls Tryz.prog 133 #[.slice A4 an4 ac4, .slice Y4 yn4 yc4] X fun e w' => e = .returned (.bool true) ∧ Below X.heap.size X w') (q5 : ∀ X, Below w.heap.size w X → Calls Tryz.prog 134 #[.slice A5 an5 ac5, .slice Y5 yn5 yc5] X fun e w' => e = .returned (.bool true) ∧ Below X.heap.size X w') (q6 : ∀ f X, Below w.heap.size w X → Calls Tryz.prog 130 #[.slice A6 an6 ac6, .slice Y6 yn6 yc6, f] X fun e w' => e = .returned (.bool true) ∧ Below X.heap.size X w') : Calls Tryz.prog 106 #[.agg #[.int .i64 kd, .string ⟨#[]⟩, .slice A3 an3 ac3, .slice A4 an4 ac4, .slice A5 an5 ac5, .slice A6 an6 ac6], .agg #[.int .i64 kd, .string ⟨#[]⟩, .slice Y3 yn3 yc3, .slice Y4 yn4 yc4, .slice Y5 yn5 yc5, .slice Y6 yn6 yc6]] w fun e w' => e = .returned (.bool true) ∧ Below w.heap.size w w' := by
  have hmf : ∀ (fn : Fn) (first cap : Array Value) (w : World), (Instr.makeFunc fn first cap).run Tryz.prog w = .ok (.func fn first cap) w := fun _ _ _ _ => rfl
  have hsf : ∀ (a : Addr) (f : Fn) (x y : Array Value) (w : World) (m : Mode), (store a (.func f x y) m).run Tryz.prog w = stored Tryz.prog w a (.func f x y) m := fun a f x y w m => run_store Tryz.prog w a _ m rfl
  have q3 := Lib.hid q3
  have q4 := Lib.hid q4
  have q5 := Lib.hid q5
  have q6 := Lib.hid q6
  have C1 := Lib.hid (fun w1 (hb : Below ((((w.alloc (.cells #[.int .i64 kd, .string ⟨#[]⟩, .slice A3 an3 ac3, .slice A4 an4 ac4, .slice A5 an5 ac5, .slice A6 an6 ac6] 43)).alloc (.cells #[.int .i64 kd, .string ⟨#[]⟩, .slice Y3 yn3 yc3, .slice Y4 yn4 yc4, .slice Y5 yn5 yc5, .slice Y6 yn6 yc6] 43)).alloc (.cells #[.func (.func 128) #[] #[]] 185))).heap.size ((((w.alloc (.cells #[.int .i64 kd, .string ⟨#[]⟩, .slice A3 an3 ac3, .slice A4 an4 ac4, .slice A5 an5 ac5, .slice A6 an6 ac6] 43)).alloc (.cells #[.int .i64 kd, .string ⟨#[]⟩, .slice Y3 yn3 yc3, .slice Y4 yn4 yc4, .slice Y5 yn5 yc5, .slice Y6 yn6 yc6] 43)).alloc (.cells #[.func (.func 128) #[] #[]] 185))) w1) => cells6 (blk_below (show ((((w.alloc (.cells #[.int .i64 kd, .string ⟨#[]⟩, .slice A3 an3 ac3, .slice A4 an4 ac4, .slice A5 an5 ac5, .slice A6 an6 ac6] 43)).alloc (.cells #[.int .i64 kd, .string ⟨#[]⟩, .slice Y3 yn3 yc3, .slice Y4 yn4 yc4, .slice Y5 yn5 yc5, .slice Y6 yn6 yc6] 43)).alloc (.cells #[.func (.func 128) #[] #[]] 185))).heap[w.heap.size]? = some (.cells #[.int .i64 kd, .string ⟨#[]⟩, .slice A3 an3 ac3, .slice A4 an4 ac4, .slice A5 an5 ac5, .slice A6 an6 ac6] 43) from blk_below (blk_below (heap_alloc_new w _) alloc_old) alloc_old) hb))
  have C2 := Lib.hid (fun w1 (hb : Below ((((w.alloc (.cells #[.int .i64 kd, .string ⟨#[]⟩, .slice A3 an3 ac3, .slice A4 an4 ac4, .slice A5 an5 ac5, .slice A6 an6 ac6] 43)).alloc (.cells #[.int .i64 kd, .string ⟨#[]⟩, .slice Y3 yn3 yc3, .slice Y4 yn4 yc4, .slice Y5 yn5 yc5, .slice Y6 yn6 yc6] 43)).alloc (.cells #[.func (.func 128) #[] #[]] 185))).heap.size ((((w.alloc (.cells #[.int .i64 kd, .string ⟨#[]⟩, .slice A3 an3 ac3, .slice A4 an4 ac4, .slice A5 an5 ac5, .slice A6 an6 ac6] 43)).alloc (.cells #[.int .i64 kd, .string ⟨#[]⟩, .slice Y3 yn3 yc3, .slice Y4 yn4 yc4, .slice Y5 yn5 yc5, .slice Y6 yn6 yc6] 43)).alloc (.cells #[.func (.func 128) #[] #[]] 185))) w1) => cells6 (blk_below (show ((((w.alloc (.cells #[.int .i64 kd, .string ⟨#[]⟩, .slice A3 an3 ac3, .slice A4 an4 ac4, .slice A5 an5 ac5, .slice A6 an6 ac6] 43)).alloc (.cells #[.int .i64 kd, .string ⟨#[]⟩, .slice Y3 yn3 yc3, .slice Y4 yn4 yc4, .slice Y5 yn5 yc5, .slice Y6 yn6 yc6] 43)).alloc (.cells #[.func (.func 128) #[] #[]] 185))).heap[w.heap.size + 1]? = some (.cells #[.int .i64 kd, .string ⟨#[]⟩, .slice Y3 yn3 yc3, .slice Y4 yn4 yc4, .slice Y5 yn5 yc5, .slice Y6 yn6 yc6] 43) from blk_below (new_next w _ _) alloc_old) hb))
  have BA := Lib.hid (show Below w.heap.size w ((((w.alloc (.cells #[.int .i64 kd, .string ⟨#[]⟩, .slice A3 an3 ac3, .slice A4 an4 ac4, .slice A5 an5 ac5, .slice A6 an6 ac6] 43)).alloc (.cells #[.int .i64 kd, .string ⟨#[]⟩, .slice Y3 yn3 yc3, .slice Y4 yn4 yc4, .slice Y5 yn5 yc5, .slice Y6 yn6 yc6] 43)).alloc (.cells #[.func (.func 128) #[] #[]] 185))) from (alloc_old.trans (alloc_old.mono (by simp))).trans (alloc_old.mono (by simp; omega)))
  go_enter Tryz.func106, Tryz.ntmps106
  go_wp2_with (first | (go_at_call 130; (with_reducible refine (q6.out _ _ BA.out).mono ?_); rintro e w1 ⟨rfl, h1⟩; have B1 := Lib.hid h1; clear h1; refine Hid.out ?_))
  refine Lib.hid ?_
  have B2 := Lib.hid (BA.out.trans (B1.out.mono (Below.size BA.out)))
  obtain ⟨⟨a0, a1, a2, a3, a4, a5⟩, _⟩ := C1.out _ B1.out
  obtain ⟨⟨b0, b1, b2, b3, b4, b5⟩, _⟩ := C2.out _ B1.out
  have D := Lib.hid (show ∀ X, Below w1.heap.size w1 X → X.cell? ⟨w.heap.size, 3, none⟩ = some (.slice A4 an4 ac4) ∧ X.cell? ⟨w.heap.size, 4, none⟩ = some (.slice A5 an5 ac5) ∧ X.cell? ⟨w.heap.size + 1, 3, none⟩ = some (.slice Y4 yn4 yc4) ∧ X.cell? ⟨w.heap.size + 1, 4, none⟩ = some (.slice Y5 yn5 yc5) from fun X hb =>
    have x1 := (C1.out _ (belT B1.out hb)).1
    have x2 := (C2.out _ (belT B1.out hb)).1
    ⟨x1.2.2.2.1, x1.2.2.2.2.1, x2.2.2.2.1, x2.2.2.2.2.1⟩)
  go_wp2_with (first | (go_at_call 132; (with_reducible refine (q3.out _ B2.out).mono ?_); rintro e w2 ⟨rfl, h1⟩; have B3 := Lib.hid h1; have BX := Lib.hid (belT B2.out h1); clear h1; obtain ⟨x1, x2, x3, x4⟩ := D.out _ B3.out) | (go_at_call 133; (with_reducible refine (q4.out _ BX.out).mono ?_); rintro e w3 ⟨rfl, h1⟩; have B4 := Lib.hid (belT B3.out h1); have BY := Lib.hid (belT BX.out h1); clear h1; obtain ⟨y1, y2, y3, y4⟩ := D.out _ B4.out) | (go_at_call 134; (with_reducible refine (q5.out _ BY.out).mono ?_); rintro e w4 ⟨rfl, h1⟩; have BZ := Lib.hid (belT BY.out h1); clear h1))
  go_ret
  exact ⟨by simp, BZ.out⟩
set_option maxRecDepth 100000 in
set_option maxHeartbeats 4000000 in
theorem SameG_f3 (kd : Int) (A3 A4 A5 A6 : Option Addr) (an3 ac3 an4 ac4 an5 ac5 an6 ac6 : Nat) (Y3 Y4 Y5 Y6 : Option Addr) (yn3 yc3 yn4 yc4 yn5 yc5 yn6 yc6 : Nat) (w : World) (q3 : ∀ X, Below w.heap.size w X → Calls Tryz.prog 132 #[.slice A3 an3 ac3, .slice Y3 yn3 yc3] X fun e w' => e = .returned (.bool false) ∧ Below X.heap.size X w') (q6 : ∀ f X, Below w.heap.size w X → Calls Tryz.prog 130 #[.slice A6 an6 ac6, .slice Y6 yn6 yc6, f] X fun e w' => e = .returned (.bool true) ∧ Below X.heap.size X w') : Calls Tryz.prog 106 #[.agg #[.int .i64 kd, .string ⟨#[]⟩, .slice A3 an3 ac3, .slice A4 an4 ac4, .slice A5 an5 ac5, .slice A6 an6 ac6], .agg #[.int .i64 kd, .string ⟨#[]⟩, .slice Y3 yn3 yc3, .slice Y4 yn4 yc4, .slice Y5 yn5 yc5, .slice Y6 yn6 yc6]] w fun e w' => e = .returned (.bool false) ∧ Below w.heap.size w w' := by
  have hmf : ∀ (fn : Fn) (first cap : Array Value) (w : World), (Instr.makeFunc fn first cap).run Tryz.prog w = .ok (.func fn first cap) w := fun _ _ _ _ => rfl
  have hsf : ∀ (a : Addr) (f : Fn) (x y : Array Value) (w : World) (m : Mode), (store a (.func f x y) m).run Tryz.prog w = stored Tryz.prog w a (.func f x y) m := fun a f x y w m => run_store Tryz.prog w a _ m rfl
  have q3 := Lib.hid q3
  have q6 := Lib.hid q6
  have C1 := Lib.hid (fun w1 (hb : Below ((((w.alloc (.cells #[.int .i64 kd, .string ⟨#[]⟩, .slice A3 an3 ac3, .slice A4 an4 ac4, .slice A5 an5 ac5, .slice A6 an6 ac6] 43)).alloc (.cells #[.int .i64 kd, .string ⟨#[]⟩, .slice Y3 yn3 yc3, .slice Y4 yn4 yc4, .slice Y5 yn5 yc5, .slice Y6 yn6 yc6] 43)).alloc (.cells #[.func (.func 128) #[] #[]] 185))).heap.size ((((w.alloc (.cells #[.int .i64 kd, .string ⟨#[]⟩, .slice A3 an3 ac3, .slice A4 an4 ac4, .slice A5 an5 ac5, .slice A6 an6 ac6] 43)).alloc (.cells #[.int .i64 kd, .string ⟨#[]⟩, .slice Y3 yn3 yc3, .slice Y4 yn4 yc4, .slice Y5 yn5 yc5, .slice Y6 yn6 yc6] 43)).alloc (.cells #[.func (.func 128) #[] #[]] 185))) w1) => cells6 (blk_below (show ((((w.alloc (.cells #[.int .i64 kd, .string ⟨#[]⟩, .slice A3 an3 ac3, .slice A4 an4 ac4, .slice A5 an5 ac5, .slice A6 an6 ac6] 43)).alloc (.cells #[.int .i64 kd, .string ⟨#[]⟩, .slice Y3 yn3 yc3, .slice Y4 yn4 yc4, .slice Y5 yn5 yc5, .slice Y6 yn6 yc6] 43)).alloc (.cells #[.func (.func 128) #[] #[]] 185))).heap[w.heap.size]? = some (.cells #[.int .i64 kd, .string ⟨#[]⟩, .slice A3 an3 ac3, .slice A4 an4 ac4, .slice A5 an5 ac5, .slice A6 an6 ac6] 43) from blk_below (blk_below (heap_alloc_new w _) alloc_old) alloc_old) hb))
  have C2 := Lib.hid (fun w1 (hb : Below ((((w.alloc (.cells #[.int .i64 kd, .string ⟨#[]⟩, .slice A3 an3 ac3, .slice A4 an4 ac4, .slice A5 an5 ac5, .slice A6 an6 ac6] 43)).alloc (.cells #[.int .i64 kd, .string ⟨#[]⟩, .slice Y3 yn3 yc3, .slice Y4 yn4 yc4, .slice Y5 yn5 yc5, .slice Y6 yn6 yc6] 43)).alloc (.cells #[.func (.func 128) #[] #[]] 185))).heap.size ((((w.alloc (.cells #[.int .i64 kd, .string ⟨#[]⟩, .slice A3 an3 ac3, .slice A4 an4 ac4, .slice A5 an5 ac5, .slice A6 an6 ac6] 43)).alloc (.cells #[.int .i64 kd, .string ⟨#[]⟩, .slice Y3 yn3 yc3, .slice Y4 yn4 yc4, .slice Y5 yn5 yc5, .slice Y6 yn6 yc6] 43)).alloc (.cells #[.func (.func 128) #[] #[]] 185))) w1) => cells6 (blk_below (show ((((w.alloc (.cells #[.int .i64 kd, .string ⟨#[]⟩, .slice A3 an3 ac3, .slice A4 an4 ac4, .slice A5 an5 ac5, .slice A6 an6 ac6] 43)).alloc (.cells #[.int .i64 kd, .string ⟨#[]⟩, .slice Y3 yn3 yc3, .slice Y4 yn4 yc4, .slice Y5 yn5 yc5, .slice Y6 yn6 yc6] 43)).alloc (.cells #[.func (.func 128) #[] #[]] 185))).heap[w.heap.size + 1]? = some (.cells #[.int .i64 kd, .string ⟨#[]⟩, .slice Y3 yn3 yc3, .slice Y4 yn4 yc4, .slice Y5 yn5 yc5, .slice Y6 yn6 yc6] 43) from blk_below (new_next w _ _) alloc_old) hb))
  have BA := Lib.hid (show Below w.heap.size w ((((w.alloc (.cells #[.int .i64 kd, .string ⟨#[]⟩, .slice A3 an3 ac3, .slice A4 an4 ac4, .slice A5 an5 ac5, .slice A6 an6 ac6] 43)).alloc (.cells #[.int .i64 kd, .string ⟨#[]⟩, .slice Y3 yn3 yc3, .slice Y4 yn4 yc4, .slice Y5 yn5 yc5, .slice Y6 yn6 yc6] 43)).alloc (.cells #[.func (.func 128) #[] #[]] 185))) from (alloc_old.trans (alloc_old.mono (by simp))).trans (alloc_old.mono (by simp; omega)))
  go_enter Tryz.func106, Tryz.ntmps106
  go_wp2_with (first | (go_at_call 130; (with_reducible refine (q6.out _ _ BA.out).mono ?_); rintro e w1 ⟨rfl, h1⟩; have B1 := Lib.hid h1; clear h1; refine Hid.out ?_))
  refine Lib.hid ?_
  have B2 := Lib.hid (BA.out.trans (B1.out.mono (Below.size BA.out)))
  obtain ⟨⟨a0, a1, a2, a3, a4, a5⟩, _⟩ := C1.out _ B1.out
  obtain ⟨⟨b0, b1, b2, b3, b4, b5⟩, _⟩ := C2.out _ B1.out
  have D := Lib.hid (show ∀ X, Below w1.heap.size w1 X → X.cell? ⟨w.heap.size, 3, none⟩ = some (.slice A4 an4 ac4) ∧ X.cell? ⟨w.heap.size, 4, none⟩ = some (.slice A5 an5 ac5) ∧ X.cell? ⟨w.heap.size + 1, 3, none⟩ = some (.slice Y4 yn4 yc4) ∧ X.cell? ⟨w.heap.size + 1, 4, none⟩ = some (.slice Y5 yn5 yc5) from fun X hb =>
    have x1 := (C1.out _ (belT B1.out hb)).1
    have x2 := (C2.out _ (belT B1.out hb)).1
    ⟨x1.2.2.2.1, x1.2.2.2.2.1, x2.2.2.2.1, x2.2.2.2.2.1⟩)
  go_wp2_with (first | (go_at_call 132; (with_reducible refine (q3.out _ B2.out).mono ?_); rintro e w2 ⟨rfl, h1⟩; have B3 := Lib.hid h1; have BX := Lib.hid (belT B2.out h1); clear h1; obtain ⟨x1, x2, x3, x4⟩ := D.out _ B3.out))
  go_ret
  exact ⟨by simp, BX.out⟩
set_option maxRecDepth 100000 in
set_option maxHeartbeats 4000000 in
theorem SameG_f4 (kd : Int) (A3 A4 A5 A6 : Option Addr) (an3 ac3 an4 ac4 an5 ac5 an6 ac6 : Nat) (Y3 Y4 Y5 Y6 : Option Addr) (yn3 yc3 yn4 yc4 yn5 yc5 yn6 yc6 : Nat) (w : World) (q3 : ∀ X, Below w.heap.size w X → Calls Tryz.prog 132 #[.slice A3 an3 ac3, .slice Y3 yn3 yc3] X fun e w' => e = .returned (.bool true) ∧ Below X.heap.size X w') (q4 : ∀ X, Below w.heap.size w X → Calls Tryz.prog 133 #[.slice A4 an4 ac4, .slice Y4 yn4 yc4] X fun e w' => e = .returned (.bool false) ∧ Below X.heap.size X w') (q6 : ∀ f X, Below w.heap.size w X → Calls Tryz.prog 130 #[.slice A6 an6 ac6, .slice Y6 yn6 yc6, f] X fun e w' => e = .returned (.bool true) ∧ Below X.heap.size X w') : Calls Tryz.prog 106 #[.agg #[.int .i64 kd, .string ⟨#[]⟩, .slice A3 an3 ac3, .slice A4 an4 ac4, .slice A5 an5 ac5, .slice A6 an6 ac6], .agg #[.int .i64 kd, .string ⟨#[]⟩, .slice Y3 yn3 yc3, .slice Y4 yn4 yc4, .slice Y5 yn5 yc5, .slice Y6 yn6 yc6]] w fun e w' => e = .returned (.bool false) ∧ Below w.heap.size w w' := by
  have hmf : ∀ (fn : Fn) (first cap : Array Value) (w : World), (Instr.makeFunc fn first cap).run Tryz.prog w = .ok (.func fn first cap) w := fun _ _ _ _ => rfl
  have hsf : ∀ (a : Addr) (f : Fn) (x y : Array Value) (w : World) (m : Mode), (store a (.func f x y) m).run Tryz.prog w = stored Tryz.prog w a (.func f x y) m := fun a f x y w m => run_store Tryz.prog w a _ m rfl
  have q3 := Lib.hid q3
  have q4 := Lib.hid q4
  have q6 := Lib.hid q6
  have C1 := Lib.hid (fun w1 (hb : Below ((((w.alloc (.cells #[.int .i64 kd, .string ⟨#[]⟩, .slice A3 an3 ac3, .slice A4 an4 ac4, .slice A5 an5 ac5, .slice A6 an6 ac6] 43)).alloc (.cells #[.int .i64 kd, .string ⟨#[]⟩, .slice Y3 yn3 yc3, .slice Y4 yn4 yc4, .slice Y5 yn5 yc5, .slice Y6 yn6 yc6] 43)).alloc (.cells #[.func (.func 128) #[] #[]] 185))).heap.size ((((w.alloc (.cells #[.int .i64 kd, .string ⟨#[]⟩, .slice A3 an3 ac3, .slice A4 an4 ac4, .slice A5 an5 ac5, .slice A6 an6 ac6] 43)).alloc (.cells #[.int .i64 kd, .string ⟨#[]⟩, .slice Y3 yn3 yc3, .slice Y4 yn4 yc4, .slice Y5 yn5 yc5, .slice Y6 yn6 yc6] 43)).alloc (.cells #[.func (.func 128) #[] #[]] 185))) w1) => cells6 (blk_below (show ((((w.alloc (.cells #[.int .i64 kd, .string ⟨#[]⟩, .slice A3 an3 ac3, .slice A4 an4 ac4, .slice A5 an5 ac5, .slice A6 an6 ac6] 43)).alloc (.cells #[.int .i64 kd, .string ⟨#[]⟩, .slice Y3 yn3 yc3, .slice Y4 yn4 yc4, .slice Y5 yn5 yc5, .slice Y6 yn6 yc6] 43)).alloc (.cells #[.func (.func 128) #[] #[]] 185))).heap[w.heap.size]? = some (.cells #[.int .i64 kd, .string ⟨#[]⟩, .slice A3 an3 ac3, .slice A4 an4 ac4, .slice A5 an5 ac5, .slice A6 an6 ac6] 43) from blk_below (blk_below (heap_alloc_new w _) alloc_old) alloc_old) hb))
  have C2 := Lib.hid (fun w1 (hb : Below ((((w.alloc (.cells #[.int .i64 kd, .string ⟨#[]⟩, .slice A3 an3 ac3, .slice A4 an4 ac4, .slice A5 an5 ac5, .slice A6 an6 ac6] 43)).alloc (.cells #[.int .i64 kd, .string ⟨#[]⟩, .slice Y3 yn3 yc3, .slice Y4 yn4 yc4, .slice Y5 yn5 yc5, .slice Y6 yn6 yc6] 43)).alloc (.cells #[.func (.func 128) #[] #[]] 185))).heap.size ((((w.alloc (.cells #[.int .i64 kd, .string ⟨#[]⟩, .slice A3 an3 ac3, .slice A4 an4 ac4, .slice A5 an5 ac5, .slice A6 an6 ac6] 43)).alloc (.cells #[.int .i64 kd, .string ⟨#[]⟩, .slice Y3 yn3 yc3, .slice Y4 yn4 yc4, .slice Y5 yn5 yc5, .slice Y6 yn6 yc6] 43)).alloc (.cells #[.func (.func 128) #[] #[]] 185))) w1) => cells6 (blk_below (show ((((w.alloc (.cells #[.int .i64 kd, .string ⟨#[]⟩, .slice A3 an3 ac3, .slice A4 an4 ac4, .slice A5 an5 ac5, .slice A6 an6 ac6] 43)).alloc (.cells #[.int .i64 kd, .string ⟨#[]⟩, .slice Y3 yn3 yc3, .slice Y4 yn4 yc4, .slice Y5 yn5 yc5, .slice Y6 yn6 yc6] 43)).alloc (.cells #[.func (.func 128) #[] #[]] 185))).heap[w.heap.size + 1]? = some (.cells #[.int .i64 kd, .string ⟨#[]⟩, .slice Y3 yn3 yc3, .slice Y4 yn4 yc4, .slice Y5 yn5 yc5, .slice Y6 yn6 yc6] 43) from blk_below (new_next w _ _) alloc_old) hb))
  have BA := Lib.hid (show Below w.heap.size w ((((w.alloc (.cells #[.int .i64 kd, .string ⟨#[]⟩, .slice A3 an3 ac3, .slice A4 an4 ac4, .slice A5 an5 ac5, .slice A6 an6 ac6] 43)).alloc (.cells #[.int .i64 kd, .string ⟨#[]⟩, .slice Y3 yn3 yc3, .slice Y4 yn4 yc4, .slice Y5 yn5 yc5, .slice Y6 yn6 yc6] 43)).alloc (.cells #[.func (.func 128) #[] #[]] 185))) from (alloc_old.trans (alloc_old.mono (by simp))).trans (alloc_old.mono (by simp; omega)))
  go_enter Tryz.func106, Tryz.ntmps106
  go_wp2_with (first | (go_at_call 130; (with_reducible refine (q6.out _ _ BA.out).mono ?_); rintro e w1 ⟨rfl, h1⟩; have B1 := Lib.hid h1; clear h1; refine Hid.out ?_))
  refine Lib.hid ?_
  have B2 := Lib.hid (BA.out.trans (B1.out.mono (Below.size BA.out)))
  obtain ⟨⟨a0, a1, a2, a3, a4, a5⟩, _⟩ := C1.out _ B1.out
  obtain ⟨⟨b0, b1, b2, b3, b4, b5⟩, _⟩ := C2.out _ B1.out
  have D := Lib.hid (show ∀ X, Below w1.heap.size w1 X → X.cell? ⟨w.heap.size, 3, none⟩ = some (.slice A4 an4 ac4) ∧ X.cell? ⟨w.heap.size, 4, none⟩ = some (.slice A5 an5 ac5) ∧ X.cell? ⟨w.heap.size + 1, 3, none⟩ = some (.slice Y4 yn4 yc4) ∧ X.cell? ⟨w.heap.size + 1, 4, none⟩ = some (.slice Y5 yn5 yc5) from fun X hb =>
    have x1 := (C1.out _ (belT B1.out hb)).1
    have x2 := (C2.out _ (belT B1.out hb)).1
    ⟨x1.2.2.2.1, x1.2.2.2.2.1, x2.2.2.2.1, x2.2.2.2.2.1⟩)
  go_wp2_with (first | (go_at_call 132; (with_reducible refine (q3.out _ B2.out).mono ?_); rintro e w2 ⟨rfl, h1⟩; have B3 := Lib.hid h1; have BX := Lib.hid (belT B2.out h1); clear h1; obtain ⟨x1, x2, x3, x4⟩ := D.out _ B3.out) | (go_at_call 133; (with_reducible refine (q4.out _ BX.out).mono ?_); rintro e w3 ⟨rfl, h1⟩; have B4 := Lib.hid (belT B3.out h1); have BY := Lib.hid (belT BX.out h1); clear h1; obtain ⟨y1, y2, y3, y4⟩ := D.out _ B4.out))
  go_ret
  exact ⟨by simp, BY.out⟩
set_option maxRecDepth 100000 in
set_option maxHeartbeats 4000000 in
theorem SameG_f5 (kd : Int) (A3 A4 A5 A6 : Option Addr) (an3 ac3 an4 ac4 an5 ac5 an6 ac6 : Nat) (Y3 Y4 Y5 Y6 : Option Addr) (yn3 yc3 yn4 yc4 yn5 yc5 yn6 yc6 : Nat) (w : World) (q3 : ∀ X, Below w.heap.size w X → Calls Tryz.prog 132 #[.slice A3 an3 ac3, .slice Y3 yn3 yc3] X fun e w' => e = .returned (.bool true) ∧ Below X.heap.size X w') (q4 : ∀ X, Below w.heap.size w X → Calls Tryz.prog 133 #[.slice A4 an4 ac4, .slice Y4 yn4 yc4] X fun e w' => e = .returned (.bool true) ∧ Below X.heap.size X w') (q5 : ∀ X, Below w.heap.size w X → Calls Tryz.prog 134 #[.slice A5 an5 ac5, .slice Y5 yn5 yc5] X fun e w' => e = .returned (.bool false) ∧ Below X.heap.size X w') (q6 : ∀ f X, Below w.heap.size w X → Calls Tryz.prog 130 #[.slice A6 an6 ac6, .slice Y6 yn6 yc6, f] X fun e w' => e = .returned (.bool true) ∧ Below X.heap.size X w') : Calls Tryz.prog 106 #[.agg #[.int .i64 kd, .string ⟨#[]⟩, .slice A3 an3 ac3, .slice A4 an4 ac4, .slice A5 an5 ac5, .slice A6 an6 ac6], .agg #[.int .i64 kd, .string ⟨#[]⟩, .slice Y3 yn3 yc3, .slice Y4 yn4 yc4, .slice Y5 yn5 yc5, .slice Y6 yn6 yc6]] w fun e w' => e = .returned (.bool false) ∧ Below w.heap.size w w' := by
  have hmf : ∀ (fn : Fn) (first cap : Array Value) (w : World), (Instr.makeFunc fn first cap).run Tryz.prog w = .ok (.func fn first cap) w := fun _ _ _ _ => rfl
  have hsf : ∀ (a : Addr) (f : Fn) (x y : Array Value) (w : World) (m : Mode), (store a (.func f x y) m).run Tryz.prog w = stored Tryz.prog w a (.func f x y) m := fun a f x y w m => run_store Tryz.prog w a _ m rfl
  have q3 := Lib.hid q3
  have q4 := Lib.hid q4
  have q5 := Lib.hid q5
  have q6 := Lib.hid q6
  have C1 := Lib.hid (fun w1 (hb : Below ((((w.alloc (.cells #[.int .i64 kd, .string ⟨#[]⟩, .slice A3 an3 ac3, .slice A4 an4 ac4, .slice A5 an5 ac5, .slice A6 an6 ac6] 43)).alloc (.cells #[.int .i64 kd, .string ⟨#[]⟩, .slice Y3 yn3 yc3, .slice Y4 yn4 yc4, .slice Y5 yn5 yc5, .slice Y6 yn6 yc6] 43)).alloc (.cells #[.func (.func 128) #[] #[]] 185))).heap.size ((((w.alloc (.cells #[.int .i64 kd, .string ⟨#[]⟩, .slice A3 an3 ac3, .slice A4 an4 ac4, .slice A5 an5 ac5, .slice A6 an6 ac6] 43)).alloc (.cells #[.int .i64 kd, .string ⟨#[]⟩, .slice Y3 yn3 yc3, .slice Y4 yn4 yc4, .slice Y5 yn5 yc5, .slice Y6 yn6 yc6] 43)).alloc (.cells #[.func (.func 128) #[] #[]] 185))) w1) => cells6 (blk_below (show ((((w.alloc (.cells #[.int .i64 kd, .string ⟨#[]⟩, .slice A3 an3 ac3, .slice A4 an4 ac4, .slice A5 an5 ac5, .slice A6 an6 ac6] 43)).alloc (.cells #[.int .i64 kd, .string ⟨#[]⟩, .slice Y3 yn3 yc3, .slice Y4 yn4 yc4, .slice Y5 yn5 yc5, .slice Y6 yn6 yc6] 43)).alloc (.cells #[.func (.func 128) #[] #[]] 185))).heap[w.heap.size]? = some (.cells #[.int .i64 kd, .string ⟨#[]⟩, .slice A3 an3 ac3, .slice A4 an4 ac4, .slice A5 an5 ac5, .slice A6 an6 ac6] 43) from blk_below (blk_below (heap_alloc_new w _) alloc_old) alloc_old) hb))
  have C2 := Lib.hid (fun w1 (hb : Below ((((w.alloc (.cells #[.int .i64 kd, .string ⟨#[]⟩, .slice A3 an3 ac3, .slice A4 an4 ac4, .slice A5 an5 ac5, .slice A6 an6 ac6] 43)).alloc (.cells #[.int .i64 kd, .string ⟨#[]⟩, .slice Y3 yn3 yc3, .slice Y4 yn4 yc4, .slice Y5 yn5 yc5, .slice Y6 yn6 yc6] 43)).alloc (.cells #[.func (.func 128) #[] #[]] 185))).heap.size ((((w.alloc (.cells #[.int .i64 kd, .string ⟨#[]⟩, .slice A3 an3 ac3, .slice A4 an4 ac4, .slice A5 an5 ac5, .slice A6 an6 ac6] 43)).alloc (.cells #[.int .i64 kd, .string ⟨#[]⟩, .slice Y3 yn3 yc3, .slice Y4 yn4 yc4, .slice Y5 yn5 yc5, .slice Y6 yn6 yc6] 43)).alloc (.cells #[.func (.func 128) #[] #[]] 185))) w1) => cells6 (blk_below (show ((((w.alloc (.cells #[.int .i64 kd, .string ⟨#[]⟩, .slice A3 an3 ac3, .slice A4 an4 ac4, .slice A5 an5 ac5, .slice A6 an6 ac6] 43)).alloc (.cells #[.int .i64 kd, .string ⟨#[]⟩, .slice Y3 yn3 yc3, .slice Y4 yn4 yc4, .slice Y5 yn5 yc5, .slice Y6 yn6 yc6] 43)).alloc (.cells #[.func (.func 128) #[] #[]] 185))).heap[w.heap.size + 1]? = some (.cells #[.int .i64 kd, .string ⟨#[]⟩, .slice Y3 yn3 yc3, .slice Y4 yn4 yc4, .slice Y5 yn5 yc5, .slice Y6 yn6 yc6] 43) from blk_below (new_next w _ _) alloc_old) hb))
  have BA := Lib.hid (show Below w.heap.size w ((((w.alloc (.cells #[.int .i64 kd, .string ⟨#[]⟩, .slice A3 an3 ac3, .slice A4 an4 ac4, .slice A5 an5 ac5, .slice A6 an6 ac6] 43)).alloc (.cells #[.int .i64 kd, .string ⟨#[]⟩, .slice Y3 yn3 yc3, .slice Y4 yn4 yc4, .slice Y5 yn5 yc5, .slice Y6 yn6 yc6] 43)).alloc (.cells #[.func (.func 128) #[] #[]] 185))) from (alloc_old.trans (alloc_old.mono (by simp))).trans (alloc_old.mono (by simp; omega)))
  go_enter Tryz.func106, Tryz.ntmps106
  go_wp2_with (first | (go_at_call 130; (with_reducible refine (q6.out _ _ BA.out).mono ?_); rintro e w1 ⟨rfl, h1⟩; have B1 := Lib.hid h1; clear h1; refine Hid.out ?_))
  refine Lib.hid ?_
  have B2 := Lib.hid (BA.out.trans (B1.out.mono (Below.size BA.out)))
  obtain ⟨⟨a0, a1, a2, a3, a4, a5⟩, _⟩ := C1.out _ B1.out
  obtain ⟨⟨b0, b1, b2, b3, b4, b5⟩, _⟩ := C2.out _ B1.out
  have D := Lib.hid (show ∀ X, Below w1.heap.size w1 X → X.cell? ⟨w.heap.size, 3, none⟩ = some (.slice A4 an4 ac4) ∧ X.cell? ⟨w.heap.size, 4, none⟩ = some (.slice A5 an5 ac5) ∧ X.cell? ⟨w.heap.size + 1, 3, none⟩ = some (.slice Y4 yn4 yc4) ∧ X.cell? ⟨w.heap.size + 1, 4, none⟩ = some (.slice Y5 yn5 yc5) from fun X hb =>
    have x1 := (C1.out _ (belT B1.out hb)).1
    have x2 := (C2.out _ (belT B1.out hb)).1
    ⟨x1.2.2.2.1, x1.2.2.2.2.1, x2.2.2.2.1, x2.2.2.2.2.1⟩)
  go_wp2_with (first | (go_at_call 132; (with_reducible refine (q3.out _ B2.out).mono ?_); rintro e w2 ⟨rfl, h1⟩; have B3 := Lib.hid h1; have BX := Lib.hid (belT B2.out h1); clear h1; obtain ⟨x1, x2, x3, x4⟩ := D.out _ B3.out) | (go_at_call 133; (with_reducible refine (q4.out _ BX.out).mono ?_); rintro e w3 ⟨rfl, h1⟩; have B4 := Lib.hid (belT B3.out h1); have BY := Lib.hid (belT BX.out h1); clear h1; obtain ⟨y1, y2, y3, y4⟩ := D.out _ B4.out) | (go_at_call 134; (with_reducible refine (q5.out _ BY.out).mono ?_); rintro e w4 ⟨rfl, h1⟩; have BZ := Lib.hid (belT BY.out h1); clear h1))
  go_ret
  exact ⟨by simp, BZ.out⟩
set_option maxRecDepth 100000 in
set_option maxHeartbeats 4000000 in
theorem SameG_f6 (kd : Int) (A3 A4 A5 A6 : Option Addr) (an3 ac3 an4 ac4 an5 ac5 an6 ac6 : Nat) (Y3 Y4 Y5 Y6 : Option Addr) (yn3 yc3 yn4 yc4 yn5 yc5 yn6 yc6 : Nat) (w : World) (q3 : ∀ X, Below w.heap.size w X → Calls Tryz.prog 132 #[.slice A3 an3 ac3, .slice Y3 yn3 yc3] X fun e w' => e = .returned (.bool true) ∧ Below X.heap.size X w') (q4 : ∀ X, Below w.heap.size w X → Calls Tryz.prog 133 #[.slice A4 an4 ac4, .slice Y4 yn4 yc4] X fun e w' => e = .returned (.bool true) ∧ Below X.heap.size X w') (q5 : ∀ X, Below w.heap.size w X → Calls Tryz.prog 134 #[.slice A5 an5 ac5, .slice Y5 yn5 yc5] X fun e w' => e = .returned (.bool true) ∧ Below X.heap.size X w') (q6 : ∀ f X, Below w.heap.size w X → Calls Tryz.prog 130 #[.slice A6 an6 ac6, .slice Y6 yn6 yc6, f] X fun e w' => e = .returned (.bool false) ∧ Below X.heap.size X w') : Calls Tryz.prog 106 #[.agg #[.int .i64 kd, .string ⟨#[]⟩, .slice A3 an3 ac3, .slice A4 an4 ac4, .slice A5 an5 ac5, .slice A6 an6 ac6], .agg #[.int .i64 kd, .string ⟨#[]⟩, .slice Y3 yn3 yc3, .slice Y4 yn4 yc4, .slice Y5 yn5 yc5, .slice Y6 yn6 yc6]] w fun e w' => e = .returned (.bool false) ∧ Below w.heap.size w w' := by
  have hmf : ∀ (fn : Fn) (first cap : Array Value) (w : World), (Instr.makeFunc fn first cap).run Tryz.prog w = .ok (.func fn first cap) w := fun _ _ _ _ => rfl
  have hsf : ∀ (a : Addr) (f : Fn) (x y : Array Value) (w : World) (m : Mode), (store a (.func f x y) m).run Tryz.prog w = stored Tryz.prog w a (.func f x y) m := fun a f x y w m => run_store Tryz.prog w a _ m rfl
  have q3 := Lib.hid q3
  have q4 := Lib.hid q4
  have q5 := Lib.hid q5
  have q6 := Lib.hid q6
  have C1 := Lib.hid (fun w1 (hb : Below ((((w.alloc (.cells #[.int .i64 kd, .string ⟨#[]⟩, .slice A3 an3 ac3, .slice A4 an4 ac4, .slice A5 an5 ac5, .slice A6 an6 ac6] 43)).alloc (.cells #[.int .i64 kd, .string ⟨#[]⟩, .slice Y3 yn3 yc3, .slice Y4 yn4 yc4, .slice Y5 yn5 yc5, .slice Y6 yn6 yc6] 43)).alloc (.cells #[.func (.func 128) #[] #[]] 185))).heap.size ((((w.alloc (.cells #[.int .i64 kd, .string ⟨#[]⟩, .slice A3 an3 ac3, .slice A4 an4 ac4, .slice A5 an5 ac5, .slice A6 an6 ac6] 43)).alloc (.cells #[.int .i64 kd, .string ⟨#[]⟩, .slice Y3 yn3 yc3, .slice Y4 yn4 yc4, .slice Y5 yn5 yc5, .slice Y6 yn6 yc6] 43)).alloc (.cells #[.func (.func 128) #[] #[]] 185))) w1) => cells6 (blk_below (show ((((w.alloc (.cells #[.int .i64 kd, .string ⟨#[]⟩, .slice A3 an3 ac3, .slice A4 an4 ac4, .slice A5 an5 ac5, .slice A6 an6 ac6] 43)).alloc (.cells #[.int .i64 kd, .string ⟨#[]⟩, .slice Y3 yn3 yc3, .slice Y4 yn4 yc4, .slice Y5 yn5 yc5, .slice Y6 yn6 yc6] 43)).alloc (.cells #[.func (.func 128) #[] #[]] 185))).heap[w.heap.size]? = some (.cells #[.int .i64 kd, .string ⟨#[]⟩, .slice A3 an3 ac3, .slice A4 an4 ac4, .slice A5 an5 ac5, .slice A6 an6 ac6] 43) from blk_below (blk_below (heap_alloc_new w _) alloc_old) alloc_old) hb))
  have C2 := Lib.hid (fun w1 (hb : Below ((((w.alloc (.cells #[.int .i64 kd, .string ⟨#[]⟩, .slice A3 an3 ac3, .slice A4 an4 ac4, .slice A5 an5 ac5, .slice A6 an6 ac6] 43)).alloc (.cells #[.int .i64 kd, .string ⟨#[]⟩, .slice Y3 yn3 yc3, .slice Y4 yn4 yc4, .slice Y5 yn5 yc5, .slice Y6 yn6 yc6] 43)).alloc (.cells #[.func (.func 128) #[] #[]] 185))).heap.size ((((w.alloc (.cells #[.int .i64 kd, .string ⟨#[]⟩, .slice A3 an3 ac3, .slice A4 an4 ac4, .slice A5 an5 ac5, .slice A6 an6 ac6] 43)).alloc (.cells #[.int .i64 kd, .string ⟨#[]⟩, .slice Y3 yn3 yc3, .slice Y4 yn4 yc4, .slice Y5 yn5 yc5, .slice Y6 yn6 yc6] 43)).alloc (.cells #[.func (.func 128) #[] #[]] 185))) w1) => cells6 (blk_below (show ((((w.alloc (.cells #[.int .i64 kd, .string ⟨#[]⟩, .slice A3 an3 ac3, .slice A4 an4 ac4, .slice A5 an5 ac5, .slice A6 an6 ac6] 43)).alloc (.cells #[.int .i64 kd, .string ⟨#[]⟩, .slice Y3 yn3 yc3, .slice Y4 yn4 yc4, .slice Y5 yn5 yc5, .slice Y6 yn6 yc6] 43)).alloc (.cells #[.func (.func 128) #[] #[]] 185))).heap[w.heap.size + 1]? = some (.cells #[.int .i64 kd, .string ⟨#[]⟩, .slice Y3 yn3 yc3, .slice Y4 yn4 yc4, .slice Y5 yn5 yc5, .slice Y6 yn6 yc6] 43) from blk_below (new_next w _ _) alloc_old) hb))
  have BA := Lib.hid (show Below w.heap.size w ((((w.alloc (.cells #[.int .i64 kd, .string ⟨#[]⟩, .slice A3 an3 ac3, .slice A4 an4 ac4, .slice A5 an5 ac5, .slice A6 an6 ac6] 43)).alloc (.cells #[.int .i64 kd, .string ⟨#[]⟩, .slice Y3 yn3 yc3, .slice Y4 yn4 yc4, .slice Y5 yn5 yc5, .slice Y6 yn6 yc6] 43)).alloc (.cells #[.func (.func 128) #[] #[]] 185))) from (alloc_old.trans (alloc_old.mono (by simp))).trans (alloc_old.mono (by simp; omega)))
  go_enter Tryz.func106, Tryz.ntmps106
  go_wp2_with (first | (go_at_call 130; (with_reducible refine (q6.out _ _ BA.out).mono ?_); rintro e w1 ⟨rfl, h1⟩; have B1 := Lib.hid h1; clear h1; refine Hid.out ?_))
  refine Lib.hid ?_
  have B2 := Lib.hid (BA.out.trans (B1.out.mono (Below.size BA.out)))
  obtain ⟨⟨a0, a1, a2, a3, a4, a5⟩, _⟩ := C1.out _ B1.out
  obtain ⟨⟨b0, b1, b2, b3, b4, b5⟩, _⟩ := C2.out _ B1.out
  have D := Lib.hid (show ∀ X, Below w1.heap.size w1 X → X.cell? ⟨w.heap.size, 3, none⟩ = some (.slice A4 an4 ac4) ∧ X.cell? ⟨w.heap.size, 4, none⟩ = some (.slice A5 an5 ac5) ∧ X.cell? ⟨w.heap.size + 1, 3, none⟩ = some (.slice Y4 yn4 yc4) ∧ X.cell? ⟨w.heap.size + 1, 4, none⟩ = some (.slice Y5 yn5 yc5) from fun X hb =>
    have x1 := (C1.out _ (belT B1.out hb)).1
    have x2 := (C2.out _ (belT B1.out hb)).1
    ⟨x1.2.2.2.1, x1.2.2.2.2.1, x2.2.2.2.1, x2.2.2.2.2.1⟩)
  go_wp2_with (first | (go_at_call 132; (with_reducible refine (q3.out _ B2.out).mono ?_); rintro e w2 ⟨rfl, h1⟩; have B3 := Lib.hid h1; have BX := Lib.hid (belT B2.out h1); clear h1; obtain ⟨x1, x2, x3, x4⟩ := D.out _ B3.out) | (go_at_call 133; (with_reducible refine (q4.out _ BX.out).mono ?_); rintro e w3 ⟨rfl, h1⟩; have B4 := Lib.hid (belT B3.out h1); have BY := Lib.hid (belT BX.out h1); clear h1; obtain ⟨y1, y2, y3, y4⟩ := D.out _ B4.out) | (go_at_call 134; (with_reducible refine (q5.out _ BY.out).mono ?_); rintro e w4 ⟨rfl, h1⟩; have BZ := Lib.hid (belT BY.out h1); clear h1))
  go_ret
  exact ⟨by simp, BZ.out⟩
end Go.Proofs.YtjljljjmdlddkaaGreat
