/- Texts joined: EqS, G11, KS1, KS2 -/
import Derived.Test.YticlacjpgjkhcaaGreatDoorQs24
import Derived.Test.YticlacjpgjkhcaaGreatDoorQs7
import Derived.Test.YticlacjpgjkhcaaGreatDoorQs13
import Derived.Test.YticlacjpgjkhcaaGreatDoorQs15
set_option linter.unusedVariables false
set_option linter.unusedSimpArgs false

/- Values of kind S: which are equal. -/
namespace Go.Proofs.YticlacjpgjkhcaaGreatDoor
open Go.ChangeShapes Go.WideShapes Go.ChangeAt Go.RowKit

set_option maxRecDepth 100000 in
set_option maxHeartbeats 4000000 in
theorem EqS_len (A B : Option Addr) (n C m E : Nat) (hne : n ≠ m) (w : World) : Calls Tryz.prog 234 #[.slice A n C, .slice B m E] w fun e w' => e = .returned (.bool false) ∧ Below w.heap.size w w' := by
  have q : ¬ ((n : Int) = (m : Int)) := by omega
  go_enter Tryz.func234, Tryz.ntmps234
  go_wp2
  exact bodyPost_ret (v := .bool false) (by simp [results, Tryz.results234, go_sem]) rfl ⟨rfl, Below.refl _ _⟩
set_option maxRecDepth 100000 in
set_option maxHeartbeats 4000000 in
theorem EqS (A B : Option Addr) (n C E c c' : Nat) (l r : List (ByteArray × Int)) (hl : l.length = n) (hr : r.length = n) (h1 : 1 ≤ n) (_hm : n ≤ 9223372036854775807) (w : World) (h : RS w c (.slice A n C) l) (h' : RS w c' (.slice B n E) r) : Calls Tryz.prog 234 #[.slice A n C, .slice B n E] w fun e w' => e = .returned (.bool (decide (l = r))) ∧ Below w.heap.size w w' := by
  obtain ⟨g, C', hA, hC⟩ := h.form (by intro e; rw [e] at hl; simp at hl; omega)
  have hA' : A = some ⟨g, 0, none⟩ := by injection hA
  subst hA'
  obtain ⟨g2, C2, hB, hC2⟩ := h'.form (by intro e; rw [e] at hr; simp at hr; omega)
  have hB' : B = some ⟨g2, 0, none⟩ := by injection hB
  subst hB'
  clear hA hC hB hC2
  have HR := Lib.hid h
  have HS := Lib.hid h'
  have HL := Lib.hid hl
  have HT := Lib.hid hr
  clear h h' hl hr
  go_enter Tryz.func234, Tryz.ntmps234
  go_wp2
  go_loopw [13] (fun iv wr => ∃ i : Nat, i ≤ n ∧ iv = .int .i64 i ∧ Hid (Below w.heap.size w wr) ∧ Hid (∀ j, j < i → l[j]? = r[j]?)) (fun iv _ => n - (iOfL iv).toNat)
  case atStart => exact ⟨0, Nat.zero_le _, rfl, Lib.hid (Below.refl _ _), Lib.hid (fun j hj => absurd hj (Nat.not_lt_zero _))⟩
  case round =>
    obtain ⟨i, hi, rfl, HB, HJ⟩ := hrel
    by_cases hlt : i < n
    · obtain ⟨p, hp⟩ : ∃ p, l[i]? = some p := ⟨_, List.getElem?_eq_getElem (by rw [HL.out]; omega)⟩
      obtain ⟨q, hq⟩ : ∃ q, r[i]? = some q := ⟨_, List.getElem?_eq_getElem (by rw [HT.out]; omega)⟩
      obtain ⟨d0, d1⟩ := (HR.out.below HB.out.drew).at HL.out i p hp
      obtain ⟨e0, e1⟩ := (HS.out.below HB.out.drew).at HT.out i q hq
      have q3 : (i : Int) < (n : Int) := by omega
      have HN := Lib.hid (fun (e : p = q) (j : Nat) (hj : j < i + 1) => show l[j]? = r[j]? from by
        by_cases hji : j < i
        · exact HJ.out j hji
        · obtain rfl : j = i := by omega
          rw [hp, hq, e])
      have HNo := Lib.hid (fun (e : l = r) => show p = q from by rw [e, hq] at hp; exact (Option.some.inj hp).symm)
      clear hp hq
      have hstop := ()
      have w1 : IntKind.i64.wrap (i : Int) = (i : Int) := IntWalk.i64_in _ (by omega)
      have TLI : ∀ x y : ByteArray, x.toList = y.toList → x = y := fun x y e => Go.WideShapes.bytes_inj (by rw [ByteArray.toList_eq, ByteArray.toList_eq] at e; exact e)
      by_cases z1 : p.1.toList = q.1.toList
      · by_cases z2 : p.2 = q.2
        · have HJ2 := Lib.hid (HN.out (Prod.ext (TLI _ _ z1) z2))
          clear TLI
          go_wp2
          go_region
          go_wp2
          exact ⟨⟨i + 1, by omega, by go_num, Lib.hid HB.out.drew, HJ2⟩, by simp [iOfL]; omega⟩
        · have hne : l ≠ r := fun e => z2 (by rw [HNo.out e])
          clear TLI
          go_wp2
          go_region
          go_wp2
          go_ret
          exact ⟨by simp [hne], HB.out.drew⟩
      · have hne : l ≠ r := fun e => z1 (by rw [HNo.out e])
        clear TLI
        go_wp2
        go_region
        go_wp2
        go_ret
        exact ⟨by simp [hne], HB.out.drew⟩
    · obtain rfl : n = i := by omega
      have q1 : ¬ (n : Int) < (n : Int) := by omega
      have hlr : l = r := List.ext_getElem? fun j => by
        by_cases hj : j < n
        · exact HJ.out j hj
        · rw [List.getElem?_eq_none (by rw [HL.out]; omega), List.getElem?_eq_none (by rw [HT.out]; omega)]
      have HLR := Lib.hid hlr
      clear hlr
      go_wp2
      go_ret
      exact ⟨by simp [HLR.out], HB.out⟩
end Go.Proofs.YticlacjpgjkhcaaGreatDoor

/- Two values of a kind but a text are the same: by what the four comparisons say. -/
namespace Go.Proofs.YticlacjpgjkhcaaGreatDoor
open Go.ChangeShapes Go.WideShapes Go.ChangeAt Go.RowKit

set_option maxRecDepth 100000 in
set_option maxHeartbeats 4000000 in
theorem SameG_true (kd : Int) (A3 A4 A5 A6 : Option Addr) (an3 ac3 an4 ac4 an5 ac5 an6 ac6 : Nat) (Y3 Y4 Y5 Y6 : Option Addr) (yn3 yc3 yn4 yc4 yn5 yc5 yn6 yc6 : Nat) (w : World) (q3 : ∀ X, Below w.heap.size w X → Calls Tryz.prog 232 #[.slice A3 an3 ac3, .slice Y3 yn3 yc3] X fun e w' => e = .returned (.bool true) ∧ Below X.heap.size X w') (q4 : ∀ X, Below w.heap.size w X → Calls Tryz.prog 233 #[.slice A4 an4 ac4, .slice Y4 yn4 yc4] X fun e w' => e = .returned (.bool true) ∧ Below X.heap.size X w') (q5 : ∀ X, Below w.heap.size w X → Calls Tryz.prog 234 #[.slice A5 an5 ac5, .slice Y5 yn5 yc5] X fun e w' => e = .returned (.bool true) ∧ Below X.heap.size X w') (q6 : ∀ f X, Below w.heap.size w X → Calls Tryz.prog 230 #[.slice A6 an6 ac6, .slice Y6 yn6 yc6, f] X fun e w' => e = .returned (.bool true) ∧ Below X.heap.size X w') : Calls Tryz.prog 211 #[.agg #[.int .i64 kd, .string ⟨#[]⟩, .slice A3 an3 ac3, .slice A4 an4 ac4, .slice A5 an5 ac5, .slice A6 an6 ac6], .agg #[.int .i64 kd, .string ⟨#[]⟩, .slice Y3 yn3 yc3, .slice Y4 yn4 yc4, .slice Y5 yn5 yc5, .slice Y6 yn6 yc6]] w fun e w' => e = .returned (.bool true) ∧ Below w.heap.size w w' := by
  have hmf : ∀ (fn : Fn) (first cap : Array Value) (w : World), (Instr.makeFunc fn first cap).run Tryz.prog w = .ok (.func fn first cap) w := fun _ _ _ _ => rfl
  have hsf : ∀ (a : Addr) (f : Fn) (x y : Array Value) (w : World) (m : Mode), (store a (.func f x y) m).run Tryz.prog w = stored Tryz.prog w a (.func f x y) m := fun a f x y w m => run_store Tryz.prog w a _ m rfl
  have q3 := Lib.hid q3
  have q4 := Lib.hid q4
  have q5 := Lib.hid q5
  have q6 := Lib.hid q6
  have C1 := Lib.hid (fun w1 (hb : Below ((((w.alloc (.cells #[.int .i64 kd, .string ⟨#[]⟩, .slice A3 an3 ac3, .slice A4 an4 ac4, .slice A5 an5 ac5, .slice A6 an6 ac6] 64)).alloc (.cells #[.int .i64 kd, .string ⟨#[]⟩, .slice Y3 yn3 yc3, .slice Y4 yn4 yc4, .slice Y5 yn5 yc5, .slice Y6 yn6 yc6] 64)).alloc (.cells #[.func (.func 228) #[] #[]] 256))).heap.size ((((w.alloc (.cells #[.int .i64 kd, .string ⟨#[]⟩, .slice A3 an3 ac3, .slice A4 an4 ac4, .slice A5 an5 ac5, .slice A6 an6 ac6] 64)).alloc (.cells #[.int .i64 kd, .string ⟨#[]⟩, .slice Y3 yn3 yc3, .slice Y4 yn4 yc4, .slice Y5 yn5 yc5, .slice Y6 yn6 yc6] 64)).alloc (.cells #[.func (.func 228) #[] #[]] 256))) w1) => cells6 (blk_below (show ((((w.alloc (.cells #[.int .i64 kd, .string ⟨#[]⟩, .slice A3 an3 ac3, .slice A4 an4 ac4, .slice A5 an5 ac5, .slice A6 an6 ac6] 64)).alloc (.cells #[.int .i64 kd, .string ⟨#[]⟩, .slice Y3 yn3 yc3, .slice Y4 yn4 yc4, .slice Y5 yn5 yc5, .slice Y6 yn6 yc6] 64)).alloc (.cells #[.func (.func 228) #[] #[]] 256))).heap[w.heap.size]? = some (.cells #[.int .i64 kd, .string ⟨#[]⟩, .slice A3 an3 ac3, .slice A4 an4 ac4, .slice A5 an5 ac5, .slice A6 an6 ac6] 64) from blk_below (blk_below (heap_alloc_new w _) alloc_old) alloc_old) hb))
  have C2 := Lib.hid (fun w1 (hb : Below ((((w.alloc (.cells #[.int .i64 kd, .string ⟨#[]⟩, .slice A3 an3 ac3, .slice A4 an4 ac4, .slice A5 an5 ac5, .slice A6 an6 ac6] 64)).alloc (.cells #[.int .i64 kd, .string ⟨#[]⟩, .slice Y3 yn3 yc3, .slice Y4 yn4 yc4, .slice Y5 yn5 yc5, .slice Y6 yn6 yc6] 64)).alloc (.cells #[.func (.func 228) #[] #[]] 256))).heap.size ((((w.alloc (.cells #[.int .i64 kd, .string ⟨#[]⟩, .slice A3 an3 ac3, .slice A4 an4 ac4, .slice A5 an5 ac5, .slice A6 an6 ac6] 64)).alloc (.cells #[.int .i64 kd, .string ⟨#[]⟩, .slice Y3 yn3 yc3, .slice Y4 yn4 yc4, .slice Y5 yn5 yc5, .slice Y6 yn6 yc6] 64)).alloc (.cells #[.func (.func 228) #[] #[]] 256))) w1) => cells6 (blk_below (show ((((w.alloc (.cells #[.int .i64 kd, .string ⟨#[]⟩, .slice A3 an3 ac3, .slice A4 an4 ac4, .slice A5 an5 ac5, .slice A6 an6 ac6] 64)).alloc (.cells #[.int .i64 kd, .string ⟨#[]⟩, .slice Y3 yn3 yc3, .slice Y4 yn4 yc4, .slice Y5 yn5 yc5, .slice Y6 yn6 yc6] 64)).alloc (.cells #[.func (.func 228) #[] #[]] 256))).heap[w.heap.size + 1]? = some (.cells #[.int .i64 kd, .string ⟨#[]⟩, .slice Y3 yn3 yc3, .slice Y4 yn4 yc4, .slice Y5 yn5 yc5, .slice Y6 yn6 yc6] 64) from blk_below (new_next w _ _) alloc_old) hb))
  have BA := Lib.hid (show Below w.heap.size w ((((w.alloc (.cells #[.int .i64 kd, .string ⟨#[]⟩, .slice A3 an3 ac3, .slice A4 an4 ac4, .slice A5 an5 ac5, .slice A6 an6 ac6] 64)).alloc (.cells #[.int .i64 kd, .string ⟨#[]⟩, .slice Y3 yn3 yc3, .slice Y4 yn4 yc4, .slice Y5 yn5 yc5, .slice Y6 yn6 yc6] 64)).alloc (.cells #[.func (.func 228) #[] #[]] 256))) from (alloc_old.trans (alloc_old.mono (by simp))).trans (alloc_old.mono (by simp; omega)))
  go_enter Tryz.func211, Tryz.ntmps211
  go_wp2_with (first | (go_at_call 230; (with_reducible refine (q6.out _ _ BA.out).mono ?_); rintro e w1 ⟨rfl, h1⟩; have B1 := Lib.hid h1; clear h1; refine Hid.out ?_))
  refine Lib.hid ?_
  have B2 := Lib.hid (BA.out.trans (B1.out.mono (Below.size BA.out)))
  obtain ⟨⟨a0, a1, a2, a3, a4, a5⟩, _⟩ := C1.out _ B1.out
  obtain ⟨⟨b0, b1, b2, b3, b4, b5⟩, _⟩ := C2.out _ B1.out
  have D := Lib.hid (show ∀ X, Below w1.heap.size w1 X → X.cell? ⟨w.heap.size, 3, none⟩ = some (.slice A4 an4 ac4) ∧ X.cell? ⟨w.heap.size, 4, none⟩ = some (.slice A5 an5 ac5) ∧ X.cell? ⟨w.heap.size + 1, 3, none⟩ = some (.slice Y4 yn4 yc4) ∧ X.cell? ⟨w.heap.size + 1, 4, none⟩ = some (.slice Y5 yn5 yc5) from fun X hb =>
    have x1 := (C1.out _ (belT B1.out hb)).1
    have x2 := (C2.out _ (belT B1.out hb)).1
    ⟨x1.2.2.2.1, x1.2.2.2.2.1, x2.2.2.2.1, x2.2.2.2.2.1⟩)
  go_wp2_with (first | (go_at_call 232; (with_reducible refine (q3.out _ B2.out).mono ?_); rintro e w2 ⟨rfl, h1⟩; have B3 := Lib.hid h1; have BX := Lib.hid (belT B2.out h1); clear h1; obtain ⟨x1, x2, x3, x4⟩ := D.out _ B3.out) | (go_at_call 233; (with_reducible refine (q4.out _ BX.out).mono ?_); rintro e w3 ⟨rfl, h1⟩; have B4 := Lib.hid (belT B3.out h1); have BY := Lib.hid (belT BX.out h1); clear h1; obtain ⟨y1, y2, y3, y4⟩ := D.out _ B4.out) | (go_at_call 234; (with_reducible refine (q5.out _ BY.out).mono ?_); rintro e w4 ⟨rfl, h1⟩; have BZ := Lib.hid (belT BY.out h1); clear h1))
  go_ret
  exact ⟨by simp, BZ.out⟩
set_option maxRecDepth 100000 in
set_option maxHeartbeats 4000000 in
theorem SameG_f3 (kd : Int) (A3 A4 A5 A6 : Option Addr) (an3 ac3 an4 ac4 an5 ac5 an6 ac6 : Nat) (Y3 Y4 Y5 Y6 : Option Addr) (yn3 yc3 yn4 yc4 yn5 yc5 yn6 yc6 : Nat) (w : World) (q3 : ∀ X, Below w.heap.size w X → Calls Tryz.prog 232 #[.slice A3 an3 ac3, .slice Y3 yn3 yc3] X fun e w' => e = .returned (.bool false) ∧ Below X.heap.size X w') (q6 : ∀ f X, Below w.heap.size w X → Calls Tryz.prog 230 #[.slice A6 an6 ac6, .slice Y6 yn6 yc6, f] X fun e w' => e = .returned (.bool true) ∧ Below X.heap.size X w') : Calls Tryz.prog 211 #[.agg #[.int .i64 kd, .string ⟨#[]⟩, .slice A3 an3 ac3, .slice A4 an4 ac4, .slice A5 an5 ac5, .slice A6 an6 ac6], .agg #[.int .i64 kd, .string ⟨#[]⟩, .slice Y3 yn3 yc3, .slice Y4 yn4 yc4, .slice Y5 yn5 yc5, .slice Y6 yn6 yc6]] w fun e w' => e = .returned (.bool false) ∧ Below w.heap.size w w' := by
  have hmf : ∀ (fn : Fn) (first cap : Array Value) (w : World), (Instr.makeFunc fn first cap).run Tryz.prog w = .ok (.func fn first cap) w := fun _ _ _ _ => rfl
  have hsf : ∀ (a : Addr) (f : Fn) (x y : Array Value) (w : World) (m : Mode), (store a (.func f x y) m).run Tryz.prog w = stored Tryz.prog w a (.func f x y) m := fun a f x y w m => run_store Tryz.prog w a _ m rfl
  have q3 := Lib.hid q3
  have q6 := Lib.hid q6
  have C1 := Lib.hid (fun w1 (hb : Below ((((w.alloc (.cells #[.int .i64 kd, .string ⟨#[]⟩, .slice A3 an3 ac3, .slice A4 an4 ac4, .slice A5 an5 ac5, .slice A6 an6 ac6] 64)).alloc (.cells #[.int .i64 kd, .string ⟨#[]⟩, .slice Y3 yn3 yc3, .slice Y4 yn4 yc4, .slice Y5 yn5 yc5, .slice Y6 yn6 yc6] 64)).alloc (.cells #[.func (.func 228) #[] #[]] 256))).heap.size ((((w.alloc (.cells #[.int .i64 kd, .string ⟨#[]⟩, .slice A3 an3 ac3, .slice A4 an4 ac4, .slice A5 an5 ac5, .slice A6 an6 ac6] 64)).alloc (.cells #[.int .i64 kd, .string ⟨#[]⟩, .slice Y3 yn3 yc3, .slice Y4 yn4 yc4, .slice Y5 yn5 yc5, .slice Y6 yn6 yc6] 64)).alloc (.cells #[.func (.func 228) #[] #[]] 256))) w1) => cells6 (blk_below (show ((((w.alloc (.cells #[.int .i64 kd, .string ⟨#[]⟩, .slice A3 an3 ac3, .slice A4 an4 ac4, .slice A5 an5 ac5, .slice A6 an6 ac6] 64)).alloc (.cells #[.int .i64 kd, .string ⟨#[]⟩, .slice Y3 yn3 yc3, .slice Y4 yn4 yc4, .slice Y5 yn5 yc5, .slice Y6 yn6 yc6] 64)).alloc (.cells #[.func (.func 228) #[] #[]] 256))).heap[w.heap.size]? = some (.cells #[.int .i64 kd, .string ⟨#[]⟩, .slice A3 an3 ac3, .slice A4 an4 ac4, .slice A5 an5 ac5, .slice A6 an6 ac6] 64) from blk_below (blk_below (heap_alloc_new w _) alloc_old) alloc_old) hb))
  have C2 := Lib.hid (fun w1 (hb : Below ((((w.alloc (.cells #[.int .i64 kd, .string ⟨#[]⟩, .slice A3 an3 ac3, .slice A4 an4 ac4, .slice A5 an5 ac5, .slice A6 an6 ac6] 64)).alloc (.cells #[.int .i64 kd, .string ⟨#[]⟩, .slice Y3 yn3 yc3, .slice Y4 yn4 yc4, .slice Y5 yn5 yc5, .slice Y6 yn6 yc6] 64)).alloc (.cells #[.func (.func 228) #[] #[]] 256))).heap.size ((((w.alloc (.cells #[.int .i64 kd, .string ⟨#[]⟩, .slice A3 an3 ac3, .slice A4 an4 ac4, .slice A5 an5 ac5, .slice A6 an6 ac6] 64)).alloc (.cells #[.int .i64 kd, .string ⟨#[]⟩, .slice Y3 yn3 yc3, .slice Y4 yn4 yc4, .slice Y5 yn5 yc5, .slice Y6 yn6 yc6] 64)).alloc (.cells #[.func (.func 228) #[] #[]] 256))) w1) => cells6 (blk_below (show ((((w.alloc (.cells #[.int .i64 kd, .string ⟨#[]⟩, .slice A3 an3 ac3, .slice A4 an4 ac4, .slice A5 an5 ac5, .slice A6 an6 ac6] 64)).alloc (.cells #[.int .i64 kd, .string ⟨#[]⟩, .slice Y3 yn3 yc3, .slice Y4 yn4 yc4, .slice Y5 yn5 yc5, .slice Y6 yn6 yc6] 64)).alloc (.cells #[.func (.func 228) #[] #[]] 256))).heap[w.heap.size + 1]? = some (.cells #[.int .i64 kd, .string ⟨#[]⟩, .slice Y3 yn3 yc3, .slice Y4 yn4 yc4, .slice Y5 yn5 yc5, .slice Y6 yn6 yc6] 64) from blk_below (new_next w _ _) alloc_old) hb))
  have BA := Lib.hid (show Below w.heap.size w ((((w.alloc (.cells #[.int .i64 kd, .string ⟨#[]⟩, .slice A3 an3 ac3, .slice A4 an4 ac4, .slice A5 an5 ac5, .slice A6 an6 ac6] 64)).alloc (.cells #[.int .i64 kd, .string ⟨#[]⟩, .slice Y3 yn3 yc3, .slice Y4 yn4 yc4, .slice Y5 yn5 yc5, .slice Y6 yn6 yc6] 64)).alloc (.cells #[.func (.func 228) #[] #[]] 256))) from (alloc_old.trans (alloc_old.mono (by simp))).trans (alloc_old.mono (by simp; omega)))
  go_enter Tryz.func211, Tryz.ntmps211
  go_wp2_with (first | (go_at_call 230; (with_reducible refine (q6.out _ _ BA.out).mono ?_); rintro e w1 ⟨rfl, h1⟩; have B1 := Lib.hid h1; clear h1; refine Hid.out ?_))
  refine Lib.hid ?_
  have B2 := Lib.hid (BA.out.trans (B1.out.mono (Below.size BA.out)))
  obtain ⟨⟨a0, a1, a2, a3, a4, a5⟩, _⟩ := C1.out _ B1.out
  obtain ⟨⟨b0, b1, b2, b3, b4, b5⟩, _⟩ := C2.out _ B1.out
  have D := Lib.hid (show ∀ X, Below w1.heap.size w1 X → X.cell? ⟨w.heap.size, 3, none⟩ = some (.slice A4 an4 ac4) ∧ X.cell? ⟨w.heap.size, 4, none⟩ = some (.slice A5 an5 ac5) ∧ X.cell? ⟨w.heap.size + 1, 3, none⟩ = some (.slice Y4 yn4 yc4) ∧ X.cell? ⟨w.heap.size + 1, 4, none⟩ = some (.slice Y5 yn5 yc5) from fun X hb =>
    have x1 := (C1.out _ (belT B1.out hb)).1
    have x2 := (C2.out _ (belT B1.out hb)).1
    ⟨x1.2.2.2.1, x1.2.2.2.2.1, x2.2.2.2.1, x2.2.2.2.2.1⟩)
  go_wp2_with (first | (go_at_call 232; (with_reducible refine (q3.out _ B2.out).mono ?_); rintro e w2 ⟨rfl, h1⟩; have B3 := Lib.hid h1; have BX := Lib.hid (belT B2.out h1); clear h1; obtain ⟨x1, x2, x3, x4⟩ := D.out _ B3.out))
  go_ret
  exact ⟨by simp, BX.out⟩
set_option maxRecDepth 100000 in
set_option maxHeartbeats 4000000 in
theorem SameG_f4 (kd : Int) (A3 A4 A5 A6 : Option Addr) (an3 ac3 an4 ac4 an5 ac5 an6 ac6 : Nat) (Y3 Y4 Y5 Y6 : Option Addr) (yn3 yc3 yn4 yc4 yn5 yc5 yn6 yc6 : Nat) (w : World) (q3 : ∀ X, Below w.heap.size w X → Calls Tryz.prog 232 #[.slice A3 an3 ac3, .slice Y3 yn3 yc3] X fun e w' => e = .returned (.bool true) ∧ Below X.heap.size X w') (q4 : ∀ X, Below w.heap.size w X → Calls Tryz.prog 233 #[.slice A4 an4 ac4, .slice Y4 yn4 yc4] X fun e w' => e = .returned (.bool false) ∧ Below X.heap.size X w') (q6 : ∀ f X, Below w.heap.size w X → Calls Tryz.prog 230 #[.slice A6 an6 ac6, .slice Y6 yn6 yc6, f] X fun e w' => e = .returned (.bool true) ∧ Below X.heap.size X w') : Calls Tryz.prog 211 #[.agg #[.int .i64 kd, .string ⟨#[]⟩, .slice A3 an3 ac3, .slice A4 an4 ac4, .slice A5 an5 ac5, .slice A6 an6 ac6], .agg #[.int .i64 kd, .string ⟨#[]⟩, .slice Y3 yn3 yc3, .slice Y4 yn4 yc4, .slice Y5 yn5 yc5, .slice Y6 yn6 yc6]] w fun e w' => e = .returned (.bool false) ∧ Below w.heap.size w w' := by
  have hmf : ∀ (fn : Fn) (first cap : Array Value) (w : World), (Instr.makeFunc fn first cap).run Tryz.prog w = .ok (.func fn first cap) w := fun _ _ _ _ => rfl
  have hsf : ∀ (a : Addr) (f : Fn) (x y : Array Value) (w : World) (m : Mode), (store a (.func f x y) m).run Tryz.prog w = stored Tryz.prog w a (.func f x y) m := fun a f x y w m => run_store Tryz.prog w a _ m rfl
  have q3 := Lib.hid q3
  have q4 := Lib.hid q4
  have q6 := Lib.hid q6
  have C1 := Lib.hid (fun w1 (hb : Below ((((w.alloc (.cells #[.int .i64 kd, .string ⟨#[]⟩, .slice A3 an3 ac3, .slice A4 an4 ac4, .slice A5 an5 ac5, .slice A6 an6 ac6] 64)).alloc (.cells #[.int .i64 kd, .string ⟨#[]⟩, .slice Y3 yn3 yc3, .slice Y4 yn4 yc4, .slice Y5 yn5 yc5, .slice Y6 yn6 yc6] 64)).alloc (.cells #[.func (.func 228) #[] #[]] 256))).heap.size ((((w.alloc (.cells #[.int .i64 kd, .string ⟨#[]⟩, .slice A3 an3 ac3, .slice A4 an4 ac4, .slice A5 an5 ac5, .slice A6 an6 ac6] 64)).alloc (.cells #[.int .i64 kd, .string ⟨#[]⟩, .slice Y3 yn3 yc3, .slice Y4 yn4 yc4, .slice Y5 yn5 yc5, .slice Y6 yn6 yc6] 64)).alloc (.cells #[.func (.func 228) #[] #[]] 256))) w1) => cells6 (blk_below (show ((((w.alloc (.cells #[.int .i64 kd, .string ⟨#[]⟩, .slice A3 an3 ac3, .slice A4 an4 ac4, .slice A5 an5 ac5, .slice A6 an6 ac6] 64)).alloc (.cells #[.int .i64 kd, .string ⟨#[]⟩, .slice Y3 yn3 yc3, .slice Y4 yn4 yc4, .slice Y5 yn5 yc5, .slice Y6 yn6 yc6] 64)).alloc (.cells #[.func (.func 228) #[] #[]] 256))).heap[w.heap.size]? = some (.cells #[.int .i64 kd, .string ⟨#[]⟩, .slice A3 an3 ac3, .slice A4 an4 ac4, .slice A5 an5 ac5, .slice A6 an6 ac6] 64) from blk_below (blk_below (heap_alloc_new w _) alloc_old) alloc_old) hb))
  have C2 := Lib.hid (fun w1 (hb : Below ((((w.alloc (.cells #[.int .i64 kd, .string ⟨#[]⟩, .slice A3 an3 ac3, .slice A4 an4 ac4, .slice A5 an5 ac5, .slice A6 an6 ac6] 64)).alloc (.cells #[.int .i64 kd, .string ⟨#[]⟩, .slice Y3 yn3 yc3, .slice Y4 yn4 yc4, .slice Y5 yn5 yc5, .slice Y6 yn6 yc6] 64)).alloc (.cells #[.func (.func 228) #[] #[]] 256))).heap.size ((((w.alloc (.cells #[.int .i64 kd, .string ⟨#[]⟩, .slice A3 an3 ac3, .slice A4 an4 ac4, .slice A5 an5 ac5, .slice A6 an6 ac6] 64)).alloc (.cells #[.int .i64 kd, .string ⟨#[]⟩, .slice Y3 yn3 yc3, .slice Y4 yn4 yc4, .slice Y5 yn5 yc5, .slice Y6 yn6 yc6] 64)).alloc (.cells #[.func (.func 228) #[] #[]] 256))) w1) => cells6 (blk_below (show ((((w.alloc (.cells #[.int .i64 kd, .string ⟨#[]⟩, .slice A3 an3 ac3, .slice A4 an4 ac4, .slice A5 an5 ac5, .slice A6 an6 ac6] 64)).alloc (.cells #[.int .i64 kd, .string ⟨#[]⟩, .slice Y3 yn3 yc3, .slice Y4 yn4 yc4, .slice Y5 yn5 yc5, .slice Y6 yn6 yc6] 64)).alloc (.cells #[.func (.func 228) #[] #[]] 256))).heap[w.heap.size + 1]? = some (.cells #[.int .i64 kd, .string ⟨#[]⟩, .slice Y3 yn3 yc3, .slice Y4 yn4 yc4, .slice Y5 yn5 yc5, .slice Y6 yn6 yc6] 64) from blk_below (new_next w _ _) alloc_old) hb))
  have BA := Lib.hid (show Below w.heap.size w ((((w.alloc (.cells #[.int .i64 kd, .string ⟨#[]⟩, .slice A3 an3 ac3, .slice A4 an4 ac4, .slice A5 an5 ac5, .slice A6 an6 ac6] 64)).alloc (.cells #[.int .i64 kd, .string ⟨#[]⟩, .slice Y3 yn3 yc3, .slice Y4 yn4 yc4, .slice Y5 yn5 yc5, .slice Y6 yn6 yc6] 64)).alloc (.cells #[.func (.func 228) #[] #[]] 256))) from (alloc_old.trans (alloc_old.mono (by simp))).trans (alloc_old.mono (by simp; omega)))
  go_enter Tryz.func211, Tryz.ntmps211
  go_wp2_with (first | (go_at_call 230; (with_reducible refine (q6.out _ _ BA.out).mono ?_); rintro e w1 ⟨rfl, h1⟩; have B1 := Lib.hid h1; clear h1; refine Hid.out ?_))
  refine Lib.hid ?_
  have B2 := Lib.hid (BA.out.trans (B1.out.mono (Below.size BA.out)))
  obtain ⟨⟨a0, a1, a2, a3, a4, a5⟩, _⟩ := C1.out _ B1.out
  obtain ⟨⟨b0, b1, b2, b3, b4, b5⟩, _⟩ := C2.out _ B1.out
  have D := Lib.hid (show ∀ X, Below w1.heap.size w1 X → X.cell? ⟨w.heap.size, 3, none⟩ = some (.slice A4 an4 ac4) ∧ X.cell? ⟨w.heap.size, 4, none⟩ = some (.slice A5 an5 ac5) ∧ X.cell? ⟨w.heap.size + 1, 3, none⟩ = some (.slice Y4 yn4 yc4) ∧ X.cell? ⟨w.heap.size + 1, 4, none⟩ = some (.slice Y5 yn5 yc5) from fun X hb =>
    have x1 := (C1.out _ (belT B1.out hb)).1
    have x2 := (C2.out _ (belT B1.out hb)).1
    ⟨x1.2.2.2.1, x1.2.2.2.2.1, x2.2.2.2.1, x2.2.2.2.2.1⟩)
  go_wp2_with (first | (go_at_call 232; (with_reducible refine (q3.out _ B2.out).mono ?_); rintro e w2 ⟨rfl, h1⟩; have B3 := Lib.hid h1; have BX := Lib.hid (belT B2.out h1); clear h1; obtain ⟨x1, x2, x3, x4⟩ := D.out _ B3.out) | (go_at_call 233; (with_reducible refine (q4.out _ BX.out).mono ?_); rintro e w3 ⟨rfl, h1⟩; have B4 := Lib.hid (belT B3.out h1); have BY := Lib.hid (belT BX.out h1); clear h1; obtain ⟨y1, y2, y3, y4⟩ := D.out _ B4.out))
  go_ret
  exact ⟨by simp, BY.out⟩
set_option maxRecDepth 100000 in
set_option maxHeartbeats 4000000 in
theorem SameG_f5 (kd : Int) (A3 A4 A5 A6 : Option Addr) (an3 ac3 an4 ac4 an5 ac5 an6 ac6 : Nat) (Y3 Y4 Y5 Y6 : Option Addr) (yn3 yc3 yn4 yc4 yn5 yc5 yn6 yc6 : Nat) (w : World) (q3 : ∀ X, Below w.heap.size w X → Calls Tryz.prog 232 #[.slice A3 an3 ac3, .slice Y3 yn3 yc3] X fun e w' => e = .returned (.bool true) ∧ Below X.heap.size X w') (q4 : ∀ X, Below w.heap.size w X → Calls Tryz.prog 233 #[.slice A4 an4 ac4, .slice Y4 yn4 yc4] X fun e w' => e = .returned (.bool true) ∧ Below X.heap.size X w') (q5 : ∀ X, Below w.heap.size w X → Calls Tryz.prog 234 #[.slice A5 an5 ac5, .slice Y5 yn5 yc5] X fun e w' => e = .returned (.bool false) ∧ Below X.heap.size X w') (q6 : ∀ f X, Below w.heap.size w X → Calls Tryz.prog 230 #[.slice A6 an6 ac6, .slice Y6 yn6 yc6, f] X fun e w' => e = .returned (.bool true) ∧ Below X.heap.size X w') : Calls Tryz.prog 211 #[.agg #[.int .i64 kd, .string ⟨#[]⟩, .slice A3 an3 ac3, .slice A4 an4 ac4, .slice A5 an5 ac5, .slice A6 an6 ac6], .agg #[.int .i64 kd, .string ⟨#[]⟩, .slice Y3 yn3 yc3, .slice Y4 yn4 yc4, .slice Y5 yn5 yc5, .slice Y6 yn6 yc6]] w fun e w' => e = .returned (.bool false) ∧ Below w.heap.size w w' := by
  have hmf : ∀ (fn : Fn) (first cap : Array Value) (w : World), (Instr.makeFunc fn first cap).run Tryz.prog w = .ok (.func fn first cap) w := fun _ _ _ _ => rfl
  have hsf : ∀ (a : Addr) (f : Fn) (x y : Array Value) (w : World) (m : Mode), (store a (.func f x y) m).run Tryz.prog w = stored Tryz.prog w a (.func f x y) m := fun a f x y w m => run_store Tryz.prog w a _ m rfl
  have q3 := Lib.hid q3
  have q4 := Lib.hid q4
  have q5 := Lib.hid q5
  have q6 := Lib.hid q6
  have C1 := Lib.hid (fun w1 (hb : Below ((((w.alloc (.cells #[.int .i64 kd, .string ⟨#[]⟩, .slice A3 an3 ac3, .slice A4 an4 ac4, .slice A5 an5 ac5, .slice A6 an6 ac6] 64)).alloc (.cells #[.int .i64 kd, .string ⟨#[]⟩, .slice Y3 yn3 yc3, .slice Y4 yn4 yc4, .slice Y5 yn5 yc5, .slice Y6 yn6 yc6] 64)).alloc (.cells #[.func (.func 228) #[] #[]] 256))).heap.size ((((w.alloc (.cells #[.int .i64 kd, .string ⟨#[]⟩, .slice A3 an3 ac3, .slice A4 an4 ac4, .slice A5 an5 ac5, .slice A6 an6 ac6] 64)).alloc (.cells #[.int .i64 kd, .string ⟨#[]⟩, .slice Y3 yn3 yc3, .slice Y4 yn4 yc4, .slice Y5 yn5 yc5, .slice Y6 yn6 yc6] 64)).alloc (.cells #[.func (.func 228) #[] #[]] 256))) w1) => cells6 (blk_below (show ((((w.alloc (.cells #[.int .i64 kd, .string ⟨#[]⟩, .slice A3 an3 ac3, .slice A4 an4 ac4, .slice A5 an5 ac5, .slice A6 an6 ac6] 64)).alloc (.cells #[.int .i64 kd, .string ⟨#[]⟩, .slice Y3 yn3 yc3, .slice Y4 yn4 yc4, .slice Y5 yn5 yc5, .slice Y6 yn6 yc6] 64)).alloc (.cells #[.func (.func 228) #[] #[]] 256))).heap[w.heap.size]? = some (.cells #[.int .i64 kd, .string ⟨#[]⟩, .slice A3 an3 ac3, .slice A4 an4 ac4, .slice A5 an5 ac5, .slice A6 an6 ac6] 64) from blk_below (blk_below (heap_alloc_new w _) alloc_old) alloc_old) hb))
  have C2 := Lib.hid (fun w1 (hb : Below ((((w.alloc (.cells #[.int .i64 kd, .string ⟨#[]⟩, .slice A3 an3 ac3, .slice A4 an4 ac4, .slice A5 an5 ac5, .slice A6 an6 ac6] 64)).alloc (.cells #[.int .i64 kd, .string ⟨#[]⟩, .slice Y3 yn3 yc3, .slice Y4 yn4 yc4, .slice Y5 yn5 yc5, .slice Y6 yn6 yc6] 64)).alloc (.cells #[.func (.func 228) #[] #[]] 256))).heap.size ((((w.alloc (.cells #[.int .i64 kd, .string ⟨#[]⟩, .slice A3 an3 ac3, .slice A4 an4 ac4, .slice A5 an5 ac5, .slice A6 an6 ac6] 64)).alloc (.cells #[.int .i64 kd, .string ⟨#[]⟩, .slice Y3 yn3 yc3, .slice Y4 yn4 yc4, .slice Y5 yn5 yc5, .slice Y6 yn6 yc6] 64)).alloc (.cells #[.func (.func 228) #[] #[]] 256))) w1) => cells6 (blk_below (show ((((w.alloc (.cells #[.int .i64 kd, .string ⟨#[]⟩, .slice A3 an3 ac3, .slice A4 an4 ac4, .slice A5 an5 ac5, .slice A6 an6 ac6] 64)).alloc (.cells #[.int .i64 kd, .string ⟨#[]⟩, .slice Y3 yn3 yc3, .slice Y4 yn4 yc4, .slice Y5 yn5 yc5, .slice Y6 yn6 yc6] 64)).alloc (.cells #[.func (.func 228) #[] #[]] 256))).heap[w.heap.size + 1]? = some (.cells #[.int .i64 kd, .string ⟨#[]⟩, .slice Y3 yn3 yc3, .slice Y4 yn4 yc4, .slice Y5 yn5 yc5, .slice Y6 yn6 yc6] 64) from blk_below (new_next w _ _) alloc_old) hb))
  have BA := Lib.hid (show Below w.heap.size w ((((w.alloc (.cells #[.int .i64 kd, .string ⟨#[]⟩, .slice A3 an3 ac3, .slice A4 an4 ac4, .slice A5 an5 ac5, .slice A6 an6 ac6] 64)).alloc (.cells #[.int .i64 kd, .string ⟨#[]⟩, .slice Y3 yn3 yc3, .slice Y4 yn4 yc4, .slice Y5 yn5 yc5, .slice Y6 yn6 yc6] 64)).alloc (.cells #[.func (.func 228) #[] #[]] 256))) from (alloc_old.trans (alloc_old.mono (by simp))).trans (alloc_old.mono (by simp; omega)))
  go_enter Tryz.func211, Tryz.ntmps211
  go_wp2_with (first | (go_at_call 230; (with_reducible refine (q6.out _ _ BA.out).mono ?_); rintro e w1 ⟨rfl, h1⟩; have B1 := Lib.hid h1; clear h1; refine Hid.out ?_))
  refine Lib.hid ?_
  have B2 := Lib.hid (BA.out.trans (B1.out.mono (Below.size BA.out)))
  obtain ⟨⟨a0, a1, a2, a3, a4, a5⟩, _⟩ := C1.out _ B1.out
  obtain ⟨⟨b0, b1, b2, b3, b4, b5⟩, _⟩ := C2.out _ B1.out
  have D := Lib.hid (show ∀ X, Below w1.heap.size w1 X → X.cell? ⟨w.heap.size, 3, none⟩ = some (.slice A4 an4 ac4) ∧ X.cell? ⟨w.heap.size, 4, none⟩ = some (.slice A5 an5 ac5) ∧ X.cell? ⟨w.heap.size + 1, 3, none⟩ = some (.slice Y4 yn4 yc4) ∧ X.cell? ⟨w.heap.size + 1, 4, none⟩ = some (.slice Y5 yn5 yc5) from fun X hb =>
    have x1 := (C1.out _ (belT B1.out hb)).1
    have x2 := (C2.out _ (belT B1.out hb)).1
    ⟨x1.2.2.2.1, x1.2.2.2.2.1, x2.2.2.2.1, x2.2.2.2.2.1⟩)
  go_wp2_with (first | (go_at_call 232; (with_reducible refine (q3.out _ B2.out).mono ?_); rintro e w2 ⟨rfl, h1⟩; have B3 := Lib.hid h1; have BX := Lib.hid (belT B2.out h1); clear h1; obtain ⟨x1, x2, x3, x4⟩ := D.out _ B3.out) | (go_at_call 233; (with_reducible refine (q4.out _ BX.out).mono ?_); rintro e w3 ⟨rfl, h1⟩; have B4 := Lib.hid (belT B3.out h1); have BY := Lib.hid (belT BX.out h1); clear h1; obtain ⟨y1, y2, y3, y4⟩ := D.out _ B4.out) | (go_at_call 234; (with_reducible refine (q5.out _ BY.out).mono ?_); rintro e w4 ⟨rfl, h1⟩; have BZ := Lib.hid (belT BY.out h1); clear h1))
  go_ret
  exact ⟨by simp, BZ.out⟩
set_option maxRecDepth 100000 in
set_option maxHeartbeats 4000000 in
theorem SameG_f6 (kd : Int) (A3 A4 A5 A6 : Option Addr) (an3 ac3 an4 ac4 an5 ac5 an6 ac6 : Nat) (Y3 Y4 Y5 Y6 : Option Addr) (yn3 yc3 yn4 yc4 yn5 yc5 yn6 yc6 : Nat) (w : World) (q3 : ∀ X, Below w.heap.size w X → Calls Tryz.prog 232 #[.slice A3 an3 ac3, .slice Y3 yn3 yc3] X fun e w' => e = .returned (.bool true) ∧ Below X.heap.size X w') (q4 : ∀ X, Below w.heap.size w X → Calls Tryz.prog 233 #[.slice A4 an4 ac4, .slice Y4 yn4 yc4] X fun e w' => e = .returned (.bool true) ∧ Below X.heap.size X w') (q5 : ∀ X, Below w.heap.size w X → Calls Tryz.prog 234 #[.slice A5 an5 ac5, .slice Y5 yn5 yc5] X fun e w' => e = .returned (.bool true) ∧ Below X.heap.size X w') (q6 : ∀ f X, Below w.heap.size w X → Calls Tryz.prog 230 #[.slice A6 an6 ac6, .slice Y6 yn6 yc6, f] X fun e w' => e = .returned (.bool false) ∧ Below X.heap.size X w') : Calls Tryz.prog 211 #[.agg #[.int .i64 kd, .string ⟨#[]⟩, .slice A3 an3 ac3, .slice A4 an4 ac4, .slice A5 an5 ac5, .slice A6 an6 ac6], .agg #[.int .i64 kd, .string ⟨#[]⟩, .slice Y3 yn3 yc3, .slice Y4 yn4 yc4, .slice Y5 yn5 yc5, .slice Y6 yn6 yc6]] w fun e w' => e = .returned (.bool false) ∧ Below w.heap.size w w' := by
  have hmf : ∀ (fn : Fn) (first cap : Array Value) (w : World), (Instr.makeFunc fn first cap).run Tryz.prog w = .ok (.func fn first cap) w := fun _ _ _ _ => rfl
  have hsf : ∀ (a : Addr) (f : Fn) (x y : Array Value) (w : World) (m : Mode), (store a (.func f x y) m).run Tryz.prog w = stored Tryz.prog w a (.func f x y) m := fun a f x y w m => run_store Tryz.prog w a _ m rfl
  have q3 := Lib.hid q3
  have q4 := Lib.hid q4
  have q5 := Lib.hid q5
  have q6 := Lib.hid q6
  have C1 := Lib.hid (fun w1 (hb : Below ((((w.alloc (.cells #[.int .i64 kd, .string ⟨#[]⟩, .slice A3 an3 ac3, .slice A4 an4 ac4, .slice A5 an5 ac5, .slice A6 an6 ac6] 64)).alloc (.cells #[.int .i64 kd, .string ⟨#[]⟩, .slice Y3 yn3 yc3, .slice Y4 yn4 yc4, .slice Y5 yn5 yc5, .slice Y6 yn6 yc6] 64)).alloc (.cells #[.func (.func 228) #[] #[]] 256))).heap.size ((((w.alloc (.cells #[.int .i64 kd, .string ⟨#[]⟩, .slice A3 an3 ac3, .slice A4 an4 ac4, .slice A5 an5 ac5, .slice A6 an6 ac6] 64)).alloc (.cells #[.int .i64 kd, .string ⟨#[]⟩, .slice Y3 yn3 yc3, .slice Y4 yn4 yc4, .slice Y5 yn5 yc5, .slice Y6 yn6 yc6] 64)).alloc (.cells #[.func (.func 228) #[] #[]] 256))) w1) => cells6 (blk_below (show ((((w.alloc (.cells #[.int .i64 kd, .string ⟨#[]⟩, .slice A3 an3 ac3, .slice A4 an4 ac4, .slice A5 an5 ac5, .slice A6 an6 ac6] 64)).alloc (.cells #[.int .i64 kd, .string ⟨#[]⟩, .slice Y3 yn3 yc3, .slice Y4 yn4 yc4, .slice Y5 yn5 yc5, .slice Y6 yn6 yc6] 64)).alloc (.cells #[.func (.func 228) #[] #[]] 256))).heap[w.heap.size]? = some (.cells #[.int .i64 kd, .string ⟨#[]⟩, .slice A3 an3 ac3, .slice A4 an4 ac4, .slice A5 an5 ac5, .slice A6 an6 ac6] 64) from blk_below (blk_below (heap_alloc_new w _) alloc_old) alloc_old) hb))
  have C2 := Lib.hid (fun w1 (hb : Below ((((w.alloc (.cells #[.int .i64 kd, .string ⟨#[]⟩, .slice A3 an3 ac3, .slice A4 an4 ac4, .slice A5 an5 ac5, .slice A6 an6 ac6] 64)).alloc (.cells #[.int .i64 kd, .string ⟨#[]⟩, .slice Y3 yn3 yc3, .slice Y4 yn4 yc4, .slice Y5 yn5 yc5, .slice Y6 yn6 yc6] 64)).alloc (.cells #[.func (.func 228) #[] #[]] 256))).heap.size ((((w.alloc (.cells #[.int .i64 kd, .string ⟨#[]⟩, .slice A3 an3 ac3, .slice A4 an4 ac4, .slice A5 an5 ac5, .slice A6 an6 ac6] 64)).alloc (.cells #[.int .i64 kd, .string ⟨#[]⟩, .slice Y3 yn3 yc3, .slice Y4 yn4 yc4, .slice Y5 yn5 yc5, .slice Y6 yn6 yc6] 64)).alloc (.cells #[.func (.func 228) #[] #[]] 256))) w1) => cells6 (blk_below (show ((((w.alloc (.cells #[.int .i64 kd, .string ⟨#[]⟩, .slice A3 an3 ac3, .slice A4 an4 ac4, .slice A5 an5 ac5, .slice A6 an6 ac6] 64)).alloc (.cells #[.int .i64 kd, .string ⟨#[]⟩, .slice Y3 yn3 yc3, .slice Y4 yn4 yc4, .slice Y5 yn5 yc5, .slice Y6 yn6 yc6] 64)).alloc (.cells #[.func (.func 228) #[] #[]] 256))).heap[w.heap.size + 1]? = some (.cells #[.int .i64 kd, .string ⟨#[]⟩, .slice Y3 yn3 yc3, .slice Y4 yn4 yc4, .slice Y5 yn5 yc5, .slice Y6 yn6 yc6] 64) from blk_below (new_next w _ _) alloc_old) hb))
  have BA := Lib.hid (show Below w.heap.size w ((((w.alloc (.cells #[.int .i64 kd, .string ⟨#[]⟩, .slice A3 an3 ac3, .slice A4 an4 ac4, .slice A5 an5 ac5, .slice A6 an6 ac6] 64)).alloc (.cells #[.int .i64 kd, .string ⟨#[]⟩, .slice Y3 yn3 yc3, .slice Y4 yn4 yc4, .slice Y5 yn5 yc5, .slice Y6 yn6 yc6] 64)).alloc (.cells #[.func (.func 228) #[] #[]] 256))) from (alloc_old.trans (alloc_old.mono (by simp))).trans (alloc_old.mono (by simp; omega)))
  go_enter Tryz.func211, Tryz.ntmps211
  go_wp2_with (first | (go_at_call 230; (with_reducible refine (q6.out _ _ BA.out).mono ?_); rintro e w1 ⟨rfl, h1⟩; have B1 := Lib.hid h1; clear h1; refine Hid.out ?_))
  refine Lib.hid ?_
  have B2 := Lib.hid (BA.out.trans (B1.out.mono (Below.size BA.out)))
  obtain ⟨⟨a0, a1, a2, a3, a4, a5⟩, _⟩ := C1.out _ B1.out
  obtain ⟨⟨b0, b1, b2, b3, b4, b5⟩, _⟩ := C2.out _ B1.out
  have D := Lib.hid (show ∀ X, Below w1.heap.size w1 X → X.cell? ⟨w.heap.size, 3, none⟩ = some (.slice A4 an4 ac4) ∧ X.cell? ⟨w.heap.size, 4, none⟩ = some (.slice A5 an5 ac5) ∧ X.cell? ⟨w.heap.size + 1, 3, none⟩ = some (.slice Y4 yn4 yc4) ∧ X.cell? ⟨w.heap.size + 1, 4, none⟩ = some (.slice Y5 yn5 yc5) from fun X hb =>
    have x1 := (C1.out _ (belT B1.out hb)).1
    have x2 := (C2.out _ (belT B1.out hb)).1
    ⟨x1.2.2.2.1, x1.2.2.2.2.1, x2.2.2.2.1, x2.2.2.2.2.1⟩)
  go_wp2_with (first | (go_at_call 232; (with_reducible refine (q3.out _ B2.out).mono ?_); rintro e w2 ⟨rfl, h1⟩; have B3 := Lib.hid h1; have BX := Lib.hid (belT B2.out h1); clear h1; obtain ⟨x1, x2, x3, x4⟩ := D.out _ B3.out) | (go_at_call 233; (with_reducible refine (q4.out _ BX.out).mono ?_); rintro e w3 ⟨rfl, h1⟩; have B4 := Lib.hid (belT B3.out h1); have BY := Lib.hid (belT BX.out h1); clear h1; obtain ⟨y1, y2, y3, y4⟩ := D.out _ B4.out) | (go_at_call 234; (with_reducible refine (q5.out _ BY.out).mono ?_); rintro e w4 ⟨rfl, h1⟩; have BZ := Lib.hid (belT BY.out h1); clear h1))
  go_ret
  exact ⟨by simp, BZ.out⟩
end Go.Proofs.YticlacjpgjkhcaaGreatDoor

/- Scores as a kind of values. -/
namespace Go.Proofs.YticlacjpgjkhcaaGreatDoor
open Go.ChangeShapes Go.WideShapes Go.ChangeAt Go.RowKit

def VS (w : World) (F : List (ByteArray × Int)) (a b c d : Value) : Prop := RS w 0 c F ∧ F ≠ [] ∧ a = .slice none 0 0 ∧ b = .slice none 0 0 ∧ d = .slice none 0 0
/-- Scores. -/
def KS : Kd (List (ByteArray × Int)) where
  kd := 4
  nz := ⟨by decide, by decide⟩
  V := VS
  kept := by
    rintro w w' x a b c d ⟨h1, h2, h3⟩ hb
    exact ⟨h1.kept (fun g hg => hb g (.inr (.inr (.inl hg)))), h2, h3⟩
  typ := by
    rintro w x a b c d g ⟨h1, h2, rfl, rfl, rfl⟩ hg
    rcases hg with hg | hg | hg | hg
    · cases hg
    · cases hg
    · obtain ⟨cs, hc⟩ := row_typ h1 g hg
      exact ⟨cs, 52, hc, by decide, by decide, by decide, by decide, by decide⟩
    · cases hg
/-- Scores that may be. -/
def okS (k : ByteArray) (F : List (ByteArray × Int)) : Prop := 1 ≤ k.size ∧ k.size ≤ 512 ∧ F ≠ [] ∧ F.length ≤ 31 ∧ (∀ s ∈ tS F, s.size ≤ 4096) ∧ 16 + 16 * F.length + sumSz (tS F) ≤ 262144 ∧ (∀ (i : Nat) (p q : ByteArray × Int), F[i]? = some p → F[i + 1]? = some q → ltZ p q = true) ∧ (F.map Prod.fst).Nodup
/-- What four slices are that hold scores. -/
theorem VS.form {w : World} {F : List (ByteArray × Int)} (A3 A4 A5 A6 : Option Addr) (an3 ac3 an4 ac4 an5 ac5 an6 ac6 : Nat) (h : VS w F (.slice A3 an3 ac3) (.slice A4 an4 ac4) (.slice A5 an5 ac5) (.slice A6 an6 ac6)) : ∃ g, A5 = some ⟨g, 0, none⟩ ∧ an5 = F.length ∧ A3 = none ∧ an3 = 0 ∧ ac3 = 0 ∧ A4 = none ∧ an4 = 0 ∧ ac4 = 0 ∧ A6 = none ∧ an6 = 0 ∧ ac6 = 0 := by
  obtain ⟨h1, h2, h3, h4, h5⟩ := h
  obtain ⟨g, C, e, _⟩ := h1.form h2
  cases e
  cases h3
  cases h4
  cases h5
  exact ⟨g, rfl, rfl, rfl, rfl, rfl, rfl, rfl, rfl, rfl, rfl, rfl⟩
def KSok : KdOk KS okS where
  sz := fun k F => 48 + (k.size : Int) + 16 * (F.length : Int) + (sumSz (tS F) : Int)
  may := by
    rintro k F A3 A4 A5 A6 an3 ac3 an4 ac4 an5 ac5 an6 ac6 w ⟨h1, h2, h3, h4, h5, h6, h7, h8⟩ hV
    obtain ⟨g, rfl, rfl, rfl, rfl, rfl, rfl, rfl, rfl, rfl, rfl, rfl⟩ := VS.form A3 A4 A5 A6 an3 ac3 an4 ac4 an5 ac5 an6 ac6 hV
    have hpos : 0 < F.length := List.length_pos_iff.2 h3
    exact sMayS k h1 h2 0 (by omega) (by omega) g ac5 F.length w (fun X hX => MayS g ac5 F F.length rfl hpos (by omega) 0 X (hV.1.below hX) h5 h6 h7 h8)
  clone := by
    rintro k F A3 A4 A5 A6 an3 ac3 an4 ac4 an5 ac5 an6 ac6 w ⟨h1, h2, h3, h4, h5, h6, h7, h8⟩ hV
    obtain ⟨g, rfl, rfl, rfl, rfl, rfl, rfl, rfl, rfl, rfl, rfl, rfl⟩ := VS.form A3 A4 A5 A6 an3 ac3 an4 ac4 an5 ac5 an6 ac6 hV
    have hpos : 0 < F.length := List.length_pos_iff.2 h3
    refine (sCloneS k 0 g ac5 F F.length rfl hpos (by omega) 0 w hV.1).mono ?_
    rintro e w' ⟨g', C, rfl, hT, hb⟩
    refine ⟨none, none, some ⟨g', 0, none⟩, none, 0, 0, 0, 0, F.length, C, 0, 0, rfl, ⟨hT.mono (Nat.zero_le _), h3, rfl, rfl, rfl⟩, fun g9 hg => ?_, hb⟩
    rcases hg with hg | hg | hg | hg
    · cases hg
    · cases hg
    · exact (row_own hT g9 hg).1
    · cases hg
  size := by
    rintro k F A3 A4 A5 A6 an3 ac3 an4 ac4 an5 ac5 an6 ac6 w ⟨h1, h2, h3, h4, h5, h6, h7, h8⟩ hV
    obtain ⟨g, rfl, rfl, rfl, rfl, rfl, rfl, rfl, rfl, rfl, rfl, rfl⟩ := VS.form A3 A4 A5 A6 an3 ac3 an4 ac4 an5 ac5 an6 ac6 hV
    have hpos : 0 < F.length := List.length_pos_iff.2 h3
    exact sSizeS k 0 (by omega) g ac5 F F.length rfl hpos (by omega) 0 w hV.1 (by omega)
end Go.Proofs.YticlacjpgjkhcaaGreatDoor

/- Scores as a kind of values: when two are the same. -/
namespace Go.Proofs.YticlacjpgjkhcaaGreatDoor
open Go.ChangeShapes Go.WideShapes Go.ChangeAt Go.RowKit

theorem RS.bound {w : World} {c : Nat} {A : Option Addr} {n C : Nat} {l : List (ByteArray × Int)} (h : RS w c (.slice A n C) l) : l.length ≤ 9223372036854775807 := by
  have m : (maxLen : Nat) ≤ 9223372036854775807 := by decide
  unfold RS World.ownsRow at h
  obtain ⟨_, ⟨_, h2⟩ | ⟨g, cap, cur, e, h1, h2, h3, h4, _⟩⟩ := h
  · omega
  · omega
theorem EqS_any {w : World} {A B : Option Addr} {n C m E : Nat} {F G : List (ByteArray × Int)} (h : RS w 0 (.slice A n C) F) (h' : RS w 0 (.slice B m E) G) (hn : F.length = n) (hm : G.length = m) (h1 : 1 ≤ n) (hb : n ≤ 9223372036854775807) : Calls Tryz.prog 234 #[.slice A n C, .slice B m E] w fun e w' => e = .returned (.bool (decide (F = G))) ∧ Below w.heap.size w w' := by
  by_cases he : n = m
  · subst he
    exact EqS A B n C E 0 0 F G hn hm h1 hb w h h'
  · rw [decide_eq_false (fun e : F = G => he (by rw [← hn, ← hm, e]))]
    exact EqS_len A B n C m E he w
theorem KSsame : KdSame KS where
  len := by
    rintro F A3 A4 A5 A6 an3 ac3 an4 ac4 an5 ac5 an6 ac6 w hV
    obtain ⟨g, rfl, rfl, rfl, rfl, rfl, rfl, rfl, rfl, rfl, rfl, rfl⟩ := VS.form A3 A4 A5 A6 an3 ac3 an4 ac4 an5 ac5 an6 ac6 hV
    have hpos : 0 < F.length := List.length_pos_iff.2 hV.2.1
    exact ⟨F.length, by omega, fun X _ => LenS (some ⟨g, 0, none⟩) F.length ac5 X⟩
  len0 := fun w => LenS none 0 0 w
  same := by
    rintro F G A3 A4 A5 A6 an3 ac3 an4 ac4 an5 ac5 an6 ac6 Y3 Y4 Y5 Y6 yn3 yc3 yn4 yc4 yn5 yc5 yn6 yc6 w h1 h2
    obtain ⟨g, rfl, rfl, rfl, rfl, rfl, rfl, rfl, rfl, rfl, rfl, rfl⟩ := VS.form A3 A4 A5 A6 an3 ac3 an4 ac4 an5 ac5 an6 ac6 h1
    obtain ⟨g', rfl, rfl, rfl, rfl, rfl, rfl, rfl, rfl, rfl, rfl, rfl⟩ := VS.form Y3 Y4 Y5 Y6 yn3 yc3 yn4 yc4 yn5 yc5 yn6 yc6 h2
    have hpos : 0 < F.length := List.length_pos_iff.2 h1.2.1
    have q5 := fun X (hX : Below w.heap.size w X) => EqS_any (h1.1.below hX) (h2.1.below hX) rfl rfl hpos (RS.bound h1.1)
    by_cases he : F = G
    · simp only [decide_eq_true he] at q5 ⊢
      exact SameG_true 4 _ _ _ _ _ _ _ _ _ _ _ _ _ _ _ _ _ _ _ _ _ _ _ _ w (fun X _ => Eq101 X) (fun X _ => Eq102 X) q5 (fun f X _ => Eq99 f X)
    · simp only [decide_eq_false he] at q5 ⊢
      exact SameG_f5 4 _ _ _ _ _ _ _ _ _ _ _ _ _ _ _ _ _ _ _ _ _ _ _ _ w (fun X _ => Eq101 X) (fun X _ => Eq102 X) q5 (fun f X _ => Eq99 f X)
end Go.Proofs.YticlacjpgjkhcaaGreatDoor
