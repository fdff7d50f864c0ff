/- Texts joined: G2, G8, G10 -/
import Derived.Test.YticlacjpgjkhcaaGreatDoorQh6
import Derived.Test.YticlacjpgjkhcaaGreatDoorQh12
import Derived.Test.YticlacjpgjkhcaaGreatDoorQh3

/- A job's Turn of an entry of any kind but a text: new, turned, not turned, without elements. -/
namespace Go.Proofs.YticlacjpgjkhcaaGreatDoor
open Go.ChangeShapes Go.WideShapes Go.ChangeAt Go.RowKit

set_option maxRecDepth 100000 in
set_option maxHeartbeats 4000000 in
theorem TurnC_new (j bS : Nat) (now : Int) (vA : Value) (A : Option Addr) (n cap : Nat) (es : List (List Value)) (c : Nat) (w : World) (hj : JB w j bS now vA (.slice A n cap)) (hE : EFC w c (.slice A n cap) es) (hc : c ≤ w.heap.size) (hl : es.length ≤ 100000) (k : ByteArray) (kd : Int) (t : ByteArray) (A3 A4 A5 A6 : Option Addr) (an3 ac3 an4 ac4 an5 ac5 an6 ac6 : Nat) (u : Int) (hkd : ¬ kd = 1) (hG : ∀ X, Below w.heap.size w X → Calls Tryz.prog 181 #[.pointer (some ⟨j, 0, none⟩), .string k] X fun e w' => e = .returned (.tuple #[.agg #[.string k, .int .i64 0, .string ⟨#[]⟩, .slice none 0 0, .slice none 0 0, .slice none 0 0, .slice none 0 0, .int .i64 0], .bool false]) ∧ Below X.heap.size X w') (m : Int) (hL : ∀ X, Below w.heap.size w X → Calls Tryz.prog 165 #[.agg #[.int .i64 kd, .string t, .slice A3 an3 ac3, .slice A4 an4 ac4, .slice A5 an5 ac5, .slice A6 an6 ac6]] X fun e w' => e = .returned (.int .i64 m) ∧ Below X.heap.size X w') (hm : ¬ m = 0) (hM : ∀ X, Below w.heap.size w X → Calls Tryz.prog 51 #[.agg #[.string k, .int .i64 kd, .string t, .slice A3 an3 ac3, .slice A4 an4 ac4, .slice A5 an5 ac5, .slice A6 an6 ac6, .int .i64 u]] X fun e w' => e = .returned (.bool true) ∧ Below X.heap.size X w') : Calls Tryz.prog 161 #[.pointer (some ⟨j, 0, none⟩), .agg #[.string k, .int .i64 kd, .string t, .slice A3 an3 ac3, .slice A4 an4 ac4, .slice A5 an5 ac5, .slice A6 an6 ac6, .int .i64 u]] w fun e w' => e = .returned (.tuple #[]) ∧ JE w' j bS now vA c (es ++ [[.string k, .int .i64 kd, .string t, .slice A3 an3 ac3, .slice A4 an4 ac4, .slice A5 an5 ac5, .slice A6 an6 ac6, .int .i64 u]]) ∧ Kp w.heap.size (fun i => i ≠ j ∧ (Value.slice A n cap).ownBlock ≠ some i) w w' := by
  have bx := Lib.hid (alloc_old (w := w) (o := .cells #[.string k, .int .i64 kd, .string t, .slice A3 an3 ac3, .slice A4 an4 ac4, .slice A5 an5 ac5, .slice A6 an6 ac6, .int .i64 u] 66))
  have hp := Lib.hid (heap_alloc_new w (.cells #[.string k, .int .i64 kd, .string t, .slice A3 an3 ac3, .slice A4 an4 ac4, .slice A5 an5 ac5, .slice A6 an6 ac6, .int .i64 u] 66))
  have G := Lib.hid hG
  have LN := Lib.hid hL
  have k1 : (kd == 1) = false := by rw [beq_eq_false_iff_ne]; exact hkd
  have PP := Lib.hid (fun X (hb : Below w.heap.size w X) => PutC j bS now vA A n cap es c X (hj.below hb) (hE.below hb) (Nat.le_trans hc (Below.size hb)) hl k kd t A3 A4 A5 A6 an3 ac3 an4 ac4 an5 ac5 an6 ac6 u (fun Y hY => hM Y (hb.trans (hY.mono (Below.size hb)))))
  have m1 : (m == 0) = false := by rw [beq_eq_false_iff_ne]; exact hm
  clear hE hj hG hL hM
  go_enter Tryz.func161, Tryz.ntmps161
  go_wp2_with (first | (go_at_call 181; (with_reducible refine (G.out _ bx.out).mono ?_); rintro e w1 ⟨rfl, h1⟩; have B1 := Lib.hid h1; clear h1; refine Hid.out ?_))
  refine Lib.hid ?_
  have BW := Lib.hid (bx.out.trans (B1.out.mono (Below.size bx.out)))
  have BX := Lib.hid (show Below w.heap.size w (w1.alloc (.cells #[.string k, .int .i64 0, .string ⟨#[]⟩, .slice none 0 0, .slice none 0 0, .slice none 0 0, .slice none 0 0, .int .i64 0] 66)) from BW.out.trans (alloc_old.mono (Below.size BW.out)))
  have wp := Lib.hid (heap_alloc_new w1 (.cells #[.string k, .int .i64 0, .string ⟨#[]⟩, .slice none 0 0, .slice none 0 0, .slice none 0 0, .slice none 0 0, .int .i64 0] 66))
  obtain ⟨⟨p0, p1, p2, p3, p4, p5, p6, p7⟩, _, pz⟩ := cells8 (blk_below hp.out B1.out)
  have pz2 : w.heap.size < w1.heap.size := pz
  go_wp2_with (first | (go_at_call 165; (with_reducible refine (LN.out _ BX.out).mono ?_); rintro e w2 ⟨rfl, h2⟩; have B2 := Lib.hid (belT BX.out h2); obtain ⟨⟨r0, r1, r2, r3, r4, r5, r6, r7⟩, _, rz⟩ := cells8 (blk_below (blk_below hp.out B1.out) (belA (Below.refl w1.heap.size w1) h2)); obtain ⟨⟨q0, q1, q2, q3, q4, q5, q6, q7⟩, _, qz⟩ := cells8 (blk_below wp.out h2); have D2 := Lib.hid h2; clear h2) | (go_at_call 212; have BB := Lib.hid B2.out; (with_reducible refine (PP.out _ B2.out).mono ?_); rintro e w3 ⟨rfl, hR, hK⟩))
  go_end0
  exact ⟨rfl, hR, (Kp.of BB.out).trans (hK.mono (Below.size BB.out) (fun _ h => h))⟩
set_option maxRecDepth 100000 in
set_option maxHeartbeats 4000000 in
theorem TurnC_diff (j bS : Nat) (now : Int) (vA : Value) (A : Option Addr) (n cap : Nat) (es : List (List Value)) (c : Nat) (w : World) (hj : JB w j bS now vA (.slice A n cap)) (hE : EFC w c (.slice A n cap) es) (hc : c ≤ w.heap.size) (hl : es.length ≤ 100000) (k : ByteArray) (kd : Int) (t : ByteArray) (A3 A4 A5 A6 : Option Addr) (an3 ac3 an4 ac4 an5 ac5 an6 ac6 : Nat) (u : Int) (hkd : ¬ kd = 1) (hG : ∀ X, Below w.heap.size w X → Calls Tryz.prog 181 #[.pointer (some ⟨j, 0, none⟩), .string k] X fun e w' => ∃ kd0 t0 Y3 Y4 Y5 Y6 yn3 yc3 yn4 yc4 yn5 yc5 yn6 yc6, e = .returned (.tuple #[.agg #[.string k, .int .i64 kd0, .string t0, .slice Y3 yn3 yc3, .slice Y4 yn4 yc4, .slice Y5 yn5 yc5, .slice Y6 yn6 yc6, .int .i64 u], .bool true]) ∧ Below X.heap.size X w' ∧ ∀ Y, Below w'.heap.size w' Y → Calls Tryz.prog 211 #[.agg #[.int .i64 kd0, .string t0, .slice Y3 yn3 yc3, .slice Y4 yn4 yc4, .slice Y5 yn5 yc5, .slice Y6 yn6 yc6], .agg #[.int .i64 kd, .string t, .slice A3 an3 ac3, .slice A4 an4 ac4, .slice A5 an5 ac5, .slice A6 an6 ac6]] Y fun e w' => e = .returned (.bool false) ∧ Below Y.heap.size Y w') (m : Int) (hL : ∀ X, Below w.heap.size w X → Calls Tryz.prog 165 #[.agg #[.int .i64 kd, .string t, .slice A3 an3 ac3, .slice A4 an4 ac4, .slice A5 an5 ac5, .slice A6 an6 ac6]] X fun e w' => e = .returned (.int .i64 m) ∧ Below X.heap.size X w') (hm : ¬ m = 0) (hM : ∀ X, Below w.heap.size w X → Calls Tryz.prog 51 #[.agg #[.string k, .int .i64 kd, .string t, .slice A3 an3 ac3, .slice A4 an4 ac4, .slice A5 an5 ac5, .slice A6 an6 ac6, .int .i64 u]] X fun e w' => e = .returned (.bool true) ∧ Below X.heap.size X w') : Calls Tryz.prog 161 #[.pointer (some ⟨j, 0, none⟩), .agg #[.string k, .int .i64 kd, .string t, .slice A3 an3 ac3, .slice A4 an4 ac4, .slice A5 an5 ac5, .slice A6 an6 ac6, .int .i64 u]] w fun e w' => e = .returned (.tuple #[]) ∧ JE w' j bS now vA c (es ++ [[.string k, .int .i64 kd, .string t, .slice A3 an3 ac3, .slice A4 an4 ac4, .slice A5 an5 ac5, .slice A6 an6 ac6, .int .i64 u]]) ∧ Kp w.heap.size (fun i => i ≠ j ∧ (Value.slice A n cap).ownBlock ≠ some i) w w' := by
  have bx := Lib.hid (alloc_old (w := w) (o := .cells #[.string k, .int .i64 kd, .string t, .slice A3 an3 ac3, .slice A4 an4 ac4, .slice A5 an5 ac5, .slice A6 an6 ac6, .int .i64 u] 66))
  have hp := Lib.hid (heap_alloc_new w (.cells #[.string k, .int .i64 kd, .string t, .slice A3 an3 ac3, .slice A4 an4 ac4, .slice A5 an5 ac5, .slice A6 an6 ac6, .int .i64 u] 66))
  have G := Lib.hid hG
  have LN := Lib.hid hL
  have k1 : (kd == 1) = false := by rw [beq_eq_false_iff_ne]; exact hkd
  have PP := Lib.hid (fun X (hb : Below w.heap.size w X) => PutC j bS now vA A n cap es c X (hj.below hb) (hE.below hb) (Nat.le_trans hc (Below.size hb)) hl k kd t A3 A4 A5 A6 an3 ac3 an4 ac4 an5 ac5 an6 ac6 u (fun Y hY => hM Y (hb.trans (hY.mono (Below.size hb)))))
  have m1 : (m == 0) = false := by rw [beq_eq_false_iff_ne]; exact hm
  clear hE hj hM hG hL
  go_enter Tryz.func161, Tryz.ntmps161
  go_wp2_with (first | (go_at_call 181; (with_reducible refine (G.out _ bx.out).mono ?_); rintro e w1 ⟨kd0, t0, Y3, Y4, Y5, Y6, yn3, yc3, yn4, yc4, yn5, yc5, yn6, yc6, rfl, h1, hSM⟩; have B1 := Lib.hid h1; have SM := Lib.hid hSM; clear hSM; clear h1; refine Hid.out ?_))
  refine Lib.hid ?_
  have BW := Lib.hid (bx.out.trans (B1.out.mono (Below.size bx.out)))
  have BX := Lib.hid (show Below w.heap.size w (w1.alloc (.cells #[.string k, .int .i64 kd0, .string t0, .slice Y3 yn3 yc3, .slice Y4 yn4 yc4, .slice Y5 yn5 yc5, .slice Y6 yn6 yc6, .int .i64 u] 66)) from BW.out.trans (alloc_old.mono (Below.size BW.out)))
  have wp := Lib.hid (heap_alloc_new w1 (.cells #[.string k, .int .i64 kd0, .string t0, .slice Y3 yn3 yc3, .slice Y4 yn4 yc4, .slice Y5 yn5 yc5, .slice Y6 yn6 yc6, .int .i64 u] 66))
  obtain ⟨⟨p0, p1, p2, p3, p4, p5, p6, p7⟩, _, pz⟩ := cells8 (blk_below hp.out B1.out)
  have pz2 : w.heap.size < w1.heap.size := pz
  go_wp2_with (first | (go_at_call 165; (with_reducible refine (LN.out _ BX.out).mono ?_); rintro e w2 ⟨rfl, h2⟩; have B2 := Lib.hid (belT BX.out h2); obtain ⟨⟨r0, r1, r2, r3, r4, r5, r6, r7⟩, _, rz⟩ := cells8 (blk_below (blk_below hp.out B1.out) (belA (Below.refl w1.heap.size w1) h2)); obtain ⟨⟨q0, q1, q2, q3, q4, q5, q6, q7⟩, _, qz⟩ := cells8 (blk_below wp.out h2); have D2 := Lib.hid h2; clear h2) | (go_at_call 211; (with_reducible refine (SM.out _ (belA (Below.refl w1.heap.size w1) D2.out)).mono ?_); rintro e w3 ⟨rfl, h3⟩; have B3 := Lib.hid (belT B2.out h3); obtain ⟨⟨s0, s1, s2, s3, s4, s5, s6, s7⟩, _, sz⟩ := cells8 (blk_below (blk_below (blk_below hp.out B1.out) (belA (Below.refl w1.heap.size w1) D2.out)) h3); clear h3) | (go_at_call 212; have BB := Lib.hid B3.out; (with_reducible refine (PP.out _ B3.out).mono ?_); rintro e w4 ⟨rfl, hR, hK⟩))
  go_end0
  exact ⟨rfl, hR, (Kp.of BB.out).trans (hK.mono (Below.size BB.out) (fun _ h => h))⟩
set_option maxRecDepth 100000 in
set_option maxHeartbeats 4000000 in
theorem TurnC_same (j : Nat) (w : World) (k : ByteArray) (kd : Int) (t : ByteArray) (A3 A4 A5 A6 : Option Addr) (an3 ac3 an4 ac4 an5 ac5 an6 ac6 : Nat) (u : Int) (hkd : ¬ kd = 1) (hG : ∀ X, Below w.heap.size w X → Calls Tryz.prog 181 #[.pointer (some ⟨j, 0, none⟩), .string k] X fun e w' => ∃ kd0 t0 Y3 Y4 Y5 Y6 yn3 yc3 yn4 yc4 yn5 yc5 yn6 yc6, e = .returned (.tuple #[.agg #[.string k, .int .i64 kd0, .string t0, .slice Y3 yn3 yc3, .slice Y4 yn4 yc4, .slice Y5 yn5 yc5, .slice Y6 yn6 yc6, .int .i64 u], .bool true]) ∧ Below X.heap.size X w' ∧ ∀ Y, Below w'.heap.size w' Y → Calls Tryz.prog 211 #[.agg #[.int .i64 kd0, .string t0, .slice Y3 yn3 yc3, .slice Y4 yn4 yc4, .slice Y5 yn5 yc5, .slice Y6 yn6 yc6], .agg #[.int .i64 kd, .string t, .slice A3 an3 ac3, .slice A4 an4 ac4, .slice A5 an5 ac5, .slice A6 an6 ac6]] Y fun e w' => e = .returned (.bool true) ∧ Below Y.heap.size Y w') (m : Int) (hL : ∀ X, Below w.heap.size w X → Calls Tryz.prog 165 #[.agg #[.int .i64 kd, .string t, .slice A3 an3 ac3, .slice A4 an4 ac4, .slice A5 an5 ac5, .slice A6 an6 ac6]] X fun e w' => e = .returned (.int .i64 m) ∧ Below X.heap.size X w') (hm : ¬ m = 0) : Calls Tryz.prog 161 #[.pointer (some ⟨j, 0, none⟩), .agg #[.string k, .int .i64 kd, .string t, .slice A3 an3 ac3, .slice A4 an4 ac4, .slice A5 an5 ac5, .slice A6 an6 ac6, .int .i64 u]] w fun e w' => e = .returned (.tuple #[]) ∧ Below w.heap.size w w' := by
  have bx := Lib.hid (alloc_old (w := w) (o := .cells #[.string k, .int .i64 kd, .string t, .slice A3 an3 ac3, .slice A4 an4 ac4, .slice A5 an5 ac5, .slice A6 an6 ac6, .int .i64 u] 66))
  have hp := Lib.hid (heap_alloc_new w (.cells #[.string k, .int .i64 kd, .string t, .slice A3 an3 ac3, .slice A4 an4 ac4, .slice A5 an5 ac5, .slice A6 an6 ac6, .int .i64 u] 66))
  have G := Lib.hid hG
  have LN := Lib.hid hL
  have k1 : (kd == 1) = false := by rw [beq_eq_false_iff_ne]; exact hkd
  have m1 : (m == 0) = false := by rw [beq_eq_false_iff_ne]; exact hm
  clear hG hL
  go_enter Tryz.func161, Tryz.ntmps161
  go_wp2_with (first | (go_at_call 181; (with_reducible refine (G.out _ bx.out).mono ?_); rintro e w1 ⟨kd0, t0, Y3, Y4, Y5, Y6, yn3, yc3, yn4, yc4, yn5, yc5, yn6, yc6, rfl, h1, hSM⟩; have B1 := Lib.hid h1; have SM := Lib.hid hSM; clear hSM; clear h1; refine Hid.out ?_))
  refine Lib.hid ?_
  have BW := Lib.hid (bx.out.trans (B1.out.mono (Below.size bx.out)))
  have BX := Lib.hid (show Below w.heap.size w (w1.alloc (.cells #[.string k, .int .i64 kd0, .string t0, .slice Y3 yn3 yc3, .slice Y4 yn4 yc4, .slice Y5 yn5 yc5, .slice Y6 yn6 yc6, .int .i64 u] 66)) from BW.out.trans (alloc_old.mono (Below.size BW.out)))
  have wp := Lib.hid (heap_alloc_new w1 (.cells #[.string k, .int .i64 kd0, .string t0, .slice Y3 yn3 yc3, .slice Y4 yn4 yc4, .slice Y5 yn5 yc5, .slice Y6 yn6 yc6, .int .i64 u] 66))
  obtain ⟨⟨p0, p1, p2, p3, p4, p5, p6, p7⟩, _, pz⟩ := cells8 (blk_below hp.out B1.out)
  have pz2 : w.heap.size < w1.heap.size := pz
  go_wp2_with (first | (go_at_call 165; (with_reducible refine (LN.out _ BX.out).mono ?_); rintro e w2 ⟨rfl, h2⟩; have B2 := Lib.hid (belT BX.out h2); obtain ⟨⟨r0, r1, r2, r3, r4, r5, r6, r7⟩, _, rz⟩ := cells8 (blk_below (blk_below hp.out B1.out) (belA (Below.refl w1.heap.size w1) h2)); obtain ⟨⟨q0, q1, q2, q3, q4, q5, q6, q7⟩, _, qz⟩ := cells8 (blk_below wp.out h2); have D2 := Lib.hid h2; clear h2) | (go_at_call 211; (with_reducible refine (SM.out _ (belA (Below.refl w1.heap.size w1) D2.out)).mono ?_); rintro e w3 ⟨rfl, h3⟩; have B3 := Lib.hid (belT B2.out h3); obtain ⟨⟨s0, s1, s2, s3, s4, s5, s6, s7⟩, _, sz⟩ := cells8 (blk_below (blk_below (blk_below hp.out B1.out) (belA (Below.refl w1.heap.size w1) D2.out)) h3); clear h3))
  go_end0
  exact ⟨rfl, B3.out⟩
set_option maxRecDepth 100000 in
set_option maxHeartbeats 4000000 in
theorem TurnC_gone (j bS : Nat) (now : Int) (vA : Value) (A : Option Addr) (n cap : Nat) (es : List (List Value)) (c : Nat) (w : World) (hj : JB w j bS now vA (.slice A n cap)) (hE : EFC w c (.slice A n cap) es) (hc : c ≤ w.heap.size) (hl : es.length ≤ 100000) (k : ByteArray) (kd : Int) (t : ByteArray) (A3 A4 A5 A6 : Option Addr) (an3 ac3 an4 ac4 an5 ac5 an6 ac6 : Nat) (u : Int) (hkd : ¬ kd = 1) (hG : ∀ X, Below w.heap.size w X → Calls Tryz.prog 181 #[.pointer (some ⟨j, 0, none⟩), .string k] X fun e w' => ∃ kd0 t0 u0 Y3 Y4 Y5 Y6 yn3 yc3 yn4 yc4 yn5 yc5 yn6 yc6, e = .returned (.tuple #[.agg #[.string k, .int .i64 kd0, .string t0, .slice Y3 yn3 yc3, .slice Y4 yn4 yc4, .slice Y5 yn5 yc5, .slice Y6 yn6 yc6, .int .i64 u0], .bool true]) ∧ Below X.heap.size X w') (m : Int) (hL : ∀ X, Below w.heap.size w X → Calls Tryz.prog 165 #[.agg #[.int .i64 kd, .string t, .slice A3 an3 ac3, .slice A4 an4 ac4, .slice A5 an5 ac5, .slice A6 an6 ac6]] X fun e w' => e = .returned (.int .i64 m) ∧ Below X.heap.size X w') (hm : m = 0) : Calls Tryz.prog 161 #[.pointer (some ⟨j, 0, none⟩), .agg #[.string k, .int .i64 kd, .string t, .slice A3 an3 ac3, .slice A4 an4 ac4, .slice A5 an5 ac5, .slice A6 an6 ac6, .int .i64 u]] w fun e w' => e = .returned (.tuple #[]) ∧ JE w' j bS now vA c (es ++ [[.string k, .int .i64 0, .string ⟨#[]⟩, .slice none 0 0, .slice none 0 0, .slice none 0 0, .slice none 0 0, .int .i64 0]]) ∧ Kp w.heap.size (fun i => i ≠ j ∧ (Value.slice A n cap).ownBlock ≠ some i) w w' := by
  subst hm
  have bx := Lib.hid (alloc_old (w := w) (o := .cells #[.string k, .int .i64 kd, .string t, .slice A3 an3 ac3, .slice A4 an4 ac4, .slice A5 an5 ac5, .slice A6 an6 ac6, .int .i64 u] 66))
  have hp := Lib.hid (heap_alloc_new w (.cells #[.string k, .int .i64 kd, .string t, .slice A3 an3 ac3, .slice A4 an4 ac4, .slice A5 an5 ac5, .slice A6 an6 ac6, .int .i64 u] 66))
  have G := Lib.hid hG
  have LN := Lib.hid hL
  have k1 : (kd == 1) = false := by rw [beq_eq_false_iff_ne]; exact hkd
  have PP := Lib.hid (fun X (hb : Below w.heap.size w X) => TakeC j bS now vA A n cap es c X (hj.below hb) (hE.below hb) (Nat.le_trans hc (Below.size hb)) hl k)
  clear hE hj hG hL
  go_enter Tryz.func161, Tryz.ntmps161
  go_wp2_with (first | (go_at_call 181; (with_reducible refine (G.out _ bx.out).mono ?_); rintro e w1 ⟨kd0, t0, u0, Y3, Y4, Y5, Y6, yn3, yc3, yn4, yc4, yn5, yc5, yn6, yc6, rfl, h1⟩; have B1 := Lib.hid h1; clear h1; refine Hid.out ?_))
  refine Lib.hid ?_
  have BW := Lib.hid (bx.out.trans (B1.out.mono (Below.size bx.out)))
  have BX := Lib.hid (show Below w.heap.size w (w1.alloc (.cells #[.string k, .int .i64 kd0, .string t0, .slice Y3 yn3 yc3, .slice Y4 yn4 yc4, .slice Y5 yn5 yc5, .slice Y6 yn6 yc6, .int .i64 u0] 66)) from BW.out.trans (alloc_old.mono (Below.size BW.out)))
  have wp := Lib.hid (heap_alloc_new w1 (.cells #[.string k, .int .i64 kd0, .string t0, .slice Y3 yn3 yc3, .slice Y4 yn4 yc4, .slice Y5 yn5 yc5, .slice Y6 yn6 yc6, .int .i64 u0] 66))
  obtain ⟨⟨p0, p1, p2, p3, p4, p5, p6, p7⟩, _, pz⟩ := cells8 (blk_below hp.out B1.out)
  have pz2 : w.heap.size < w1.heap.size := pz
  go_wp2_with (first | (go_at_call 165; (with_reducible refine (LN.out _ BX.out).mono ?_); rintro e w2 ⟨rfl, h2⟩; have B2 := Lib.hid (belT BX.out h2); obtain ⟨⟨r0, r1, r2, r3, r4, r5, r6, r7⟩, _, rz⟩ := cells8 (blk_below (blk_below hp.out B1.out) (belA (Below.refl w1.heap.size w1) h2)); obtain ⟨⟨q0, q1, q2, q3, q4, q5, q6, q7⟩, _, qz⟩ := cells8 (blk_below wp.out h2); have D2 := Lib.hid h2; clear h2) | (go_at_call 210; have BB := Lib.hid B2.out; (with_reducible refine (PP.out _ B2.out).mono ?_); rintro e w3 ⟨rfl, hR, hK⟩))
  go_end0
  exact ⟨rfl, hR, (Kp.of BB.out).trans (hK.mono (Below.size BB.out) (fun _ h => h))⟩
set_option maxRecDepth 100000 in
set_option maxHeartbeats 4000000 in
theorem TurnC_none (j : Nat) (w : World) (k : ByteArray) (kd : Int) (t : ByteArray) (A3 A4 A5 A6 : Option Addr) (an3 ac3 an4 ac4 an5 ac5 an6 ac6 : Nat) (u : Int) (hkd : ¬ kd = 1) (hG : ∀ X, Below w.heap.size w X → Calls Tryz.prog 181 #[.pointer (some ⟨j, 0, none⟩), .string k] X fun e w' => e = .returned (.tuple #[.agg #[.string k, .int .i64 0, .string ⟨#[]⟩, .slice none 0 0, .slice none 0 0, .slice none 0 0, .slice none 0 0, .int .i64 0], .bool false]) ∧ Below X.heap.size X w') (m : Int) (hL : ∀ X, Below w.heap.size w X → Calls Tryz.prog 165 #[.agg #[.int .i64 kd, .string t, .slice A3 an3 ac3, .slice A4 an4 ac4, .slice A5 an5 ac5, .slice A6 an6 ac6]] X fun e w' => e = .returned (.int .i64 m) ∧ Below X.heap.size X w') (hm : m = 0) : Calls Tryz.prog 161 #[.pointer (some ⟨j, 0, none⟩), .agg #[.string k, .int .i64 kd, .string t, .slice A3 an3 ac3, .slice A4 an4 ac4, .slice A5 an5 ac5, .slice A6 an6 ac6, .int .i64 u]] w fun e w' => e = .returned (.tuple #[]) ∧ Below w.heap.size w w' := by
  subst hm
  have bx := Lib.hid (alloc_old (w := w) (o := .cells #[.string k, .int .i64 kd, .string t, .slice A3 an3 ac3, .slice A4 an4 ac4, .slice A5 an5 ac5, .slice A6 an6 ac6, .int .i64 u] 66))
  have hp := Lib.hid (heap_alloc_new w (.cells #[.string k, .int .i64 kd, .string t, .slice A3 an3 ac3, .slice A4 an4 ac4, .slice A5 an5 ac5, .slice A6 an6 ac6, .int .i64 u] 66))
  have G := Lib.hid hG
  have LN := Lib.hid hL
  have k1 : (kd == 1) = false := by rw [beq_eq_false_iff_ne]; exact hkd
  clear hG hL
  go_enter Tryz.func161, Tryz.ntmps161
  go_wp2_with (first | (go_at_call 181; (with_reducible refine (G.out _ bx.out).mono ?_); rintro e w1 ⟨rfl, h1⟩; have B1 := Lib.hid h1; clear h1; refine Hid.out ?_))
  refine Lib.hid ?_
  have BW := Lib.hid (bx.out.trans (B1.out.mono (Below.size bx.out)))
  have BX := Lib.hid (show Below w.heap.size w (w1.alloc (.cells #[.string k, .int .i64 0, .string ⟨#[]⟩, .slice none 0 0, .slice none 0 0, .slice none 0 0, .slice none 0 0, .int .i64 0] 66)) from BW.out.trans (alloc_old.mono (Below.size BW.out)))
  have wp := Lib.hid (heap_alloc_new w1 (.cells #[.string k, .int .i64 0, .string ⟨#[]⟩, .slice none 0 0, .slice none 0 0, .slice none 0 0, .slice none 0 0, .int .i64 0] 66))
  obtain ⟨⟨p0, p1, p2, p3, p4, p5, p6, p7⟩, _, pz⟩ := cells8 (blk_below hp.out B1.out)
  have pz2 : w.heap.size < w1.heap.size := pz
  go_wp2_with (first | (go_at_call 165; (with_reducible refine (LN.out _ BX.out).mono ?_); rintro e w2 ⟨rfl, h2⟩; have B2 := Lib.hid (belT BX.out h2); obtain ⟨⟨r0, r1, r2, r3, r4, r5, r6, r7⟩, _, rz⟩ := cells8 (blk_below (blk_below hp.out B1.out) (belA (Below.refl w1.heap.size w1) h2)); obtain ⟨⟨q0, q1, q2, q3, q4, q5, q6, q7⟩, _, qz⟩ := cells8 (blk_below wp.out h2); have D2 := Lib.hid h2; clear h2))
  go_end0
  exact ⟨rfl, B2.out⟩
end Go.Proofs.YticlacjpgjkhcaaGreatDoor

/- A law's do: a command's effects, as data, applied to the space as data. -/
namespace Go.Proofs.YticlacjpgjkhcaaGreatDoor
open Go.ChangeShapes Go.WideShapes Go.ChangeAt Go.RowKit

/-- The space's Del of data. -/
theorem DelD {α : Type} (K : Kd α) (ok : ByteArray → α → Prop) (hO : KdOk K ok) (bS bM : Nat) (D : List (ByteArray × α)) (k : ByteArray) (y : α) (hf : findD k D = some y) (w : World) (h : SPG K ok w bS bM D) : Calls Tryz.prog 28 #[.pointer (some ⟨bS, 0, none⟩), .string k] w fun e w' => e = .returned (.bool true) ∧ SPG K ok w' bS bM (delD k D) ∧ Kp w.heap.size (fun i => i ≠ bS ∧ i ≠ bM) w w' := by
  obtain ⟨⟨l, hS, hA⟩, hall⟩ := h
  obtain ⟨E3, E4, E5, E6, xn3, xc3, xn4, xc4, xn5, xc5, xn6, xc6, hf2, hV2⟩ := AllE.find_some K hA hf
  have hky := hall _ (findD_mem hf)
  refine (Del19G bS bM l k k ⟨#[]⟩ K.kd 0 E3 E4 E5 E6 xn3 xc3 xn4 xc4 xn5 xc5 xn6 xc6 hf2 w (hO.sz k y) (fun X hX => hO.size k y E3 E4 E5 E6 xn3 xc3 xn4 xc4 xn5 xc5 xn6 xc6 X hky (K.below hV2 hX)) hS).mono ?_
  rintro e w' ⟨rfl, h1, h4⟩
  exact ⟨rfl, ⟨⟨_, h1, AllE.del K (AllE.kept K hS (fun i hi hn => h4.block i hi hn) hA)⟩, fun p hp => hall p (mem_delD hp)⟩, h4⟩
set_option maxRecDepth 100000 in
set_option maxHeartbeats 8000000 in
theorem do_okG {α : Type} (K : Kd α) (ok : ByteArray → α → Prop) (hO : KdOk K ok) (bS bM : Nat) (D : List (ByteArray × α)) (vA : Value) (k n : Int) (s : ByteArray) (R : Nat → World → Value → Prop) (hR : RKeep R) (des : List (ByteArray × Option α)) (hm : MayD ok des D) (w : World) (hS : SPG K ok w bS bM D)
    (hD : ∀ X, Below w.heap.size w X → Calls Tryz.prog 31 #[.pointer (some ⟨bS, 0, none⟩), .int .i64 1, vA] X fun e w' => ∃ A m c A' n' c', e = .returned (.tuple #[.agg #[.int .i64 k, .int .i64 n, .string s, .slice A m c], .slice A' n' c', .bool true]) ∧ R X.heap.size w' (.slice A m c) ∧ EL K des X.heap.size w' (.slice A' n' c') ∧ Below X.heap.size X w') :
    Calls Tryz.prog 23 #[.pointer (some ⟨bS, 0, none⟩), vA] w fun e w' => ∃ A m c, e = .returned (.agg #[.int .i64 k, .int .i64 n, .string s, .slice A m c]) ∧ R w.heap.size w' (.slice A m c) ∧ SPG K ok w' bS bM (applyD des D) ∧ Kp w.heap.size (fun i => i ≠ bS ∧ i ≠ bM) w w' := by
  have A1 := Lib.hid (alloc_old (w := w) (o := .cells #[.int .i64 0, .int .i64 0, .string ⟨#[]⟩, .slice none 0 0] 29))
  have hr := Lib.hid (heap_alloc_new w (.cells #[.int .i64 0, .int .i64 0, .string ⟨#[]⟩, .slice none 0 0] 29))
  have DO := Lib.hid (hD _ A1.out)
  have HS := Lib.hid hS
  have HM := Lib.hid hm
  obtain ⟨hl1, hl2, hne⟩ := SPG.lt K ok hS
  obtain ⟨kd, hkd⟩ : ∃ kd, K.kd = kd := ⟨_, rfl⟩
  have hz0 : ¬ kd = 0 := hkd ▸ K.nz.1
  have hz1 : (kd == 0) = false := by rw [beq_eq_false_iff_ne]; exact hz0
  clear hS hD hm
  go_enter Tryz.func23, Tryz.ntmps23
  go_wp2_with (first | (go_at_call 31; (with_reducible refine (DO.out).mono ?_); rintro e w5 ⟨A, m, c, A', n', c', rfl, hRR, hE, hb5⟩; have B5 := Lib.hid (A1.out.trans (hb5.mono (Below.size A1.out))); have R5 := Lib.hid (blk_below hr.out hb5); have HR := Lib.hid hRR; have HE := Lib.hid hE; clear hRR hE hb5; refine Hid.out ?_))
  refine Lib.hid ?_
  have B6 := Lib.hid (show Below w.heap.size w (w5.alloc (.cells #[.int .i64 k, .int .i64 n, .string s, .slice A m c] 29)) from B5.out.trans (alloc_old.mono (Below.size B5.out)))
  have o6 := Lib.hid (heap_alloc_new w5 (.cells #[.int .i64 k, .int .i64 n, .string s, .slice A m c] 29))
  have R6 := Lib.hid (blk_below R5.out (alloc_old (o := .cells #[.int .i64 k, .int .i64 n, .string s, .slice A m c] 29)))
  have HE6 := Lib.hid ((EL.keep K des).kept _ _ (w5.alloc (.cells #[.int .i64 k, .int .i64 n, .string s, .slice A m c] 29)) _ HE.out (by simp) (fun i _ hi => alloc_old.block i hi))
  have hs5 := Below.size B5.out
  have hs6 := lt_blk R5.out
  have hz : w5.heap.size < (w5.alloc (.cells #[.int .i64 k, .int .i64 n, .string s, .slice A m c] 29)).heap.size := by simp
  go_wp2_with fail
  have B56 := Lib.hid (show Below w5.heap.size w5 (w5.alloc (.cells #[.int .i64 k, .int .i64 n, .string s, .slice A m c] 29)) from alloc_old)
  generalize (w5.alloc (.cells #[.int .i64 k, .int .i64 n, .string s, .slice A m c] 29)) = w6 at B6 o6 R6 HE6 hz B56 ⊢
  obtain ⟨css, hEF, hAL⟩ := HE6.out
  have hlen := ALC.len K hAL
  obtain ⟨hn, hg⟩ := hEF.form
  rw [hlen] at hn
  subst hn
  have EF6 := Lib.hid hEF
  have AL6 := Lib.hid hAL
  have S6 := Lib.hid (SPG.below K ok HS.out B6.out)
  have hz1w : (w.alloc (.cells #[.int .i64 0, .int .i64 0, .string ⟨#[]⟩, .slice none 0 0] 29)).heap.size = w.heap.size + 1 := by simp
  have hmx : des.length ≤ maxLen := by
    have := hEF
    unfold EFC World.ownsRow at this
    obtain ⟨_, ⟨_, h0⟩ | ⟨g, cap', cur, _, _, _, h3, h4, _⟩⟩ := this
    · omega
    · omega
  have hl9 : des.length ≤ 9223372036854775807 := by unfold maxLen at hmx; omega
  clear hEF hAL hmx
  go_loopw [8] (fun iv wr => ∃ (i : Nat) (D2 : List (ByteArray × α)), i ≤ des.length ∧ iv = .int .i64 i ∧ Hid (SPG K ok wr bS bM D2 ∧ MayD ok (des.drop i) D2 ∧ applyD (des.drop i) D2 = applyD des D ∧ Kp w6.heap.size (fun i => i ≠ bS ∧ i ≠ bM) w6 wr)) (fun iv _ => des.length - (intOf iv).toNat)
  case atStart => exact ⟨0, D, Nat.zero_le _, rfl, Lib.hid ⟨S6.out, HM.out, rfl, Kp.refl _ _ _⟩⟩
  case round =>
    obtain ⟨i, D2, hi, rfl, HQ⟩ := hrel
    by_cases hlt2 : i < des.length
    · have q0 : (i : Int) < (des.length : Int) := by omega
      obtain ⟨g, rfl, hgc, hgl⟩ := hg (by intro e; rw [e] at hlen; simp at hlen; omega)
      have hdrop : des.drop i = des[i] :: des.drop (i + 1) := List.drop_eq_getElem_cons hlt2
      obtain ⟨e0, he0⟩ : ∃ e0, des[i]? = some e0 := ⟨des[i], List.getElem?_eq_getElem hlt2⟩
      have hei : des[i] = e0 := by have := List.getElem?_eq_getElem hlt2; rw [he0] at this; exact (Option.some.inj this).symm
      have hQ := HQ.out
      rw [hdrop, hei] at hQ
      obtain ⟨hSP, hmm, hap, hKp⟩ := hQ
      have hEr : EFC wr (w.alloc (.cells #[.int .i64 0, .int .i64 0, .string ⟨#[]⟩, .slice none 0 0] 29)).heap.size (.slice (some ⟨g, 0, none⟩) des.length c') css := EF6.out.kept (fun g9 hg9 => by cases hg9; exact hKp.block g hgl ⟨by omega, by omega⟩)
      have hAr : ALC K (w.alloc (.cells #[.int .i64 0, .int .i64 0, .string ⟨#[]⟩, .slice none 0 0] 29)).heap.size wr des css := ALC.kept K (fun x a b d e hV hc g hg => hKp.block g (K.lt hV hg) (K.own_ne hV S6.out.1.choose_spec.1 g hg).2) AL6.out
      obtain ⟨cs0, hcs, hEC⟩ := ALC.get K hAr i e0 he0
      have hcells := fun j v hj => hEr.cell (i * 8 + j) v (flat8 K hAr i cs0 hcs j v hj)
      obtain ⟨k9, x9⟩ := e0
      cases x9 with
      | some x9 =>
        obtain ⟨hok, hl4, hmr⟩ := hmm
        obtain ⟨A3, A4, A5, A6, an3, ac3, an4, ac4, an5, ac5, an6, ac6, rfl, hV9, _⟩ := hEC
        have PP := PutD K ok hO bS bM D2 k9 x9 A3 A4 A5 A6 an3 ac3 an4 ac4 an5 ac5 an6 ac6 hok wr hSP hl4 hV9
        rw [hkd] at PP hcells
        have x0 := hcells 0 _ rfl
        have x1 := hcells 1 _ rfl
        have x2 := hcells 2 _ rfl
        have x3 := hcells 3 _ rfl
        have x4 := hcells 4 _ rfl
        have x5 := hcells 5 _ rfl
        have x6 := hcells 6 _ rfl
        have x7 := hcells 7 _ rfl
        simp only [Nat.add_zero] at x0
        have PP := Lib.hid PP
        have HMR := Lib.hid hmr
        have HAP := Lib.hid hap
        have HKP := Lib.hid hKp
        clear hcells hEr hAr hSP hmr hap hKp he0 hei hdrop HQ hV9 hok hl4 hcs
        go_wp2_with (first | (go_at_call 29; (with_reducible refine (PP.out).mono ?_); rintro e w8 ⟨rfl, hSP8, hK8⟩; have HS8 := Lib.hid hSP8; have HK8 := Lib.hid hK8; clear hSP8 hK8))
        refine ⟨⟨i + 1, _, by omega, by go_num, Lib.hid ⟨HS8.out, HMR.out, HAP.out, HKP.out.trans (HK8.out.mono HKP.out.size (fun _ h => h))⟩⟩, by simp [intOf]; omega⟩
      | none =>
        obtain ⟨⟨y, hy⟩, hmr⟩ := hmm
        have hEC : cs0 = _ := hEC
        subst hEC
        have x0 := hcells 0 _ rfl
        have x1 := hcells 1 _ rfl
        have x2 := hcells 2 _ rfl
        simp only [Nat.add_zero] at x0
        have PP := Lib.hid (DelD K ok hO bS bM D2 k9 y hy wr hSP)
        have HMR := Lib.hid hmr
        have HAP := Lib.hid hap
        have HKP := Lib.hid hKp
        clear hcells hEr hAr hSP hmr hap hKp he0 hei hdrop HQ hcs hy
        go_wp2_with (first | (go_at_call 28; (with_reducible refine (PP.out).mono ?_); rintro e w8 ⟨rfl, hSP8, hK8⟩; have HS8 := Lib.hid hSP8; have HK8 := Lib.hid hK8; clear hSP8 hK8))
        refine ⟨⟨i + 1, _, by omega, by go_num, Lib.hid ⟨HS8.out, HMR.out, HAP.out, HKP.out.trans (HK8.out.mono HKP.out.size (fun _ h => h))⟩⟩, by simp [intOf]; omega⟩
    · have hie : i = des.length := by omega
      subst hie
      have q0 : ¬ (des.length : Int) < (des.length : Int) := by omega
      have hQ := HQ.out
      rw [List.drop_length] at hQ
      obtain ⟨hSP, _, hap, hKp⟩ := hQ
      have hlW : w5.heap.size ≠ bS ∧ w5.heap.size ≠ bM ∧ w.heap.size ≠ bS ∧ w.heap.size ≠ bM := by omega
      have o8 := Lib.hid ((hKp.block w5.heap.size (lt_blk o6.out) ⟨hlW.1, hlW.2.1⟩).trans o6.out)
      have R8 := Lib.hid ((hKp.block w.heap.size (lt_blk R6.out) ⟨hlW.2.2.1, hlW.2.2.2⟩).trans R6.out)
      have HSP := Lib.hid hSP
      have HAP := Lib.hid hap
      have HKP := Lib.hid hKp
      clear hSP hap hKp HQ hi hlt2
      obtain ⟨⟨d0, d1, d2, d3⟩, _⟩ := cells4 o8.out
      obtain ⟨⟨c0, c1, c2, c3⟩, ⟨f0, f1, f2, f3⟩⟩ := cells4 R8.out
      go_wp2
      have hR5 := HR.out
      rw [hz1w] at hR5
      have hsz : w5.heap.size ≤ (((((wr.setCell ⟨w.heap.size, 0, none⟩ (.int .i64 k)).setCell ⟨w.heap.size, 1, none⟩ (.int .i64 n)).setCell ⟨w.heap.size, 2, none⟩ (.string s)).setCell ⟨w.heap.size, 3, none⟩ (.slice A m c))).heap.size := Nat.le_trans (Below.size B56.out) (Nat.le_trans HKP.out.size (by simp [World.setCell]))
      have hR9 := hR.mono _ w.heap.size _ _ (hR.kept _ _ (((((wr.setCell ⟨w.heap.size, 0, none⟩ (.int .i64 k)).setCell ⟨w.heap.size, 1, none⟩ (.int .i64 n)).setCell ⟨w.heap.size, 2, none⟩ (.string s)).setCell ⟨w.heap.size, 3, none⟩ (.slice A m c))) _ hR5 hsz (fun i h1 h2 => (far4 _ _ _ _ (by omega)).trans ((HKP.out.block i (Nat.lt_of_lt_of_le h2 (Below.size B56.out)) ⟨by omega, by omega⟩).trans (B56.out.block i h2)))) (by omega)
      have hl2 : D2 = applyD des D := HAP.out
      subst hl2
      have hS9 : SPG K ok ((((wr.setCell ⟨w.heap.size, 0, none⟩ (.int .i64 k)).setCell ⟨w.heap.size, 1, none⟩ (.int .i64 n)).setCell ⟨w.heap.size, 2, none⟩ (.string s)).setCell ⟨w.heap.size, 3, none⟩ (.slice A m c)) bS bM (applyD des D) := by
        obtain ⟨⟨l, h1, h2⟩, h3⟩ := HSP.out
        refine ⟨⟨l, h1.kept (far4 _ _ _ _ (by omega)) (far4 _ _ _ _ (by omega)), AllE.kept2 K (fun x a b d e hV g hg => far4 _ _ _ _ (fun e => ?_)) h2⟩, h3⟩
        obtain ⟨cs, t, h4, _, _, _, _, h5⟩ := K.typ hV hg
        rw [e] at h4
        have := R8.out
        rw [h4] at this
        cases this
        exact h5 rfl
      exact bodyPost_ret (v := .agg #[.int .i64 k, .int .i64 n, .string s, .slice A m c]) (by simp [results, Tryz.results23, go_sem, c0, c1, c2, c3]) rfl ⟨A, m, c, rfl, hR9, hS9, ((((((Kp.of B6.out).trans (HKP.out.mono (Below.size B6.out) (fun _ h => h))).setCell (p := ⟨w.heap.size, 0, none⟩) (by simp) _).setCell (p := ⟨w.heap.size, 1, none⟩) (by simp) _).setCell (p := ⟨w.heap.size, 2, none⟩) (by simp) _).setCell (p := ⟨w.heap.size, 3, none⟩) (by simp) _)⟩
end Go.Proofs.YticlacjpgjkhcaaGreatDoor

/- A job's look at a key of a kind, at a space as data. -/
namespace Go.Proofs.YticlacjpgjkhcaaGreatDoor
open Go.ChangeShapes Go.WideShapes Go.ChangeAt Go.RowKit

set_option maxRecDepth 100000 in
set_option maxHeartbeats 4000000 in
theorem Of_yesG {α : Type} (K : Kd α) (ok : ByteArray → α → Prop) (hO : KdOk K ok) (bS bM j : Nat) (l : MapT.Ents) (k : ByteArray) (x : α) (now : Int) (vA vl : Value) (A3 A4 A5 A6 : Option Addr) (an3 ac3 an4 ac4 an5 ac5 an6 ac6 : Nat) (hk : ok k x) (hf : MapT.find k l = some (.agg #[.string k, .int .i64 K.kd, .string ⟨#[]⟩, .slice A3 an3 ac3, .slice A4 an4 ac4, .slice A5 an5 ac5, .slice A6 an6 ac6, .int .i64 0])) (w : World) (h : SP w bS bM l) (hj : JB w j bS now vA vl) (hss : K.V w x (.slice A3 an3 ac3) (.slice A4 an4 ac4) (.slice A5 an5 ac5) (.slice A6 an6 ac6)) : Calls Tryz.prog 130 #[.pointer (some ⟨j, 0, none⟩), .string k, .int .i64 K.kd] w fun e w' => ∃ Y3 Y4 Y5 Y6 yn3 yc3 yn4 yc4 yn5 yc5 yn6 yc6, e = .returned (.tuple #[.agg #[.string k, .int .i64 K.kd, .string ⟨#[]⟩, .slice Y3 yn3 yc3, .slice Y4 yn4 yc4, .slice Y5 yn5 yc5, .slice Y6 yn6 yc6, .int .i64 0], .bool true]) ∧ K.V w' x (.slice Y3 yn3 yc3) (.slice Y4 yn4 yc4) (.slice Y5 yn5 yc5) (.slice Y6 yn6 yc6) ∧ (∀ g, Own (.slice Y3 yn3 yc3) (.slice Y4 yn4 yc4) (.slice Y5 yn5 yc5) (.slice Y6 yn6 yc6) g → w.heap.size ≤ g) ∧ Below w.heap.size w w' := by
  have G := JGet_yesG K ok hO bS bM j l k x now vA vl A3 A4 A5 A6 an3 ac3 an4 ac4 an5 ac5 an6 ac6 hk hf _ (h.below (alloc_old (w := w) (o := .cells #[.string ⟨#[]⟩, .int .i64 0, .string ⟨#[]⟩, .slice none 0 0, .slice none 0 0, .slice none 0 0, .slice none 0 0, .int .i64 0] 66))) (hj.below (alloc_old (w := w) (o := .cells #[.string ⟨#[]⟩, .int .i64 0, .string ⟨#[]⟩, .slice none 0 0, .slice none 0 0, .slice none 0 0, .slice none 0 0, .int .i64 0] 66))) (K.below hss (alloc_old (w := w) (o := .cells #[.string ⟨#[]⟩, .int .i64 0, .string ⟨#[]⟩, .slice none 0 0, .slice none 0 0, .slice none 0 0, .slice none 0 0, .int .i64 0] 66)))
  have hz : (w.alloc (.cells #[.string ⟨#[]⟩, .int .i64 0, .string ⟨#[]⟩, .slice none 0 0, .slice none 0 0, .slice none 0 0, .slice none 0 0, .int .i64 0] 66)).heap.size = w.heap.size + 1 := by simp
  have HZ := Lib.hid hz
  obtain ⟨kd, hkd⟩ : ∃ kd, K.kd = kd := ⟨_, rfl⟩
  simp only [hkd] at G ⊢
  have G := Lib.hid G
  have z0 := Lib.hid (heap_alloc_new w (.cells #[.string ⟨#[]⟩, .int .i64 0, .string ⟨#[]⟩, .slice none 0 0, .slice none 0 0, .slice none 0 0, .slice none 0 0, .int .i64 0] 66))
  clear h hj hf hk hss hkd hz
  go_enter Tryz.func130, Tryz.ntmps130
  go_wp2_with (first | (go_at_call 181; (with_reducible refine (G.out).mono ?_); rintro e w1 ⟨Y3, Y4, Y5, Y6, yn3, yc3, yn4, yc4, yn5, yc5, yn6, yc6, rfl, hV1, hg1, h1⟩; have HV := Lib.hid hV1; have HG := Lib.hid hg1; have B1 := Lib.hid h1; clear h1 hV1 hg1; obtain ⟨⟨c0, c1, c2, c3, c4, c5, c6, c7⟩, ⟨f0, f1, f2, f3, f4, f5, f6, f7⟩, z1⟩ := cells8 (blk_below z0.out B1.out)))
  have hge := HG.out
  have hz := HZ.out
  rw [hz] at hge
  have hn1 : ∀ g, Own (.slice Y3 yn3 yc3) (.slice Y4 yn4 yc4) (.slice Y5 yn5 yc5) (.slice Y6 yn6 yc6) g → g ≠ w.heap.size := fun g hg => by have := hge g hg; omega
  exact bodyPost_ret (v := .tuple #[.agg #[.string k, .int .i64 kd, .string ⟨#[]⟩, .slice Y3 yn3 yc3, .slice Y4 yn4 yc4, .slice Y5 yn5 yc5, .slice Y6 yn6 yc6, .int .i64 0], .bool true]) (by simp [results, Tryz.results130, go_sem, c0, c1, c2, c3, c4, c5, c6, c7, z1]) rfl ⟨Y3, Y4, Y5, Y6, yn3, yc3, yn4, yc4, yn5, yc5, yn6, yc6, rfl, K.below (K.kept HV.out (fun g' hg' => far8b (hn1 g' hg') _ _ _ _ _ _ _ _)) alloc_old, fun g hg => by have := hge g hg; omega, (((((((((alloc_old.trans (B1.out.mono (by simp))).setCell (Nat.le_refl _) _).setCell (Nat.le_refl _) _).setCell (Nat.le_refl _) _).setCell (Nat.le_refl _) _).setCell (Nat.le_refl _) _).setCell (Nat.le_refl _) _).setCell (Nat.le_refl _) _).setCell (Nat.le_refl _) _).alloc (by have := Below.size B1.out; simp at this ⊢; omega) _⟩
theorem OfD_no {α : Type} (K : Kd α) (ok : ByteArray → α → Prop) (bS bM j : Nat) (D : List (ByteArray × α)) (k : ByteArray) (now : Int) (vA vl : Value) (hf : findD k D = none) (w : World) (h : SPG K ok w bS bM D) (hj : JB w j bS now vA vl) : Calls Tryz.prog 130 #[.pointer (some ⟨j, 0, none⟩), .string k, .int .i64 K.kd] w fun e w' => e = .returned (.tuple #[.agg #[.string k, .int .i64 K.kd, .string ⟨#[]⟩, .slice none 0 0, .slice none 0 0, .slice none 0 0, .slice none 0 0, .int .i64 0], .bool false]) ∧ Below w.heap.size w w' := by
  obtain ⟨⟨l, hS, hA⟩, _⟩ := h
  exact Of_no bS bM j l k now vA vl K.kd (AllE.find_none K hA hf) w hS hj
theorem OfD_yes {α : Type} (K : Kd α) (ok : ByteArray → α → Prop) (hO : KdOk K ok) (bS bM j : Nat) (D : List (ByteArray × α)) (k : ByteArray) (x : α) (now : Int) (vA vl : Value) (hf : findD k D = some x) (w : World) (h : SPG K ok w bS bM D) (hj : JB w j bS now vA vl) : Calls Tryz.prog 130 #[.pointer (some ⟨j, 0, none⟩), .string k, .int .i64 K.kd] w fun e w' => ∃ Y3 Y4 Y5 Y6 yn3 yc3 yn4 yc4 yn5 yc5 yn6 yc6, e = .returned (.tuple #[.agg #[.string k, .int .i64 K.kd, .string ⟨#[]⟩, .slice Y3 yn3 yc3, .slice Y4 yn4 yc4, .slice Y5 yn5 yc5, .slice Y6 yn6 yc6, .int .i64 0], .bool true]) ∧ K.V w' x (.slice Y3 yn3 yc3) (.slice Y4 yn4 yc4) (.slice Y5 yn5 yc5) (.slice Y6 yn6 yc6) ∧ (∀ g, Own (.slice Y3 yn3 yc3) (.slice Y4 yn4 yc4) (.slice Y5 yn5 yc5) (.slice Y6 yn6 yc6) g → w.heap.size ≤ g) ∧ Below w.heap.size w w' := by
  obtain ⟨⟨l, hS, hA⟩, hall⟩ := h
  obtain ⟨A3, A4, A5, A6, an3, ac3, an4, ac4, an5, ac5, an6, ac6, hf2, hV2⟩ := AllE.find_some K hA hf
  exact Of_yesG K ok hO bS bM j l k x now vA vl A3 A4 A5 A6 an3 ac3 an4 ac4 an5 ac5 an6 ac6 (hall _ (findD_mem hf)) hf2 w hS hj hV2
/-- A job's Get, over data. -/
theorem JGetD_no {α : Type} (K : Kd α) (ok : ByteArray → α → Prop) (bS bM j : Nat) (D : List (ByteArray × α)) (k : ByteArray) (now : Int) (vA vl : Value) (hf : findD k D = none) (w : World) (h : SPG K ok w bS bM D) (hj : JB w j bS now vA vl) : Calls Tryz.prog 181 #[.pointer (some ⟨j, 0, none⟩), .string k] w fun e w' => e = .returned (.tuple #[.agg #[.string k, .int .i64 0, .string ⟨#[]⟩, .slice none 0 0, .slice none 0 0, .slice none 0 0, .slice none 0 0, .int .i64 0], .bool false]) ∧ Below w.heap.size w w' := by
  obtain ⟨⟨l, hS, hA⟩, _⟩ := h
  exact JGet_no bS bM j l k now vA vl (AllE.find_none K hA hf) w hS hj
theorem JGetD_yes {α : Type} (K : Kd α) (ok : ByteArray → α → Prop) (hO : KdOk K ok) (bS bM j : Nat) (D : List (ByteArray × α)) (k : ByteArray) (x : α) (now : Int) (vA vl : Value) (hf : findD k D = some x) (w : World) (h : SPG K ok w bS bM D) (hj : JB w j bS now vA vl) : Calls Tryz.prog 181 #[.pointer (some ⟨j, 0, none⟩), .string k] w fun e w' => ∃ Y3 Y4 Y5 Y6 yn3 yc3 yn4 yc4 yn5 yc5 yn6 yc6, e = .returned (.tuple #[.agg #[.string k, .int .i64 K.kd, .string ⟨#[]⟩, .slice Y3 yn3 yc3, .slice Y4 yn4 yc4, .slice Y5 yn5 yc5, .slice Y6 yn6 yc6, .int .i64 0], .bool true]) ∧ K.V w' x (.slice Y3 yn3 yc3) (.slice Y4 yn4 yc4) (.slice Y5 yn5 yc5) (.slice Y6 yn6 yc6) ∧ (∀ g, Own (.slice Y3 yn3 yc3) (.slice Y4 yn4 yc4) (.slice Y5 yn5 yc5) (.slice Y6 yn6 yc6) g → w.heap.size ≤ g) ∧ Below w.heap.size w w' := by
  obtain ⟨⟨l, hS, hA⟩, hall⟩ := h
  obtain ⟨A3, A4, A5, A6, an3, ac3, an4, ac4, an5, ac5, an6, ac6, hf2, hV2⟩ := AllE.find_some K hA hf
  exact JGet_yesG K ok hO bS bM j l k x now vA vl A3 A4 A5 A6 an3 ac3 an4 ac4 an5 ac5 an6 ac6 (hall _ (findD_mem hf)) hf2 w hS hj hV2
end Go.Proofs.YticlacjpgjkhcaaGreatDoor
