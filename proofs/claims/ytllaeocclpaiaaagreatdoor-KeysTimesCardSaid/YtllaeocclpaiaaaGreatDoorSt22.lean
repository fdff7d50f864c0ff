/- A job's Turn: an entry that was turned is put, what was not turned has no effect. -/
import Derived.Test.YtllaeocclpaiaaaGreatDoorSt21
namespace Go.Proofs.YtllaeocclpaiaaaGreatDoor
open Go.ChangeShapes Go.WideShapes Go.ChangeAt Go.RowKit

set_option maxRecDepth 100000 in
set_option maxHeartbeats 4000000 in
theorem Turn_new (j bS bM : Nat) (l : MapT.Ents) (now : Int) (vA : Value) (A : Option Addr) (n cap : Nat) (es : List Ent) (c : Nat) (w : World) (hS : SP w bS bM l) (hj : JB w j bS now vA (.slice A n cap)) (hE : EF w c (.slice A n cap) es) (hc : c ≤ w.heap.size) (hl : es.length ≤ 100000) (k t : ByteArray) (hk1 : 1 ≤ k.size) (hk : k.size ≤ 512) (ht : t.size ≤ 4096) (u : Int) (hu0 : 0 ≤ u) (hu1 : u ≤ 1125899906842624) (hf : MapT.find k l = none) : Calls Tryz.prog 54 #[.pointer (some ⟨j, 0, none⟩), .agg #[.string k, .int .i64 1, .string t, .slice none 0 0, .slice none 0 0, .slice none 0 0, .slice none 0 0, .int .i64 u]] w fun e w' => e = .returned (.tuple #[]) ∧ (∃ A' n' cap', JB w' j bS now vA (.slice A' n' cap') ∧ EF w' c (.slice A' n' cap') (es ++ [⟨k, 1, t, u⟩])) ∧ Kp c (fun i => i ≠ j) w w' := by
  have bx := Lib.hid (alloc_old (w := w) (o := .cells #[.string k, .int .i64 1, .string t, .slice none 0 0, .slice none 0 0, .slice none 0 0, .slice none 0 0, .int .i64 u] 33))
  have hp := Lib.hid (heap_alloc_new w (.cells #[.string k, .int .i64 1, .string t, .slice none 0 0, .slice none 0 0, .slice none 0 0, .slice none 0 0, .int .i64 u] 33))
  have G := Lib.hid (JGet_no bS bM j l k now vA (.slice A n cap) hf _ (hS.below (alloc_old (w := w) (o := .cells #[.string k, .int .i64 1, .string t, .slice none 0 0, .slice none 0 0, .slice none 0 0, .slice none 0 0, .int .i64 u] 33))) (hj.below (alloc_old (w := w) (o := .cells #[.string k, .int .i64 1, .string t, .slice none 0 0, .slice none 0 0, .slice none 0 0, .slice none 0 0, .int .i64 u] 33))))
  have PP := Lib.hid (fun X (hb : Below w.heap.size w X) => Put72 j bS now vA A n cap es c X (hj.below hb) (hE.below hb) (Nat.le_trans hc (Below.size hb)) hl k t hk1 hk ht u hu0 hu1)
  clear hS hE hj hf
  go_enter Tryz.func54, Tryz.ntmps54
  go_wp2_with (first | (go_at_call 43; (with_reducible refine (G.out).mono ?_); rintro e w1 ⟨rfl, h1⟩; have B1 := Lib.hid h1; clear h1; refine Hid.out ?_))
  refine Lib.hid ?_
  have BW := Lib.hid (bx.out.trans (B1.out.mono (Below.size bx.out)))
  have BX := Lib.hid (show Below w.heap.size w (w1.alloc (.cells #[.string k, .int .i64 0, .string ⟨#[]⟩, .slice none 0 0, .slice none 0 0, .slice none 0 0, .slice none 0 0, .int .i64 0] 33)) from BW.out.trans (alloc_old.mono (Below.size BW.out)))
  obtain ⟨⟨p0, p1, p2, p3, p4, p5, p6, p7⟩, _, pz⟩ := cells8 (blk_below hp.out B1.out)
  have pz2 : w.heap.size < w1.heap.size := pz
  go_wp2_with (first | (go_at_call 79; (with_reducible refine (PP.out _ BX.out).mono ?_); rintro e w3 ⟨rfl, hR, hK⟩))
  go_end0
  exact ⟨rfl, hR, (Kp.of (BX.out.mono hc)).trans hK⟩
set_option maxRecDepth 100000 in
set_option maxHeartbeats 4000000 in
theorem Turn_diff (j bS bM : Nat) (l : MapT.Ents) (now : Int) (vA : Value) (A : Option Addr) (n cap : Nat) (es : List Ent) (c : Nat) (w : World) (hS : SP w bS bM l) (hj : JB w j bS now vA (.slice A n cap)) (hE : EF w c (.slice A n cap) es) (hc : c ≤ w.heap.size) (hl : es.length ≤ 100000) (k t : ByteArray) (hk1 : 1 ≤ k.size) (hk : k.size ≤ 512) (ht : t.size ≤ 4096) (u : Int) (hu0 : 0 ≤ u) (hu1 : u ≤ 1125899906842624) (t0 : ByteArray) (hn : t0 ≠ t) (hf : MapT.find k l = some (.agg #[.string k, .int .i64 1, .string t0, .slice none 0 0, .slice none 0 0, .slice none 0 0, .slice none 0 0, .int .i64 u])) (hv : Lives u now) : Calls Tryz.prog 54 #[.pointer (some ⟨j, 0, none⟩), .agg #[.string k, .int .i64 1, .string t, .slice none 0 0, .slice none 0 0, .slice none 0 0, .slice none 0 0, .int .i64 u]] w fun e w' => e = .returned (.tuple #[]) ∧ (∃ A' n' cap', JB w' j bS now vA (.slice A' n' cap') ∧ EF w' c (.slice A' n' cap') (es ++ [⟨k, 1, t, u⟩])) ∧ Kp c (fun i => i ≠ j) w w' := by
  have bx := Lib.hid (alloc_old (w := w) (o := .cells #[.string k, .int .i64 1, .string t, .slice none 0 0, .slice none 0 0, .slice none 0 0, .slice none 0 0, .int .i64 u] 33))
  have hp := Lib.hid (heap_alloc_new w (.cells #[.string k, .int .i64 1, .string t, .slice none 0 0, .slice none 0 0, .slice none 0 0, .slice none 0 0, .int .i64 u] 33))
  have G := Lib.hid (JGet_yes bS bM j l k now vA (.slice A n cap) t0 u 1 hf hv _ (hS.below (alloc_old (w := w) (o := .cells #[.string k, .int .i64 1, .string t, .slice none 0 0, .slice none 0 0, .slice none 0 0, .slice none 0 0, .int .i64 u] 33))) (hj.below (alloc_old (w := w) (o := .cells #[.string k, .int .i64 1, .string t, .slice none 0 0, .slice none 0 0, .slice none 0 0, .slice none 0 0, .int .i64 u] 33))))
  have PP := Lib.hid (fun X (hb : Below w.heap.size w X) => Put72 j bS now vA A n cap es c X (hj.below hb) (hE.below hb) (Nat.le_trans hc (Below.size hb)) hl k t hk1 hk ht u hu0 hu1)
  have SM := Lib.hid (fun w => Same_no t0 t hn w)
  clear hS hE hj hf
  go_enter Tryz.func54, Tryz.ntmps54
  go_wp2_with (first | (go_at_call 43; (with_reducible refine (G.out).mono ?_); rintro e w1 ⟨rfl, h1⟩; have B1 := Lib.hid h1; clear h1; refine Hid.out ?_))
  refine Lib.hid ?_
  have BW := Lib.hid (bx.out.trans (B1.out.mono (Below.size bx.out)))
  have BX := Lib.hid (show Below w.heap.size w (w1.alloc (.cells #[.string k, .int .i64 1, .string t0, .slice none 0 0, .slice none 0 0, .slice none 0 0, .slice none 0 0, .int .i64 u] 33)) from BW.out.trans (alloc_old.mono (Below.size BW.out)))
  obtain ⟨⟨p0, p1, p2, p3, p4, p5, p6, p7⟩, _, pz⟩ := cells8 (blk_below hp.out B1.out)
  have pz2 : w.heap.size < w1.heap.size := pz
  go_wp2_with (first | (go_at_call 81; (with_reducible refine (SM.out _).mono ?_); rintro e w2 ⟨rfl, h2⟩; have B2 := Lib.hid (belT BX.out h2); obtain ⟨⟨r0, r1, r2, r3, r4, r5, r6, r7⟩, _, rz⟩ := cells8 (blk_below (blk_below hp.out B1.out) (belA (Below.refl w1.heap.size w1) h2)); clear h2) | (go_at_call 79; (with_reducible refine (PP.out _ B2.out).mono ?_); rintro e w3 ⟨rfl, hR, hK⟩))
  go_end0
  exact ⟨rfl, hR, (Kp.of (B2.out.mono hc)).trans hK⟩
set_option maxRecDepth 100000 in
set_option maxHeartbeats 4000000 in
theorem Turn_same (j bS bM : Nat) (l : MapT.Ents) (now : Int) (vA : Value) (A : Option Addr) (n cap : Nat) (w : World) (hS : SP w bS bM l) (hj : JB w j bS now vA (.slice A n cap)) (k t : ByteArray) (u : Int) (hf : MapT.find k l = some (.agg #[.string k, .int .i64 1, .string t, .slice none 0 0, .slice none 0 0, .slice none 0 0, .slice none 0 0, .int .i64 u])) (hv : Lives u now) : Calls Tryz.prog 54 #[.pointer (some ⟨j, 0, none⟩), .agg #[.string k, .int .i64 1, .string t, .slice none 0 0, .slice none 0 0, .slice none 0 0, .slice none 0 0, .int .i64 u]] w fun e w' => e = .returned (.tuple #[]) ∧ Below w.heap.size w w' := by
  have bx := Lib.hid (alloc_old (w := w) (o := .cells #[.string k, .int .i64 1, .string t, .slice none 0 0, .slice none 0 0, .slice none 0 0, .slice none 0 0, .int .i64 u] 33))
  have hp := Lib.hid (heap_alloc_new w (.cells #[.string k, .int .i64 1, .string t, .slice none 0 0, .slice none 0 0, .slice none 0 0, .slice none 0 0, .int .i64 u] 33))
  have G := Lib.hid (JGet_yes bS bM j l k now vA (.slice A n cap) t u 1 hf hv _ (hS.below (alloc_old (w := w) (o := .cells #[.string k, .int .i64 1, .string t, .slice none 0 0, .slice none 0 0, .slice none 0 0, .slice none 0 0, .int .i64 u] 33))) (hj.below (alloc_old (w := w) (o := .cells #[.string k, .int .i64 1, .string t, .slice none 0 0, .slice none 0 0, .slice none 0 0, .slice none 0 0, .int .i64 u] 33))))
  have SM := Lib.hid (fun w => Same_yes t w)
  clear hS hj hf
  go_enter Tryz.func54, Tryz.ntmps54
  go_wp2_with (first | (go_at_call 43; (with_reducible refine (G.out).mono ?_); rintro e w1 ⟨rfl, h1⟩; have B1 := Lib.hid h1; clear h1; refine Hid.out ?_))
  refine Lib.hid ?_
  have BW := Lib.hid (bx.out.trans (B1.out.mono (Below.size bx.out)))
  have BX := Lib.hid (show Below w.heap.size w (w1.alloc (.cells #[.string k, .int .i64 1, .string t, .slice none 0 0, .slice none 0 0, .slice none 0 0, .slice none 0 0, .int .i64 u] 33)) from BW.out.trans (alloc_old.mono (Below.size BW.out)))
  obtain ⟨⟨p0, p1, p2, p3, p4, p5, p6, p7⟩, _, pz⟩ := cells8 (blk_below hp.out B1.out)
  have pz2 : w.heap.size < w1.heap.size := pz
  go_wp2_with (first | (go_at_call 81; (with_reducible refine (SM.out _).mono ?_); rintro e w2 ⟨rfl, h2⟩; have B2 := Lib.hid (belT BX.out h2); clear h2))
  go_end0
  exact ⟨rfl, B2.out⟩
set_option maxRecDepth 100000 in
set_option maxHeartbeats 4000000 in
theorem Turn_until (j bS bM : Nat) (l : MapT.Ents) (now : Int) (vA : Value) (A : Option Addr) (n cap : Nat) (es : List Ent) (c : Nat) (w : World) (hS : SP w bS bM l) (hj : JB w j bS now vA (.slice A n cap)) (hE : EF w c (.slice A n cap) es) (hc : c ≤ w.heap.size) (hl : es.length ≤ 100000) (k t : ByteArray) (hk1 : 1 ≤ k.size) (hk : k.size ≤ 512) (ht : t.size ≤ 4096) (u : Int) (hu0 : 0 ≤ u) (hu1 : u ≤ 1125899906842624) (u0 : Int) (hn : u0 ≠ u) (hf : MapT.find k l = some (.agg #[.string k, .int .i64 1, .string t, .slice none 0 0, .slice none 0 0, .slice none 0 0, .slice none 0 0, .int .i64 u0])) (hv : Lives u0 now) : Calls Tryz.prog 54 #[.pointer (some ⟨j, 0, none⟩), .agg #[.string k, .int .i64 1, .string t, .slice none 0 0, .slice none 0 0, .slice none 0 0, .slice none 0 0, .int .i64 u]] w fun e w' => e = .returned (.tuple #[]) ∧ (∃ A' n' cap', JB w' j bS now vA (.slice A' n' cap') ∧ EF w' c (.slice A' n' cap') (es ++ [⟨k, 1, t, u⟩])) ∧ Kp c (fun i => i ≠ j) w w' := by
  have bx := Lib.hid (alloc_old (w := w) (o := .cells #[.string k, .int .i64 1, .string t, .slice none 0 0, .slice none 0 0, .slice none 0 0, .slice none 0 0, .int .i64 u] 33))
  have hp := Lib.hid (heap_alloc_new w (.cells #[.string k, .int .i64 1, .string t, .slice none 0 0, .slice none 0 0, .slice none 0 0, .slice none 0 0, .int .i64 u] 33))
  have G := Lib.hid (JGet_yes bS bM j l k now vA (.slice A n cap) t u0 1 hf hv _ (hS.below (alloc_old (w := w) (o := .cells #[.string k, .int .i64 1, .string t, .slice none 0 0, .slice none 0 0, .slice none 0 0, .slice none 0 0, .int .i64 u] 33))) (hj.below (alloc_old (w := w) (o := .cells #[.string k, .int .i64 1, .string t, .slice none 0 0, .slice none 0 0, .slice none 0 0, .slice none 0 0, .int .i64 u] 33))))
  have PP := Lib.hid (fun X (hb : Below w.heap.size w X) => Put72 j bS now vA A n cap es c X (hj.below hb) (hE.below hb) (Nat.le_trans hc (Below.size hb)) hl k t hk1 hk ht u hu0 hu1)
  have gu : (u0 == u) = false := by rw [beq_eq_false_iff_ne]; exact hn
  clear hS hE hj hf
  go_enter Tryz.func54, Tryz.ntmps54
  go_wp2_with (first | (go_at_call 43; (with_reducible refine (G.out).mono ?_); rintro e w1 ⟨rfl, h1⟩; have B1 := Lib.hid h1; clear h1; refine Hid.out ?_))
  refine Lib.hid ?_
  have BW := Lib.hid (bx.out.trans (B1.out.mono (Below.size bx.out)))
  have BX := Lib.hid (show Below w.heap.size w (w1.alloc (.cells #[.string k, .int .i64 1, .string t, .slice none 0 0, .slice none 0 0, .slice none 0 0, .slice none 0 0, .int .i64 u0] 33)) from BW.out.trans (alloc_old.mono (Below.size BW.out)))
  obtain ⟨⟨p0, p1, p2, p3, p4, p5, p6, p7⟩, _, pz⟩ := cells8 (blk_below hp.out B1.out)
  have pz2 : w.heap.size < w1.heap.size := pz
  go_wp2_with (first | (go_at_call 79; (with_reducible refine (PP.out _ BX.out).mono ?_); rintro e w3 ⟨rfl, hR, hK⟩))
  go_end0
  exact ⟨rfl, hR, (Kp.of (BX.out.mono hc)).trans hK⟩
end Go.Proofs.YtllaeocclpaiaaaGreatDoor
