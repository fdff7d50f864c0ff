/- Texts joined: St22, St23, Li2 -/
import Derived.Test.YticlacjpgjkhcaaGreatDoorQs7
import Derived.Defers
import Derived.Recover
import Derived.Laws.Pointers
set_option linter.unusedVariables false
set_option linter.unusedSimpArgs false

/- A job's Turn: an entry that was turned is put, what was not turned has no effect. -/
namespace Go.Proofs.YticlacjpgjkhcaaGreatDoor
open Go.ChangeShapes Go.WideShapes Go.ChangeAt Go.RowKit

set_option maxRecDepth 100000 in
set_option maxHeartbeats 4000000 in
theorem Turn_new (j bS bM : Nat) (l : MapT.Ents) (now : Int) (vA : Value) (A : Option Addr) (n cap : Nat) (es : List Ent) (c : Nat) (w : World) (hS : SP w bS bM l) (hj : JB w j bS now vA (.slice A n cap)) (hE : EF w c (.slice A n cap) es) (hc : c ≤ w.heap.size) (hl : es.length ≤ 100000) (k t : ByteArray) (hk1 : 1 ≤ k.size) (hk : k.size ≤ 512) (ht : t.size ≤ 4096) (u : Int) (hu0 : 0 ≤ u) (hu1 : u ≤ 1125899906842624) (hf : MapT.find k l = none) : Calls Tryz.prog 161 #[.pointer (some ⟨j, 0, none⟩), .agg #[.string k, .int .i64 1, .string t, .slice none 0 0, .slice none 0 0, .slice none 0 0, .slice none 0 0, .int .i64 u]] w fun e w' => e = .returned (.tuple #[]) ∧ (∃ A' n' cap', JB w' j bS now vA (.slice A' n' cap') ∧ EF w' c (.slice A' n' cap') (es ++ [⟨k, 1, t, u⟩])) ∧ Kp c (fun i => i ≠ j) w w' := by
  have bx := Lib.hid (alloc_old (w := w) (o := .cells #[.string k, .int .i64 1, .string t, .slice none 0 0, .slice none 0 0, .slice none 0 0, .slice none 0 0, .int .i64 u] 66))
  have hp := Lib.hid (heap_alloc_new w (.cells #[.string k, .int .i64 1, .string t, .slice none 0 0, .slice none 0 0, .slice none 0 0, .slice none 0 0, .int .i64 u] 66))
  have G := Lib.hid (JGet_no bS bM j l k now vA (.slice A n cap) hf _ (hS.below (alloc_old (w := w) (o := .cells #[.string k, .int .i64 1, .string t, .slice none 0 0, .slice none 0 0, .slice none 0 0, .slice none 0 0, .int .i64 u] 66))) (hj.below (alloc_old (w := w) (o := .cells #[.string k, .int .i64 1, .string t, .slice none 0 0, .slice none 0 0, .slice none 0 0, .slice none 0 0, .int .i64 u] 66))))
  have PP := Lib.hid (fun X (hb : Below w.heap.size w X) => Put72 j bS now vA A n cap es c X (hj.below hb) (hE.below hb) (Nat.le_trans hc (Below.size hb)) hl k t hk1 hk ht u hu0 hu1)
  clear hS hE hj hf
  go_enter Tryz.func161, Tryz.ntmps161
  go_wp2_with (first | (go_at_call 181; (with_reducible refine (G.out).mono ?_); rintro e w1 ⟨rfl, h1⟩; have B1 := Lib.hid h1; clear h1; refine Hid.out ?_))
  refine Lib.hid ?_
  have BW := Lib.hid (bx.out.trans (B1.out.mono (Below.size bx.out)))
  have BX := Lib.hid (show Below w.heap.size w (w1.alloc (.cells #[.string k, .int .i64 0, .string ⟨#[]⟩, .slice none 0 0, .slice none 0 0, .slice none 0 0, .slice none 0 0, .int .i64 0] 66)) from BW.out.trans (alloc_old.mono (Below.size BW.out)))
  obtain ⟨⟨p0, p1, p2, p3, p4, p5, p6, p7⟩, _, pz⟩ := cells8 (blk_below hp.out B1.out)
  have pz2 : w.heap.size < w1.heap.size := pz
  go_wp2_with (first | (go_at_call 212; (with_reducible refine (PP.out _ BX.out).mono ?_); rintro e w3 ⟨rfl, hR, hK⟩))
  go_end0
  exact ⟨rfl, hR, (Kp.of (BX.out.mono hc)).trans hK⟩
set_option maxRecDepth 100000 in
set_option maxHeartbeats 4000000 in
theorem Turn_diff (j bS bM : Nat) (l : MapT.Ents) (now : Int) (vA : Value) (A : Option Addr) (n cap : Nat) (es : List Ent) (c : Nat) (w : World) (hS : SP w bS bM l) (hj : JB w j bS now vA (.slice A n cap)) (hE : EF w c (.slice A n cap) es) (hc : c ≤ w.heap.size) (hl : es.length ≤ 100000) (k t : ByteArray) (hk1 : 1 ≤ k.size) (hk : k.size ≤ 512) (ht : t.size ≤ 4096) (u : Int) (hu0 : 0 ≤ u) (hu1 : u ≤ 1125899906842624) (t0 : ByteArray) (hn : t0 ≠ t) (hf : MapT.find k l = some (.agg #[.string k, .int .i64 1, .string t0, .slice none 0 0, .slice none 0 0, .slice none 0 0, .slice none 0 0, .int .i64 u])) (hv : Lives u now) : Calls Tryz.prog 161 #[.pointer (some ⟨j, 0, none⟩), .agg #[.string k, .int .i64 1, .string t, .slice none 0 0, .slice none 0 0, .slice none 0 0, .slice none 0 0, .int .i64 u]] w fun e w' => e = .returned (.tuple #[]) ∧ (∃ A' n' cap', JB w' j bS now vA (.slice A' n' cap') ∧ EF w' c (.slice A' n' cap') (es ++ [⟨k, 1, t, u⟩])) ∧ Kp c (fun i => i ≠ j) w w' := by
  have bx := Lib.hid (alloc_old (w := w) (o := .cells #[.string k, .int .i64 1, .string t, .slice none 0 0, .slice none 0 0, .slice none 0 0, .slice none 0 0, .int .i64 u] 66))
  have hp := Lib.hid (heap_alloc_new w (.cells #[.string k, .int .i64 1, .string t, .slice none 0 0, .slice none 0 0, .slice none 0 0, .slice none 0 0, .int .i64 u] 66))
  have G := Lib.hid (JGet_yes bS bM j l k now vA (.slice A n cap) t0 u 1 hf hv _ (hS.below (alloc_old (w := w) (o := .cells #[.string k, .int .i64 1, .string t, .slice none 0 0, .slice none 0 0, .slice none 0 0, .slice none 0 0, .int .i64 u] 66))) (hj.below (alloc_old (w := w) (o := .cells #[.string k, .int .i64 1, .string t, .slice none 0 0, .slice none 0 0, .slice none 0 0, .slice none 0 0, .int .i64 u] 66))))
  have PP := Lib.hid (fun X (hb : Below w.heap.size w X) => Put72 j bS now vA A n cap es c X (hj.below hb) (hE.below hb) (Nat.le_trans hc (Below.size hb)) hl k t hk1 hk ht u hu0 hu1)
  have SM := Lib.hid (fun w => Same_no t0 t hn w)
  clear hS hE hj hf
  go_enter Tryz.func161, Tryz.ntmps161
  go_wp2_with (first | (go_at_call 181; (with_reducible refine (G.out).mono ?_); rintro e w1 ⟨rfl, h1⟩; have B1 := Lib.hid h1; clear h1; refine Hid.out ?_))
  refine Lib.hid ?_
  have BW := Lib.hid (bx.out.trans (B1.out.mono (Below.size bx.out)))
  have BX := Lib.hid (show Below w.heap.size w (w1.alloc (.cells #[.string k, .int .i64 1, .string t0, .slice none 0 0, .slice none 0 0, .slice none 0 0, .slice none 0 0, .int .i64 u] 66)) from BW.out.trans (alloc_old.mono (Below.size BW.out)))
  obtain ⟨⟨p0, p1, p2, p3, p4, p5, p6, p7⟩, _, pz⟩ := cells8 (blk_below hp.out B1.out)
  have pz2 : w.heap.size < w1.heap.size := pz
  go_wp2_with (first | (go_at_call 211; (with_reducible refine (SM.out _).mono ?_); rintro e w2 ⟨rfl, h2⟩; have B2 := Lib.hid (belT BX.out h2); obtain ⟨⟨r0, r1, r2, r3, r4, r5, r6, r7⟩, _, rz⟩ := cells8 (blk_below (blk_below hp.out B1.out) (belA (Below.refl w1.heap.size w1) h2)); clear h2) | (go_at_call 212; (with_reducible refine (PP.out _ B2.out).mono ?_); rintro e w3 ⟨rfl, hR, hK⟩))
  go_end0
  exact ⟨rfl, hR, (Kp.of (B2.out.mono hc)).trans hK⟩
set_option maxRecDepth 100000 in
set_option maxHeartbeats 4000000 in
theorem Turn_same (j bS bM : Nat) (l : MapT.Ents) (now : Int) (vA : Value) (A : Option Addr) (n cap : Nat) (w : World) (hS : SP w bS bM l) (hj : JB w j bS now vA (.slice A n cap)) (k t : ByteArray) (u : Int) (hf : MapT.find k l = some (.agg #[.string k, .int .i64 1, .string t, .slice none 0 0, .slice none 0 0, .slice none 0 0, .slice none 0 0, .int .i64 u])) (hv : Lives u now) : Calls Tryz.prog 161 #[.pointer (some ⟨j, 0, none⟩), .agg #[.string k, .int .i64 1, .string t, .slice none 0 0, .slice none 0 0, .slice none 0 0, .slice none 0 0, .int .i64 u]] w fun e w' => e = .returned (.tuple #[]) ∧ Below w.heap.size w w' := by
  have bx := Lib.hid (alloc_old (w := w) (o := .cells #[.string k, .int .i64 1, .string t, .slice none 0 0, .slice none 0 0, .slice none 0 0, .slice none 0 0, .int .i64 u] 66))
  have hp := Lib.hid (heap_alloc_new w (.cells #[.string k, .int .i64 1, .string t, .slice none 0 0, .slice none 0 0, .slice none 0 0, .slice none 0 0, .int .i64 u] 66))
  have G := Lib.hid (JGet_yes bS bM j l k now vA (.slice A n cap) t u 1 hf hv _ (hS.below (alloc_old (w := w) (o := .cells #[.string k, .int .i64 1, .string t, .slice none 0 0, .slice none 0 0, .slice none 0 0, .slice none 0 0, .int .i64 u] 66))) (hj.below (alloc_old (w := w) (o := .cells #[.string k, .int .i64 1, .string t, .slice none 0 0, .slice none 0 0, .slice none 0 0, .slice none 0 0, .int .i64 u] 66))))
  have SM := Lib.hid (fun w => Same_yes t w)
  clear hS hj hf
  go_enter Tryz.func161, Tryz.ntmps161
  go_wp2_with (first | (go_at_call 181; (with_reducible refine (G.out).mono ?_); rintro e w1 ⟨rfl, h1⟩; have B1 := Lib.hid h1; clear h1; refine Hid.out ?_))
  refine Lib.hid ?_
  have BW := Lib.hid (bx.out.trans (B1.out.mono (Below.size bx.out)))
  have BX := Lib.hid (show Below w.heap.size w (w1.alloc (.cells #[.string k, .int .i64 1, .string t, .slice none 0 0, .slice none 0 0, .slice none 0 0, .slice none 0 0, .int .i64 u] 66)) from BW.out.trans (alloc_old.mono (Below.size BW.out)))
  obtain ⟨⟨p0, p1, p2, p3, p4, p5, p6, p7⟩, _, pz⟩ := cells8 (blk_below hp.out B1.out)
  have pz2 : w.heap.size < w1.heap.size := pz
  go_wp2_with (first | (go_at_call 211; (with_reducible refine (SM.out _).mono ?_); rintro e w2 ⟨rfl, h2⟩; have B2 := Lib.hid (belT BX.out h2); clear h2))
  go_end0
  exact ⟨rfl, B2.out⟩
set_option maxRecDepth 100000 in
set_option maxHeartbeats 4000000 in
theorem Turn_until (j bS bM : Nat) (l : MapT.Ents) (now : Int) (vA : Value) (A : Option Addr) (n cap : Nat) (es : List Ent) (c : Nat) (w : World) (hS : SP w bS bM l) (hj : JB w j bS now vA (.slice A n cap)) (hE : EF w c (.slice A n cap) es) (hc : c ≤ w.heap.size) (hl : es.length ≤ 100000) (k t : ByteArray) (hk1 : 1 ≤ k.size) (hk : k.size ≤ 512) (ht : t.size ≤ 4096) (u : Int) (hu0 : 0 ≤ u) (hu1 : u ≤ 1125899906842624) (u0 : Int) (hn : u0 ≠ u) (hf : MapT.find k l = some (.agg #[.string k, .int .i64 1, .string t, .slice none 0 0, .slice none 0 0, .slice none 0 0, .slice none 0 0, .int .i64 u0])) (hv : Lives u0 now) : Calls Tryz.prog 161 #[.pointer (some ⟨j, 0, none⟩), .agg #[.string k, .int .i64 1, .string t, .slice none 0 0, .slice none 0 0, .slice none 0 0, .slice none 0 0, .int .i64 u]] w fun e w' => e = .returned (.tuple #[]) ∧ (∃ A' n' cap', JB w' j bS now vA (.slice A' n' cap') ∧ EF w' c (.slice A' n' cap') (es ++ [⟨k, 1, t, u⟩])) ∧ Kp c (fun i => i ≠ j) w w' := by
  have bx := Lib.hid (alloc_old (w := w) (o := .cells #[.string k, .int .i64 1, .string t, .slice none 0 0, .slice none 0 0, .slice none 0 0, .slice none 0 0, .int .i64 u] 66))
  have hp := Lib.hid (heap_alloc_new w (.cells #[.string k, .int .i64 1, .string t, .slice none 0 0, .slice none 0 0, .slice none 0 0, .slice none 0 0, .int .i64 u] 66))
  have G := Lib.hid (JGet_yes bS bM j l k now vA (.slice A n cap) t u0 1 hf hv _ (hS.below (alloc_old (w := w) (o := .cells #[.string k, .int .i64 1, .string t, .slice none 0 0, .slice none 0 0, .slice none 0 0, .slice none 0 0, .int .i64 u] 66))) (hj.below (alloc_old (w := w) (o := .cells #[.string k, .int .i64 1, .string t, .slice none 0 0, .slice none 0 0, .slice none 0 0, .slice none 0 0, .int .i64 u] 66))))
  have PP := Lib.hid (fun X (hb : Below w.heap.size w X) => Put72 j bS now vA A n cap es c X (hj.below hb) (hE.below hb) (Nat.le_trans hc (Below.size hb)) hl k t hk1 hk ht u hu0 hu1)
  have gu : (u0 == u) = false := by rw [beq_eq_false_iff_ne]; exact hn
  clear hS hE hj hf
  go_enter Tryz.func161, Tryz.ntmps161
  go_wp2_with (first | (go_at_call 181; (with_reducible refine (G.out).mono ?_); rintro e w1 ⟨rfl, h1⟩; have B1 := Lib.hid h1; clear h1; refine Hid.out ?_))
  refine Lib.hid ?_
  have BW := Lib.hid (bx.out.trans (B1.out.mono (Below.size bx.out)))
  have BX := Lib.hid (show Below w.heap.size w (w1.alloc (.cells #[.string k, .int .i64 1, .string t, .slice none 0 0, .slice none 0 0, .slice none 0 0, .slice none 0 0, .int .i64 u0] 66)) from BW.out.trans (alloc_old.mono (Below.size BW.out)))
  obtain ⟨⟨p0, p1, p2, p3, p4, p5, p6, p7⟩, _, pz⟩ := cells8 (blk_below hp.out B1.out)
  have pz2 : w.heap.size < w1.heap.size := pz
  go_wp2_with (first | (go_at_call 212; (with_reducible refine (PP.out _ BX.out).mono ?_); rintro e w3 ⟨rfl, hR, hK⟩))
  go_end0
  exact ⟨rfl, hR, (Kp.of (BX.out.mono hc)).trans hK⟩
end Go.Proofs.YticlacjpgjkhcaaGreatDoor

/- What a command that is refused becomes: the deferred closure. -/
namespace Go.Proofs.YticlacjpgjkhcaaGreatDoor
open Go.ChangeShapes Go.WideShapes Go.ChangeAt Go.RowKit

set_option maxRecDepth 100000 in
set_option maxHeartbeats 1000000 in
theorem catch_idle (p8 p9 p10 : Addr) (w : World) :
    CallsD Tryz.prog 97 #[.pointer (some p8), .pointer (some p9), .pointer (some p10)] .returning w fun e u' w' => e = .returned (.tuple #[]) ∧ u' = .returning ∧ Below w.heap.size w w' := by
  have hT : ∀ w, (Instr.typeAssert .nilIface 20 103 true).run Tryz.prog w = .ok (.tuple #[.agg #[.int .i64 0], .bool false]) w := fun w => by kernel_rfl
  refine callsD_of_wpS Tryz.func97 rfl fun c₀ cs hu => ?_
  change Code.wpS _ _ _ { tmps := #[.pointer (some p8), .pointer (some p9), .pointer (some p10), undef, undef, undef, undef, undef, undef, undef, undef, undef, undef, undef], defers := [] } _ _
  apply wpS_seq
  apply wpS_region
  simp [wpOpsS, go_sem, recoverD, hu, Exit.thenS, hT]
  refine wpS_of_wp ?_
  go_wp2
  refine ⟨rfl, .returning, ?_, _, results_none rfl _ _ _, rfl, rfl, alloc_old⟩
  rw [← hu]
theorem cells4 {X : World} {b : Nat} {a0 a1 a2 a3 : Value} {t : TypeId} (h : X.heap[b]? = some (.cells #[a0, a1, a2, a3] t)) :
    (X.cell? ⟨b, 0, none⟩ = some a0 ∧ X.cell? ⟨b, 1, none⟩ = some a1 ∧ X.cell? ⟨b, 2, none⟩ = some a2 ∧ X.cell? ⟨b, 3, none⟩ = some a3) ∧
    (X.frozen? ⟨b, 0, none⟩ = false ∧ X.frozen? ⟨b, 1, none⟩ = false ∧ X.frozen? ⟨b, 2, none⟩ = false ∧ X.frozen? ⟨b, 3, none⟩ = false) := by
  refine ⟨⟨?_, ?_, ?_, ?_⟩, ⟨?_, ?_, ?_, ?_⟩⟩ <;> simp [World.cell?, World.frozen?, h]
theorem set4 {X : World} {b : Nat} {a0 a1 a2 a3 : Value} {t : TypeId} (h : X.heap[b]? = some (.cells #[a0, a1, a2, a3] t)) (v0 v1 v2 v3 : Value) : ((((X.setCell ⟨b, 0, none⟩ v0).setCell ⟨b, 1, none⟩ v1).setCell ⟨b, 2, none⟩ v2).setCell ⟨b, 3, none⟩ v3).heap[b]? = some (.cells #[v0, v1, v2, v3] t) := by
  simp [World.setCell, Array.getElem?_modify, h]
theorem far4 {X : World} {b i : Nat} (v0 v1 v2 v3 : Value) (hi : i ≠ b) : ((((X.setCell ⟨b, 0, none⟩ v0).setCell ⟨b, 1, none⟩ v1).setCell ⟨b, 2, none⟩ v2).setCell ⟨b, 3, none⟩ v3).heap[i]? = X.heap[i]? :=
  (Below.heap_setCell _ ⟨b, 3, none⟩ _ _ hi).trans ((Below.heap_setCell _ ⟨b, 2, none⟩ _ _ hi).trans ((Below.heap_setCell _ ⟨b, 1, none⟩ _ _ hi).trans (Below.heap_setCell _ ⟨b, 0, none⟩ _ _ hi)))
theorem set1 {X : World} {b : Nat} {a0 : Value} {t : TypeId} (h : X.heap[b]? = some (.cells #[a0] t)) (v0 : Value) : (X.setCell ⟨b, 0, none⟩ v0).heap[b]? = some (.cells #[v0] t) := by
  simp [World.setCell, Array.getElem?_modify, h]
theorem cells1 {X : World} {b : Nat} {a0 : Value} {t : TypeId} (h : X.heap[b]? = some (.cells #[a0] t)) : X.cell? ⟨b, 0, none⟩ = some a0 ∧ X.frozen? ⟨b, 0, none⟩ = false := by
  refine ⟨?_, ?_⟩ <;> simp [World.cell?, World.frozen?, h]
set_option maxRecDepth 100000 in
set_option maxHeartbeats 1000000 in
theorem catch_fail (b8 b9 b10 : Nat) (hd : b8 ≠ b9 ∧ b8 ≠ b10 ∧ b9 ≠ b10) (c0 c1 c2 c3 c4 c5 : Value) (n : Int) (older : List PanicEntry) (w : World) (h8 : w.heap[b8]? = some (.cells #[c0, c1, c2, c3] 29)) (h9 : w.heap[b9]? = some (.cells #[c4] 59)) (h10 : w.heap[b10]? = some (.cells #[c5] 4)) :
    CallsD Tryz.prog 97 #[.pointer (some ⟨b8, 0, none⟩), .pointer (some ⟨b9, 0, none⟩), .pointer (some ⟨b10, 0, none⟩)] (.panicking ({ v := .iface 103 (.agg #[.int .i64 n]), recovered := false } :: older)) w fun e u' w' => e = .returned (.tuple #[]) ∧ u' = .panicking ({ v := .iface 103 (.agg #[.int .i64 n]), recovered := true } :: older) ∧ w'.heap[b8]? = some (.cells #[.int .i64 2, .int .i64 n, .string ⟨#[]⟩, .slice none 0 0] 29) ∧ w'.heap[b9]? = some (.cells #[.slice none 0 0] 59) ∧ w'.heap[b10]? = some (.cells #[.bool true] 4) ∧ Kp w.heap.size (fun i => i ≠ b8 ∧ i ≠ b9 ∧ i ≠ b10) w w' := by
  have hT : ∀ w, (Instr.typeAssert (.iface 103 (.agg #[.int .i64 n])) 20 103 true).run Tryz.prog w = .ok (.tuple #[.agg #[.int .i64 n], .bool true]) w := fun w => by kernel_rfl
  have H8 := Lib.hid h8
  have H9 := Lib.hid h9
  have H10 := Lib.hid h10
  clear h8 h9 h10
  obtain ⟨hd1, hd2, hd3⟩ := hd
  refine callsD_of_wpS Tryz.func97 rfl fun c₀ cs hu => ?_
  change Code.wpS _ _ _ { tmps := #[.pointer (some ⟨b8, 0, none⟩), .pointer (some ⟨b9, 0, none⟩), .pointer (some ⟨b10, 0, none⟩), undef, undef, undef, undef, undef, undef, undef, undef, undef, undef, undef], defers := [] } _ _
  apply wpS_seq
  apply wpS_region
  simp [wpOpsS, go_sem, recoverD, hu, Exit.thenS, hT]
  refine wpS_of_wp ?_
  have Er := Lib.hid (fun w => Err64 n w)
  have hx0 : (w.alloc (.cells #[.int .i64 n] 103)).cell? ⟨w.heap.size, 0, none⟩ = some (.int .i64 n) := by simp
  have AO := Lib.hid (alloc_old (w := w) (o := .cells #[.int .i64 n] 103))
  go_wp2_with (first | (go_at_call 98; (with_reducible refine (Er.out _).mono ?_); rintro e w1 ⟨rfl, h1⟩; have B1 := Lib.hid (AO.out.trans (h1.mono (Below.size AO.out))); clear h1; have k8 := cells4 (blk_below H8.out B1.out); have k9 := cells1 (blk_below H9.out B1.out); have k10 := cells1 (blk_below H10.out B1.out); obtain ⟨⟨a0, a1, a2, a3⟩, ⟨f0, f1, f2, f3⟩⟩ := k8; obtain ⟨g0, g1⟩ := k9; obtain ⟨l0, l1⟩ := k10))
  refine ⟨rfl, _, rfl, _, results_none rfl _ _ _, rfl, rfl, ?_, ?_, ?_, ?_⟩
  · exact (Below.heap_setCell _ ⟨b10, 0, none⟩ _ _ hd2).trans ((Below.heap_setCell _ ⟨b9, 0, none⟩ _ _ hd1).trans (set4 (blk_below H8.out B1.out) _ _ _ _))
  · exact (Below.heap_setCell _ ⟨b10, 0, none⟩ _ _ hd3).trans (set1 ((far4 _ _ _ _ (Ne.symm hd1)).trans (blk_below H9.out B1.out)) _)
  · exact set1 ((Below.heap_setCell _ ⟨b9, 0, none⟩ _ _ (Ne.symm hd3)).trans ((far4 _ _ _ _ (Ne.symm hd2)).trans (blk_below H10.out B1.out))) _
  · exact ((((((Kp.of B1.out).setCell (p := ⟨b8, 0, none⟩) (by simp) _).setCell (p := ⟨b8, 1, none⟩) (by simp) _).setCell (p := ⟨b8, 2, none⟩) (by simp) _).setCell (p := ⟨b8, 3, none⟩) (by simp) _).setCell (p := ⟨b9, 0, none⟩) (by simp) _).setCell (p := ⟨b10, 0, none⟩) (by simp) _
end Go.Proofs.YticlacjpgjkhcaaGreatDoor

/- Values that are lists: count, length, texts, size, which may be. -/
namespace Go.Proofs.YticlacjpgjkhcaaGreatDoor
open Go.ChangeShapes Go.WideShapes Go.ChangeAt Go.RowKit

def iOfL : Value → Int | .int _ n => n | _ => 0
def sumSz (xs : List ByteArray) : Nat := (xs.map ByteArray.size).sum
theorem sumSz_take {xs : List ByteArray} {k : Nat} {s : ByteArray} (h : xs[k]? = some s) : sumSz (xs.take (k + 1)) = sumSz (xs.take k) + s.size := by
  unfold sumSz
  rw [List.take_add_one, h]
  simp
theorem sumSz_le (xs : List ByteArray) (k : Nat) : sumSz (xs.take k) ≤ sumSz xs := by
  unfold sumSz
  conv => rhs; rw [← List.take_append_drop k xs, List.map_append, List.sum_append]
  omega
set_option maxRecDepth 100000 in
set_option maxHeartbeats 4000000 in
theorem count46L (xs : List ByteArray) (A : Option Addr) (cap : Nat) (w : World) : Calls Tryz.prog 167 #[.agg #[.int .i64 2, .string ⟨#[]⟩, .slice A xs.length cap, .slice none 0 0, .slice none 0 0, .slice none 0 0]] w fun e w' => e = .returned (.agg #[.int .i64 (xs.length : Int), .int .i64 0, .int .i64 0, .int .i64 0]) ∧ Below w.heap.size w w' := by
  go_enter Tryz.func167, Tryz.ntmps167
  go_wp2
  exact bodyPost_ret (v := .agg #[.int .i64 (xs.length : Int), .int .i64 0, .int .i64 0, .int .i64 0]) (by simp [results, Tryz.results167, go_sem]) rfl ⟨rfl, ((Below.refl _ _).alloc (Nat.le_refl _) _).alloc (by simp) _⟩
set_option maxRecDepth 100000 in
set_option maxHeartbeats 4000000 in
theorem Len56L (xs : List ByteArray) (A : Option Addr) (cap : Nat) (w : World) : Calls Tryz.prog 165 #[.agg #[.int .i64 2, .string ⟨#[]⟩, .slice A xs.length cap, .slice none 0 0, .slice none 0 0, .slice none 0 0]] w fun e w' => e = .returned (.int .i64 (xs.length : Int)) ∧ Below w.heap.size w w' := by
  go_enter Tryz.func165, Tryz.ntmps165
  go_wp2
  go_ret
  exact ⟨by simp, alloc_old⟩
set_option maxRecDepth 100000 in
set_option maxHeartbeats 4000000 in
theorem rise49 (f : Value) (w : World) : Calls Tryz.prog 168 #[.slice none 0 0, f] w fun e w' => e = .returned (.bool true) ∧ Below w.heap.size w w' := by
  go_enter Tryz.func168, Tryz.ntmps168
  go_wp2
  go_loopw [5] (fun i wr => i = .int .i64 1 ∧ wr = w) (fun _ _ => 0)
  case atStart => exact ⟨rfl, rfl⟩
  case round =>
    obtain ⟨rfl, rfl⟩ := hrel
    go_wp2
    go_ret
    exact ⟨by simp, Below.refl _ _⟩
set_option maxRecDepth 100000 in
set_option maxHeartbeats 4000000 in
theorem rise51 (f : Value) (w : World) : Calls Tryz.prog 170 #[.slice none 0 0, f] w fun e w' => e = .returned (.bool true) ∧ Below w.heap.size w w' := by
  go_enter Tryz.func170, Tryz.ntmps170
  go_wp2
  go_loopw [5] (fun i wr => i = .int .i64 1 ∧ wr = w) (fun _ _ => 0)
  case atStart => exact ⟨rfl, rfl⟩
  case round =>
    obtain ⟨rfl, rfl⟩ := hrel
    go_wp2
    go_ret
    exact ⟨by simp, Below.refl _ _⟩
set_option maxRecDepth 100000 in
set_option maxHeartbeats 4000000 in
theorem rise53 (f : Value) (w : World) : Calls Tryz.prog 172 #[.slice none 0 0, f] w fun e w' => e = .returned (.bool true) ∧ Below w.heap.size w w' := by
  go_enter Tryz.func172, Tryz.ntmps172
  go_wp2
  go_loopw [5] (fun i wr => i = .int .i64 1 ∧ wr = w) (fun _ _ => 0)
  case atStart => exact ⟨rfl, rfl⟩
  case round =>
    obtain ⟨rfl, rfl⟩ := hrel
    go_wp2
    go_ret
    exact ⟨by simp, Below.refl _ _⟩
set_option maxRecDepth 100000 in
set_option maxHeartbeats 4000000 in
theorem once55 (w : World) : Calls Tryz.prog 174 #[.slice none 0 0] w fun e w' => e = .returned (.bool true) ∧ Below w.heap.size w w' := by
  have hmm := @run_makeMap Tryz.prog
  go_enter Tryz.func174, Tryz.ntmps174
  go_wp2
  go_loopw [9] (fun i wr => i = .int .i64 0 ∧ wr = w.alloc (.map #[] 0)) (fun _ _ => 0)
  case atStart => exact ⟨rfl, rfl⟩
  case round =>
    obtain ⟨rfl, rfl⟩ := hrel
    go_wp2
    go_ret
    exact ⟨by simp, alloc_old⟩
set_option maxRecDepth 100000 in
set_option maxHeartbeats 4000000 in
theorem texts47L (xs : List ByteArray) (A : Option Addr) (cap : Nat) (hne : xs ≠ []) (hn : xs.length ≤ 1000000) (w : World) (h : SSl w (.slice A xs.length cap) xs) : Calls Tryz.prog 166 #[.agg #[.int .i64 2, .string ⟨#[]⟩, .slice A xs.length cap, .slice none 0 0, .slice none 0 0, .slice none 0 0]] w fun e w' => ∃ v', e = .returned v' ∧ TR w' v' xs ∧ Below w.heap.size w w' := by
  have C := Lib.hid (Clone57L _ xs hne hn (w.alloc (.cells #[.int .i64 2, .string ⟨#[]⟩, .slice A xs.length cap, .slice none 0 0, .slice none 0 0, .slice none 0 0] 64)) (h.below alloc_old))
  have hb := Lib.hid (heap_alloc_new w (.cells #[.int .i64 2, .string ⟨#[]⟩, .slice A xs.length cap, .slice none 0 0, .slice none 0 0, .slice none 0 0] 64))
  have hn0 := Lib.hid (alloc_old (w := w) (o := .cells #[.int .i64 2, .string ⟨#[]⟩, .slice A xs.length cap, .slice none 0 0, .slice none 0 0, .slice none 0 0] 64))
  clear h
  go_enter Tryz.func166, Tryz.ntmps166
  go_wp2_with (first | (go_at_call 145; (with_reducible refine (C.out).mono ?_); rintro e w2 ⟨v2, rfl, hT, hg, hb2⟩; have HT := Lib.hid hT; have HG := Lib.hid hg; have B2 := Lib.hid (hn0.out.trans (hb2.mono (by simp))); have R2 := Lib.hid (blk_below hb.out hb2); clear hT hg hb2; obtain ⟨⟨c0, c1, c2, c3, c4, c5⟩, _⟩ := cells6 R2.out))
  go_loopw [3, 16] (fun t i wr => v2 = t ∧ i = .int .i64 0 ∧ w2 = wr) (fun _ _ _ => 0)
  case atStart => exact ⟨rfl, rfl, rfl⟩
  case round =>
  obtain ⟨rfl, rfl, rfl⟩ := hrel
  go_wp2
  go_loopw [3, 31] (fun t i wr => v2 = t ∧ i = .int .i64 0 ∧ w2 = wr) (fun _ _ _ => 0)
  case atStart => exact ⟨rfl, rfl, rfl⟩
  case round =>
  obtain ⟨rfl, rfl, rfl⟩ := hrel
  go_wp2
  go_loopw [3, 44] (fun t i wr => v2 = t ∧ i = .int .i64 0 ∧ w2 = wr) (fun _ _ _ => 0)
  case atStart => exact ⟨rfl, rfl, rfl⟩
  case round =>
  obtain ⟨rfl, rfl, rfl⟩ := hrel
  go_wp2
  go_ret
  exact ⟨v2, rfl, HT.out, B2.out⟩
set_option maxRecDepth 100000 in
set_option maxHeartbeats 4000000 in
theorem texts47O (xs : List ByteArray) (A : Option Addr) (cap : Nat) (hne : xs ≠ []) (hn : xs.length ≤ 1000000) (w : World) (h : SSl w (.slice A xs.length cap) xs) : Calls Tryz.prog 166 #[.agg #[.int .i64 0, .string ⟨#[]⟩, .slice A xs.length cap, .slice none 0 0, .slice none 0 0, .slice none 0 0]] w fun e w' => ∃ v', e = .returned v' ∧ TR w' v' xs ∧ Below w.heap.size w w' := by
  have C := Lib.hid (Clone57L _ xs hne hn (w.alloc (.cells #[.int .i64 0, .string ⟨#[]⟩, .slice A xs.length cap, .slice none 0 0, .slice none 0 0, .slice none 0 0] 64)) (h.below alloc_old))
  have hb := Lib.hid (heap_alloc_new w (.cells #[.int .i64 0, .string ⟨#[]⟩, .slice A xs.length cap, .slice none 0 0, .slice none 0 0, .slice none 0 0] 64))
  have hn0 := Lib.hid (alloc_old (w := w) (o := .cells #[.int .i64 0, .string ⟨#[]⟩, .slice A xs.length cap, .slice none 0 0, .slice none 0 0, .slice none 0 0] 64))
  clear h
  go_enter Tryz.func166, Tryz.ntmps166
  go_wp2_with (first | (go_at_call 145; (with_reducible refine (C.out).mono ?_); rintro e w2 ⟨v2, rfl, hT, hg, hb2⟩; have HT := Lib.hid hT; have HG := Lib.hid hg; have B2 := Lib.hid (hn0.out.trans (hb2.mono (by simp))); have R2 := Lib.hid (blk_below hb.out hb2); clear hT hg hb2; obtain ⟨⟨c0, c1, c2, c3, c4, c5⟩, _⟩ := cells6 R2.out))
  go_loopw [3, 16] (fun t i wr => v2 = t ∧ i = .int .i64 0 ∧ w2 = wr) (fun _ _ _ => 0)
  case atStart => exact ⟨rfl, rfl, rfl⟩
  case round =>
  obtain ⟨rfl, rfl, rfl⟩ := hrel
  go_wp2
  go_loopw [3, 31] (fun t i wr => v2 = t ∧ i = .int .i64 0 ∧ w2 = wr) (fun _ _ _ => 0)
  case atStart => exact ⟨rfl, rfl, rfl⟩
  case round =>
  obtain ⟨rfl, rfl, rfl⟩ := hrel
  go_wp2
  go_loopw [3, 44] (fun t i wr => v2 = t ∧ i = .int .i64 0 ∧ w2 = wr) (fun _ _ _ => 0)
  case atStart => exact ⟨rfl, rfl, rfl⟩
  case round =>
  obtain ⟨rfl, rfl, rfl⟩ := hrel
  go_wp2
  go_ret
  exact ⟨v2, rfl, HT.out, B2.out⟩
theorem sz_q1 (n : Nat) (h : n ≤ 1000000) : IntKind.i64.wrap (16 * (n : Int)) = 16 * (n : Int) := IntWalk.i64_in _ (by omega)
theorem sz_q2 (n : Nat) (h : n ≤ 1000000) : IntKind.i64.wrap (16 + 16 * (n : Int)) = 16 + 16 * (n : Int) := IntWalk.i64_in _ (by omega)
theorem sz_q3 (n a b : Nat) (h : n ≤ 1000000) (hab : a + b ≤ 1000000000) : IntKind.i64.wrap (16 + 16 * (n : Int) + (a : Int) + (b : Int)) = 16 + 16 * (n : Int) + ((a + b : Nat) : Int) := (IntWalk.i64_in _ (by omega)).trans (by omega)
theorem some_at {α : Type} {l : List α} {k : Nat} (h : k < l.length) : ∃ x, l[k]? = some x := ⟨_, List.getElem?_eq_getElem h⟩
set_option maxRecDepth 100000 in
set_option maxHeartbeats 4000000 in
theorem Size24L (xs : List ByteArray) (A : Option Addr) (cap : Nat) (hne : xs ≠ []) (hn : xs.length ≤ 1000000) (w : World) (h : SSl w (.slice A xs.length cap) xs) (hs : sumSz xs ≤ 1000000000) : Calls Tryz.prog 113 #[.agg #[.int .i64 2, .string ⟨#[]⟩, .slice A xs.length cap, .slice none 0 0, .slice none 0 0, .slice none 0 0]] w fun e w' => e = .returned (.int .i64 (16 + 16 * (xs.length : Int) + (sumSz xs : Int))) ∧ Below w.heap.size w w' := by
  obtain ⟨W, hW⟩ : ∃ W, (w.alloc (.cells #[.int .i64 2, .string ⟨#[]⟩, .slice A xs.length cap, .slice none 0 0, .slice none 0 0, .slice none 0 0] 64)).alloc (.cells #[.int .i64 0, .string ⟨#[]⟩, .slice A xs.length cap, .slice none 0 0, .slice none 0 0, .slice none 0 0] 64) = W := ⟨_, rfl⟩
  have hb0 : W.heap[w.heap.size]? = some (.cells #[.int .i64 2, .string ⟨#[]⟩, .slice A xs.length cap, .slice none 0 0, .slice none 0 0, .slice none 0 0] 64) := by rw [← hW]; exact blk_below (heap_alloc_new w _) alloc_old
  have hb1 : W.heap[w.heap.size + 1]? = some (.cells #[.int .i64 0, .string ⟨#[]⟩, .slice A xs.length cap, .slice none 0 0, .slice none 0 0, .slice none 0 0] 64) := by rw [← hW]; have := heap_alloc_new (w.alloc (.cells #[.int .i64 2, .string ⟨#[]⟩, .slice A xs.length cap, .slice none 0 0, .slice none 0 0, .slice none 0 0] 64)) (.cells #[.int .i64 0, .string ⟨#[]⟩, .slice A xs.length cap, .slice none 0 0, .slice none 0 0, .slice none 0 0] 64); rw [World.size_alloc] at this; exact this
  have hB : Below w.heap.size w W := by rw [← hW]; exact alloc_old.trans (alloc_old.mono (by simp))
  have LN := Lib.hid (Len56L xs A cap W)
  have TX := Lib.hid (fun X (hX : Below w.heap.size w X) => texts47O xs A cap hne hn X (h.below hX))
  have B0 := Lib.hid hB
  have H0 := Lib.hid hb0
  have H1 := Lib.hid hb1
  have q1 := sz_q1 xs.length hn
  have q2 := sz_q2 xs.length hn
  obtain ⟨⟨c0, c1, c2, c3, c4, c5⟩, _⟩ := cells6 hb0
  obtain ⟨⟨d0, d1, d2, d3, d4, d5⟩, _⟩ := cells6 hb1
  clear h hb0 hb1 hB
  go_enter Tryz.func113, Tryz.ntmps113
  go_wp2_with (first | (go_at_call 165; (with_reducible refine (LN.out).mono ?_); rintro e w2 ⟨rfl, hb2⟩; have B2 := Lib.hid (B0.out.trans (hb2.mono (Below.size B0.out))); have R1 := Lib.hid (blk_below H1.out hb2); clear hb2; obtain ⟨⟨e0, e1, e2, e3, e4, e5⟩, _⟩ := cells6 R1.out; have T2 := Lib.hid (TX.out w2 B2.out)) | (go_at_call 166; (with_reducible refine (T2.out).mono ?_); rintro e w3 ⟨v3, rfl, hT3, hb3⟩; have T3 := Lib.hid hT3; have B3 := Lib.hid (B2.out.trans (hb3.mono (Below.size B2.out))); clear hT3 hb3; refine Hid.out ?_))
  refine Lib.hid ?_
  obtain ⟨A3, cap3, rfl, s2, s3, s4⟩ := T3.out.ssl
  obtain ⟨blk, off, rfl, hblt, hcell⟩ := s4 hne
  clear s2 s3 s4
  have HCL := Lib.hid hcell
  clear hcell c0 c1 c2 c3 c4 c5 d0 d1 d2 d3 d4 d5 e0 e1 e2 e3 e4 e5
  go_wp2
  go_loopw [4, 44] (fun n i wr => ∃ k : Nat, k ≤ xs.length ∧ i = .int .i64 k ∧ n = .int .i64 (16 + 16 * (xs.length : Int) + (sumSz (xs.take k) : Int)) ∧ w3 = wr) (fun _ i _ => xs.length - (iOfL i).toNat)
  case atStart => exact ⟨0, Nat.zero_le _, rfl, by simp [sumSz], rfl⟩
  case round =>
    obtain ⟨k, hk, rfl, rfl, rfl⟩ := hrel
    by_cases hlt : k < xs.length
    · have i0 : (k : Int) < (xs.length : Int) := by omega
      obtain ⟨s, hs0⟩ := some_at hlt
      have x0 := HCL.out k s hs0
      have e9 := sumSz_take hs0
      have e8 := sumSz_le xs (k + 1)
      have q3 := sz_q3 xs.length (sumSz (xs.take k)) s.size hn (by omega)
      rw [← e9] at q3
      have HE := Lib.hid e9
      clear hs0 e8 e9
      go_wp2
      exact ⟨⟨k + 1, hlt, by go_num, rfl, trivial⟩, by simp [iOfL]; omega⟩
    · have i0 : ¬ (k : Int) < (xs.length : Int) := by omega
      have hkk : xs.take k = xs := List.take_of_length_le (by omega)
      rw [hkk]
      clear hkk hlt
      go_wp2
      go_ret
      exact ⟨by simp, B3.out⟩
set_option maxRecDepth 100000 in
set_option maxHeartbeats 4000000 in
theorem VMay23L (xs : List ByteArray) (A : Option Addr) (cap : Nat) (hne : xs ≠ []) (hn : xs.length ≤ 1000000) (w : World) (h : SSl w (.slice A xs.length cap) xs) (h1000 : xs.length ≤ 1000) (hsz : ∀ s ∈ xs, s.size ≤ 4096) (hs : 16 + 16 * xs.length + sumSz xs ≤ 262144) : Calls Tryz.prog 114 #[.agg #[.int .i64 2, .string ⟨#[]⟩, .slice A xs.length cap, .slice none 0 0, .slice none 0 0, .slice none 0 0]] w fun e w' => e = .returned (.bool true) ∧ Below w.heap.size w w' := by
  have CN := Lib.hid (fun X => count46L xs A cap X)
  have TX := Lib.hid (fun X (hX : Below w.heap.size w X) => texts47L xs A cap hne hn X (h.below hX))
  have SZ := Lib.hid (fun X (hX : Below w.heap.size w X) => Size24L xs A cap hne hn X (h.below hX) (by omega))
  have F1 := Lib.hid rise49
  have F2 := Lib.hid rise51
  have F3 := Lib.hid rise53
  have F4 := Lib.hid once55
  have B0 := Lib.hid (alloc_old (w := w) (o := .cells #[.int .i64 2, .string ⟨#[]⟩, .slice A xs.length cap, .slice none 0 0, .slice none 0 0, .slice none 0 0] 64))
  have R0 := Lib.hid (heap_alloc_new w (.cells #[.int .i64 2, .string ⟨#[]⟩, .slice A xs.length cap, .slice none 0 0, .slice none 0 0, .slice none 0 0] 64))
  have hpos : 0 < xs.length := List.length_pos_iff.2 hne
  have g1 : ¬ (xs.length : Int) < 1 := by omega
  have g2 : ¬ (1000 : Int) < (xs.length : Int) := by omega
  have g3 : 16 + 16 * (xs.length : Int) + (sumSz xs : Int) ≤ 262144 := by omega
  clear h hs hpos
  go_enter Tryz.func114, Tryz.ntmps114
  go_wp2_with (first | (go_at_call 167; (with_reducible refine (CN.out _).mono ?_); rintro e w1 ⟨rfl, hb⟩; have B1 := Lib.hid (B0.out.trans (hb.mono (Below.size B0.out))); have R1 := Lib.hid (blk_below R0.out hb); clear hb; obtain ⟨⟨c0, c1, c2, c3, c4, c5⟩, _⟩ := cells6 R1.out; refine Hid.out ?_))
  refine Lib.hid ?_
  have RN := Lib.hid (heap_alloc_new w1 (.cells #[.int .i64 (xs.length : Int), .int .i64 0, .int .i64 0, .int .i64 0] 186))
  have B2 := Lib.hid (B1.out.trans ((alloc_old (o := .cells #[.int .i64 (xs.length : Int), .int .i64 0, .int .i64 0, .int .i64 0] 186)).mono (Below.size B1.out)))
  have R2 := Lib.hid (blk_below R1.out (alloc_old (o := .cells #[.int .i64 (xs.length : Int), .int .i64 0, .int .i64 0, .int .i64 0] 186)))
  obtain ⟨⟨c0, c1, c2, c3, c4, c5⟩, _⟩ := cells6 R2.out
  obtain ⟨⟨n0, n1, n2, n3⟩, _⟩ := cells4 RN.out
  have T2 := Lib.hid (TX.out _ B2.out)
  go_wp2_with (first | (go_at_call 166; (with_reducible refine (T2.out).mono ?_); rintro e w3 ⟨v3, rfl, hT3, hb⟩; have T3 := Lib.hid hT3; clear hT3; have B3 := Lib.hid (B2.out.trans (hb.mono (Below.size B2.out))); have R3 := Lib.hid (blk_below R2.out hb); clear hb; obtain ⟨⟨c0, c1, c2, c3, c4, c5⟩, _⟩ := cells6 R3.out; refine Hid.out ?_))
  refine Lib.hid ?_
  obtain ⟨A3, cap3, rfl, s2, s3, s4⟩ := T3.out.ssl
  obtain ⟨blk, off, rfl, hblt, hcell⟩ := s4 hne
  clear s2 s3 s4 n0 n1 n2 n3
  have HCL := Lib.hid hcell
  clear hcell
  go_wp2
  go_loopw [62] (fun i wr => ∃ k : Nat, k ≤ xs.length ∧ i = .int .i64 k ∧ w3 = wr) (fun i _ => xs.length - (iOfL i).toNat)
  case atStart => exact ⟨0, Nat.zero_le _, rfl, rfl⟩
  case round =>
    obtain ⟨k, hk, rfl, rfl⟩ := hrel
    by_cases hlt : k < xs.length
    · have i0 : (k : Int) < (xs.length : Int) := by omega
      obtain ⟨s, hs0⟩ := some_at hlt
      have x0 := HCL.out k s hs0
      have hs1 := hsz s (List.mem_of_getElem? hs0)
      have i1 : ¬ (4096 : Int) < (s.size : Int) := by omega
      clear hs0 hs1
      go_wp2
      exact ⟨⟨k + 1, hlt, by go_num, trivial⟩, by simp [iOfL]; omega⟩
    · have i0 : ¬ (k : Int) < (xs.length : Int) := by omega
      clear hlt
      go_wp2
      go_loopw [73] (fun i wr => i = .int .i64 0 ∧ w3 = wr) (fun _ _ => 0)
      case atStart => exact ⟨rfl, rfl⟩
      case round =>
        obtain ⟨rfl, rfl⟩ := hrel
        go_wp2_with (first | (go_at_call 168; (with_reducible refine (F1.out _ _).mono ?_); rintro e w4 ⟨rfl, hb⟩; have B4 := Lib.hid (B3.out.trans (hb.mono (Below.size B3.out))); have R4 := Lib.hid (blk_below R3.out hb); clear hb; obtain ⟨⟨c0, c1, c2, c3, c4, c5⟩, _⟩ := cells6 R4.out) | (go_at_call 170; (with_reducible refine (F2.out _ _).mono ?_); rintro e w5 ⟨rfl, hb⟩; have B5 := Lib.hid (B4.out.trans (hb.mono (Below.size B4.out))); have R5 := Lib.hid (blk_below R4.out hb); clear hb; obtain ⟨⟨c0, c1, c2, c3, c4, c5⟩, _⟩ := cells6 R5.out) | (go_at_call 172; (with_reducible refine (F3.out _ _).mono ?_); rintro e w6 ⟨rfl, hb⟩; have B6 := Lib.hid (B5.out.trans (hb.mono (Below.size B5.out))); have R6 := Lib.hid (blk_below R5.out hb); clear hb; obtain ⟨⟨c0, c1, c2, c3, c4, c5⟩, _⟩ := cells6 R6.out) | (go_at_call 174; (with_reducible refine (F4.out _).mono ?_); rintro e w7 ⟨rfl, hb⟩; have B7 := Lib.hid (B6.out.trans (hb.mono (Below.size B6.out))); have R7 := Lib.hid (blk_below R6.out hb); clear hb; obtain ⟨⟨c0, c1, c2, c3, c4, c5⟩, _⟩ := cells6 R7.out; have S7 := Lib.hid (SZ.out _ B7.out)) | (go_at_call 113; (with_reducible refine (S7.out).mono ?_); rintro e w8 ⟨rfl, hb⟩; have B8 := Lib.hid (B7.out.trans (hb.mono (Below.size B7.out))); have R8 := Lib.hid (blk_below R7.out hb); clear hb; obtain ⟨⟨c0, c1, c2, c3, c4, c5⟩, _⟩ := cells6 R8.out))
        go_ret
        exact ⟨by simp, B8.out⟩
end Go.Proofs.YticlacjpgjkhcaaGreatDoor
