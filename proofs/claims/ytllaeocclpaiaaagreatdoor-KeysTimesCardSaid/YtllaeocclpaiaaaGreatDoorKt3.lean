/- RENAME. -/
import Derived.Test.YtllaeocclpaiaaaGreatDoorKt2
namespace Go.Proofs.YtllaeocclpaiaaaGreatDoor
set_option linter.unusedVariables false
open Go.ChangeShapes Go.WideShapes Go.ChangeAt Go.RowKit

set_option maxRecDepth 100000 in
set_option maxHeartbeats 8000000 in
theorem move_ok (j bS : Nat) (now : Int) (vA : Value) (k t q : ByteArray) (hq1 : 1 ≤ q.size) (hq : q.size ≤ 512) (ht : t.size ≤ 4096) (u : Int) (hu0 : 0 ≤ u) (hu1 : u ≤ 1125899906842624) (w : World) (hj : JB w j bS now vA (.slice none 0 0)) : Calls Tryz.prog 49 #[.pointer (some ⟨j, 0, none⟩), .agg #[.string k, .int .i64 1, .string t, .slice none 0 0, .slice none 0 0, .slice none 0 0, .slice none 0 0, .int .i64 u], .string q] w fun e w' => e = .returned (.tuple #[]) ∧ (∃ A' n' c', JB w' j bS now vA (.slice A' n' c') ∧ EF w' w.heap.size (.slice A' n' c') [⟨k, 0, ⟨#[]⟩, 0⟩, ⟨q, 1, t, u⟩]) ∧ Kp w.heap.size (fun i => i ≠ j) w w' := by
  have A1 := Lib.hid (alloc_old (w := w) (o := .cells #[.string k, .int .i64 1, .string t, .slice none 0 0, .slice none 0 0, .slice none 0 0, .slice none 0 0, .int .i64 u] 33))
  have hb := Lib.hid (heap_alloc_new w (.cells #[.string k, .int .i64 1, .string t, .slice none 0 0, .slice none 0 0, .slice none 0 0, .slice none 0 0, .int .i64 u] 33))
  have TK := Lib.hid (Take76 j bS now vA none 0 0 [] (w.alloc (.cells #[.string k, .int .i64 1, .string t, .slice none 0 0, .slice none 0 0, .slice none 0 0, .slice none 0 0, .int .i64 u] 33)).heap.size _ (hj.below A1.out) (EF.nil _ _) (Nat.le_refl _) (by simp) k)
  have hjw := lt_blk hj
  clear hj
  go_enter Tryz.func49, Tryz.ntmps49
  go_wp2_with (first | (go_at_call 45; (with_reducible refine (TK.out).mono ?_); rintro e w2 ⟨rfl, hR2, hK2⟩; have HR2 := Lib.hid hR2; have HK2 := Lib.hid hK2; clear hR2 hK2; obtain ⟨⟨e0, e1, e2, e3, e4, e5, e6, e7⟩, ⟨f0, f1, f2, f3, f4, f5, f6, f7⟩, ez⟩ := cells8 ((HK2.out.block w.heap.size (lt_blk hb.out) (by omega)).trans hb.out); refine Hid.out ?_))
  refine Lib.hid ?_
  obtain ⟨A', n', c', hJ2, hE2⟩ := HR2.out
  have hz : w.heap.size < w2.heap.size := ez
  have hJ3 := hJ2.kept (Below.heap_setCell w2 ⟨w.heap.size, 0, none⟩ (.string q) j (by show j ≠ w.heap.size; omega))
  have hE3 := hE2.kept (w' := w2.setCell ⟨w.heap.size, 0, none⟩ (.string q)) (by simp [World.setCell]) (fun g hg => Below.heap_setCell w2 ⟨w.heap.size, 0, none⟩ (.string q) g (by have h9 := (hE2.own g hg).1; have h8 := lt_blk hb.out; show g ≠ w.heap.size; omega))
  have hle := Below.size A1.out
  have hK3 := Lib.hid (((Kp.of (S := fun i => i ≠ j) A1.out).trans (HK2.out.mono hle (fun _ h => h))).setCell (p := ⟨w.heap.size, 0, none⟩) (by show ¬ (w.heap.size < w.heap.size ∧ _); omega) (.string q))
  have PU := Lib.hid (Put72 j bS now vA A' n' c' _ (w.alloc (.cells #[.string k, .int .i64 1, .string t, .slice none 0 0, .slice none 0 0, .slice none 0 0, .slice none 0 0, .int .i64 u] 33)).heap.size _ hJ3 hE3 (by have h9 := HK2.out.size; simpa [World.setCell] using h9) (by simp) q t hq1 hq ht u hu0 hu1)
  clear hJ3 hE3 hJ2 hE2
  go_wp2_with (first | (go_at_call 79; (with_reducible refine (PU.out).mono ?_); rintro e w3 ⟨rfl, hR, hK⟩))
  go_end0
  obtain ⟨A2, n2, c2, hJ5, hE5⟩ := hR
  exact ⟨rfl, ⟨A2, n2, c2, hJ5, hE5.mono hle⟩, hK3.out.trans (hK.mono hle (fun _ h => h))⟩
set_option maxRecDepth 100000 in
set_option maxHeartbeats 8000000 in
theorem rename_ok (W0 : World) (bS bM : Nat) (l : MapT.Ents) (now : Int) (xs : List ByteArray) (k q t : ByteArray) (u : Int) (hx1 : xs[1]? = some k) (hx2 : xs[2]? = some q) (hkq : k ≠ q) (hf : MapT.find k l = some (.agg #[.string k, .int .i64 1, .string t, .slice none 0 0, .slice none 0 0, .slice none 0 0, .slice none 0 0, .int .i64 u])) (hv : Lives u now) (hq1 : 1 ≤ q.size) (hq : q.size ≤ 512) (ht : t.size ≤ 4096) (hu0 : 0 ≤ u) (hu1 : u ≤ 1125899906842624) : CmdOk W0 19 bS bM l now xs 1 0 ⟨#[79, 75]⟩ R0 [⟨k, 0, ⟨#[]⟩, 0⟩, ⟨q, 1, t, u⟩] := by
  intro w j vA _ hS hj hA
  have A1 := Lib.hid (alloc_old (w := w) (o := .cells #[.int .i64 0, .int .i64 0, .string ⟨#[]⟩, .slice none 0 0] 36))
  have hr := Lib.hid (heap_alloc_new w (.cells #[.int .i64 0, .int .i64 0, .string ⟨#[]⟩, .slice none 0 0] 36))
  obtain ⟨aA, cap, rfl, p1, p2, p3⟩ := hA
  have hlen : xs.length ≤ 9223372036854775807 := by unfold maxLen at p2; omega
  have hpos := (List.getElem?_eq_some_iff.1 hx2).1
  have i1 : (1 : Int) < (xs.length : Int) := by omega
  have i2 : (2 : Int) < (xs.length : Int) := by omega
  obtain ⟨blk, off, rfl, hblt, hc⟩ := p3 (by intro e; rw [e] at hpos; simp at hpos)
  have ca1 := Lib.hid (show ∀ Y, Below w.heap.size w Y → Y.cell? ⟨blk, off + 1, none⟩ = some (.string k) from fun Y hb => (hb.cell (p := ⟨blk, off + 1, none⟩) hblt).trans (hc 1 k hx1))
  have ca2 := Lib.hid (show ∀ Y, Below w.heap.size w Y → Y.cell? ⟨blk, off + 2, none⟩ = some (.string q) from fun Y hb => (hb.cell (p := ⟨blk, off + 2, none⟩) hblt).trans (hc 2 q hx2))
  have cj := Lib.hid (show ∀ Y, Below w.heap.size w Y → Y.cell? ⟨j, 2, none⟩ = some (.slice (some ⟨blk, off, none⟩) xs.length cap) ∧ Y.cell? ⟨j, 1, none⟩ = some (.int .i64 now) from fun Y hb => ⟨(hj.below hb).cells.2.2.1, (hj.below hb).cells.2.1⟩)
  have HJ := Lib.hid hj
  have hjw := lt_blk hj
  have G := Lib.hid (JGet_yes bS bM j l k now _ _ t u 1 hf hv _ (hS.below A1.out) (hj.below A1.out))
  have MV := Lib.hid (fun X (hX : Below w.heap.size w X) => move_ok j bS now _ k t q hq1 hq ht u hu0 hu1 X (hj.below hX))
  have OKK := Lib.hid (fun w => OK74 w)
  have y1 := ca1.out _ A1.out
  have y2 := (cj.out _ A1.out).1
  clear hS hj hc p3 hf
  go_enter Tryz.func19, Tryz.ntmps19
  go_wp2_with (first | (go_at_call 43; (with_reducible refine (G.out).mono ?_); rintro e w1 ⟨rfl, h1⟩; have B1 := Lib.hid (A1.out.trans (h1.mono (Below.size A1.out))); have R1 := Lib.hid (blk_below hr.out h1); clear h1; refine Hid.out ?_))
  refine Lib.hid ?_
  have B2 := Lib.hid (show Below w.heap.size w (w1.alloc (.cells #[.string k, .int .i64 1, .string t, .slice none 0 0, .slice none 0 0, .slice none 0 0, .slice none 0 0, .int .i64 u] 33)) from B1.out.trans (alloc_old.mono (Below.size B1.out)))
  have R2 := Lib.hid (blk_below R1.out (alloc_old (o := .cells #[.string k, .int .i64 1, .string t, .slice none 0 0, .slice none 0 0, .slice none 0 0, .slice none 0 0, .int .i64 u] 33)))
  have E2 := Lib.hid (heap_alloc_new w1 (.cells #[.string k, .int .i64 1, .string t, .slice none 0 0, .slice none 0 0, .slice none 0 0, .slice none 0 0, .int .i64 u] 33))
  go_wp2_with fail
  generalize (w1.alloc (.cells #[.string k, .int .i64 1, .string t, .slice none 0 0, .slice none 0 0, .slice none 0 0, .slice none 0 0, .int .i64 u] 33)) = w2 at B2 R2 E2 ⊢
  have y3 := (cj.out _ B2.out).1
  have y4 := ca1.out _ B2.out
  have y5 := ca2.out _ B2.out
  have hne3 : (k.toList == q.toList) = false := by rw [beq_eq_false_iff_ne]; exact bytes_ne hkq
  go_quiet (fail)
  clear y3 y4 y5
  go_wp2
  have BD := Lib.hid (below_drewN B2.out nq)
  have RD := Lib.hid (blk_below R2.out (below_drewN (Below.refl _ _) nq))
  have ED := Lib.hid (blk_below E2.out (below_drewN (Below.refl _ _) nq))
  generalize (w2.drewN nq) = w3 at BD RD ED ⊢
  have BE := Lib.hid (BD.out.drew)
  have RE := Lib.hid (show w3.drew.heap[w.heap.size]? = _ from RD.out)
  obtain ⟨⟨e0, e1, e2, e3, e4, e5, e6, e7⟩, _, _⟩ := cells8 (show w3.drew.heap[w1.heap.size]? = _ from ED.out)
  have y3 := (cj.out _ BE.out).1
  have y5 := ca2.out _ BE.out
  have M4 := Lib.hid (MV.out _ BE.out)
  go_still_tail 8, (by kernel_rfl)
  repeat still_step
  change wpList _ _ _ _ _ w3.drew
  generalize w3.drew = w4 at BE RE M4 e0 e1 e2 e3 e4 e5 e6 e7 y3 y5 ⊢
  go_wp2_with (first | (go_at_call 49; (with_reducible refine (M4.out).mono ?_); rintro e w5 ⟨rfl, hR5, hK5⟩; have HR5 := Lib.hid hR5; have HK5 := Lib.hid hK5; clear hR5 hK5; refine Hid.out ?_))
  refine Lib.hid ?_
  have hz := lt_blk RE.out
  have R5 := Lib.hid ((HK5.out.block w.heap.size hz (by omega)).trans RE.out)
  clear e0 e1 e2 e3 e4 e5 e6 e7 y3 y5
  go_wp2_with (first | (go_at_call 50; (with_reducible refine (OKK.out _).mono ?_); rintro e w7 ⟨rfl, h7⟩; have B7 := Lib.hid h7; clear h7; obtain ⟨⟨c0, c1, c2, c3⟩, ⟨f0, f1, f2, f3⟩⟩ := cells4 (blk_below R5.out B7.out)))
  obtain ⟨A', n', c', hJ6, hE6⟩ := HR5.out
  obtain ⟨hJ7, hE7, hK7⟩ := eff_after hJ6 hE6 HK5.out B7.out
  exact bodyPost_ret (v := .agg #[.int .i64 1, .int .i64 0, .string ⟨#[79, 75]⟩, .slice none 0 0]) (by simp [results, Tryz.results19, go_sem, c0, c1, c2, c3]) rfl (eff_end hjw (Nat.le_refl _) hz BE.out hJ7 hE7 hK7 _ _ _ _)
end Go.Proofs.YtllaeocclpaiaaaGreatDoor
