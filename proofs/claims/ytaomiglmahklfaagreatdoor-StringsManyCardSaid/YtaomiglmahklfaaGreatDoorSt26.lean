/- The commands that read: GET, STRLEN. -/
import Derived.Test.YtaomiglmahklfaaGreatDoorSt25
namespace Go.Proofs.YtaomiglmahklfaaGreatDoor
open Go.ChangeShapes Go.WideShapes Go.ChangeAt Go.RowKit

theorem read_end {w w' : World} {j bS : Nat} {now : Int} {vA : Value} {k n : Int} {s : ByteArray} (hj : JB w j bS now vA (.slice none 0 0)) (hb : Below w.heap.size w w') : ∃ A m c, (Ending.returned (.agg #[.int .i64 k, .int .i64 n, .string s, .slice none 0 0]) = .returned (.agg #[.int .i64 k, .int .i64 n, .string s, .slice A m c])) ∧ R0 w.heap.size w' (.slice A m c) ∧ (∃ A' n' c', JB w' j bS now vA (.slice A' n' c') ∧ EF w' w.heap.size (.slice A' n' c') []) ∧ Kp w.heap.size (fun i => i ≠ j) w w' :=
  ⟨none, 0, 0, rfl, rfl, ⟨none, 0, 0, hj.below hb, EF.nil _ _⟩, .of hb⟩
set_option maxRecDepth 100000 in
set_option maxHeartbeats 4000000 in
theorem get_yes_raw (bS bM : Nat) (l : MapT.Ents) (now : Int) (xs : List ByteArray) (k : ByteArray) (hx1 : xs[1]? = some k) (t : ByteArray) (u : Int) (hf : MapT.find k l = some (.agg #[.string k, .int .i64 1, .string t, .slice none 0 0, .slice none 0 0, .slice none 0 0, .slice none 0 0, .int .i64 u])) (hv : Lives u now) (w : World) (j : Nat) (vA : Value) (hS : SP w bS bM l) (hj : JB w j bS now vA (.slice none 0 0)) (hA : SSl w vA xs) : Calls Tryz.prog 27 #[.pointer (some ⟨j, 0, none⟩)] w fun e w' => e = .returned (.agg #[.int .i64 4, .int .i64 0, .string t, .slice none 0 0]) ∧ Below w.heap.size w w' := by
  have A1 := Lib.hid (alloc_old (w := w) (o := .cells #[.int .i64 0, .int .i64 0, .string ⟨#[]⟩, .slice none 0 0] 37))
  have hr := Lib.hid (heap_alloc_new w (.cells #[.int .i64 0, .int .i64 0, .string ⟨#[]⟩, .slice none 0 0] 37))
  obtain ⟨aA, cap, rfl, p1, p2, p3⟩ := hA
  have hlen : xs.length ≤ 9223372036854775807 := by unfold maxLen at p2; omega
  have hpos := (List.getElem?_eq_some_iff.1 hx1).1
  have i1 : (1 : Int) < (xs.length : Int) := by omega
  obtain ⟨blk, off, rfl, hblt, hc⟩ := p3 (by intro e; rw [e] at hpos; simp at hpos)
  have ca1 := Lib.hid (show ∀ Y, Below w.heap.size w Y → Y.cell? ⟨blk, off + 1, none⟩ = some (.string k) from fun Y hb => (hb.cell (p := ⟨blk, off + 1, none⟩) hblt).trans (hc 1 k hx1))
  have cj := Lib.hid (show ∀ Y, Below w.heap.size w Y → Y.cell? ⟨j, 2, none⟩ = some (.slice (some ⟨blk, off, none⟩) xs.length cap) ∧ Y.cell? ⟨j, 1, none⟩ = some (.int .i64 now) from fun Y hb => ⟨(hj.below hb).cells.2.2.1, (hj.below hb).cells.2.1⟩)
  have G := Lib.hid (Of_yes bS bM j l k now _ _ 1 t u hf hv _ (hS.below A1.out) (hj.below A1.out))
  have C := Lib.hid (fun w => Bulk67 t w)
  have y1 := ca1.out _ A1.out
  have y2 := (cj.out _ A1.out).1
  clear hS hj hc p3 hf
  go_enter Tryz.func27, Tryz.ntmps27
  go_wp2_with (first | (go_at_call 65; (with_reducible refine (G.out).mono ?_); rintro e w1 ⟨rfl, h1⟩; have B1 := Lib.hid h1; clear h1) | (go_at_call 67; (with_reducible refine (C.out _).mono ?_); rintro e w2 ⟨rfl, h2⟩; have B2 := Lib.hid (belA B1.out h2); clear h2; obtain ⟨⟨c0, c1, c2, c3⟩, ⟨f0, f1, f2, f3⟩⟩ := cells4 (blk_below hr.out B2.out)))
  exact bodyPost_ret (v := .agg #[.int .i64 4, .int .i64 0, .string t, .slice none 0 0]) (by simp [results, Tryz.results27, go_sem, c0, c1, c2, c3]) rfl ⟨rfl, (((((A1.out.trans (B2.out.mono (Below.size A1.out))).setCell (Nat.le_refl _) _).setCell (Nat.le_refl _) _).setCell (Nat.le_refl _) _).setCell (Nat.le_refl _) _)⟩
theorem get_yes (W0 : World) (bS bM : Nat) (l : MapT.Ents) (now : Int) (xs : List ByteArray) (k : ByteArray) (hx1 : xs[1]? = some k) (t : ByteArray) (u : Int) (hf : MapT.find k l = some (.agg #[.string k, .int .i64 1, .string t, .slice none 0 0, .slice none 0 0, .slice none 0 0, .slice none 0 0, .int .i64 u])) (hv : Lives u now) : CmdOk W0 27 bS bM l now xs 4 (0) t R0 [] := by
  intro w j vA _ hS hj hA
  refine (get_yes_raw bS bM l now xs k hx1 t u hf hv w j vA hS hj hA).mono ?_
  rintro e w' ⟨rfl, hb⟩
  exact read_end hj hb
set_option maxRecDepth 100000 in
set_option maxHeartbeats 4000000 in
theorem get_no_raw (bS bM : Nat) (l : MapT.Ents) (now : Int) (xs : List ByteArray) (k : ByteArray) (hx1 : xs[1]? = some k) (hf : MapT.find k l = none) (w : World) (j : Nat) (vA : Value) (hS : SP w bS bM l) (hj : JB w j bS now vA (.slice none 0 0)) (hA : SSl w vA xs) : Calls Tryz.prog 27 #[.pointer (some ⟨j, 0, none⟩)] w fun e w' => e = .returned (.agg #[.int .i64 5, .int .i64 0, .string ⟨#[]⟩, .slice none 0 0]) ∧ Below w.heap.size w w' := by
  have A1 := Lib.hid (alloc_old (w := w) (o := .cells #[.int .i64 0, .int .i64 0, .string ⟨#[]⟩, .slice none 0 0] 37))
  have hr := Lib.hid (heap_alloc_new w (.cells #[.int .i64 0, .int .i64 0, .string ⟨#[]⟩, .slice none 0 0] 37))
  obtain ⟨aA, cap, rfl, p1, p2, p3⟩ := hA
  have hlen : xs.length ≤ 9223372036854775807 := by unfold maxLen at p2; omega
  have hpos := (List.getElem?_eq_some_iff.1 hx1).1
  have i1 : (1 : Int) < (xs.length : Int) := by omega
  obtain ⟨blk, off, rfl, hblt, hc⟩ := p3 (by intro e; rw [e] at hpos; simp at hpos)
  have ca1 := Lib.hid (show ∀ Y, Below w.heap.size w Y → Y.cell? ⟨blk, off + 1, none⟩ = some (.string k) from fun Y hb => (hb.cell (p := ⟨blk, off + 1, none⟩) hblt).trans (hc 1 k hx1))
  have cj := Lib.hid (show ∀ Y, Below w.heap.size w Y → Y.cell? ⟨j, 2, none⟩ = some (.slice (some ⟨blk, off, none⟩) xs.length cap) ∧ Y.cell? ⟨j, 1, none⟩ = some (.int .i64 now) from fun Y hb => ⟨(hj.below hb).cells.2.2.1, (hj.below hb).cells.2.1⟩)
  have G := Lib.hid (Of_no bS bM j l k now _ _ 1 hf _ (hS.below A1.out) (hj.below A1.out))
  have C := Lib.hid (fun w => Nil66 w)
  have y1 := ca1.out _ A1.out
  have y2 := (cj.out _ A1.out).1
  clear hS hj hc p3 hf
  go_enter Tryz.func27, Tryz.ntmps27
  go_wp2_with (first | (go_at_call 65; (with_reducible refine (G.out).mono ?_); rintro e w1 ⟨rfl, h1⟩; have B1 := Lib.hid h1; clear h1) | (go_at_call 66; (with_reducible refine (C.out _).mono ?_); rintro e w2 ⟨rfl, h2⟩; have B2 := Lib.hid (belA B1.out h2); clear h2; obtain ⟨⟨c0, c1, c2, c3⟩, ⟨f0, f1, f2, f3⟩⟩ := cells4 (blk_below hr.out B2.out)))
  exact bodyPost_ret (v := .agg #[.int .i64 5, .int .i64 0, .string ⟨#[]⟩, .slice none 0 0]) (by simp [results, Tryz.results27, go_sem, c0, c1, c2, c3]) rfl ⟨rfl, (((((A1.out.trans (B2.out.mono (Below.size A1.out))).setCell (Nat.le_refl _) _).setCell (Nat.le_refl _) _).setCell (Nat.le_refl _) _).setCell (Nat.le_refl _) _)⟩
theorem get_no (W0 : World) (bS bM : Nat) (l : MapT.Ents) (now : Int) (xs : List ByteArray) (k : ByteArray) (hx1 : xs[1]? = some k) (hf : MapT.find k l = none) : CmdOk W0 27 bS bM l now xs 5 (0) ⟨#[]⟩ R0 [] := by
  intro w j vA _ hS hj hA
  refine (get_no_raw bS bM l now xs k hx1  hf w j vA hS hj hA).mono ?_
  rintro e w' ⟨rfl, hb⟩
  exact read_end hj hb
set_option maxRecDepth 100000 in
set_option maxHeartbeats 4000000 in
theorem len_yes_raw (bS bM : Nat) (l : MapT.Ents) (now : Int) (xs : List ByteArray) (k : ByteArray) (hx1 : xs[1]? = some k) (t : ByteArray) (u : Int) (hf : MapT.find k l = some (.agg #[.string k, .int .i64 1, .string t, .slice none 0 0, .slice none 0 0, .slice none 0 0, .slice none 0 0, .int .i64 u])) (hv : Lives u now) (w : World) (j : Nat) (vA : Value) (hS : SP w bS bM l) (hj : JB w j bS now vA (.slice none 0 0)) (hA : SSl w vA xs) : Calls Tryz.prog 33 #[.pointer (some ⟨j, 0, none⟩)] w fun e w' => e = .returned (.agg #[.int .i64 3, .int .i64 (t.size : Int), .string ⟨#[]⟩, .slice none 0 0]) ∧ Below w.heap.size w w' := by
  have A1 := Lib.hid (alloc_old (w := w) (o := .cells #[.int .i64 0, .int .i64 0, .string ⟨#[]⟩, .slice none 0 0] 37))
  have hr := Lib.hid (heap_alloc_new w (.cells #[.int .i64 0, .int .i64 0, .string ⟨#[]⟩, .slice none 0 0] 37))
  obtain ⟨aA, cap, rfl, p1, p2, p3⟩ := hA
  have hlen : xs.length ≤ 9223372036854775807 := by unfold maxLen at p2; omega
  have hpos := (List.getElem?_eq_some_iff.1 hx1).1
  have i1 : (1 : Int) < (xs.length : Int) := by omega
  obtain ⟨blk, off, rfl, hblt, hc⟩ := p3 (by intro e; rw [e] at hpos; simp at hpos)
  have ca1 := Lib.hid (show ∀ Y, Below w.heap.size w Y → Y.cell? ⟨blk, off + 1, none⟩ = some (.string k) from fun Y hb => (hb.cell (p := ⟨blk, off + 1, none⟩) hblt).trans (hc 1 k hx1))
  have cj := Lib.hid (show ∀ Y, Below w.heap.size w Y → Y.cell? ⟨j, 2, none⟩ = some (.slice (some ⟨blk, off, none⟩) xs.length cap) ∧ Y.cell? ⟨j, 1, none⟩ = some (.int .i64 now) from fun Y hb => ⟨(hj.below hb).cells.2.2.1, (hj.below hb).cells.2.1⟩)
  have G := Lib.hid (Of_yes bS bM j l k now _ _ 1 t u hf hv _ (hS.below A1.out) (hj.below A1.out))
  have C := Lib.hid (fun w => Int75 (t.size : Int) w)
  have y1 := ca1.out _ A1.out
  have y2 := (cj.out _ A1.out).1
  clear hS hj hc p3 hf
  go_enter Tryz.func33, Tryz.ntmps33
  go_wp2_with (first | (go_at_call 65; (with_reducible refine (G.out).mono ?_); rintro e w1 ⟨rfl, h1⟩; have B1 := Lib.hid h1; clear h1) | (go_at_call 75; (with_reducible refine (C.out _).mono ?_); rintro e w2 ⟨rfl, h2⟩; have B2 := Lib.hid (belA B1.out h2); clear h2; obtain ⟨⟨c0, c1, c2, c3⟩, ⟨f0, f1, f2, f3⟩⟩ := cells4 (blk_below hr.out B2.out)))
  exact bodyPost_ret (v := .agg #[.int .i64 3, .int .i64 (t.size : Int), .string ⟨#[]⟩, .slice none 0 0]) (by simp [results, Tryz.results33, go_sem, c0, c1, c2, c3]) rfl ⟨rfl, (((((A1.out.trans (B2.out.mono (Below.size A1.out))).setCell (Nat.le_refl _) _).setCell (Nat.le_refl _) _).setCell (Nat.le_refl _) _).setCell (Nat.le_refl _) _)⟩
theorem len_yes (W0 : World) (bS bM : Nat) (l : MapT.Ents) (now : Int) (xs : List ByteArray) (k : ByteArray) (hx1 : xs[1]? = some k) (t : ByteArray) (u : Int) (hf : MapT.find k l = some (.agg #[.string k, .int .i64 1, .string t, .slice none 0 0, .slice none 0 0, .slice none 0 0, .slice none 0 0, .int .i64 u])) (hv : Lives u now) : CmdOk W0 33 bS bM l now xs 3 ((t.size : Int)) ⟨#[]⟩ R0 [] := by
  intro w j vA _ hS hj hA
  refine (len_yes_raw bS bM l now xs k hx1 t u hf hv w j vA hS hj hA).mono ?_
  rintro e w' ⟨rfl, hb⟩
  exact read_end hj hb
set_option maxRecDepth 100000 in
set_option maxHeartbeats 4000000 in
theorem len_no_raw (bS bM : Nat) (l : MapT.Ents) (now : Int) (xs : List ByteArray) (k : ByteArray) (hx1 : xs[1]? = some k) (hf : MapT.find k l = none) (w : World) (j : Nat) (vA : Value) (hS : SP w bS bM l) (hj : JB w j bS now vA (.slice none 0 0)) (hA : SSl w vA xs) : Calls Tryz.prog 33 #[.pointer (some ⟨j, 0, none⟩)] w fun e w' => e = .returned (.agg #[.int .i64 3, .int .i64 0, .string ⟨#[]⟩, .slice none 0 0]) ∧ Below w.heap.size w w' := by
  have A1 := Lib.hid (alloc_old (w := w) (o := .cells #[.int .i64 0, .int .i64 0, .string ⟨#[]⟩, .slice none 0 0] 37))
  have hr := Lib.hid (heap_alloc_new w (.cells #[.int .i64 0, .int .i64 0, .string ⟨#[]⟩, .slice none 0 0] 37))
  obtain ⟨aA, cap, rfl, p1, p2, p3⟩ := hA
  have hlen : xs.length ≤ 9223372036854775807 := by unfold maxLen at p2; omega
  have hpos := (List.getElem?_eq_some_iff.1 hx1).1
  have i1 : (1 : Int) < (xs.length : Int) := by omega
  obtain ⟨blk, off, rfl, hblt, hc⟩ := p3 (by intro e; rw [e] at hpos; simp at hpos)
  have ca1 := Lib.hid (show ∀ Y, Below w.heap.size w Y → Y.cell? ⟨blk, off + 1, none⟩ = some (.string k) from fun Y hb => (hb.cell (p := ⟨blk, off + 1, none⟩) hblt).trans (hc 1 k hx1))
  have cj := Lib.hid (show ∀ Y, Below w.heap.size w Y → Y.cell? ⟨j, 2, none⟩ = some (.slice (some ⟨blk, off, none⟩) xs.length cap) ∧ Y.cell? ⟨j, 1, none⟩ = some (.int .i64 now) from fun Y hb => ⟨(hj.below hb).cells.2.2.1, (hj.below hb).cells.2.1⟩)
  have G := Lib.hid (Of_no bS bM j l k now _ _ 1 hf _ (hS.below A1.out) (hj.below A1.out))
  have C := Lib.hid (fun w => Int75 0 w)
  have y1 := ca1.out _ A1.out
  have y2 := (cj.out _ A1.out).1
  clear hS hj hc p3 hf
  go_enter Tryz.func33, Tryz.ntmps33
  go_wp2_with (first | (go_at_call 65; (with_reducible refine (G.out).mono ?_); rintro e w1 ⟨rfl, h1⟩; have B1 := Lib.hid h1; clear h1) | (go_at_call 75; (with_reducible refine (C.out _).mono ?_); rintro e w2 ⟨rfl, h2⟩; have B2 := Lib.hid (belA B1.out h2); clear h2; obtain ⟨⟨c0, c1, c2, c3⟩, ⟨f0, f1, f2, f3⟩⟩ := cells4 (blk_below hr.out B2.out)))
  exact bodyPost_ret (v := .agg #[.int .i64 3, .int .i64 0, .string ⟨#[]⟩, .slice none 0 0]) (by simp [results, Tryz.results33, go_sem, c0, c1, c2, c3]) rfl ⟨rfl, (((((A1.out.trans (B2.out.mono (Below.size A1.out))).setCell (Nat.le_refl _) _).setCell (Nat.le_refl _) _).setCell (Nat.le_refl _) _).setCell (Nat.le_refl _) _)⟩
theorem len_no (W0 : World) (bS bM : Nat) (l : MapT.Ents) (now : Int) (xs : List ByteArray) (k : ByteArray) (hx1 : xs[1]? = some k) (hf : MapT.find k l = none) : CmdOk W0 33 bS bM l now xs 3 (0) ⟨#[]⟩ R0 [] := by
  intro w j vA _ hS hj hA
  refine (len_no_raw bS bM l now xs k hx1  hf w j vA hS hj hA).mono ?_
  rintro e w' ⟨rfl, hb⟩
  exact read_end hj hb
/-- What is left of a command that had effects, when its reply is laid. -/
theorem eff_end {w w2 w3 : World} {j bS : Nat} {now : Int} {vA : Value} {k n : Int} {s : ByteArray} {es : List Ent} {A : Option Addr} {m c : Nat} {r : Nat} (hjw : j < w.heap.size) (hr : w.heap.size ≤ r) (hr2 : r < w2.heap.size) (hb : Below w.heap.size w w2) (hJ : JB w3 j bS now vA (.slice A m c)) (hE : EF w3 w2.heap.size (.slice A m c) es) (hK : Kp w2.heap.size (fun i => i ≠ j) w2 w3) (v0 v1 v2 v3 : Value) :
    ∃ A m c, (Ending.returned (.agg #[.int .i64 k, .int .i64 n, .string s, .slice none 0 0]) = .returned (.agg #[.int .i64 k, .int .i64 n, .string s, .slice A m c])) ∧ R0 w.heap.size ((((w3.setCell ⟨r, 0, none⟩ v0).setCell ⟨r, 1, none⟩ v1).setCell ⟨r, 2, none⟩ v2).setCell ⟨r, 3, none⟩ v3) (.slice A m c) ∧ (∃ A' n' c', JB ((((w3.setCell ⟨r, 0, none⟩ v0).setCell ⟨r, 1, none⟩ v1).setCell ⟨r, 2, none⟩ v2).setCell ⟨r, 3, none⟩ v3) j bS now vA (.slice A' n' c') ∧ EF ((((w3.setCell ⟨r, 0, none⟩ v0).setCell ⟨r, 1, none⟩ v1).setCell ⟨r, 2, none⟩ v2).setCell ⟨r, 3, none⟩ v3) w.heap.size (.slice A' n' c') es) ∧ Kp w.heap.size (fun i => i ≠ j) w ((((w3.setCell ⟨r, 0, none⟩ v0).setCell ⟨r, 1, none⟩ v1).setCell ⟨r, 2, none⟩ v2).setCell ⟨r, 3, none⟩ v3) := by
  have hle := Below.size hb
  refine ⟨none, 0, 0, rfl, rfl, ⟨A, m, c, hJ.kept (far4 _ _ _ _ (by omega)), (hE.kept (by simp [World.setCell]) (fun g hg => far4 _ _ _ _ ?_)).mono hle⟩, ?_⟩
  · have := (hE.own g hg).1
    omega
  · exact (((((Kp.of hb).trans (hK.mono hle (fun _ h => h))).setCell (p := ⟨r, 0, none⟩) (by show ¬ (r < w.heap.size ∧ r ≠ j); omega) v0).setCell (p := ⟨r, 1, none⟩) (by show ¬ (r < w.heap.size ∧ r ≠ j); omega) v1).setCell (p := ⟨r, 2, none⟩) (by show ¬ (r < w.heap.size ∧ r ≠ j); omega) v2).setCell (p := ⟨r, 3, none⟩) (by show ¬ (r < w.heap.size ∧ r ≠ j); omega) v3
end Go.Proofs.YtaomiglmahklfaaGreatDoor
