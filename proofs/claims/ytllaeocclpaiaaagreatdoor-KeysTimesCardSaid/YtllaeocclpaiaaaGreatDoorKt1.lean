/- TTL, PTTL, TYPE. -/
import Derived.Test.YtllaeocclpaiaaaGreatDoorSt26
import Derived.StillTailTactics
namespace Go.Proofs.YtllaeocclpaiaaaGreatDoor
set_option linter.unusedVariables false
open Go.ChangeShapes Go.WideShapes Go.ChangeAt Go.RowKit

theorem Simple46 (s : ByteArray) (w : World) : Calls Tryz.prog 46 #[.string s] w fun e w' => e = .returned (.agg #[.int .i64 1, .int .i64 0, .string s, .slice none 0 0]) ∧ Below w.heap.size w w' := by
  go_enter Tryz.func46, Tryz.ntmps46
  go_wp2
  exact bodyPost_ret (v := .agg #[.int .i64 1, .int .i64 0, .string s, .slice none 0 0]) (by simp [results, Tryz.results46, go_sem]) rfl ⟨rfl, (Below.refl _ _).alloc (Nat.le_refl _) _⟩
theorem Name0 (w : World) : Calls Tryz.prog 47 #[.int .i64 0] w fun e w' => e = .returned (.string ⟨#[110, 111, 110, 101]⟩) ∧ w' = w := by
  go_enter Tryz.func47, Tryz.ntmps47
  go_wp2
  go_ret
  exact ⟨rfl, rfl⟩
theorem Name1 (w : World) : Calls Tryz.prog 47 #[.int .i64 1] w fun e w' => e = .returned (.string ⟨#[115, 116, 114, 105, 110, 103]⟩) ∧ w' = w := by
  go_enter Tryz.func47, Tryz.ntmps47
  go_wp2
  go_ret
  exact ⟨rfl, rfl⟩
set_option maxRecDepth 100000 in
set_option maxHeartbeats 4000000 in
theorem left_no (bS bM : Nat) (l : MapT.Ents) (now : Int) (xs : List ByteArray) (k : ByteArray) (hx1 : xs[1]? = some k) (hG : ∀ X, SP X bS bM l → ∀ j vA vl, JB X j bS now vA vl → Calls Tryz.prog 43 #[.pointer (some ⟨j, 0, none⟩), .string k] X fun e w' => e = .returned (.tuple #[.agg #[.string k, .int .i64 0, .string ⟨#[]⟩, .slice none 0 0, .slice none 0 0, .slice none 0 0, .slice none 0 0, .int .i64 0], .bool false]) ∧ Below X.heap.size X w') (part : Int) (w : World) (j : Nat) (vA : Value) (hS : SP w bS bM l) (hj : JB w j bS now vA (.slice none 0 0)) (hA : SSl w vA xs) : Calls Tryz.prog 26 #[.pointer (some ⟨j, 0, none⟩), .int .i64 part] w fun e w' => e = .returned (.agg #[.int .i64 3, .int .i64 (-2), .string ⟨#[]⟩, .slice none 0 0]) ∧ Below w.heap.size w w' := by
  have A1 := Lib.hid (alloc_old (w := w) (o := .cells #[.int .i64 0, .int .i64 0, .string ⟨#[]⟩, .slice none 0 0] 36))
  have hr := Lib.hid (heap_alloc_new w (.cells #[.int .i64 0, .int .i64 0, .string ⟨#[]⟩, .slice none 0 0] 36))
  obtain ⟨aA, cap, rfl, p1, p2, p3⟩ := hA
  have hlen : xs.length ≤ 9223372036854775807 := by unfold maxLen at p2; omega
  have hpos := (List.getElem?_eq_some_iff.1 hx1).1
  have i1 : (1 : Int) < (xs.length : Int) := by omega
  obtain ⟨blk, off, rfl, hblt, hc⟩ := p3 (by intro e; rw [e] at hpos; simp at hpos)
  have ca1 := Lib.hid (show ∀ Y, Below w.heap.size w Y → Y.cell? ⟨blk, off + 1, none⟩ = some (.string k) from fun Y hb => (hb.cell (p := ⟨blk, off + 1, none⟩) hblt).trans (hc 1 k hx1))
  have cj := Lib.hid (show ∀ Y, Below w.heap.size w Y → Y.cell? ⟨j, 2, none⟩ = some (.slice (some ⟨blk, off, none⟩) xs.length cap) ∧ Y.cell? ⟨j, 1, none⟩ = some (.int .i64 now) from fun Y hb => ⟨(hj.below hb).cells.2.2.1, (hj.below hb).cells.2.1⟩)
  have G := Lib.hid (hG _ (hS.below A1.out) j _ _ (hj.below A1.out))
  have C := Lib.hid (fun w => Int75 (-2) w)
  have y1 := ca1.out _ A1.out
  have y2 := (cj.out _ A1.out).1
  clear hS hj hc p3 hG
  go_enter Tryz.func26, Tryz.ntmps26
  go_wp2_with (first | (go_at_call 43; (with_reducible refine (G.out).mono ?_); rintro e w1 ⟨rfl, h1⟩; have B1 := Lib.hid h1; clear h1) | (go_at_call 33; (with_reducible refine (C.out _).mono ?_); rintro e w2 ⟨rfl, h2⟩; have B2 := Lib.hid (belA B1.out h2); clear h2; obtain ⟨⟨c0, c1, c2, c3⟩, ⟨f0, f1, f2, f3⟩⟩ := cells4 (blk_below hr.out B2.out)))
  exact bodyPost_ret (v := .agg #[.int .i64 3, .int .i64 (-2), .string ⟨#[]⟩, .slice none 0 0]) (by simp [results, Tryz.results26, go_sem, c0, c1, c2, c3]) rfl ⟨rfl, (((((A1.out.trans (B2.out.mono (Below.size A1.out))).setCell (Nat.le_refl _) _).setCell (Nat.le_refl _) _).setCell (Nat.le_refl _) _).setCell (Nat.le_refl _) _)⟩
set_option maxRecDepth 100000 in
set_option maxHeartbeats 4000000 in
theorem left_never (bS bM : Nat) (l : MapT.Ents) (now : Int) (xs : List ByteArray) (k : ByteArray) (hx1 : xs[1]? = some k) (t : ByteArray)  (hf : MapT.find k l = some (.agg #[.string k, .int .i64 1, .string t, .slice none 0 0, .slice none 0 0, .slice none 0 0, .slice none 0 0, .int .i64 0])) (hv : Lives 0 now) (part : Int) (w : World) (j : Nat) (vA : Value) (hS : SP w bS bM l) (hj : JB w j bS now vA (.slice none 0 0)) (hA : SSl w vA xs) : Calls Tryz.prog 26 #[.pointer (some ⟨j, 0, none⟩), .int .i64 part] w fun e w' => e = .returned (.agg #[.int .i64 3, .int .i64 (-1), .string ⟨#[]⟩, .slice none 0 0]) ∧ Below w.heap.size w w' := by
  have A1 := Lib.hid (alloc_old (w := w) (o := .cells #[.int .i64 0, .int .i64 0, .string ⟨#[]⟩, .slice none 0 0] 36))
  have hr := Lib.hid (heap_alloc_new w (.cells #[.int .i64 0, .int .i64 0, .string ⟨#[]⟩, .slice none 0 0] 36))
  obtain ⟨aA, cap, rfl, p1, p2, p3⟩ := hA
  have hlen : xs.length ≤ 9223372036854775807 := by unfold maxLen at p2; omega
  have hpos := (List.getElem?_eq_some_iff.1 hx1).1
  have i1 : (1 : Int) < (xs.length : Int) := by omega
  obtain ⟨blk, off, rfl, hblt, hc⟩ := p3 (by intro e; rw [e] at hpos; simp at hpos)
  have ca1 := Lib.hid (show ∀ Y, Below w.heap.size w Y → Y.cell? ⟨blk, off + 1, none⟩ = some (.string k) from fun Y hb => (hb.cell (p := ⟨blk, off + 1, none⟩) hblt).trans (hc 1 k hx1))
  have cj := Lib.hid (show ∀ Y, Below w.heap.size w Y → Y.cell? ⟨j, 2, none⟩ = some (.slice (some ⟨blk, off, none⟩) xs.length cap) ∧ Y.cell? ⟨j, 1, none⟩ = some (.int .i64 now) from fun Y hb => ⟨(hj.below hb).cells.2.2.1, (hj.below hb).cells.2.1⟩)
  have G := Lib.hid (JGet_yes bS bM j l k now _ _ t 0 1 hf hv _ (hS.below A1.out) (hj.below A1.out))
  have C := Lib.hid (fun w => Int75 (-1) w)
  have y1 := ca1.out _ A1.out
  have y2 := (cj.out _ A1.out).1
  clear hS hj hc p3 hf
  go_enter Tryz.func26, Tryz.ntmps26
  go_wp2_with (first | (go_at_call 43; (with_reducible refine (G.out).mono ?_); rintro e w1 ⟨rfl, h1⟩; have B1 := Lib.hid h1; clear h1) | (go_at_call 33; (with_reducible refine (C.out _).mono ?_); rintro e w2 ⟨rfl, h2⟩; have B2 := Lib.hid (belA B1.out h2); clear h2; obtain ⟨⟨c0, c1, c2, c3⟩, ⟨f0, f1, f2, f3⟩⟩ := cells4 (blk_below hr.out B2.out)))
  exact bodyPost_ret (v := .agg #[.int .i64 3, .int .i64 (-1), .string ⟨#[]⟩, .slice none 0 0]) (by simp [results, Tryz.results26, go_sem, c0, c1, c2, c3]) rfl ⟨rfl, (((((A1.out.trans (B2.out.mono (Below.size A1.out))).setCell (Nat.le_refl _) _).setCell (Nat.le_refl _) _).setCell (Nat.le_refl _) _).setCell (Nat.le_refl _) _)⟩
set_option maxRecDepth 100000 in
set_option maxHeartbeats 4000000 in
theorem left_yes (bS bM : Nat) (l : MapT.Ents) (now : Int) (xs : List ByteArray) (k : ByteArray) (hx1 : xs[1]? = some k) (t : ByteArray) (u : Int) (hf : MapT.find k l = some (.agg #[.string k, .int .i64 1, .string t, .slice none 0 0, .slice none 0 0, .slice none 0 0, .slice none 0 0, .int .i64 u])) (hv : Lives u now) (h0 : 0 < u) (h1 : now < u) (hu : u ≤ 2000000000000000) (hn0 : 0 ≤ now) (part r : Int) (hp1 : 1 ≤ part) (hp2 : part ≤ 1000) (hr9 : (u - now + part - 1).tdiv part = r) (w : World) (j : Nat) (vA : Value) (hS : SP w bS bM l) (hj : JB w j bS now vA (.slice none 0 0)) (hA : SSl w vA xs) : Calls Tryz.prog 26 #[.pointer (some ⟨j, 0, none⟩), .int .i64 part] w fun e w' => e = .returned (.agg #[.int .i64 3, .int .i64 r, .string ⟨#[]⟩, .slice none 0 0]) ∧ Below w.heap.size w w' := by
  have A1 := Lib.hid (alloc_old (w := w) (o := .cells #[.int .i64 0, .int .i64 0, .string ⟨#[]⟩, .slice none 0 0] 36))
  have hr := Lib.hid (heap_alloc_new w (.cells #[.int .i64 0, .int .i64 0, .string ⟨#[]⟩, .slice none 0 0] 36))
  obtain ⟨aA, cap, rfl, p1, p2, p3⟩ := hA
  have hlen : xs.length ≤ 9223372036854775807 := by unfold maxLen at p2; omega
  have hpos := (List.getElem?_eq_some_iff.1 hx1).1
  have i1 : (1 : Int) < (xs.length : Int) := by omega
  obtain ⟨blk, off, rfl, hblt, hc⟩ := p3 (by intro e; rw [e] at hpos; simp at hpos)
  have ca1 := Lib.hid (show ∀ Y, Below w.heap.size w Y → Y.cell? ⟨blk, off + 1, none⟩ = some (.string k) from fun Y hb => (hb.cell (p := ⟨blk, off + 1, none⟩) hblt).trans (hc 1 k hx1))
  have cj := Lib.hid (show ∀ Y, Below w.heap.size w Y → Y.cell? ⟨j, 2, none⟩ = some (.slice (some ⟨blk, off, none⟩) xs.length cap) ∧ Y.cell? ⟨j, 1, none⟩ = some (.int .i64 now) from fun Y hb => ⟨(hj.below hb).cells.2.2.1, (hj.below hb).cells.2.1⟩)
  have G := Lib.hid (JGet_yes bS bM j l k now _ _ t u 1 hf hv _ (hS.below A1.out) (hj.below A1.out))
  have C := Lib.hid (fun w => Int75 r w)
  have y1 := ca1.out _ A1.out
  have y2 := (cj.out _ A1.out).1
  have HJ := Lib.hid hj
  clear hS hj hc p3 hf
  have g1 : ¬ u = 0 := by omega
  have g2 : (u == 0) = false := by rw [beq_eq_false_iff_ne]; exact g1
  go_enter Tryz.func26, Tryz.ntmps26
  go_wp2_with (first | (go_at_call 43; (with_reducible refine (G.out).mono ?_); rintro e w1 ⟨rfl, h1⟩; have B1 := Lib.hid h1; clear h1; refine Hid.out ?_))
  refine Lib.hid ?_
  have B2 := Lib.hid (show Below w.heap.size w (w1.alloc (.cells #[.string k, .int .i64 1, .string t, .slice none 0 0, .slice none 0 0, .slice none 0 0, .slice none 0 0, .int .i64 u] 33)) from (A1.out.trans (B1.out.mono (Below.size A1.out))).trans (alloc_old.mono (Below.size (A1.out.trans (B1.out.mono (Below.size A1.out))))))
  obtain ⟨⟨e0, e1, e2, e3, e4, e5, e6, e7⟩, _, ez⟩ := cells8 (heap_alloc_new w1 (.cells #[.string k, .int .i64 1, .string t, .slice none 0 0, .slice none 0 0, .slice none 0 0, .slice none 0 0, .int .i64 u] 33))
  go_wp2
  clear e0 e1 e2 e3 e4 e5 e6 e7
  obtain ⟨W, hW⟩ : ∃ W, (w1.alloc (.cells #[.string k, .int .i64 1, .string t, .slice none 0 0, .slice none 0 0, .slice none 0 0, .slice none 0 0, .int .i64 u] 33)) = W := ⟨_, rfl⟩
  have s1 : W.drew.cell? ⟨w1.heap.size, 7, none⟩ = some (.int .i64 u) := by rw [← hW]; simp
  have s2 : W.drew.cell? ⟨j, 1, none⟩ = some (.int .i64 now) := by rw [← hW]; exact (cj.out _ B2.out).2
  have BD := Lib.hid (show Below w.heap.size w W.drew from by rw [← hW]; exact B2.out.drew)
  have hr2 := Lib.hid (blk_below hr.out (show Below (w.alloc (.cells #[.int .i64 0, .int .i64 0, .string ⟨#[]⟩, .slice none 0 0] 36)).heap.size (w.alloc (.cells #[.int .i64 0, .int .i64 0, .string ⟨#[]⟩, .slice none 0 0] 36)) W.drew from by rw [← hW]; exact (B1.out.trans (alloc_old.mono (Below.size B1.out))).drew))
  rw [hW]
  have w5 : IntKind.i64.wrap (u - now) = u - now := IntWalk.i64_in _ (by omega)
  have w6 : IntKind.i64.wrap (u - now + part) = u - now + part := IntWalk.i64_in _ (by omega)
  have w7 : IntKind.i64.wrap (u - now + part - 1) = u - now + part - 1 := IntWalk.i64_in _ (by omega)
  have hr0 : 0 ≤ r ∧ r ≤ 2000000000002000 := by rw [← hr9]; exact ⟨Int.tdiv_nonneg (by omega) (by omega), Int.le_trans (Int.tdiv_le_self _ (by omega)) (by omega)⟩
  have w8 : IntKind.i64.wrap ((u - now + part - 1).tdiv part) = r := by rw [hr9]; exact IntWalk.i64_in _ (by omega)
  have p0 : ¬ part = 0 := by omega
  have p9 : (part == 0) = false := by rw [beq_eq_false_iff_ne]; exact p0
  have z1 : w1.heap.size < W.drew.heap.size := by rw [← hW]; show _ < (w1.alloc _).heap.size; simp
  clear hW hr9 B2
  go_still_tail 12, (by kernel_rfl)
  repeat still_step
  change wpList _ _ _ _ _ W.drew
  generalize W.drew = w2 at *
  clear w5 w6 w7 w8 s1 s2
  go_wp2_with (first | (go_at_call 33; (with_reducible refine (C.out _).mono ?_); rintro e w3 ⟨rfl, h3⟩; have B3 := Lib.hid h3; clear h3; obtain ⟨⟨c0, c1, c2, c3⟩, ⟨f0, f1, f2, f3⟩⟩ := cells4 (blk_below hr2.out B3.out)))
  exact bodyPost_ret (v := .agg #[.int .i64 3, .int .i64 r, .string ⟨#[]⟩, .slice none 0 0]) (by simp [results, Tryz.results26, go_sem, c0, c1, c2, c3]) rfl ⟨rfl, (((((BD.out.trans (B3.out.mono (Below.size BD.out))).setCell (Nat.le_refl _) _).setCell (Nat.le_refl _) _).setCell (Nat.le_refl _) _).setCell (Nat.le_refl _) _)⟩
set_option maxRecDepth 100000 in
set_option maxHeartbeats 4000000 in
theorem ttl_of (W0 : World) (bS bM : Nat) (l : MapT.Ents) (now : Int) (xs : List ByteArray) (r : Int) (hL : ∀ (w : World) (j : Nat) (vA : Value), SP w bS bM l → JB w j bS now vA (.slice none 0 0) → SSl w vA xs → Calls Tryz.prog 26 #[.pointer (some ⟨j, 0, none⟩), .int .i64 1000] w fun e w' => e = .returned (.agg #[.int .i64 3, .int .i64 r, .string ⟨#[]⟩, .slice none 0 0]) ∧ Below w.heap.size w w') : CmdOk W0 25 bS bM l now xs 3 r ⟨#[]⟩ R0 [] := by
  intro w j vA _ hS hj hA
  have A1 := Lib.hid (alloc_old (w := w) (o := .cells #[.int .i64 0, .int .i64 0, .string ⟨#[]⟩, .slice none 0 0] 36))
  have hr := Lib.hid (heap_alloc_new w (.cells #[.int .i64 0, .int .i64 0, .string ⟨#[]⟩, .slice none 0 0] 36))
  have C := Lib.hid (hL _ j vA (hS.below A1.out) (hj.below A1.out) (hA.below A1.out))
  have HJ := Lib.hid hj
  clear hS hj hA hL
  go_enter Tryz.func25, Tryz.ntmps25
  go_wp2_with (first | (go_at_call 26; (with_reducible refine (C.out).mono ?_); rintro e w2 ⟨rfl, h2⟩; have B2 := Lib.hid h2; clear h2; obtain ⟨⟨c0, c1, c2, c3⟩, ⟨f0, f1, f2, f3⟩⟩ := cells4 (blk_below hr.out B2.out)))
  exact bodyPost_ret (v := .agg #[.int .i64 3, .int .i64 r, .string ⟨#[]⟩, .slice none 0 0]) (by simp [results, Tryz.results25, go_sem, c0, c1, c2, c3]) rfl (read_end HJ.out (((((A1.out.trans (B2.out.mono (Below.size A1.out))).setCell (Nat.le_refl _) _).setCell (Nat.le_refl _) _).setCell (Nat.le_refl _) _).setCell (Nat.le_refl _) _))
set_option maxRecDepth 100000 in
set_option maxHeartbeats 4000000 in
theorem pttl_of (W0 : World) (bS bM : Nat) (l : MapT.Ents) (now : Int) (xs : List ByteArray) (r : Int) (hL : ∀ (w : World) (j : Nat) (vA : Value), SP w bS bM l → JB w j bS now vA (.slice none 0 0) → SSl w vA xs → Calls Tryz.prog 26 #[.pointer (some ⟨j, 0, none⟩), .int .i64 1] w fun e w' => e = .returned (.agg #[.int .i64 3, .int .i64 r, .string ⟨#[]⟩, .slice none 0 0]) ∧ Below w.heap.size w w') : CmdOk W0 27 bS bM l now xs 3 r ⟨#[]⟩ R0 [] := by
  intro w j vA _ hS hj hA
  have A1 := Lib.hid (alloc_old (w := w) (o := .cells #[.int .i64 0, .int .i64 0, .string ⟨#[]⟩, .slice none 0 0] 36))
  have hr := Lib.hid (heap_alloc_new w (.cells #[.int .i64 0, .int .i64 0, .string ⟨#[]⟩, .slice none 0 0] 36))
  have C := Lib.hid (hL _ j vA (hS.below A1.out) (hj.below A1.out) (hA.below A1.out))
  have HJ := Lib.hid hj
  clear hS hj hA hL
  go_enter Tryz.func27, Tryz.ntmps27
  go_wp2_with (first | (go_at_call 26; (with_reducible refine (C.out).mono ?_); rintro e w2 ⟨rfl, h2⟩; have B2 := Lib.hid h2; clear h2; obtain ⟨⟨c0, c1, c2, c3⟩, ⟨f0, f1, f2, f3⟩⟩ := cells4 (blk_below hr.out B2.out)))
  exact bodyPost_ret (v := .agg #[.int .i64 3, .int .i64 r, .string ⟨#[]⟩, .slice none 0 0]) (by simp [results, Tryz.results27, go_sem, c0, c1, c2, c3]) rfl (read_end HJ.out (((((A1.out.trans (B2.out.mono (Below.size A1.out))).setCell (Nat.le_refl _) _).setCell (Nat.le_refl _) _).setCell (Nat.le_refl _) _).setCell (Nat.le_refl _) _))
set_option maxRecDepth 100000 in
set_option maxHeartbeats 4000000 in
theorem kind_no (W0 : World) (bS bM : Nat) (l : MapT.Ents) (now : Int) (xs : List ByteArray) (k : ByteArray) (hx1 : xs[1]? = some k) (hG : ∀ X, SP X bS bM l → ∀ j vA vl, JB X j bS now vA vl → Calls Tryz.prog 43 #[.pointer (some ⟨j, 0, none⟩), .string k] X fun e w' => e = .returned (.tuple #[.agg #[.string k, .int .i64 0, .string ⟨#[]⟩, .slice none 0 0, .slice none 0 0, .slice none 0 0, .slice none 0 0, .int .i64 0], .bool false]) ∧ Below X.heap.size X w') : CmdOk W0 18 bS bM l now xs 1 0 ⟨#[110, 111, 110, 101]⟩ R0 [] := by
  intro w j vA _ hS hj hA
  have A1 := Lib.hid (alloc_old (w := w) (o := .cells #[.int .i64 0, .int .i64 0, .string ⟨#[]⟩, .slice none 0 0] 36))
  have hr := Lib.hid (heap_alloc_new w (.cells #[.int .i64 0, .int .i64 0, .string ⟨#[]⟩, .slice none 0 0] 36))
  obtain ⟨aA, cap, rfl, p1, p2, p3⟩ := hA
  have hlen : xs.length ≤ 9223372036854775807 := by unfold maxLen at p2; omega
  have hpos := (List.getElem?_eq_some_iff.1 hx1).1
  have i1 : (1 : Int) < (xs.length : Int) := by omega
  obtain ⟨blk, off, rfl, hblt, hc⟩ := p3 (by intro e; rw [e] at hpos; simp at hpos)
  have ca1 := Lib.hid (show ∀ Y, Below w.heap.size w Y → Y.cell? ⟨blk, off + 1, none⟩ = some (.string k) from fun Y hb => (hb.cell (p := ⟨blk, off + 1, none⟩) hblt).trans (hc 1 k hx1))
  have cj := Lib.hid (show ∀ Y, Below w.heap.size w Y → Y.cell? ⟨j, 2, none⟩ = some (.slice (some ⟨blk, off, none⟩) xs.length cap) ∧ Y.cell? ⟨j, 1, none⟩ = some (.int .i64 now) from fun Y hb => ⟨(hj.below hb).cells.2.2.1, (hj.below hb).cells.2.1⟩)
  have G := Lib.hid (hG _ (hS.below A1.out) j _ _ (hj.below A1.out))
  have C := Lib.hid (fun w => Simple46 ⟨#[110, 111, 110, 101]⟩ w)
  have NA := Lib.hid (fun w => Name0 w)
  have HJ := Lib.hid hj
  have y1 := ca1.out _ A1.out
  have y2 := (cj.out _ A1.out).1
  clear hS hj hc p3 hG
  go_enter Tryz.func18, Tryz.ntmps18
  go_wp2_with (first | (go_at_call 43; (with_reducible refine (G.out).mono ?_); rintro e w1 ⟨rfl, h1⟩; have B1 := Lib.hid h1; clear h1) | (go_at_call 47; (with_reducible refine (NA.out _).mono ?_); rintro e w2 ⟨rfl, rfl⟩) | (go_at_call 46; (with_reducible refine (C.out _).mono ?_); rintro e w2 ⟨rfl, h2⟩; have B2 := Lib.hid (belA B1.out h2); clear h2; obtain ⟨⟨c0, c1, c2, c3⟩, ⟨f0, f1, f2, f3⟩⟩ := cells4 (blk_below hr.out B2.out)))
  exact bodyPost_ret (v := .agg #[.int .i64 1, .int .i64 0, .string ⟨#[110, 111, 110, 101]⟩, .slice none 0 0]) (by simp [results, Tryz.results18, go_sem, c0, c1, c2, c3]) rfl (read_end HJ.out (((((A1.out.trans (B2.out.mono (Below.size A1.out))).setCell (Nat.le_refl _) _).setCell (Nat.le_refl _) _).setCell (Nat.le_refl _) _).setCell (Nat.le_refl _) _))
set_option maxRecDepth 100000 in
set_option maxHeartbeats 4000000 in
theorem kind_yes (W0 : World) (bS bM : Nat) (l : MapT.Ents) (now : Int) (xs : List ByteArray) (k : ByteArray) (hx1 : xs[1]? = some k) (t : ByteArray) (u : Int) (hf : MapT.find k l = some (.agg #[.string k, .int .i64 1, .string t, .slice none 0 0, .slice none 0 0, .slice none 0 0, .slice none 0 0, .int .i64 u])) (hv : Lives u now) : CmdOk W0 18 bS bM l now xs 1 0 ⟨#[115, 116, 114, 105, 110, 103]⟩ R0 [] := by
  intro w j vA _ hS hj hA
  have A1 := Lib.hid (alloc_old (w := w) (o := .cells #[.int .i64 0, .int .i64 0, .string ⟨#[]⟩, .slice none 0 0] 36))
  have hr := Lib.hid (heap_alloc_new w (.cells #[.int .i64 0, .int .i64 0, .string ⟨#[]⟩, .slice none 0 0] 36))
  obtain ⟨aA, cap, rfl, p1, p2, p3⟩ := hA
  have hlen : xs.length ≤ 9223372036854775807 := by unfold maxLen at p2; omega
  have hpos := (List.getElem?_eq_some_iff.1 hx1).1
  have i1 : (1 : Int) < (xs.length : Int) := by omega
  obtain ⟨blk, off, rfl, hblt, hc⟩ := p3 (by intro e; rw [e] at hpos; simp at hpos)
  have ca1 := Lib.hid (show ∀ Y, Below w.heap.size w Y → Y.cell? ⟨blk, off + 1, none⟩ = some (.string k) from fun Y hb => (hb.cell (p := ⟨blk, off + 1, none⟩) hblt).trans (hc 1 k hx1))
  have cj := Lib.hid (show ∀ Y, Below w.heap.size w Y → Y.cell? ⟨j, 2, none⟩ = some (.slice (some ⟨blk, off, none⟩) xs.length cap) ∧ Y.cell? ⟨j, 1, none⟩ = some (.int .i64 now) from fun Y hb => ⟨(hj.below hb).cells.2.2.1, (hj.below hb).cells.2.1⟩)
  have G := Lib.hid (JGet_yes bS bM j l k now _ _ t u 1 hf hv _ (hS.below A1.out) (hj.below A1.out))
  have C := Lib.hid (fun w => Simple46 ⟨#[115, 116, 114, 105, 110, 103]⟩ w)
  have NA := Lib.hid (fun w => Name1 w)
  have HJ := Lib.hid hj
  have y1 := ca1.out _ A1.out
  have y2 := (cj.out _ A1.out).1
  clear hS hj hc p3 hf hv
  go_enter Tryz.func18, Tryz.ntmps18
  go_wp2_with (first | (go_at_call 43; (with_reducible refine (G.out).mono ?_); rintro e w1 ⟨rfl, h1⟩; have B1 := Lib.hid h1; clear h1) | (go_at_call 47; (with_reducible refine (NA.out _).mono ?_); rintro e w2 ⟨rfl, rfl⟩) | (go_at_call 46; (with_reducible refine (C.out _).mono ?_); rintro e w2 ⟨rfl, h2⟩; have B2 := Lib.hid (belA B1.out h2); clear h2; obtain ⟨⟨c0, c1, c2, c3⟩, ⟨f0, f1, f2, f3⟩⟩ := cells4 (blk_below hr.out B2.out)))
  exact bodyPost_ret (v := .agg #[.int .i64 1, .int .i64 0, .string ⟨#[115, 116, 114, 105, 110, 103]⟩, .slice none 0 0]) (by simp [results, Tryz.results18, go_sem, c0, c1, c2, c3]) rfl (read_end HJ.out (((((A1.out.trans (B2.out.mono (Below.size A1.out))).setCell (Nat.le_refl _) _).setCell (Nat.le_refl _) _).setCell (Nat.le_refl _) _).setCell (Nat.le_refl _) _))
end Go.Proofs.YtllaeocclpaiaaaGreatDoor
