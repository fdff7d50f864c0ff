/- GETDEL, APPEND. -/
import Derived.Test.YtaomiglmahklfaaGreatDoorSt29
namespace Go.Proofs.YtaomiglmahklfaaGreatDoor
open Go.ChangeShapes Go.WideShapes Go.ChangeAt Go.RowKit

theorem set6of8 {X : World} {b : Nat} {a0 a1 a2 a3 a4 a5 a6 a7 : Value} {t : TypeId} (h : X.heap[b]? = some (.cells #[a0, a1, a2, a3, a4, a5, a6, a7] t)) (v1 v2 v3 v4 v5 v6 : Value) : ((((((X.setCell ⟨b, 1, none⟩ v1).setCell ⟨b, 2, none⟩ v2).setCell ⟨b, 3, none⟩ v3).setCell ⟨b, 4, none⟩ v4).setCell ⟨b, 5, none⟩ v5).setCell ⟨b, 6, none⟩ v6).heap[b]? = some (.cells #[a0, v1, v2, v3, v4, v5, v6, a7] t) := by
  simp [World.setCell, Array.getElem?_modify, h]
theorem far6 {X : World} {b i : Nat} (v1 v2 v3 v4 v5 v6 : Value) (hi : i ≠ b) : ((((((X.setCell ⟨b, 1, none⟩ v1).setCell ⟨b, 2, none⟩ v2).setCell ⟨b, 3, none⟩ v3).setCell ⟨b, 4, none⟩ v4).setCell ⟨b, 5, none⟩ v5).setCell ⟨b, 6, none⟩ v6).heap[i]? = X.heap[i]? :=
  (Below.heap_setCell _ ⟨b, 6, none⟩ _ _ hi).trans ((Below.heap_setCell _ ⟨b, 5, none⟩ _ _ hi).trans ((Below.heap_setCell _ ⟨b, 4, none⟩ _ _ hi).trans ((Below.heap_setCell _ ⟨b, 3, none⟩ _ _ hi).trans ((Below.heap_setCell _ ⟨b, 2, none⟩ _ _ hi).trans (Below.heap_setCell _ ⟨b, 1, none⟩ _ _ hi)))))
theorem bel6 {W X : World} {b c : Nat} (h : Below c W X) (hb : c ≤ b) (v1 v2 v3 v4 v5 v6 : Value) : Below c W ((((((X.setCell ⟨b, 1, none⟩ v1).setCell ⟨b, 2, none⟩ v2).setCell ⟨b, 3, none⟩ v3).setCell ⟨b, 4, none⟩ v4).setCell ⟨b, 5, none⟩ v5).setCell ⟨b, 6, none⟩ v6) :=
  (((((h.setCell (p := ⟨b, 1, none⟩) hb _).setCell (p := ⟨b, 2, none⟩) hb _).setCell (p := ⟨b, 3, none⟩) hb _).setCell (p := ⟨b, 4, none⟩) hb _).setCell (p := ⟨b, 5, none⟩) hb _).setCell (p := ⟨b, 6, none⟩) hb _
set_option maxRecDepth 100000 in
set_option maxHeartbeats 8000000 in
theorem getdel_yes (W0 : World) (bS bM : Nat) (l : MapT.Ents) (now : Int) (k : ByteArray) (t : ByteArray) (u : Int) (hf : MapT.find k l = some (.agg #[.string k, .int .i64 1, .string t, .slice none 0 0, .slice none 0 0, .slice none 0 0, .slice none 0 0, .int .i64 u])) (hv : Lives u now) : CmdOk W0 31 bS bM l now [⟨#[71, 69, 84, 68, 69, 76]⟩, k] 4 0 t R0 [⟨k, 0, ⟨#[]⟩, 0⟩] := by
  intro w j vA _ hS hj hA
  have A1 := Lib.hid (alloc_old (w := w) (o := .cells #[.int .i64 0, .int .i64 0, .string ⟨#[]⟩, .slice none 0 0] 37))
  have hr := Lib.hid (heap_alloc_new w (.cells #[.int .i64 0, .int .i64 0, .string ⟨#[]⟩, .slice none 0 0] 37))
  obtain ⟨aA, cap, hv, p1, p2, p3⟩ := hA
  replace hv : vA = .slice aA 2 cap := hv
  subst hv
  replace p1 : 2 ≤ cap := p1
  obtain ⟨blk, off, rfl, hblt, hc⟩ := p3 (by simp)
  have ca1 := Lib.hid (show ∀ Y, Below w.heap.size w Y → Y.cell? ⟨blk, off + 1, none⟩ = some (.string k) from fun Y hb => (hb.cell (p := ⟨blk, off + 1, none⟩) hblt).trans (hc 1 _ rfl))
  have cj := Lib.hid (show ∀ Y, Below w.heap.size w Y → Y.cell? ⟨j, 2, none⟩ = some (.slice (some ⟨blk, off, none⟩) 2 cap) ∧ Y.cell? ⟨j, 1, none⟩ = some (.int .i64 now) from fun Y hb => ⟨(hj.below hb).cells.2.2.1, (hj.below hb).cells.2.1⟩)
  have nj := Lib.hid (ne_job_str hj (hc 1 _ rfl))
  have HJ := Lib.hid hj
  have hA0 : SSl w (.slice (some ⟨blk, off, none⟩) 2 cap) [⟨#[71, 69, 84, 68, 69, 76]⟩, k] := ⟨_, _, rfl, p1, p2, fun _ => ⟨blk, off, rfl, hblt, hc⟩⟩
  have i1 : (1 : Int) < 2 := by decide
  have G := Lib.hid (get_yes_raw bS bM l now _ k rfl t u hf hv _ j _ (hS.below A1.out) (hj.below A1.out) (hA0.below A1.out))
  have TK := Lib.hid (fun X (hX : Below w.heap.size w X) => Take76 j bS now (.slice (some ⟨blk, off, none⟩) 2 cap) none 0 0 [] X.heap.size X (HJ.out.below hX) (EF.nil _ _) (Nat.le_refl _) (by simp) k)
  clear hS hj hc p3 hf hA0
  go_enter Tryz.func31, Tryz.ntmps31
  go_wp2_with (first | (go_at_call 27; (with_reducible refine (G.out).mono ?_); rintro e w1 ⟨rfl, h1⟩; have B1 := Lib.hid (A1.out.trans (h1.mono (Below.size A1.out))); have R1 := Lib.hid (blk_below hr.out h1); clear h1; refine Hid.out ?_))
  refine Lib.hid ?_
  have B2 := Lib.hid (show Below w.heap.size w (w1.alloc (.cells #[.int .i64 4, .int .i64 0, .string t, .slice none 0 0] 37)) from B1.out.trans (alloc_old.mono (Below.size B1.out)))
  have o2 := Lib.hid (heap_alloc_new w1 (.cells #[.int .i64 4, .int .i64 0, .string t, .slice none 0 0] 37))
  have R2 := Lib.hid (blk_below R1.out (alloc_old (o := .cells #[.int .i64 4, .int .i64 0, .string t, .slice none 0 0] 37)))
  have T2 := Lib.hid (TK.out _ B2.out)
  have y2 := (cj.out _ B2.out).1
  have z1 := ca1.out _ B2.out
  have hjw := lt_blk HJ.out
  have hs1 := Below.size B1.out
  have hs2 := lt_blk R1.out
  go_wp2_with (first | (go_at_call 76; (with_reducible refine (T2.out).mono ?_); rintro e w3 ⟨rfl, ⟨A', n', c', hJ3, hE3⟩, hK3⟩; have HJ3 := Lib.hid hJ3; have HE3 := Lib.hid hE3; have R3 := Lib.hid ((hK3.block w.heap.size (lt_blk R2.out) (by omega)).trans R2.out); have O3 := Lib.hid ((hK3.block w1.heap.size (lt_blk o2.out) (by omega)).trans o2.out); have HK3 := Lib.hid hK3; clear hJ3 hE3 hK3; obtain ⟨⟨c0, c1, c2, c3⟩, ⟨f0, f1, f2, f3⟩⟩ := cells4 R3.out; obtain ⟨⟨d0, d1, d2, d3⟩, _⟩ := cells4 O3.out))
  exact bodyPost_ret (v := .agg #[.int .i64 4, .int .i64 0, .string t, .slice none 0 0]) (by simp [results, Tryz.results31, go_sem, c0, c1, c2, c3]) rfl (eff_end hjw (Nat.le_refl _) (lt_blk R2.out) B2.out HJ3.out HE3.out HK3.out _ _ _ _)
set_option maxRecDepth 100000 in
set_option maxHeartbeats 8000000 in
theorem app_diff (W0 : World) (bS bM : Nat) (l : MapT.Ents) (now : Int) (k : ByteArray) (v t : ByteArray) (u : Int) (hk1 : 1 ≤ k.size) (hk : k.size ≤ 512) (ht : t.size + v.size ≤ 4096) (hu0 : 0 ≤ u) (hu1 : u ≤ 1125899906842624) (hne : t ≠ t ++ v) (hf : MapT.find k l = some (.agg #[.string k, .int .i64 1, .string t, .slice none 0 0, .slice none 0 0, .slice none 0 0, .slice none 0 0, .int .i64 u])) (hv : Lives u now) : CmdOk W0 32 bS bM l now [⟨#[65, 80, 80, 69, 78, 68]⟩, k, v] 3 ((t.size : Int) + (v.size : Int)) ⟨#[]⟩ R0 [⟨k, 1, t ++ v, u⟩] := by
  intro w j vA _ hS hj hA
  have A1 := Lib.hid (alloc_old (w := w) (o := .cells #[.int .i64 0, .int .i64 0, .string ⟨#[]⟩, .slice none 0 0] 37))
  have hr := Lib.hid (heap_alloc_new w (.cells #[.int .i64 0, .int .i64 0, .string ⟨#[]⟩, .slice none 0 0] 37))
  obtain ⟨aA, cap, hv, p1, p2, p3⟩ := hA
  replace hv : vA = .slice aA 3 cap := hv
  subst hv
  replace p1 : 3 ≤ cap := p1
  obtain ⟨blk, off, rfl, hblt, hc⟩ := p3 (by simp)
  have ca1 := Lib.hid (show ∀ Y, Below w.heap.size w Y → Y.cell? ⟨blk, off + 1, none⟩ = some (.string k) from fun Y hb => (hb.cell (p := ⟨blk, off + 1, none⟩) hblt).trans (hc 1 _ rfl))
  have ca2 := Lib.hid (show ∀ Y, Below w.heap.size w Y → Y.cell? ⟨blk, off + 2, none⟩ = some (.string v) from fun Y hb => (hb.cell (p := ⟨blk, off + 2, none⟩) hblt).trans (hc 2 _ rfl))
  have cj := Lib.hid (show ∀ Y, Below w.heap.size w Y → Y.cell? ⟨j, 2, none⟩ = some (.slice (some ⟨blk, off, none⟩) 3 cap) ∧ Y.cell? ⟨j, 1, none⟩ = some (.int .i64 now) from fun Y hb => ⟨(hj.below hb).cells.2.2.1, (hj.below hb).cells.2.1⟩)
  have nj := Lib.hid (ne_job_str hj (hc 1 _ rfl))
  have HJ := Lib.hid hj
  have i1 : (1 : Int) < 3 := by decide
  have i2 : (2 : Int) < 3 := by decide
  have ht1 : ¬ (t.size + v.size > 9223372036854775807) := by omega
  have hsz : (t ++ v).size = t.size + v.size := ByteArray.size_append
  have G := Lib.hid (Of_yes bS bM j l k now _ _ 1 t u hf hv _ (hS.below A1.out) (hj.below A1.out))
  have TU := Lib.hid (fun X (hX : Below w.heap.size w X) => Turn_diff j bS bM l now (.slice (some ⟨blk, off, none⟩) 3 cap) none 0 0 [] X.heap.size X (hS.below hX) (hj.below hX) (EF.nil _ _) (Nat.le_refl _) (by simp) k (t ++ v) hk1 hk (by rw [hsz]; exact ht) u hu0 hu1 t hne hf hv)
  have TX := Lib.hid (fun w => text73 (t ++ v) w)
  have IN := Lib.hid (fun w => Int75 ((t.size : Int) + (v.size : Int)) w)
  clear hS hj hc p3 hf
  have y2 := (cj.out _ A1.out).1
  have z1 := ca1.out _ A1.out
  go_enter Tryz.func32, Tryz.ntmps32
  go_wp2_with (first | (go_at_call 65; (with_reducible refine (G.out).mono ?_); rintro e w1 ⟨rfl, h1⟩; have B1 := Lib.hid (A1.out.trans (h1.mono (Below.size A1.out))); have R1 := Lib.hid (blk_below hr.out h1); clear h1; refine Hid.out ?_))
  refine Lib.hid ?_
  clear y2 z1
  have B2 := Lib.hid (show Below w.heap.size w (w1.alloc (.cells #[.string k, .int .i64 1, .string t, .slice none 0 0, .slice none 0 0, .slice none 0 0, .slice none 0 0, .int .i64 u] 33)) from B1.out.trans (alloc_old.mono (Below.size B1.out)))
  have o2 := Lib.hid (heap_alloc_new w1 (.cells #[.string k, .int .i64 1, .string t, .slice none 0 0, .slice none 0 0, .slice none 0 0, .slice none 0 0, .int .i64 u] 33))
  have R2 := Lib.hid (blk_below R1.out (alloc_old (o := .cells #[.string k, .int .i64 1, .string t, .slice none 0 0, .slice none 0 0, .slice none 0 0, .slice none 0 0, .int .i64 u] 33)))
  have hs1 := Below.size B1.out
  have hs2 := lt_blk R1.out
  go_wp2
  generalize w1.alloc (.cells #[.string k, .int .i64 1, .string t, .slice none 0 0, .slice none 0 0, .slice none 0 0, .slice none 0 0, .int .i64 u] 33) = w2 at B2 o2 R2 ⊢
  have y2 := (cj.out _ B2.out).1
  have z2 := ca2.out _ B2.out
  obtain ⟨⟨e0, e1, e2, e3, e4, e5, e6, e7⟩, _⟩ := cells8 o2.out
  have T2 := Lib.hid (TX.out w2.drew)
  go_region_with ((go_at_call 73; (with_reducible refine (T2.out).mono ?_); rintro e w3 ⟨rfl, h3⟩; have B3 := Lib.hid (B2.out.trans ((belT (Below.refl w2.heap.size w2).drew h3).mono (Below.size B2.out))); have o3 := Lib.hid (blk_below o2.out (belT (Below.refl w2.heap.size w2).drew h3)); have R3 := Lib.hid (blk_below R2.out (belT (Below.refl w2.heap.size w2).drew h3)); clear h3; obtain ⟨⟨g0, g1, g2, g3, g4, g5, g6, g7⟩, ⟨k0, k1, k2, k3, k4, k5, k6, k7⟩, gz⟩ := cells8 o3.out))
  all_goals (
    have B4 := Lib.hid (bel6 B3.out (show w.heap.size ≤ w1.heap.size by omega) (.int .i64 1) (.string (t ++ v)) (.slice none 0 0) (.slice none 0 0) (.slice none 0 0) (.slice none 0 0))
    have o4 := Lib.hid (set6of8 o3.out (.int .i64 1) (.string (t ++ v)) (.slice none 0 0) (.slice none 0 0) (.slice none 0 0) (.slice none 0 0))
    have R4 := Lib.hid ((far6 (X := w3) (b := w1.heap.size) (.int .i64 1) (.string (t ++ v)) (.slice none 0 0) (.slice none 0 0) (.slice none 0 0) (.slice none 0 0) (show w.heap.size ≠ w1.heap.size by omega)).trans R3.out)
    clear g0 g1 g2 g3 g4 g5 g6 g7 k0 k1 k2 k3 k4 k5 k6 k7 gz
    change Exit.then _ _ _ _ ((((((w3.setCell ⟨w1.heap.size, 1, none⟩ (.int .i64 1)).setCell ⟨w1.heap.size, 2, none⟩ (.string (t ++ v))).setCell ⟨w1.heap.size, 3, none⟩ (.slice none 0 0)).setCell ⟨w1.heap.size, 4, none⟩ (.slice none 0 0)).setCell ⟨w1.heap.size, 5, none⟩ (.slice none 0 0)).setCell ⟨w1.heap.size, 6, none⟩ (.slice none 0 0))
    generalize ((((((w3.setCell ⟨w1.heap.size, 1, none⟩ (.int .i64 1)).setCell ⟨w1.heap.size, 2, none⟩ (.string (t ++ v))).setCell ⟨w1.heap.size, 3, none⟩ (.slice none 0 0)).setCell ⟨w1.heap.size, 4, none⟩ (.slice none 0 0)).setCell ⟨w1.heap.size, 5, none⟩ (.slice none 0 0)).setCell ⟨w1.heap.size, 6, none⟩ (.slice none 0 0)) = w4 at B4 o4 R4 ⊢
    have T4 := Lib.hid (TU.out w4 B4.out)
    have hjw := lt_blk HJ.out
    obtain ⟨⟨g0, g1, g2, g3, g4, g5, g6, g7⟩, _⟩ := cells8 o4.out
    go_wp2_with (first | (go_at_call 77; (with_reducible refine (T4.out).mono ?_); rintro e w5 ⟨rfl, ⟨A', n', c', hJ5, hE5⟩, hK5⟩; have HJ5 := Lib.hid hJ5; have HE5 := Lib.hid hE5; have HK5 := Lib.hid hK5; have R5 := Lib.hid ((hK5.block w.heap.size (lt_blk R4.out) (by omega)).trans R4.out); have o5 := Lib.hid ((hK5.block w1.heap.size (lt_blk o4.out) (by omega)).trans o4.out); clear hJ5 hE5 hK5; obtain ⟨⟨m0, m1, m2, m3, m4, m5, m6, m7⟩, _⟩ := cells8 o5.out) | (go_at_call 75; (with_reducible refine (IN.out _).mono ?_); rintro e w6 ⟨rfl, h6⟩; have B6 := Lib.hid h6; obtain ⟨⟨c0, c1, c2, c3⟩, ⟨f0, f1, f2, f3⟩⟩ := cells4 (blk_below R5.out h6); clear h6))
    obtain ⟨hJ6, hE6, hK6⟩ := eff_after HJ5.out HE5.out HK5.out B6.out
    exact bodyPost_ret (v := .agg #[.int .i64 3, .int .i64 ((t.size : Int) + (v.size : Int)), .string ⟨#[]⟩, .slice none 0 0]) (by simp [results, Tryz.results32, go_sem, c0, c1, c2, c3]) rfl (eff_end hjw (Nat.le_refl _) (lt_blk R4.out) B4.out hJ6 hE6 hK6 _ _ _ _))
set_option maxRecDepth 100000 in
set_option maxHeartbeats 8000000 in
theorem app_same (W0 : World) (bS bM : Nat) (l : MapT.Ents) (now : Int) (k : ByteArray) (v t : ByteArray) (u : Int) (ht : t.size + v.size ≤ 4096) (heq : t ++ v = t) (hf : MapT.find k l = some (.agg #[.string k, .int .i64 1, .string t, .slice none 0 0, .slice none 0 0, .slice none 0 0, .slice none 0 0, .int .i64 u])) (hv : Lives u now) : CmdOk W0 32 bS bM l now [⟨#[65, 80, 80, 69, 78, 68]⟩, k, v] 3 ((t.size : Int) + (v.size : Int)) ⟨#[]⟩ R0 [] := by
  intro w j vA _ hS hj hA
  have A1 := Lib.hid (alloc_old (w := w) (o := .cells #[.int .i64 0, .int .i64 0, .string ⟨#[]⟩, .slice none 0 0] 37))
  have hr := Lib.hid (heap_alloc_new w (.cells #[.int .i64 0, .int .i64 0, .string ⟨#[]⟩, .slice none 0 0] 37))
  obtain ⟨aA, cap, hv, p1, p2, p3⟩ := hA
  replace hv : vA = .slice aA 3 cap := hv
  subst hv
  replace p1 : 3 ≤ cap := p1
  obtain ⟨blk, off, rfl, hblt, hc⟩ := p3 (by simp)
  have ca1 := Lib.hid (show ∀ Y, Below w.heap.size w Y → Y.cell? ⟨blk, off + 1, none⟩ = some (.string k) from fun Y hb => (hb.cell (p := ⟨blk, off + 1, none⟩) hblt).trans (hc 1 _ rfl))
  have ca2 := Lib.hid (show ∀ Y, Below w.heap.size w Y → Y.cell? ⟨blk, off + 2, none⟩ = some (.string v) from fun Y hb => (hb.cell (p := ⟨blk, off + 2, none⟩) hblt).trans (hc 2 _ rfl))
  have cj := Lib.hid (show ∀ Y, Below w.heap.size w Y → Y.cell? ⟨j, 2, none⟩ = some (.slice (some ⟨blk, off, none⟩) 3 cap) ∧ Y.cell? ⟨j, 1, none⟩ = some (.int .i64 now) from fun Y hb => ⟨(hj.below hb).cells.2.2.1, (hj.below hb).cells.2.1⟩)
  have nj := Lib.hid (ne_job_str hj (hc 1 _ rfl))
  have heq2 := Lib.hid heq
  have HJ := Lib.hid hj
  have i1 : (1 : Int) < 3 := by decide
  have i2 : (2 : Int) < 3 := by decide
  have ht1 : ¬ (t.size + v.size > 9223372036854775807) := by omega
  have hsz : (t ++ v).size = t.size + v.size := ByteArray.size_append
  have G := Lib.hid (Of_yes bS bM j l k now _ _ 1 t u hf hv _ (hS.below A1.out) (hj.below A1.out))
  have hf2 : MapT.find k l = some (.agg #[.string k, .int .i64 1, .string (t ++ v), .slice none 0 0, .slice none 0 0, .slice none 0 0, .slice none 0 0, .int .i64 u]) := by rw [heq]; exact hf
  have TU := Lib.hid (fun X (hX : Below w.heap.size w X) => Turn_same j bS bM l now (.slice (some ⟨blk, off, none⟩) 3 cap) none 0 0 X (hS.below hX) (hj.below hX) k (t ++ v) u hf2 hv)
  have TX := Lib.hid (fun w => text73 (t ++ v) w)
  have IN := Lib.hid (fun w => Int75 ((t.size : Int) + (v.size : Int)) w)
  clear hS hj hc p3 hf hf2 heq
  have y2 := (cj.out _ A1.out).1
  have z1 := ca1.out _ A1.out
  go_enter Tryz.func32, Tryz.ntmps32
  go_wp2_with (first | (go_at_call 65; (with_reducible refine (G.out).mono ?_); rintro e w1 ⟨rfl, h1⟩; have B1 := Lib.hid (A1.out.trans (h1.mono (Below.size A1.out))); have R1 := Lib.hid (blk_below hr.out h1); clear h1; refine Hid.out ?_))
  refine Lib.hid ?_
  clear y2 z1
  have B2 := Lib.hid (show Below w.heap.size w (w1.alloc (.cells #[.string k, .int .i64 1, .string t, .slice none 0 0, .slice none 0 0, .slice none 0 0, .slice none 0 0, .int .i64 u] 33)) from B1.out.trans (alloc_old.mono (Below.size B1.out)))
  have o2 := Lib.hid (heap_alloc_new w1 (.cells #[.string k, .int .i64 1, .string t, .slice none 0 0, .slice none 0 0, .slice none 0 0, .slice none 0 0, .int .i64 u] 33))
  have R2 := Lib.hid (blk_below R1.out (alloc_old (o := .cells #[.string k, .int .i64 1, .string t, .slice none 0 0, .slice none 0 0, .slice none 0 0, .slice none 0 0, .int .i64 u] 33)))
  have hs1 := Below.size B1.out
  have hs2 := lt_blk R1.out
  go_wp2
  generalize w1.alloc (.cells #[.string k, .int .i64 1, .string t, .slice none 0 0, .slice none 0 0, .slice none 0 0, .slice none 0 0, .int .i64 u] 33) = w2 at B2 o2 R2 ⊢
  have y2 := (cj.out _ B2.out).1
  have z2 := ca2.out _ B2.out
  obtain ⟨⟨e0, e1, e2, e3, e4, e5, e6, e7⟩, _⟩ := cells8 o2.out
  have T2 := Lib.hid (TX.out w2.drew)
  go_region_with ((go_at_call 73; (with_reducible refine (T2.out).mono ?_); rintro e w3 ⟨rfl, h3⟩; have B3 := Lib.hid (B2.out.trans ((belT (Below.refl w2.heap.size w2).drew h3).mono (Below.size B2.out))); have o3 := Lib.hid (blk_below o2.out (belT (Below.refl w2.heap.size w2).drew h3)); have R3 := Lib.hid (blk_below R2.out (belT (Below.refl w2.heap.size w2).drew h3)); clear h3; obtain ⟨⟨g0, g1, g2, g3, g4, g5, g6, g7⟩, ⟨k0, k1, k2, k3, k4, k5, k6, k7⟩, gz⟩ := cells8 o3.out))
  all_goals (
    have B4 := Lib.hid (bel6 B3.out (show w.heap.size ≤ w1.heap.size by omega) (.int .i64 1) (.string (t ++ v)) (.slice none 0 0) (.slice none 0 0) (.slice none 0 0) (.slice none 0 0))
    have o4 := Lib.hid (set6of8 o3.out (.int .i64 1) (.string (t ++ v)) (.slice none 0 0) (.slice none 0 0) (.slice none 0 0) (.slice none 0 0))
    have R4 := Lib.hid ((far6 (X := w3) (b := w1.heap.size) (.int .i64 1) (.string (t ++ v)) (.slice none 0 0) (.slice none 0 0) (.slice none 0 0) (.slice none 0 0) (show w.heap.size ≠ w1.heap.size by omega)).trans R3.out)
    clear g0 g1 g2 g3 g4 g5 g6 g7 k0 k1 k2 k3 k4 k5 k6 k7 gz
    change Exit.then _ _ _ _ ((((((w3.setCell ⟨w1.heap.size, 1, none⟩ (.int .i64 1)).setCell ⟨w1.heap.size, 2, none⟩ (.string (t ++ v))).setCell ⟨w1.heap.size, 3, none⟩ (.slice none 0 0)).setCell ⟨w1.heap.size, 4, none⟩ (.slice none 0 0)).setCell ⟨w1.heap.size, 5, none⟩ (.slice none 0 0)).setCell ⟨w1.heap.size, 6, none⟩ (.slice none 0 0))
    generalize ((((((w3.setCell ⟨w1.heap.size, 1, none⟩ (.int .i64 1)).setCell ⟨w1.heap.size, 2, none⟩ (.string (t ++ v))).setCell ⟨w1.heap.size, 3, none⟩ (.slice none 0 0)).setCell ⟨w1.heap.size, 4, none⟩ (.slice none 0 0)).setCell ⟨w1.heap.size, 5, none⟩ (.slice none 0 0)).setCell ⟨w1.heap.size, 6, none⟩ (.slice none 0 0)) = w4 at B4 o4 R4 ⊢
    have T4 := Lib.hid (TU.out w4 B4.out)
    have hjw := lt_blk HJ.out
    obtain ⟨⟨g0, g1, g2, g3, g4, g5, g6, g7⟩, _⟩ := cells8 o4.out
    go_wp2_with (first | (go_at_call 77; (with_reducible refine (T4.out).mono ?_); rintro e w5 ⟨rfl, h5⟩; have B5 := Lib.hid (B4.out.trans (h5.mono (Below.size B4.out))); have R5 := Lib.hid (blk_below R4.out h5); have o5 := Lib.hid (blk_below o4.out h5); clear h5; obtain ⟨⟨m0, m1, m2, m3, m4, m5, m6, m7⟩, _⟩ := cells8 o5.out) | (go_at_call 75; (with_reducible refine (IN.out _).mono ?_); rintro e w6 ⟨rfl, h6⟩; have B5 := Lib.hid (B5.out.trans (h6.mono (Below.size B5.out))); obtain ⟨⟨c0, c1, c2, c3⟩, ⟨f0, f1, f2, f3⟩⟩ := cells4 (blk_below R5.out h6); clear h6))
    exact bodyPost_ret (v := .agg #[.int .i64 3, .int .i64 ((t.size : Int) + (v.size : Int)), .string ⟨#[]⟩, .slice none 0 0]) (by simp [results, Tryz.results32, go_sem, c0, c1, c2, c3]) rfl (read_end HJ.out ((((B5.out.setCell (Nat.le_refl _) _).setCell (Nat.le_refl _) _).setCell (Nat.le_refl _) _).setCell (Nat.le_refl _) _)))
end Go.Proofs.YtaomiglmahklfaaGreatDoor
