/- The closures of INCRBY, DECRBY, INCR. -/
import Derived.Test.YtaomiglmahklfaaGreatDoorSt32
namespace Go.Proofs.YtaomiglmahklfaaGreatDoor
open Go.ChangeShapes Go.WideShapes Go.ChangeAt Go.RowKit

set_option maxRecDepth 100000 in
set_option maxHeartbeats 4000000 in
theorem incr_diff (W0 : World) (hT : Tab W0) (bS bM : Nat) (l : MapT.Ents) (now : Int) (c k s t : ByteArray) (n m u : Int) (ht : t.size ≤ 100000) (hs : s.size ≤ 100000) (hn : I64 n) (hm : I64 m) (hp : parseI t.data.toList = some n) (hq : parseI s.data.toList = some m) (hr : rng (n + m) = true) (hne : t ≠ (numT (n + m))) (hk1 : 1 ≤ k.size) (hk : k.size ≤ 512) (hu0 : 0 ≤ u) (hu1 : u ≤ 1125899906842624) (hf : MapT.find k l = some (.agg #[.string k, .int .i64 1, .string t, .slice none 0 0, .slice none 0 0, .slice none 0 0, .slice none 0 0, .int .i64 u])) (hv : Lives u now) : CmdOk W0 39 bS bM l now [c, k, s] 3 (n + m) ⟨#[]⟩ R0 [⟨k, 1, (numT (n + m)), u⟩] := by
  intro w j vA hI hS hj hA
  have A1 := Lib.hid (alloc_old (w := w) (o := .cells #[.int .i64 0, .int .i64 0, .string ⟨#[]⟩, .slice none 0 0] 37))
  have hr0 := Lib.hid (heap_alloc_new w (.cells #[.int .i64 0, .int .i64 0, .string ⟨#[]⟩, .slice none 0 0] 37))
  have hjw := lt_blk hj
  have hz1 : ((w.alloc (.cells #[.int .i64 0, .int .i64 0, .string ⟨#[]⟩, .slice none 0 0] 37))).heap.size = w.heap.size + 1 := by simp
  have HZ := Lib.hid hz1
  have M := Lib.hid (incr_diff_raw hT bS bM l now c k s t n m u ht hs hn hm hp hq hr hne hk1 hk hu0 hu1 hf hv (w.alloc (.cells #[.int .i64 0, .int .i64 0, .string ⟨#[]⟩, .slice none 0 0] 37)) j vA (hI.trans (A1.out.mono (Below.size hI))) (hS.below A1.out) (hj.below A1.out) (hA.below A1.out))
  clear hS hj hA hp hq hr hf hz1 hI hne
  go_enter Tryz.func39, Tryz.ntmps39
  go_wp2_with (first | (go_at_call 35; (with_reducible refine (M.out).mono ?_); rintro e w3 ⟨A, m', c', rfl, hR, ⟨A', n', c'', hJ, hE⟩, hK⟩; cases hR; have HJ := Lib.hid hJ; have HE := Lib.hid hE; have HK := Lib.hid hK; obtain ⟨⟨c0, c1, c2, c3⟩, ⟨f0, f1, f2, f3⟩⟩ := cells4 ((hK.block w.heap.size (by rw [HZ.out]; omega) (by omega)).trans hr0.out); clear hJ hE hK))
  exact bodyPost_ret (v := .agg #[.int .i64 3, .int .i64 (n + m), .string ⟨#[]⟩, .slice none 0 0]) (by simp [results, Tryz.results39, go_sem, c0, c1, c2, c3]) rfl (eff_end hjw (Nat.le_refl _) (by rw [HZ.out]; omega) A1.out HJ.out HE.out HK.out _ _ _ _)
set_option maxRecDepth 100000 in
set_option maxHeartbeats 4000000 in
theorem incr_same (W0 : World) (hT : Tab W0) (bS bM : Nat) (l : MapT.Ents) (now : Int) (c k s t : ByteArray) (n m u : Int) (ht : t.size ≤ 100000) (hs : s.size ≤ 100000) (hn : I64 n) (hm : I64 m) (hp : parseI t.data.toList = some n) (hq : parseI s.data.toList = some m) (hr : rng (n + m) = true) (hne : t = (numT (n + m))) (hf : MapT.find k l = some (.agg #[.string k, .int .i64 1, .string t, .slice none 0 0, .slice none 0 0, .slice none 0 0, .slice none 0 0, .int .i64 u])) (hv : Lives u now) : CmdOk W0 39 bS bM l now [c, k, s] 3 (n + m) ⟨#[]⟩ R0 [] := by
  intro w j vA hI hS hj hA
  have A1 := Lib.hid (alloc_old (w := w) (o := .cells #[.int .i64 0, .int .i64 0, .string ⟨#[]⟩, .slice none 0 0] 37))
  have hr0 := Lib.hid (heap_alloc_new w (.cells #[.int .i64 0, .int .i64 0, .string ⟨#[]⟩, .slice none 0 0] 37))
  have hjw := lt_blk hj
  have hz1 : ((w.alloc (.cells #[.int .i64 0, .int .i64 0, .string ⟨#[]⟩, .slice none 0 0] 37))).heap.size = w.heap.size + 1 := by simp
  have HZ := Lib.hid hz1
  have M := Lib.hid (incr_same_raw hT bS bM l now c k s t n m u ht hs hn hm hp hq hr hne hf hv (w.alloc (.cells #[.int .i64 0, .int .i64 0, .string ⟨#[]⟩, .slice none 0 0] 37)) j vA (hI.trans (A1.out.mono (Below.size hI))) (hS.below A1.out) (hj.below A1.out) (hA.below A1.out))
  clear hS hj hA hp hq hr hf hz1 hI hne
  go_enter Tryz.func39, Tryz.ntmps39
  go_wp2_with (first | (go_at_call 35; (with_reducible refine (M.out).mono ?_); rintro e w3 ⟨A, m', c', rfl, hR, ⟨A', n', c'', hJ, hE⟩, hK⟩; cases hR; have HJ := Lib.hid hJ; have HE := Lib.hid hE; have HK := Lib.hid hK; obtain ⟨⟨c0, c1, c2, c3⟩, ⟨f0, f1, f2, f3⟩⟩ := cells4 ((hK.block w.heap.size (by rw [HZ.out]; omega) (by omega)).trans hr0.out); clear hJ hE hK))
  exact bodyPost_ret (v := .agg #[.int .i64 3, .int .i64 (n + m), .string ⟨#[]⟩, .slice none 0 0]) (by simp [results, Tryz.results39, go_sem, c0, c1, c2, c3]) rfl (eff_end hjw (Nat.le_refl _) (by rw [HZ.out]; omega) A1.out HJ.out HE.out HK.out _ _ _ _)
set_option maxRecDepth 100000 in
set_option maxHeartbeats 4000000 in
theorem incr_fail (W0 : World) (bS bM : Nat) (l : MapT.Ents) (now : Int) (c k s t : ByteArray) (n m u : Int) (ht : t.size ≤ 100000) (hs : s.size ≤ 100000) (hn : I64 n) (hm : I64 m) (hp : parseI t.data.toList = some n) (hq : parseI s.data.toList = some m) (hr : rng (n + m) = false) (hf : MapT.find k l = some (.agg #[.string k, .int .i64 1, .string t, .slice none 0 0, .slice none 0 0, .slice none 0 0, .slice none 0 0, .int .i64 u])) (hv : Lives u now) : CmdFail W0 39 bS bM l now [c, k, s] 4 := by
  intro w j vA _ hS hj hA
  have A1 := Lib.hid (alloc_old (w := w) (o := .cells #[.int .i64 0, .int .i64 0, .string ⟨#[]⟩, .slice none 0 0] 37))
  have hr0 := Lib.hid (heap_alloc_new w (.cells #[.int .i64 0, .int .i64 0, .string ⟨#[]⟩, .slice none 0 0] 37))
  have hjw := lt_blk hj
  have hz1 : ((w.alloc (.cells #[.int .i64 0, .int .i64 0, .string ⟨#[]⟩, .slice none 0 0] 37))).heap.size = w.heap.size + 1 := by simp
  have HZ := Lib.hid hz1
  have M := Lib.hid (incr_fail_raw bS bM l now c k s t n m u ht hs hn hm hp hq hr hf hv (w.alloc (.cells #[.int .i64 0, .int .i64 0, .string ⟨#[]⟩, .slice none 0 0] 37)) j vA (hS.below A1.out) (hj.below A1.out) (hA.below A1.out))
  clear hS hj hA hp hq hr hf hz1
  go_enter Tryz.func39, Tryz.ntmps39
  go_wp2_with (first | (go_at_call 35; (with_reducible refine (M.out).mono ?_); rintro e w3 ⟨rfl, hK⟩; have HK := Lib.hid hK; clear hK))
  exact ⟨rfl, rfl, (Kp.of A1.out).trans (HK.out.mono (by rw [HZ.out]; omega) (fun _ h => h))⟩
set_option maxRecDepth 100000 in
set_option maxHeartbeats 4000000 in
theorem decr_diff (W0 : World) (hT : Tab W0) (bS bM : Nat) (l : MapT.Ents) (now : Int) (c k s t : ByteArray) (n m u : Int) (ht : t.size ≤ 100000) (hs : s.size ≤ 100000) (hn : I64 n) (hm : I64 m) (hp : parseI t.data.toList = some n) (hq : parseI s.data.toList = some m) (hr : rng (n - m) = true) (hne : t ≠ (numT (n - m))) (hk1 : 1 ≤ k.size) (hk : k.size ≤ 512) (hu0 : 0 ≤ u) (hu1 : u ≤ 1125899906842624) (hf : MapT.find k l = some (.agg #[.string k, .int .i64 1, .string t, .slice none 0 0, .slice none 0 0, .slice none 0 0, .slice none 0 0, .int .i64 u])) (hv : Lives u now) : CmdOk W0 40 bS bM l now [c, k, s] 3 (n - m) ⟨#[]⟩ R0 [⟨k, 1, (numT (n - m)), u⟩] := by
  intro w j vA hI hS hj hA
  have A1 := Lib.hid (alloc_old (w := w) (o := .cells #[.int .i64 0, .int .i64 0, .string ⟨#[]⟩, .slice none 0 0] 37))
  have hr0 := Lib.hid (heap_alloc_new w (.cells #[.int .i64 0, .int .i64 0, .string ⟨#[]⟩, .slice none 0 0] 37))
  have hjw := lt_blk hj
  have hz1 : ((w.alloc (.cells #[.int .i64 0, .int .i64 0, .string ⟨#[]⟩, .slice none 0 0] 37))).heap.size = w.heap.size + 1 := by simp
  have HZ := Lib.hid hz1
  have M := Lib.hid (decr_diff_raw hT bS bM l now c k s t n m u ht hs hn hm hp hq hr hne hk1 hk hu0 hu1 hf hv (w.alloc (.cells #[.int .i64 0, .int .i64 0, .string ⟨#[]⟩, .slice none 0 0] 37)) j vA (hI.trans (A1.out.mono (Below.size hI))) (hS.below A1.out) (hj.below A1.out) (hA.below A1.out))
  clear hS hj hA hp hq hr hf hz1 hI hne
  go_enter Tryz.func40, Tryz.ntmps40
  go_wp2_with (first | (go_at_call 35; (with_reducible refine (M.out).mono ?_); rintro e w3 ⟨A, m', c', rfl, hR, ⟨A', n', c'', hJ, hE⟩, hK⟩; cases hR; have HJ := Lib.hid hJ; have HE := Lib.hid hE; have HK := Lib.hid hK; obtain ⟨⟨c0, c1, c2, c3⟩, ⟨f0, f1, f2, f3⟩⟩ := cells4 ((hK.block w.heap.size (by rw [HZ.out]; omega) (by omega)).trans hr0.out); clear hJ hE hK))
  exact bodyPost_ret (v := .agg #[.int .i64 3, .int .i64 (n - m), .string ⟨#[]⟩, .slice none 0 0]) (by simp [results, Tryz.results40, go_sem, c0, c1, c2, c3]) rfl (eff_end hjw (Nat.le_refl _) (by rw [HZ.out]; omega) A1.out HJ.out HE.out HK.out _ _ _ _)
set_option maxRecDepth 100000 in
set_option maxHeartbeats 4000000 in
theorem decr_same (W0 : World) (hT : Tab W0) (bS bM : Nat) (l : MapT.Ents) (now : Int) (c k s t : ByteArray) (n m u : Int) (ht : t.size ≤ 100000) (hs : s.size ≤ 100000) (hn : I64 n) (hm : I64 m) (hp : parseI t.data.toList = some n) (hq : parseI s.data.toList = some m) (hr : rng (n - m) = true) (hne : t = (numT (n - m))) (hf : MapT.find k l = some (.agg #[.string k, .int .i64 1, .string t, .slice none 0 0, .slice none 0 0, .slice none 0 0, .slice none 0 0, .int .i64 u])) (hv : Lives u now) : CmdOk W0 40 bS bM l now [c, k, s] 3 (n - m) ⟨#[]⟩ R0 [] := by
  intro w j vA hI hS hj hA
  have A1 := Lib.hid (alloc_old (w := w) (o := .cells #[.int .i64 0, .int .i64 0, .string ⟨#[]⟩, .slice none 0 0] 37))
  have hr0 := Lib.hid (heap_alloc_new w (.cells #[.int .i64 0, .int .i64 0, .string ⟨#[]⟩, .slice none 0 0] 37))
  have hjw := lt_blk hj
  have hz1 : ((w.alloc (.cells #[.int .i64 0, .int .i64 0, .string ⟨#[]⟩, .slice none 0 0] 37))).heap.size = w.heap.size + 1 := by simp
  have HZ := Lib.hid hz1
  have M := Lib.hid (decr_same_raw hT bS bM l now c k s t n m u ht hs hn hm hp hq hr hne hf hv (w.alloc (.cells #[.int .i64 0, .int .i64 0, .string ⟨#[]⟩, .slice none 0 0] 37)) j vA (hI.trans (A1.out.mono (Below.size hI))) (hS.below A1.out) (hj.below A1.out) (hA.below A1.out))
  clear hS hj hA hp hq hr hf hz1 hI hne
  go_enter Tryz.func40, Tryz.ntmps40
  go_wp2_with (first | (go_at_call 35; (with_reducible refine (M.out).mono ?_); rintro e w3 ⟨A, m', c', rfl, hR, ⟨A', n', c'', hJ, hE⟩, hK⟩; cases hR; have HJ := Lib.hid hJ; have HE := Lib.hid hE; have HK := Lib.hid hK; obtain ⟨⟨c0, c1, c2, c3⟩, ⟨f0, f1, f2, f3⟩⟩ := cells4 ((hK.block w.heap.size (by rw [HZ.out]; omega) (by omega)).trans hr0.out); clear hJ hE hK))
  exact bodyPost_ret (v := .agg #[.int .i64 3, .int .i64 (n - m), .string ⟨#[]⟩, .slice none 0 0]) (by simp [results, Tryz.results40, go_sem, c0, c1, c2, c3]) rfl (eff_end hjw (Nat.le_refl _) (by rw [HZ.out]; omega) A1.out HJ.out HE.out HK.out _ _ _ _)
set_option maxRecDepth 100000 in
set_option maxHeartbeats 4000000 in
theorem decr_fail (W0 : World) (bS bM : Nat) (l : MapT.Ents) (now : Int) (c k s t : ByteArray) (n m u : Int) (ht : t.size ≤ 100000) (hs : s.size ≤ 100000) (hn : I64 n) (hm : I64 m) (hp : parseI t.data.toList = some n) (hq : parseI s.data.toList = some m) (hr : rng (n - m) = false) (hf : MapT.find k l = some (.agg #[.string k, .int .i64 1, .string t, .slice none 0 0, .slice none 0 0, .slice none 0 0, .slice none 0 0, .int .i64 u])) (hv : Lives u now) : CmdFail W0 40 bS bM l now [c, k, s] 4 := by
  intro w j vA _ hS hj hA
  have A1 := Lib.hid (alloc_old (w := w) (o := .cells #[.int .i64 0, .int .i64 0, .string ⟨#[]⟩, .slice none 0 0] 37))
  have hr0 := Lib.hid (heap_alloc_new w (.cells #[.int .i64 0, .int .i64 0, .string ⟨#[]⟩, .slice none 0 0] 37))
  have hjw := lt_blk hj
  have hz1 : ((w.alloc (.cells #[.int .i64 0, .int .i64 0, .string ⟨#[]⟩, .slice none 0 0] 37))).heap.size = w.heap.size + 1 := by simp
  have HZ := Lib.hid hz1
  have M := Lib.hid (decr_fail_raw bS bM l now c k s t n m u ht hs hn hm hp hq hr hf hv (w.alloc (.cells #[.int .i64 0, .int .i64 0, .string ⟨#[]⟩, .slice none 0 0] 37)) j vA (hS.below A1.out) (hj.below A1.out) (hA.below A1.out))
  clear hS hj hA hp hq hr hf hz1
  go_enter Tryz.func40, Tryz.ntmps40
  go_wp2_with (first | (go_at_call 35; (with_reducible refine (M.out).mono ?_); rintro e w3 ⟨rfl, hK⟩; have HK := Lib.hid hK; clear hK))
  exact ⟨rfl, rfl, (Kp.of A1.out).trans (HK.out.mono (by rw [HZ.out]; omega) (fun _ h => h))⟩
set_option maxRecDepth 100000 in
set_option maxHeartbeats 4000000 in
theorem incr_bad_raw (bS bM : Nat) (l : MapT.Ents) (now : Int) (c k t : ByteArray) (u : Int) (ht : t.size ≤ 100000) (hp : parseI t.data.toList = none) (hf : MapT.find k l = some (.agg #[.string k, .int .i64 1, .string t, .slice none 0 0, .slice none 0 0, .slice none 0 0, .slice none 0 0, .int .i64 u])) (hv : Lives u now) (w : World) (j : Nat) (vA : Value) (hS : SP w bS bM l) (hj : JB w j bS now vA (.slice none 0 0)) (hA : SSl w vA [c, k]) : Calls Tryz.prog 35 #[.pointer (some ⟨j, 0, none⟩), .func (.func 36) #[] #[], .bool false] w fun e w' => e = .panicked [{ v := failV 4, recovered := false }] ∧ Kp w.heap.size (fun i => i ≠ j) w w' := by
  have A1 := Lib.hid (alloc_old (w := w) (o := .cells #[.int .i64 0, .int .i64 0, .string ⟨#[]⟩, .slice none 0 0] 37))
  obtain ⟨aA, cap, hv, p1, p2, p3⟩ := hA
  replace hv : vA = .slice aA 2 cap := hv
  subst hv
  replace p1 : 2 ≤ cap := p1
  obtain ⟨blk, off, rfl, hblt, hc⟩ := p3 (by simp)
  have ca1 := Lib.hid (show ∀ Y, Below w.heap.size w Y → Y.cell? ⟨blk, off + 1, none⟩ = some (.string k) from fun Y hb => (hb.cell (p := ⟨blk, off + 1, none⟩) hblt).trans (hc 1 _ rfl))
  have cj := Lib.hid (show ∀ Y, Below w.heap.size w Y → Y.cell? ⟨j, 2, none⟩ = some (.slice (some ⟨blk, off, none⟩) 2 cap) ∧ Y.cell? ⟨j, 1, none⟩ = some (.int .i64 now) from fun Y hb => ⟨(hj.below hb).cells.2.2.1, (hj.below hb).cells.2.1⟩)
  have i1 : (1 : Int) < 2 := by decide
  have G := Lib.hid (Of_yes bS bM j l k now _ _ 1 t u hf hv _ (hS.below A1.out) (hj.below A1.out))
  have PA := Lib.hid (fun X (_ : Below w.heap.size w X) => Parse_no t ht hp X)
  have FA := Lib.hid (fun X (_ : Below w.heap.size w X) => Fail69 4 X)
  have y2 := (cj.out _ A1.out).1
  have z1 := ca1.out _ A1.out
  clear hS hj hc p3 hf hp cj
  go_enter Tryz.func35, Tryz.ntmps35
  go_wp2_with (first | (go_at_call 65; (with_reducible refine (G.out).mono ?_); rintro e w1 ⟨rfl, h1⟩; have B1 := Lib.hid (A1.out.trans (h1.mono (Below.size A1.out))); clear h1; refine Hid.out ?_))
  refine Lib.hid ?_
  clear y2 z1
  have BX := Lib.hid (show Below w.heap.size w (w1.alloc (.cells #[.string k, .int .i64 1, .string t, .slice none 0 0, .slice none 0 0, .slice none 0 0, .slice none 0 0, .int .i64 u] 33)) from B1.out.trans (alloc_old.mono (Below.size B1.out)))
  have oX := Lib.hid (heap_alloc_new w1 (.cells #[.string k, .int .i64 1, .string t, .slice none 0 0, .slice none 0 0, .slice none 0 0, .slice none 0 0, .int .i64 u] 33))
  obtain ⟨⟨g0, g1, g2, g3, g4, g5, g6, g7⟩, _, gz⟩ := cells8 oX.out
  go_wp2_with (first | (go_at_call 78; (with_reducible refine (PA.out _ BX.out).mono ?_); rintro e w4 ⟨rfl, hh⟩; have BX := Lib.hid (BX.out.trans (hh.mono (Below.size BX.out))); clear hh) | (go_at_call 69; (with_reducible refine (FA.out _ BX.out).mono ?_); rintro e w6 ⟨rfl, hh⟩; have BX := Lib.hid (BX.out.trans (hh.mono (Below.size BX.out))); clear hh))
  exact ⟨rfl, rfl, .of BX.out⟩
set_option maxRecDepth 100000 in
set_option maxHeartbeats 4000000 in
theorem incr_bad (W0 : World) (bS bM : Nat) (l : MapT.Ents) (now : Int) (c k t : ByteArray) (u : Int) (ht : t.size ≤ 100000) (hp : parseI t.data.toList = none) (hf : MapT.find k l = some (.agg #[.string k, .int .i64 1, .string t, .slice none 0 0, .slice none 0 0, .slice none 0 0, .slice none 0 0, .int .i64 u])) (hv : Lives u now) : CmdFail W0 34 bS bM l now [c, k] 4 := by
  intro w j vA _ hS hj hA
  have A1 := Lib.hid (alloc_old (w := w) (o := .cells #[.int .i64 0, .int .i64 0, .string ⟨#[]⟩, .slice none 0 0] 37))
  have hz1 : ((w.alloc (.cells #[.int .i64 0, .int .i64 0, .string ⟨#[]⟩, .slice none 0 0] 37))).heap.size = w.heap.size + 1 := by simp
  have HZ := Lib.hid hz1
  have M := Lib.hid (incr_bad_raw bS bM l now c k t u ht hp hf hv (w.alloc (.cells #[.int .i64 0, .int .i64 0, .string ⟨#[]⟩, .slice none 0 0] 37)) j vA (hS.below A1.out) (hj.below A1.out) (hA.below A1.out))
  clear hS hj hA hp hf hz1
  go_enter Tryz.func34, Tryz.ntmps34
  go_wp2_with (first | (go_at_call 35; (with_reducible refine (M.out).mono ?_); rintro e w3 ⟨rfl, hK⟩; have HK := Lib.hid hK; clear hK))
  exact ⟨rfl, rfl, (Kp.of A1.out).trans (HK.out.mono (by rw [HZ.out]; omega) (fun _ h => h))⟩
end Go.Proofs.YtaomiglmahklfaaGreatDoor
