/- The space: an entry is put in the place of another. -/
import Derived.Test.YtllaeocclpaiaaaGreatDoorSt18
namespace Go.Proofs.YtllaeocclpaiaaaGreatDoor
open Go.ChangeShapes Go.WideShapes Go.ChangeAt Go.RowKit

set_option maxRecDepth 100000 in
set_option maxHeartbeats 8000000 in
theorem Put10_old (bS bM : Nat) (l : MapT.Ents) (k t : ByteArray) (hk1 : 1 ≤ k.size) (hk : k.size ≤ 512) (ht : t.size ≤ 4096) (u : Int) (hu0 : 0 ≤ u) (hu1 : u ≤ 1125899906842624) (w : World) (h : SP w bS bM l) (k0 t0 : ByteArray) (kd u0 : Int) (A : Option Addr) (n c : Nat) (hf : MapT.find k l = some (.agg #[.string k0, .int .i64 kd, .string t0, .slice A n c, .slice none 0 0, .slice none 0 0, .slice none 0 0, .int .i64 u0])) (m0 : Int) (hsz : ∀ X, Below w.heap.size w X → Calls Tryz.prog 11 #[.agg #[.string k0, .int .i64 kd, .string t0, .slice A n c, .slice none 0 0, .slice none 0 0, .slice none 0 0, .int .i64 u0]] X fun e w' => e = .returned (.int .i64 m0) ∧ Below X.heap.size X w') : Calls Tryz.prog 5 #[.pointer (some ⟨bS, 0, none⟩), .agg #[.string k, .int .i64 1, .string t, .slice none 0 0, .slice none 0 0, .slice none 0 0, .slice none 0 0, .int .i64 u]] w fun e w' => e = .returned (.int .i64 0) ∧ SP w' bS bM (MapT.put k (.agg #[.string k, .int .i64 1, .string t, .slice none 0 0, .slice none 0 0, .slice none 0 0, .slice none 0 0, .int .i64 u]) l) ∧ Kp w.heap.size (fun i => i ≠ bS ∧ i ≠ bM) w w' := by
  have MY := Lib.hid (fun w => May15 k t hk1 hk ht u hu0 hu1 w)
  have CL := Lib.hid (fun w => clone17 k 1 t u w)
  have SZ := Lib.hid (fun w => size16 k t (by omega) (by omega) u w)
  have hlt := Lib.hid h.lt
  have hneP := Lib.hid (show bS ≠ w.heap.size from by have := h.lt; omega)
  obtain ⟨⟨mem, hmem⟩, hMB, hne⟩ := h
  have hp := Lib.hid (heap_alloc_new w (.cells #[.string k, .int .i64 1, .string t, .slice none 0 0, .slice none 0 0, .slice none 0 0, .slice none 0 0, .int .i64 u] 33))
  have hS1 := Lib.hid (blk_below hmem (alloc_old (o := .cells #[.string k, .int .i64 1, .string t, .slice none 0 0, .slice none 0 0, .slice none 0 0, .slice none 0 0, .int .i64 u] 33)))
  have hM1 := Lib.hid (hMB.below (alloc_old (o := .cells #[.string k, .int .i64 1, .string t, .slice none 0 0, .slice none 0 0, .slice none 0 0, .slice none 0 0, .int .i64 u] 33)))
  have hr : (Value.tuple #[(MapT.find k l).getD (.agg #[.string ⟨#[]⟩, .int .i64 0, .string ⟨#[]⟩, .slice none 0 0, .slice none 0 0, .slice none 0 0, .slice none 0 0, .int .i64 0]), .bool (MapT.find k l).isSome]) = .tuple #[.agg #[.string k0, .int .i64 kd, .string t0, .slice A n c, .slice none 0 0, .slice none 0 0, .slice none 0 0, .int .i64 u0], .bool true] := by rw [hf]; rfl
  have HR := Lib.hid hr
  clear hmem hMB hf hr
  go_enter Tryz.func5, Tryz.ntmps5
  go_wp2_with (first | (go_at_call 10; (with_reducible refine (MY.out _).mono ?_); rintro e w1 ⟨rfl, h1⟩; have B1 := Lib.hid h1; clear h1))
  have hS2 := blk_below hS1.out B1.out
  have hp2 := blk_below hp.out B1.out
  have hM2 := hM1.out.below B1.out
  obtain ⟨⟨p0, p1, p2, p3, p4, p5, p6, p7⟩, ⟨pf0, pf1, pf2, pf3, pf4, pf5, pf6, pf7⟩, pz⟩ := cells8 hp2
  have s0 : w1.cell? ⟨bS, 0, none⟩ = some (.map (some bM)) := by simp [World.cell?, hS2]
  have hmk := (hMB_all w1 bM l k _ hM2 HR.out)
  have L1 := hmk w1.drew (Below.refl w1.heap.size w1).drew
  have L2 := hmk (w1.alloc (.cells #[.string ⟨#[]⟩, .int .i64 0, .string ⟨#[]⟩, .slice none 0 0, .slice none 0 0, .slice none 0 0, .slice none 0 0, .int .i64 0] 33)).drew (alloc_old).drew
  have sz := (Array.getElem?_eq_some_iff.1 hS2).1
  have hpz : w.heap.size < w1.heap.size := pz
  have KH := Lib.hid (show ∀ X, Below w1.heap.size w1 X → (X.cell? ⟨bS, 0, none⟩ = some (.map (some bM)) ∧ X.cell? ⟨w.heap.size, 0, none⟩ = some (.string k)) from fun X hb => ⟨(hb.cell (p := ⟨bS, 0, none⟩) sz).trans s0, (hb.cell (p := ⟨w.heap.size, 0, none⟩) hpz).trans p0⟩)
  have K0 := Lib.hid (KH.out w1.drew (Below.refl w1.heap.size w1).drew)
  have K1 := Lib.hid (KH.out (w1.alloc (.cells #[.string ⟨#[]⟩, .int .i64 0, .string ⟨#[]⟩, .slice none 0 0, .slice none 0 0, .slice none 0 0, .slice none 0 0, .int .i64 0] 33)).drew (alloc_old).drew)
  have K2 := Lib.hid (KH.out (w1.alloc (.cells #[.string k0, .int .i64 kd, .string t0, .slice A n c, .slice none 0 0, .slice none 0 0, .slice none 0 0, .int .i64 u0] 33)).drew (alloc_old).drew)
  clear hmk hM2 hS2 hp2
  go_region_held3 (fun X => X.cell? ⟨bS, 0, none⟩ = some (.map (some bM)) ∧ X.cell? ⟨w.heap.size, 0, none⟩ = some (.string k)) (first | (with_reducible exact K0.out) | (with_reducible exact K1.out) | (with_reducible exact K2.out)) (first | skip)
  all_goals (
    change Exit.then _ _ _ _ (w1.alloc (.cells #[.string k0, .int .i64 kd, .string t0, .slice A n c, .slice none 0 0, .slice none 0 0, .slice none 0 0, .int .i64 u0] 33)).drew
    have w2b := Lib.hid (show Below w1.heap.size w1 (w1.alloc (.cells #[.string k0, .int .i64 kd, .string t0, .slice A n c, .slice none 0 0, .slice none 0 0, .slice none 0 0, .int .i64 u0] 33)).drew from alloc_old.drew)
    have w2n := Lib.hid (show (w1.alloc (.cells #[.string k0, .int .i64 kd, .string t0, .slice A n c, .slice none 0 0, .slice none 0 0, .slice none 0 0, .int .i64 u0] 33)).drew.heap[w1.heap.size]? = some (.cells #[.string k0, .int .i64 kd, .string t0, .slice A n c, .slice none 0 0, .slice none 0 0, .slice none 0 0, .int .i64 u0] 33) from heap_alloc_new w1 _)
    generalize (w1.alloc (.cells #[.string k0, .int .i64 kd, .string t0, .slice A n c, .slice none 0 0, .slice none 0 0, .slice none 0 0, .int .i64 u0] 33)).drew = w2 at w2b w2n ⊢
    clear L1 L2 K0 K1 K2 KH s0
    have BW := Lib.hid (show Below w.heap.size w w2 from (alloc_old.trans (B1.out.mono (by simp))).trans (w2b.out.mono (by omega)))
    have Q2 := Lib.hid (show Kp w.heap.size (fun i => i ≠ bS ∧ i ≠ bM) w w2 from .of BW.out)
    have S2 := Lib.hid (blk_below hS1.out (B1.out.trans (w2b.out.mono (Below.size B1.out))))
    have P2 := Lib.hid (blk_below hp.out (B1.out.trans (w2b.out.mono (Below.size B1.out))))
    have M2 := Lib.hid (hM1.out.below (B1.out.trans (w2b.out.mono (Below.size B1.out))))
    have hne1 := Lib.hid (show bS ≠ w1.heap.size from by omega)
    clear hS1 hM1 hp w2b p0 p1 p2 p3 p4 p5 p6 p7 pf0 pf1 pf2 pf3 pf4 pf5 pf6 pf7

    go_wp2
    obtain ⟨cm2, cf2⟩ := mem53 S2.out
    obtain ⟨⟨g0, g1, g2, g3, g4, g5, g6, g7⟩, _, gz⟩ := cells8 w2n.out
    have Z7 := Lib.hid (hsz w2.drew BW.out.drew)
    go_region_with ((go_at_call 11; (with_reducible refine (Z7.out).mono ?_); rintro e w3 ⟨rfl, h5⟩; have B3 : Below w2.heap.size w2 w3 := belT (Below.refl w2.heap.size w2).drew h5; clear h5; obtain ⟨cm3, cf3⟩ := mem53 (blk_below S2.out B3)))
    all_goals (
      change Exit.then _ _ _ _ (w3.setCell ⟨bS, 1, none⟩ (.int .i64 (IntKind.i64.wrap (mem - m0))))
      have S4 := Lib.hid (set53 (blk_below S2.out B3) (.int .i64 (IntKind.i64.wrap (mem - m0))))
      have P4 := Lib.hid ((Below.heap_setCell w3 ⟨bS, 1, none⟩ (.int .i64 (IntKind.i64.wrap (mem - m0))) w.heap.size (by have := hlt.out; show w.heap.size ≠ bS; omega)).trans (blk_below P2.out B3))
      have M4 := Lib.hid ((M2.out.below B3).kept (Below.heap_setCell w3 ⟨bS, 1, none⟩ (.int .i64 (IntKind.i64.wrap (mem - m0))) bM (Ne.symm hne)))
      have Q4 := Lib.hid (((Q2.out.trans (.of (B3.mono Q2.out.size))).setCell (p := ⟨bS, 1, none⟩) (by simp) (.int .i64 (IntKind.i64.wrap (mem - m0)))))
      clear cm2 cf2 cm3 cf3 g0 g1 g2 g3 g4 g5 g6 g7 gz Z7 B3
      generalize w3.setCell ⟨bS, 1, none⟩ (.int .i64 (IntKind.i64.wrap (mem - m0))) = w4 at S4 P4 M4 Q4 ⊢
      go_wp2
      have KQ := Lib.hid (show ∀ X, Below w4.heap.size w4 X → (X.cell? ⟨bS, 0, none⟩ = some (.map (some bM)) ∧ X.cell? ⟨w.heap.size, 0, none⟩ = some (.string k) ∧ X.cell? ⟨w.heap.size, 1, none⟩ = some (.int .i64 1) ∧ X.cell? ⟨w.heap.size, 2, none⟩ = some (.string t) ∧ X.cell? ⟨w.heap.size, 3, none⟩ = some (.slice none 0 0) ∧ X.cell? ⟨w.heap.size, 4, none⟩ = some (.slice none 0 0) ∧ X.cell? ⟨w.heap.size, 5, none⟩ = some (.slice none 0 0) ∧ X.cell? ⟨w.heap.size, 6, none⟩ = some (.slice none 0 0) ∧ X.cell? ⟨w.heap.size, 7, none⟩ = some (.int .i64 u)) from fun X hb => ⟨cell53 (blk_below S4.out hb), (cells8 (blk_below P4.out hb)).1⟩)
      have KU := Lib.hid (show ∀ X Y, X.grownBy Y (some bM) → Below w4.heap.size w4 X → (Y.cell? ⟨bS, 0, none⟩ = some (.map (some bM)) ∧ Y.cell? ⟨w.heap.size, 0, none⟩ = some (.string k) ∧ Y.cell? ⟨w.heap.size, 1, none⟩ = some (.int .i64 1) ∧ Y.cell? ⟨w.heap.size, 2, none⟩ = some (.string t) ∧ Y.cell? ⟨w.heap.size, 3, none⟩ = some (.slice none 0 0) ∧ Y.cell? ⟨w.heap.size, 4, none⟩ = some (.slice none 0 0) ∧ Y.cell? ⟨w.heap.size, 5, none⟩ = some (.slice none 0 0) ∧ Y.cell? ⟨w.heap.size, 6, none⟩ = some (.slice none 0 0) ∧ Y.cell? ⟨w.heap.size, 7, none⟩ = some (.int .i64 u)) from fun X Y hg hb => ⟨cell53 ((grown_block hg (lt_blk (blk_below S4.out hb)) hne).trans (blk_below S4.out hb)), (cells8 ((grown_block hg (lt_blk (blk_below P4.out hb)) (by have := hlt.out; omega)).trans (blk_below P4.out hb))).1⟩)
      have Z8 := Lib.hid (CL.out w4.drew)
      have K8 := Lib.hid (KQ.out w4.drew (Below.refl _ _).drew)
      go_region_held3 (fun X => X.cell? ⟨bS, 0, none⟩ = some (.map (some bM)) ∧ X.cell? ⟨w.heap.size, 0, none⟩ = some (.string k) ∧ X.cell? ⟨w.heap.size, 1, none⟩ = some (.int .i64 1) ∧ X.cell? ⟨w.heap.size, 2, none⟩ = some (.string t) ∧ X.cell? ⟨w.heap.size, 3, none⟩ = some (.slice none 0 0) ∧ X.cell? ⟨w.heap.size, 4, none⟩ = some (.slice none 0 0) ∧ X.cell? ⟨w.heap.size, 5, none⟩ = some (.slice none 0 0) ∧ X.cell? ⟨w.heap.size, 6, none⟩ = some (.slice none 0 0) ∧ X.cell? ⟨w.heap.size, 7, none⟩ = some (.int .i64 u)) (first | (with_reducible exact K8.out) | (with_reducible exact KU.out _ _ (by assumption) (by assumption)) | (with_reducible exact KQ.out _ (by assumption))) (first | (go_at_call 12; (with_reducible refine (Z8.out).mono ?_); rintro e w5 ⟨rfl, h5⟩; have B5 : Below w4.heap.size w4 w5 := belT (Below.refl w4.heap.size w4).drew h5; clear h5; obtain ⟨w6, hrun, r1, r2, r3⟩ := MapT.run_update Tryz.underlying44 Tryz.underlying9 (M4.out.below B5) k (.agg #[.string k, .int .i64 1, .string t, .slice none 0 0, .slice none 0 0, .slice none 0 0, .slice none 0 0, .int .i64 u])))
      all_goals (
        have S6 := Lib.hid ((grown_block r2 (lt_blk (blk_below S4.out B5)) hne).trans (blk_below S4.out B5))
        have P6 := Lib.hid ((grown_block r2 (lt_blk (blk_below P4.out B5)) (show w.heap.size ≠ bM by have := hlt.out; omega)).trans (blk_below P4.out B5))
        have M6 := Lib.hid r1
        have Q6 := Lib.hid ((Q4.out.trans (.of (B5.mono Q4.out.size))).grown r2 (Nat.le_trans Q4.out.size (Below.size B5)) (fun k hk _ hS => hS.2 (Option.some.inj hk).symm))
        clear KQ KU Z8 K8 B5 hrun r1 r2 r3
        go_wp2
        obtain ⟨cm6, cf6⟩ := mem53 S6.out
        obtain ⟨⟨g0, g1, g2, g3, g4, g5, g6, g7⟩, _, gz⟩ := cells8 P6.out
        have Z7 := Lib.hid (SZ.out w6.drew)
        go_region_with ((go_at_call 11; (with_reducible refine (Z7.out).mono ?_); rintro e w7 ⟨rfl, h5⟩; have B7 : Below w6.heap.size w6 w7 := belT (Below.refl w6.heap.size w6).drew h5; clear h5; obtain ⟨cm7, cf7⟩ := mem53 (blk_below S6.out B7)))
        all_goals (
          change Exit.then _ _ _ _ (w7.setCell ⟨bS, 1, none⟩ (.int .i64 (IntKind.i64.wrap ((IntKind.i64.wrap (mem - m0)) + (48 + (k.size : Int) + t.size)))))
          have S8 := Lib.hid (set53 (blk_below S6.out B7) (.int .i64 (IntKind.i64.wrap ((IntKind.i64.wrap (mem - m0)) + (48 + (k.size : Int) + t.size)))))
          have P8 := Lib.hid ((Below.heap_setCell w7 ⟨bS, 1, none⟩ (.int .i64 (IntKind.i64.wrap ((IntKind.i64.wrap (mem - m0)) + (48 + (k.size : Int) + t.size)))) w.heap.size (by have := hlt.out; show w.heap.size ≠ bS; omega)).trans (blk_below P6.out B7))
          have M8 := Lib.hid ((M6.out.below B7).kept (Below.heap_setCell w7 ⟨bS, 1, none⟩ (.int .i64 (IntKind.i64.wrap ((IntKind.i64.wrap (mem - m0)) + (48 + (k.size : Int) + t.size)))) bM (Ne.symm hne)))
          have Q8 := Lib.hid (((Q6.out.trans (.of (B7.mono Q6.out.size))).setCell (p := ⟨bS, 1, none⟩) (by simp) (.int .i64 (IntKind.i64.wrap ((IntKind.i64.wrap (mem - m0)) + (48 + (k.size : Int) + t.size))))))
          clear cm6 cf6 cm7 cf7 g0 g1 g2 g3 g4 g5 g6 g7 gz Z7 B7
          generalize w7.setCell ⟨bS, 1, none⟩ (.int .i64 (IntKind.i64.wrap ((IntKind.i64.wrap (mem - m0)) + (48 + (k.size : Int) + t.size)))) = w8 at S8 P8 M8 Q8 ⊢
          go_wp2
          go_ret
          exact ⟨by simp, ⟨⟨_, S8.out⟩, M8.out, hne⟩, Q8.out⟩))))
end Go.Proofs.YtllaeocclpaiaaaGreatDoor
