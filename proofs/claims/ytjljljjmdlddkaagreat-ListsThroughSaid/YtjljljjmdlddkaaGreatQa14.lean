/- Texts joined: Li7 -/
import Derived.Test.YtjljljjmdlddkaaGreatQa9

/- A list that is put at a new key. -/
namespace Go.Proofs.YtjljljjmdlddkaaGreat
open Go.ChangeShapes Go.WideShapes Go.ChangeAt Go.RowKit

theorem own_ne {w : World} {bS bM : Nat} {l : MapT.Ents} {v : Value} {xs : List ByteArray} (h : TR w v xs) (hS : SP w bS bM l) : ∀ g, v.ownBlock = some g → g < w.heap.size ∧ g ≠ bS ∧ g ≠ bM := by
  intro g hg
  obtain ⟨g', e, hlt, cs, hc⟩ := h.lt
  rw [hg] at e
  cases e
  obtain ⟨⟨mem, h1⟩, ⟨es, c, h2, _⟩, _⟩ := hS
  refine ⟨hlt, fun e => ?_, fun e => ?_⟩
  · subst e; rw [h1] at hc; cases hc
  · subst e; rw [h2] at hc; cases hc
set_option maxRecDepth 100000 in
set_option maxHeartbeats 8000000 in
theorem Put10_newL (bS bM : Nat) (l : MapT.Ents) (xs : List ByteArray) (A : Option Addr) (cap : Nat) (hx0 : xs ≠ []) (h1000 : xs.length ≤ 1000) (hsz : ∀ s ∈ xs, s.size ≤ 4096) (hs : 16 + 16 * xs.length + sumSz xs ≤ 262144) (k : ByteArray) (hk1 : 1 ≤ k.size) (hk : k.size ≤ 512) (u : Int) (hu0 : 0 ≤ u) (hu1 : u ≤ 1125899906842624) (w : World) (h : SP w bS bM l) (hf : MapT.find k l = none) (hlen : l.length < 4096) (hTR : TR w (.slice A xs.length cap) xs) : Calls Tryz.prog 10 #[.pointer (some ⟨bS, 0, none⟩), .agg #[.string k, .int .i64 2, .string ⟨#[]⟩, .slice A xs.length cap, .slice none 0 0, .slice none 0 0, .slice none 0 0, .int .i64 u]] w fun e w' => ∃ g C, e = .returned (.int .i64 0) ∧ SP w' bS bM (MapT.put k (.agg #[.string k, .int .i64 2, .string ⟨#[]⟩, .slice (some ⟨g, 0, none⟩) xs.length C, .slice none 0 0, .slice none 0 0, .slice none 0 0, .int .i64 u]) l) ∧ TR w' (.slice (some ⟨g, 0, none⟩) xs.length C) xs ∧ w.heap.size ≤ g ∧ Kp w.heap.size (fun i => i ≠ bS ∧ i ≠ bM) w w' := by
  have hn6 : xs.length ≤ 1000000 := by omega
  have MY := Lib.hid (May15L k hk1 hk u hu0 hu1 xs A cap hx0 hn6 (w.alloc (.cells #[.string k, .int .i64 2, .string ⟨#[]⟩, .slice A xs.length cap, .slice none 0 0, .slice none 0 0, .slice none 0 0, .int .i64 u] 45)) (hTR.ssl.below alloc_old) h1000 hsz hs)
  have CL := Lib.hid (fun X (hX : Below w.heap.size w X) => clone17L k u xs A cap hx0 hn6 X (hTR.ssl.below hX))
  have SZ := Lib.hid (fun X (hX : TR X (.slice A xs.length cap) xs) => size16L k u (by omega) xs A cap hx0 hn6 X hX.ssl (by omega))
  have HTR := Lib.hid hTR
  have HAB := Lib.hid (own_ne hTR h)
  have hlt := Lib.hid h.lt
  have hneP := Lib.hid (show bS ≠ w.heap.size from by have := h.lt; omega)
  have hl1 := hlen
  obtain ⟨⟨mem, hmem⟩, hMB, hne⟩ := h
  have hp := Lib.hid (heap_alloc_new w (.cells #[.string k, .int .i64 2, .string ⟨#[]⟩, .slice A xs.length cap, .slice none 0 0, .slice none 0 0, .slice none 0 0, .int .i64 u] 45))
  have hS1 := Lib.hid (blk_below hmem (alloc_old (o := .cells #[.string k, .int .i64 2, .string ⟨#[]⟩, .slice A xs.length cap, .slice none 0 0, .slice none 0 0, .slice none 0 0, .int .i64 u] 45)))
  have hM1 := Lib.hid (hMB.below (alloc_old (o := .cells #[.string k, .int .i64 2, .string ⟨#[]⟩, .slice A xs.length cap, .slice none 0 0, .slice none 0 0, .slice none 0 0, .int .i64 u] 45)))
  have hr : (Value.tuple #[(MapT.find k l).getD (.agg #[.string ⟨#[]⟩, .int .i64 0, .string ⟨#[]⟩, .slice none 0 0, .slice none 0 0, .slice none 0 0, .slice none 0 0, .int .i64 0]), .bool (MapT.find k l).isSome]) = .tuple #[.agg #[.string ⟨#[]⟩, .int .i64 0, .string ⟨#[]⟩, .slice none 0 0, .slice none 0 0, .slice none 0 0, .slice none 0 0, .int .i64 0], .bool false] := by rw [hf]; rfl
  have HR := Lib.hid hr
  clear hmem hMB hf hr hTR hs hsz
  go_enter Tryz.func10, Tryz.ntmps10
  go_wp2_with (first | (go_at_call 30; (with_reducible refine (MY.out).mono ?_); rintro e w1 ⟨rfl, h1⟩; have B1 := Lib.hid h1; clear h1))
  have hS2 := blk_below hS1.out B1.out
  have hp2 := blk_below hp.out B1.out
  have hM2 := hM1.out.below B1.out
  obtain ⟨⟨p0, p1, p2, p3, p4, p5, p6, p7⟩, ⟨pf0, pf1, pf2, pf3, pf4, pf5, pf6, pf7⟩, pz⟩ := cells8 hp2
  have s0 : w1.cell? ⟨bS, 0, none⟩ = some (.map (some bM)) := by simp [World.cell?, hS2]
  have hmk := (hMB_all w1 bM l k _ hM2 HR.out)
  have L1 := hmk w1.drew (Below.refl w1.heap.size w1).drew
  have L2 := hmk (w1.alloc (.cells #[.string ⟨#[]⟩, .int .i64 0, .string ⟨#[]⟩, .slice none 0 0, .slice none 0 0, .slice none 0 0, .slice none 0 0, .int .i64 0] 45)).drew (alloc_old).drew
  have sz := (Array.getElem?_eq_some_iff.1 hS2).1
  have hpz : w.heap.size < w1.heap.size := pz
  have KH := Lib.hid (show ∀ X, Below w1.heap.size w1 X → (X.cell? ⟨bS, 0, none⟩ = some (.map (some bM)) ∧ X.cell? ⟨w.heap.size, 0, none⟩ = some (.string k)) from fun X hb => ⟨(hb.cell (p := ⟨bS, 0, none⟩) sz).trans s0, (hb.cell (p := ⟨w.heap.size, 0, none⟩) hpz).trans p0⟩)
  have K0 := Lib.hid (KH.out w1.drew (Below.refl w1.heap.size w1).drew)
  have K1 := Lib.hid (KH.out (w1.alloc (.cells #[.string ⟨#[]⟩, .int .i64 0, .string ⟨#[]⟩, .slice none 0 0, .slice none 0 0, .slice none 0 0, .slice none 0 0, .int .i64 0] 45)).drew (alloc_old).drew)
  have K2 := Lib.hid (KH.out (w1.alloc (.cells #[.string ⟨#[]⟩, .int .i64 0, .string ⟨#[]⟩, .slice none 0 0, .slice none 0 0, .slice none 0 0, .slice none 0 0, .int .i64 0] 45)).drew (alloc_old).drew)
  clear hmk hM2 hS2 hp2
  go_region_held3 (fun X => X.cell? ⟨bS, 0, none⟩ = some (.map (some bM)) ∧ X.cell? ⟨w.heap.size, 0, none⟩ = some (.string k)) (first | (with_reducible exact K0.out) | (with_reducible exact K1.out) | (with_reducible exact K2.out)) (first | skip)
  all_goals (
    change Exit.then _ _ _ _ (w1.alloc (.cells #[.string ⟨#[]⟩, .int .i64 0, .string ⟨#[]⟩, .slice none 0 0, .slice none 0 0, .slice none 0 0, .slice none 0 0, .int .i64 0] 45)).drew
    have w2b := Lib.hid (show Below w1.heap.size w1 (w1.alloc (.cells #[.string ⟨#[]⟩, .int .i64 0, .string ⟨#[]⟩, .slice none 0 0, .slice none 0 0, .slice none 0 0, .slice none 0 0, .int .i64 0] 45)).drew from alloc_old.drew)
    have w2n := Lib.hid (show (w1.alloc (.cells #[.string ⟨#[]⟩, .int .i64 0, .string ⟨#[]⟩, .slice none 0 0, .slice none 0 0, .slice none 0 0, .slice none 0 0, .int .i64 0] 45)).drew.heap[w1.heap.size]? = some (.cells #[.string ⟨#[]⟩, .int .i64 0, .string ⟨#[]⟩, .slice none 0 0, .slice none 0 0, .slice none 0 0, .slice none 0 0, .int .i64 0] 45) from heap_alloc_new w1 _)
    generalize (w1.alloc (.cells #[.string ⟨#[]⟩, .int .i64 0, .string ⟨#[]⟩, .slice none 0 0, .slice none 0 0, .slice none 0 0, .slice none 0 0, .int .i64 0] 45)).drew = w2 at w2b w2n ⊢
    clear L1 L2 K0 K1 K2 KH s0
    have BW := Lib.hid (show Below w.heap.size w w2 from (alloc_old.trans (B1.out.mono (by simp))).trans (w2b.out.mono (by omega)))
    have Q2 := Lib.hid (show Kp w.heap.size (fun i => i ≠ bS ∧ i ≠ bM) w w2 from .of BW.out)
    have S2 := Lib.hid (blk_below hS1.out (B1.out.trans (w2b.out.mono (Below.size B1.out))))
    have P2 := Lib.hid (blk_below hp.out (B1.out.trans (w2b.out.mono (Below.size B1.out))))
    have M2 := Lib.hid (hM1.out.below (B1.out.trans (w2b.out.mono (Below.size B1.out))))
    have hne1 := Lib.hid (show bS ≠ w1.heap.size from by omega)
    clear hS1 hM1 hp w2b p0 p1 p2 p3 p4 p5 p6 p7 pf0 pf1 pf2 pf3 pf4 pf5 pf6 pf7
    have cM2 := cell53 S2.out
    have LN := MapT.run_len Tryz.underlying33 M2.out
    have il : ¬ (4096 : Int) ≤ (l.length : Int) := by omega
    go_wp2
    have KQ := Lib.hid (show ∀ X, Below w2.heap.size w2 X → (X.cell? ⟨bS, 0, none⟩ = some (.map (some bM)) ∧ X.cell? ⟨w.heap.size, 0, none⟩ = some (.string k) ∧ X.cell? ⟨w.heap.size, 1, none⟩ = some (.int .i64 2) ∧ X.cell? ⟨w.heap.size, 2, none⟩ = some (.string ⟨#[]⟩) ∧ X.cell? ⟨w.heap.size, 3, none⟩ = some (.slice A xs.length cap) ∧ X.cell? ⟨w.heap.size, 4, none⟩ = some (.slice none 0 0) ∧ X.cell? ⟨w.heap.size, 5, none⟩ = some (.slice none 0 0) ∧ X.cell? ⟨w.heap.size, 6, none⟩ = some (.slice none 0 0) ∧ X.cell? ⟨w.heap.size, 7, none⟩ = some (.int .i64 u)) from fun X hb => ⟨cell53 (blk_below S2.out hb), (cells8 (blk_below P2.out hb)).1⟩)
    have KU := Lib.hid (show ∀ X Y, X.grownBy Y (some bM) → Below w2.heap.size w2 X → (Y.cell? ⟨bS, 0, none⟩ = some (.map (some bM)) ∧ Y.cell? ⟨w.heap.size, 0, none⟩ = some (.string k) ∧ Y.cell? ⟨w.heap.size, 1, none⟩ = some (.int .i64 2) ∧ Y.cell? ⟨w.heap.size, 2, none⟩ = some (.string ⟨#[]⟩) ∧ Y.cell? ⟨w.heap.size, 3, none⟩ = some (.slice A xs.length cap) ∧ Y.cell? ⟨w.heap.size, 4, none⟩ = some (.slice none 0 0) ∧ Y.cell? ⟨w.heap.size, 5, none⟩ = some (.slice none 0 0) ∧ Y.cell? ⟨w.heap.size, 6, none⟩ = some (.slice none 0 0) ∧ Y.cell? ⟨w.heap.size, 7, none⟩ = some (.int .i64 u)) from fun X Y hg hb => ⟨cell53 ((grown_block hg (lt_blk (blk_below S2.out hb)) hne).trans (blk_below S2.out hb)), (cells8 ((grown_block hg (lt_blk (blk_below P2.out hb)) (by have := hlt.out; omega)).trans (blk_below P2.out hb))).1⟩)
    have Z8 := Lib.hid (CL.out w2.drew BW.out.drew)
    have K8 := Lib.hid (KQ.out w2.drew (Below.refl _ _).drew)
    go_region_held3 (fun X => X.cell? ⟨bS, 0, none⟩ = some (.map (some bM)) ∧ X.cell? ⟨w.heap.size, 0, none⟩ = some (.string k) ∧ X.cell? ⟨w.heap.size, 1, none⟩ = some (.int .i64 2) ∧ X.cell? ⟨w.heap.size, 2, none⟩ = some (.string ⟨#[]⟩) ∧ X.cell? ⟨w.heap.size, 3, none⟩ = some (.slice A xs.length cap) ∧ X.cell? ⟨w.heap.size, 4, none⟩ = some (.slice none 0 0) ∧ X.cell? ⟨w.heap.size, 5, none⟩ = some (.slice none 0 0) ∧ X.cell? ⟨w.heap.size, 6, none⟩ = some (.slice none 0 0) ∧ X.cell? ⟨w.heap.size, 7, none⟩ = some (.int .i64 u)) (first | (with_reducible exact K8.out) | (with_reducible exact KU.out _ _ (by assumption) (by assumption)) | (with_reducible exact KQ.out _ (by assumption))) (first | (go_at_call 13; (with_reducible refine (Z8.out).mono ?_); rintro e w5 ⟨g, C, rfl, hT5, hg5, h5⟩; have B5 : Below w2.heap.size w2 w5 := belT (Below.refl w2.heap.size w2).drew h5; clear h5; obtain ⟨w6, hrun, r1, r2, r3⟩ := MapT.run_update Tryz.underlying33 Tryz.underlying9 (M2.out.below B5) k (.agg #[.string k, .int .i64 2, .string ⟨#[]⟩, .slice (some ⟨g, 0, none⟩) xs.length C, .slice none 0 0, .slice none 0 0, .slice none 0 0, .int .i64 u])))
    all_goals (
      have S6 := Lib.hid ((grown_block r2 (lt_blk (blk_below S2.out B5)) hne).trans (blk_below S2.out B5))
      have P6 := Lib.hid ((grown_block r2 (lt_blk (blk_below P2.out B5)) (show w.heap.size ≠ bM by have := hlt.out; omega)).trans (blk_below P2.out B5))
      have M6 := Lib.hid r1
      have Q6 := Lib.hid ((Q2.out.trans (.of (B5.mono Q2.out.size))).grown r2 (Nat.le_trans Q2.out.size (Below.size B5)) (fun k hk _ hS => hS.2 (Option.some.inj hk).symm))
      have hgw : w.heap.size ≤ g := Nat.le_trans (Below.size BW.out) hg5
      have GW := Lib.hid hgw
      have TG6 := Lib.hid (hT5.kept (fun g' hg' => by cases hg'; exact grown_block r2 (by obtain ⟨g9, e9, l9, _⟩ := hT5.lt; cases e9; exact l9) (by have := hlt.out; show g ≠ bM; omega)))
      have T6 := Lib.hid (HTR.out.kept (fun g' hg' => Q6.out.block g' (HAB.out g' hg').1 (HAB.out g' hg').2))
      clear KQ KU Z8 K8 B5 hrun r1 r2 r3 hT5 hg5 hgw
      go_wp2
      obtain ⟨cm6, cf6⟩ := mem53 S6.out
      obtain ⟨⟨g0, g1, g2, g3, g4, g5, g6, g7⟩, _, gz⟩ := cells8 P6.out
      have Z7 := Lib.hid (SZ.out w6.drew T6.out)
      go_region_with ((go_at_call 29; (with_reducible refine (Z7.out).mono ?_); rintro e w7 ⟨rfl, h5⟩; have B7 : Below w6.heap.size w6 w7 := belT (Below.refl w6.heap.size w6).drew h5; clear h5; obtain ⟨cm7, cf7⟩ := mem53 (blk_below S6.out B7)))
      all_goals (
        change Exit.then _ _ _ _ (w7.setCell ⟨bS, 1, none⟩ (.int .i64 (IntKind.i64.wrap (mem + (48 + (k.size : Int) + 16 * (xs.length : Int) + (sumSz xs : Int))))))
        have S8 := Lib.hid (set53 (blk_below S6.out B7) (.int .i64 (IntKind.i64.wrap (mem + (48 + (k.size : Int) + 16 * (xs.length : Int) + (sumSz xs : Int))))))
        have P8 := Lib.hid ((Below.heap_setCell w7 ⟨bS, 1, none⟩ (.int .i64 (IntKind.i64.wrap (mem + (48 + (k.size : Int) + 16 * (xs.length : Int) + (sumSz xs : Int))))) w.heap.size (by have := hlt.out; show w.heap.size ≠ bS; omega)).trans (blk_below P6.out B7))
        have M8 := Lib.hid ((M6.out.below B7).kept (Below.heap_setCell w7 ⟨bS, 1, none⟩ (.int .i64 (IntKind.i64.wrap (mem + (48 + (k.size : Int) + 16 * (xs.length : Int) + (sumSz xs : Int))))) bM (Ne.symm hne)))
        have Q8 := Lib.hid (((Q6.out.trans (.of (B7.mono Q6.out.size))).setCell (p := ⟨bS, 1, none⟩) (by simp) (.int .i64 (IntKind.i64.wrap (mem + (48 + (k.size : Int) + 16 * (xs.length : Int) + (sumSz xs : Int)))))))
        have TG8 := Lib.hid ((TG6.out.below B7).kept (fun g' hg' => by cases hg'; exact Below.heap_setCell w7 ⟨bS, 1, none⟩ (.int .i64 (IntKind.i64.wrap (mem + (48 + (k.size : Int) + 16 * (xs.length : Int) + (sumSz xs : Int))))) g (by have := hlt.out; have := GW.out; show g ≠ bS; omega)))
        clear cm6 cf6 cm7 cf7 g0 g1 g2 g3 g4 g5 g6 g7 gz Z7 B7
        generalize w7.setCell ⟨bS, 1, none⟩ (.int .i64 (IntKind.i64.wrap (mem + (48 + (k.size : Int) + 16 * (xs.length : Int) + (sumSz xs : Int))))) = w8 at S8 P8 M8 Q8 TG8 ⊢
        go_wp2
        go_ret
        exact ⟨g, C, by simp, ⟨⟨_, S8.out⟩, M8.out, hne⟩, TG8.out, GW.out, Q8.out⟩)))
end Go.Proofs.YtjljljjmdlddkaaGreat
