/- Texts joined: G3b, Li2, Li3 -/
import Derived.Test.YticlacjpgjkhcaaGreatDoorQn9
import Derived.Test.YticlacjpgjkhcaaGreatDoorQn8
import Derived.Test.YticlacjpgjkhcaaGreatDoorQn6

/- The space's Put of an entry of any kind over another. -/
namespace Go.Proofs.YticlacjpgjkhcaaGreatDoor
open Go.ChangeShapes Go.WideShapes Go.ChangeAt Go.RowKit

set_option maxRecDepth 100000 in
set_option maxHeartbeats 8000000 in
theorem Put10_oldG {α : Type} (K : Kd α) (ok : ByteArray → α → Prop) (hO : KdOk K ok) (bS bM : Nat) (l : MapT.Ents) (k : ByteArray) (x : α) (A3 A4 A5 A6 : Option Addr) (an3 ac3 an4 ac4 an5 ac5 an6 ac6 : Nat) (hk : ok k x) (w : World) (h : SP w bS bM l) (k0 t0 : ByteArray) (kd0 u0 : Int) (E3 E4 E5 E6 : Option Addr) (xn3 xc3 xn4 xc4 xn5 xc5 xn6 xc6 : Nat) (hf : MapT.find k l = some (.agg #[.string k0, .int .i64 kd0, .string t0, .slice E3 xn3 xc3, .slice E4 xn4 xc4, .slice E5 xn5 xc5, .slice E6 xn6 xc6, .int .i64 u0])) (m0 : Int) (hsz : ∀ X, Below w.heap.size w X → Calls Tryz.prog 50 #[.agg #[.string k0, .int .i64 kd0, .string t0, .slice E3 xn3 xc3, .slice E4 xn4 xc4, .slice E5 xn5 xc5, .slice E6 xn6 xc6, .int .i64 u0]] X fun e w' => e = .returned (.int .i64 m0) ∧ Below X.heap.size X w') (hV : K.V w x (.slice A3 an3 ac3) (.slice A4 an4 ac4) (.slice A5 an5 ac5) (.slice A6 an6 ac6)) : Calls Tryz.prog 29 #[.pointer (some ⟨bS, 0, none⟩), .agg #[.string k, .int .i64 K.kd, .string ⟨#[]⟩, .slice A3 an3 ac3, .slice A4 an4 ac4, .slice A5 an5 ac5, .slice A6 an6 ac6, .int .i64 0]] w fun e w' => ∃ (Y3 Y4 Y5 Y6 : Option Addr) (yn3 yc3 yn4 yc4 yn5 yc5 yn6 yc6 : Nat), e = .returned (.int .i64 0) ∧ SP w' bS bM (MapT.put k (.agg #[.string k, .int .i64 K.kd, .string ⟨#[]⟩, .slice Y3 yn3 yc3, .slice Y4 yn4 yc4, .slice Y5 yn5 yc5, .slice Y6 yn6 yc6, .int .i64 0]) l) ∧ K.V w' x (.slice Y3 yn3 yc3) (.slice Y4 yn4 yc4) (.slice Y5 yn5 yc5) (.slice Y6 yn6 yc6) ∧ (∀ g, Own (.slice Y3 yn3 yc3) (.slice Y4 yn4 yc4) (.slice Y5 yn5 yc5) (.slice Y6 yn6 yc6) g → w.heap.size ≤ g) ∧ Kp w.heap.size (fun i => i ≠ bS ∧ i ≠ bM) w w' := by
  have MY := hO.may k x A3 A4 A5 A6 an3 ac3 an4 ac4 an5 ac5 an6 ac6 (w.alloc (.cells #[.string k, .int .i64 K.kd, .string ⟨#[]⟩, .slice A3 an3 ac3, .slice A4 an4 ac4, .slice A5 an5 ac5, .slice A6 an6 ac6, .int .i64 0] 66)) hk (K.below hV alloc_old)
  have CL := fun X (hX : K.V X x (.slice A3 an3 ac3) (.slice A4 an4 ac4) (.slice A5 an5 ac5) (.slice A6 an6 ac6)) => hO.clone k x A3 A4 A5 A6 an3 ac3 an4 ac4 an5 ac5 an6 ac6 X hk hX
  have SZ := fun X (hX : K.V X x (.slice A3 an3 ac3) (.slice A4 an4 ac4) (.slice A5 an5 ac5) (.slice A6 an6 ac6)) => hO.size k x A3 A4 A5 A6 an3 ac3 an4 ac4 an5 ac5 an6 ac6 X hk hX
  obtain ⟨kd, hkd⟩ : ∃ kd, K.kd = kd := ⟨_, rfl⟩
  obtain ⟨mz, hmz⟩ : ∃ mz, hO.sz k x = mz := ⟨_, rfl⟩
  simp only [hkd, hmz] at MY CL SZ ⊢
  have MY := Lib.hid MY
  have CL := Lib.hid CL
  have SZ := Lib.hid SZ
  have HTR := Lib.hid hV
  have HAB := Lib.hid (K.own_ne hV h)
  have hlt := Lib.hid h.lt
  have hneP := Lib.hid (show bS ≠ w.heap.size from by have := h.lt; omega)
  obtain ⟨⟨mem, hmem⟩, hMB, hne⟩ := h
  have hp := Lib.hid (heap_alloc_new w (.cells #[.string k, .int .i64 kd, .string ⟨#[]⟩, .slice A3 an3 ac3, .slice A4 an4 ac4, .slice A5 an5 ac5, .slice A6 an6 ac6, .int .i64 0] 66))
  have hS1 := Lib.hid (blk_below hmem (alloc_old (o := .cells #[.string k, .int .i64 kd, .string ⟨#[]⟩, .slice A3 an3 ac3, .slice A4 an4 ac4, .slice A5 an5 ac5, .slice A6 an6 ac6, .int .i64 0] 66)))
  have hM1 := Lib.hid (hMB.below (alloc_old (o := .cells #[.string k, .int .i64 kd, .string ⟨#[]⟩, .slice A3 an3 ac3, .slice A4 an4 ac4, .slice A5 an5 ac5, .slice A6 an6 ac6, .int .i64 0] 66)))
  have hr : (Value.tuple #[(MapT.find k l).getD (.agg #[.string ⟨#[]⟩, .int .i64 0, .string ⟨#[]⟩, .slice none 0 0, .slice none 0 0, .slice none 0 0, .slice none 0 0, .int .i64 0]), .bool (MapT.find k l).isSome]) = .tuple #[.agg #[.string k0, .int .i64 kd0, .string t0, .slice E3 xn3 xc3, .slice E4 xn4 xc4, .slice E5 xn5 xc5, .slice E6 xn6 xc6, .int .i64 u0], .bool true] := by rw [hf]; rfl
  have HR := Lib.hid hr
  clear hmem hMB hf hr hV hk hkd hmz
  go_enter Tryz.func29, Tryz.ntmps29
  go_wp2_with (first | (go_at_call 51; (with_reducible refine (MY.out).mono ?_); rintro e w1 ⟨rfl, h1⟩; have B1 := Lib.hid h1; clear h1))
  have hS2 := blk_below hS1.out B1.out
  have hp2 := blk_below hp.out B1.out
  have hM2 := hM1.out.below B1.out
  obtain ⟨⟨p0, p1, p2, p3, p4, p5, p6, p7⟩, ⟨pf0, pf1, pf2, pf3, pf4, pf5, pf6, pf7⟩, pz⟩ := cells8 hp2
  have s0 : w1.cell? ⟨bS, 0, none⟩ = some (.map (some bM)) := by simp [World.cell?, hS2]
  have hmk := (hMB_all w1 bM l k _ hM2 HR.out)
  have L1 := hmk w1.drew (Below.refl w1.heap.size w1).drew
  have L2 := hmk (w1.alloc (.cells #[.string ⟨#[]⟩, .int .i64 0, .string ⟨#[]⟩, .slice none 0 0, .slice none 0 0, .slice none 0 0, .slice none 0 0, .int .i64 0] 66)).drew (alloc_old).drew
  have sz := (Array.getElem?_eq_some_iff.1 hS2).1
  have hpz : w.heap.size < w1.heap.size := pz
  have KH := Lib.hid (show ∀ X, Below w1.heap.size w1 X → (X.cell? ⟨bS, 0, none⟩ = some (.map (some bM)) ∧ X.cell? ⟨w.heap.size, 0, none⟩ = some (.string k)) from fun X hb => ⟨(hb.cell (p := ⟨bS, 0, none⟩) sz).trans s0, (hb.cell (p := ⟨w.heap.size, 0, none⟩) hpz).trans p0⟩)
  have K0 := Lib.hid (KH.out w1.drew (Below.refl w1.heap.size w1).drew)
  have K1 := Lib.hid (KH.out (w1.alloc (.cells #[.string ⟨#[]⟩, .int .i64 0, .string ⟨#[]⟩, .slice none 0 0, .slice none 0 0, .slice none 0 0, .slice none 0 0, .int .i64 0] 66)).drew (alloc_old).drew)
  have K2 := Lib.hid (KH.out (w1.alloc (.cells #[.string k0, .int .i64 kd0, .string t0, .slice E3 xn3 xc3, .slice E4 xn4 xc4, .slice E5 xn5 xc5, .slice E6 xn6 xc6, .int .i64 u0] 66)).drew (alloc_old).drew)
  clear hmk hM2 hS2 hp2
  go_region_held3 (fun X => X.cell? ⟨bS, 0, none⟩ = some (.map (some bM)) ∧ X.cell? ⟨w.heap.size, 0, none⟩ = some (.string k)) (first | (with_reducible exact K0.out) | (with_reducible exact K1.out) | (with_reducible exact K2.out)) (first | skip)
  all_goals (
    change Exit.then _ _ _ _ (w1.alloc (.cells #[.string k0, .int .i64 kd0, .string t0, .slice E3 xn3 xc3, .slice E4 xn4 xc4, .slice E5 xn5 xc5, .slice E6 xn6 xc6, .int .i64 u0] 66)).drew
    have w2b := Lib.hid (show Below w1.heap.size w1 (w1.alloc (.cells #[.string k0, .int .i64 kd0, .string t0, .slice E3 xn3 xc3, .slice E4 xn4 xc4, .slice E5 xn5 xc5, .slice E6 xn6 xc6, .int .i64 u0] 66)).drew from alloc_old.drew)
    have w2n := Lib.hid (show (w1.alloc (.cells #[.string k0, .int .i64 kd0, .string t0, .slice E3 xn3 xc3, .slice E4 xn4 xc4, .slice E5 xn5 xc5, .slice E6 xn6 xc6, .int .i64 u0] 66)).drew.heap[w1.heap.size]? = some (.cells #[.string k0, .int .i64 kd0, .string t0, .slice E3 xn3 xc3, .slice E4 xn4 xc4, .slice E5 xn5 xc5, .slice E6 xn6 xc6, .int .i64 u0] 66) from heap_alloc_new w1 _)
    generalize (w1.alloc (.cells #[.string k0, .int .i64 kd0, .string t0, .slice E3 xn3 xc3, .slice E4 xn4 xc4, .slice E5 xn5 xc5, .slice E6 xn6 xc6, .int .i64 u0] 66)).drew = w2 at w2b w2n ⊢
    clear L1 L2 K0 K1 K2 KH s0
    have BW := Lib.hid (show Below w.heap.size w w2 from (alloc_old.trans (B1.out.mono (by simp))).trans (w2b.out.mono (by omega)))
    have Q2 := Lib.hid (show Kp w.heap.size (fun i => i ≠ bS ∧ i ≠ bM) w w2 from .of BW.out)
    have S2 := Lib.hid (blk_below hS1.out (B1.out.trans (w2b.out.mono (Below.size B1.out))))
    have P2 := Lib.hid (blk_below hp.out (B1.out.trans (w2b.out.mono (Below.size B1.out))))
    have M2 := Lib.hid (hM1.out.below (B1.out.trans (w2b.out.mono (Below.size B1.out))))
    have hne1 := Lib.hid (show bS ≠ w1.heap.size from by omega)
    clear hS1 hM1 hp w2b p0 p1 p2 p3 p4 p5 p6 p7 pf0 pf1 pf2 pf3 pf4 pf5 pf6 pf7

    go_wp2
    obtain ⟨cm2, cf2⟩ := mem53 S2.out
    obtain ⟨⟨g0, g1, g2, g3, g4, g5, g6, g7⟩, _, gz⟩ := cells8 w2n.out
    have Z7 := Lib.hid (hsz w2.drew BW.out.drew)
    go_region_with ((go_at_call 50; (with_reducible refine (Z7.out).mono ?_); rintro e w3 ⟨rfl, h5⟩; have B3 : Below w2.heap.size w2 w3 := belT (Below.refl w2.heap.size w2).drew h5; clear h5; obtain ⟨cm3, cf3⟩ := mem53 (blk_below S2.out B3)))
    all_goals (
      change Exit.then _ _ _ _ (w3.setCell ⟨bS, 1, none⟩ (.int .i64 (IntKind.i64.wrap (mem - m0))))
      have S4 := Lib.hid (set53 (blk_below S2.out B3) (.int .i64 (IntKind.i64.wrap (mem - m0))))
      have P4 := Lib.hid ((Below.heap_setCell w3 ⟨bS, 1, none⟩ (.int .i64 (IntKind.i64.wrap (mem - m0))) w.heap.size (by have := hlt.out; show w.heap.size ≠ bS; omega)).trans (blk_below P2.out B3))
      have M4 := Lib.hid ((M2.out.below B3).kept (Below.heap_setCell w3 ⟨bS, 1, none⟩ (.int .i64 (IntKind.i64.wrap (mem - m0))) bM (Ne.symm hne)))
      have Q4 := Lib.hid (((Q2.out.trans (.of (B3.mono Q2.out.size))).setCell (p := ⟨bS, 1, none⟩) (by simp) (.int .i64 (IntKind.i64.wrap (mem - m0)))))
      clear cm2 cf2 cm3 cf3 g0 g1 g2 g3 g4 g5 g6 g7 gz Z7 B3
      generalize w3.setCell ⟨bS, 1, none⟩ (.int .i64 (IntKind.i64.wrap (mem - m0))) = w4 at S4 P4 M4 Q4 ⊢
      go_wp2
      have KQ := Lib.hid (show ∀ X, Below w4.heap.size w4 X → (X.cell? ⟨bS, 0, none⟩ = some (.map (some bM)) ∧ X.cell? ⟨w.heap.size, 0, none⟩ = some (.string k) ∧ X.cell? ⟨w.heap.size, 1, none⟩ = some (.int .i64 kd) ∧ X.cell? ⟨w.heap.size, 2, none⟩ = some (.string ⟨#[]⟩) ∧ X.cell? ⟨w.heap.size, 3, none⟩ = some (.slice A3 an3 ac3) ∧ X.cell? ⟨w.heap.size, 4, none⟩ = some (.slice A4 an4 ac4) ∧ X.cell? ⟨w.heap.size, 5, none⟩ = some (.slice A5 an5 ac5) ∧ X.cell? ⟨w.heap.size, 6, none⟩ = some (.slice A6 an6 ac6) ∧ X.cell? ⟨w.heap.size, 7, none⟩ = some (.int .i64 0)) from fun X hb => ⟨cell53 (blk_below S4.out hb), (cells8 (blk_below P4.out hb)).1⟩)
      have KU := Lib.hid (show ∀ X Y, X.grownBy Y (some bM) → Below w4.heap.size w4 X → (Y.cell? ⟨bS, 0, none⟩ = some (.map (some bM)) ∧ Y.cell? ⟨w.heap.size, 0, none⟩ = some (.string k) ∧ Y.cell? ⟨w.heap.size, 1, none⟩ = some (.int .i64 kd) ∧ Y.cell? ⟨w.heap.size, 2, none⟩ = some (.string ⟨#[]⟩) ∧ Y.cell? ⟨w.heap.size, 3, none⟩ = some (.slice A3 an3 ac3) ∧ Y.cell? ⟨w.heap.size, 4, none⟩ = some (.slice A4 an4 ac4) ∧ Y.cell? ⟨w.heap.size, 5, none⟩ = some (.slice A5 an5 ac5) ∧ Y.cell? ⟨w.heap.size, 6, none⟩ = some (.slice A6 an6 ac6) ∧ Y.cell? ⟨w.heap.size, 7, none⟩ = some (.int .i64 0)) from fun X Y hg hb => ⟨cell53 ((grown_block hg (lt_blk (blk_below S4.out hb)) hne).trans (blk_below S4.out hb)), (cells8 ((grown_block hg (lt_blk (blk_below P4.out hb)) (by have := hlt.out; omega)).trans (blk_below P4.out hb))).1⟩)
      have Z8 := Lib.hid (CL.out w4.drew (K.kept HTR.out (fun g' hg' => Q4.out.block g' (HAB.out g' hg').1 (HAB.out g' hg').2)))
      have K8 := Lib.hid (KQ.out w4.drew (Below.refl _ _).drew)
      go_region_held3 (fun X => X.cell? ⟨bS, 0, none⟩ = some (.map (some bM)) ∧ X.cell? ⟨w.heap.size, 0, none⟩ = some (.string k) ∧ X.cell? ⟨w.heap.size, 1, none⟩ = some (.int .i64 kd) ∧ X.cell? ⟨w.heap.size, 2, none⟩ = some (.string ⟨#[]⟩) ∧ X.cell? ⟨w.heap.size, 3, none⟩ = some (.slice A3 an3 ac3) ∧ X.cell? ⟨w.heap.size, 4, none⟩ = some (.slice A4 an4 ac4) ∧ X.cell? ⟨w.heap.size, 5, none⟩ = some (.slice A5 an5 ac5) ∧ X.cell? ⟨w.heap.size, 6, none⟩ = some (.slice A6 an6 ac6) ∧ X.cell? ⟨w.heap.size, 7, none⟩ = some (.int .i64 0)) (first | (with_reducible exact K8.out) | (with_reducible exact KU.out _ _ (by assumption) (by assumption)) | (with_reducible exact KQ.out _ (by assumption))) (first | (go_at_call 34; (with_reducible refine (Z8.out).mono ?_); rintro e w5 ⟨Y3, Y4, Y5, Y6, yn3, yc3, yn4, yc4, yn5, yc5, yn6, yc6, rfl, hT5, hg5, h5⟩; have B5 : Below w4.heap.size w4 w5 := belT (Below.refl w4.heap.size w4).drew h5; clear h5; obtain ⟨w6, hrun, r1, r2, r3⟩ := MapT.run_update Tryz.underlying55 Tryz.underlying9 (M4.out.below B5) k (.agg #[.string k, .int .i64 kd, .string ⟨#[]⟩, .slice Y3 yn3 yc3, .slice Y4 yn4 yc4, .slice Y5 yn5 yc5, .slice Y6 yn6 yc6, .int .i64 0])))
      all_goals (
        have S6 := Lib.hid ((grown_block r2 (lt_blk (blk_below S4.out B5)) hne).trans (blk_below S4.out B5))
        have P6 := Lib.hid ((grown_block r2 (lt_blk (blk_below P4.out B5)) (show w.heap.size ≠ bM by have := hlt.out; omega)).trans (blk_below P4.out B5))
        have M6 := Lib.hid r1
        have Q6 := Lib.hid ((Q4.out.trans (.of (B5.mono Q4.out.size))).grown r2 (Nat.le_trans Q4.out.size (Below.size B5)) (fun k hk _ hS => hS.2 (Option.some.inj hk).symm))
        have hgw : ∀ g, Own (.slice Y3 yn3 yc3) (.slice Y4 yn4 yc4) (.slice Y5 yn5 yc5) (.slice Y6 yn6 yc6) g → w.heap.size ≤ g := fun g hg => Nat.le_trans Q4.out.size (hg5 g hg)
        have GW := Lib.hid hgw
        have TG6 := Lib.hid (K.kept hT5 (fun g' hg' => grown_block r2 (K.lt hT5 hg') (by have := hlt.out; have := hgw g' hg'; omega)))
        have T6 := Lib.hid (K.kept HTR.out (fun g' hg' => Q6.out.block g' (HAB.out g' hg').1 (HAB.out g' hg').2))
        clear KQ KU Z8 K8 B5 hrun r1 r2 r3 hT5 hg5 hgw
        go_wp2
        obtain ⟨cm6, cf6⟩ := mem53 S6.out
        obtain ⟨⟨g0, g1, g2, g3, g4, g5, g6, g7⟩, _, gz⟩ := cells8 P6.out
        have Z7 := Lib.hid (SZ.out w6.drew (K.kept T6.out (fun _ _ => rfl)))
        go_region_with ((go_at_call 50; (with_reducible refine (Z7.out).mono ?_); rintro e w7 ⟨rfl, h5⟩; have B7 : Below w6.heap.size w6 w7 := belT (Below.refl w6.heap.size w6).drew h5; clear h5; obtain ⟨cm7, cf7⟩ := mem53 (blk_below S6.out B7)))
        all_goals (
          change Exit.then _ _ _ _ (w7.setCell ⟨bS, 1, none⟩ (.int .i64 (IntKind.i64.wrap ((IntKind.i64.wrap (mem - m0)) + mz))))
          have S8 := Lib.hid (set53 (blk_below S6.out B7) (.int .i64 (IntKind.i64.wrap ((IntKind.i64.wrap (mem - m0)) + mz))))
          have P8 := Lib.hid ((Below.heap_setCell w7 ⟨bS, 1, none⟩ (.int .i64 (IntKind.i64.wrap ((IntKind.i64.wrap (mem - m0)) + mz))) w.heap.size (by have := hlt.out; show w.heap.size ≠ bS; omega)).trans (blk_below P6.out B7))
          have M8 := Lib.hid ((M6.out.below B7).kept (Below.heap_setCell w7 ⟨bS, 1, none⟩ (.int .i64 (IntKind.i64.wrap ((IntKind.i64.wrap (mem - m0)) + mz))) bM (Ne.symm hne)))
          have Q8 := Lib.hid (((Q6.out.trans (.of (B7.mono Q6.out.size))).setCell (p := ⟨bS, 1, none⟩) (by simp) (.int .i64 (IntKind.i64.wrap ((IntKind.i64.wrap (mem - m0)) + mz)))))
          have TG8 := Lib.hid (K.kept (K.below TG6.out B7) (fun g' hg' => Below.heap_setCell w7 ⟨bS, 1, none⟩ (.int .i64 (IntKind.i64.wrap ((IntKind.i64.wrap (mem - m0)) + mz))) g' (by have := hlt.out; have := GW.out g' hg'; show g' ≠ bS; omega)))
          clear cm6 cf6 cm7 cf7 g0 g1 g2 g3 g4 g5 g6 g7 gz Z7 B7
          generalize w7.setCell ⟨bS, 1, none⟩ (.int .i64 (IntKind.i64.wrap ((IntKind.i64.wrap (mem - m0)) + mz))) = w8 at S8 P8 M8 Q8 TG8 ⊢
          go_wp2
          go_ret
          exact ⟨Y3, Y4, Y5, Y6, yn3, yc3, yn4, yc4, yn5, yc5, yn6, yc6, by simp, ⟨⟨_, S8.out⟩, M8.out, hne⟩, TG8.out, GW.out, Q8.out⟩))))
end Go.Proofs.YticlacjpgjkhcaaGreatDoor

/- Values that are lists: count, length, texts, size, which may be. -/
namespace Go.Proofs.YticlacjpgjkhcaaGreatDoor
open Go.ChangeShapes Go.WideShapes Go.ChangeAt Go.RowKit

def iOfL : Value → Int | .int _ n => n | _ => 0
def sumSz (xs : List ByteArray) : Nat := (xs.map ByteArray.size).sum
theorem sumSz_take {xs : List ByteArray} {k : Nat} {s : ByteArray} (h : xs[k]? = some s) : sumSz (xs.take (k + 1)) = sumSz (xs.take k) + s.size := by
  unfold sumSz
  rw [List.take_add_one, h]
  simp
theorem sumSz_le (xs : List ByteArray) (k : Nat) : sumSz (xs.take k) ≤ sumSz xs := by
  unfold sumSz
  conv => rhs; rw [← List.take_append_drop k xs, List.map_append, List.sum_append]
  omega
set_option maxRecDepth 100000 in
set_option maxHeartbeats 4000000 in
theorem count46L (xs : List ByteArray) (A : Option Addr) (cap : Nat) (w : World) : Calls Tryz.prog 167 #[.agg #[.int .i64 2, .string ⟨#[]⟩, .slice A xs.length cap, .slice none 0 0, .slice none 0 0, .slice none 0 0]] w fun e w' => e = .returned (.agg #[.int .i64 (xs.length : Int), .int .i64 0, .int .i64 0, .int .i64 0]) ∧ Below w.heap.size w w' := by
  go_enter Tryz.func167, Tryz.ntmps167
  go_wp2
  exact bodyPost_ret (v := .agg #[.int .i64 (xs.length : Int), .int .i64 0, .int .i64 0, .int .i64 0]) (by simp [results, Tryz.results167, go_sem]) rfl ⟨rfl, ((Below.refl _ _).alloc (Nat.le_refl _) _).alloc (by simp) _⟩
set_option maxRecDepth 100000 in
set_option maxHeartbeats 4000000 in
theorem Len56L (xs : List ByteArray) (A : Option Addr) (cap : Nat) (w : World) : Calls Tryz.prog 165 #[.agg #[.int .i64 2, .string ⟨#[]⟩, .slice A xs.length cap, .slice none 0 0, .slice none 0 0, .slice none 0 0]] w fun e w' => e = .returned (.int .i64 (xs.length : Int)) ∧ Below w.heap.size w w' := by
  go_enter Tryz.func165, Tryz.ntmps165
  go_wp2
  go_ret
  exact ⟨by simp, alloc_old⟩
set_option maxRecDepth 100000 in
set_option maxHeartbeats 4000000 in
theorem rise49 (f : Value) (w : World) : Calls Tryz.prog 168 #[.slice none 0 0, f] w fun e w' => e = .returned (.bool true) ∧ Below w.heap.size w w' := by
  go_enter Tryz.func168, Tryz.ntmps168
  go_wp2
  go_loopw [5] (fun i wr => i = .int .i64 1 ∧ wr = w) (fun _ _ => 0)
  case atStart => exact ⟨rfl, rfl⟩
  case round =>
    obtain ⟨rfl, rfl⟩ := hrel
    go_wp2
    go_ret
    exact ⟨by simp, Below.refl _ _⟩
set_option maxRecDepth 100000 in
set_option maxHeartbeats 4000000 in
theorem rise51 (f : Value) (w : World) : Calls Tryz.prog 170 #[.slice none 0 0, f] w fun e w' => e = .returned (.bool true) ∧ Below w.heap.size w w' := by
  go_enter Tryz.func170, Tryz.ntmps170
  go_wp2
  go_loopw [5] (fun i wr => i = .int .i64 1 ∧ wr = w) (fun _ _ => 0)
  case atStart => exact ⟨rfl, rfl⟩
  case round =>
    obtain ⟨rfl, rfl⟩ := hrel
    go_wp2
    go_ret
    exact ⟨by simp, Below.refl _ _⟩
set_option maxRecDepth 100000 in
set_option maxHeartbeats 4000000 in
theorem rise53 (f : Value) (w : World) : Calls Tryz.prog 172 #[.slice none 0 0, f] w fun e w' => e = .returned (.bool true) ∧ Below w.heap.size w w' := by
  go_enter Tryz.func172, Tryz.ntmps172
  go_wp2
  go_loopw [5] (fun i wr => i = .int .i64 1 ∧ wr = w) (fun _ _ => 0)
  case atStart => exact ⟨rfl, rfl⟩
  case round =>
    obtain ⟨rfl, rfl⟩ := hrel
    go_wp2
    go_ret
    exact ⟨by simp, Below.refl _ _⟩
set_option maxRecDepth 100000 in
set_option maxHeartbeats 4000000 in
theorem once55 (w : World) : Calls Tryz.prog 174 #[.slice none 0 0] w fun e w' => e = .returned (.bool true) ∧ Below w.heap.size w w' := by
  have hmm := @run_makeMap Tryz.prog
  go_enter Tryz.func174, Tryz.ntmps174
  go_wp2
  go_loopw [9] (fun i wr => i = .int .i64 0 ∧ wr = w.alloc (.map #[] 0)) (fun _ _ => 0)
  case atStart => exact ⟨rfl, rfl⟩
  case round =>
    obtain ⟨rfl, rfl⟩ := hrel
    go_wp2
    go_ret
    exact ⟨by simp, alloc_old⟩
set_option maxRecDepth 100000 in
set_option maxHeartbeats 4000000 in
theorem texts47L (xs : List ByteArray) (A : Option Addr) (cap : Nat) (hne : xs ≠ []) (hn : xs.length ≤ 1000000) (w : World) (h : SSl w (.slice A xs.length cap) xs) : Calls Tryz.prog 166 #[.agg #[.int .i64 2, .string ⟨#[]⟩, .slice A xs.length cap, .slice none 0 0, .slice none 0 0, .slice none 0 0]] w fun e w' => ∃ v', e = .returned v' ∧ TR w' v' xs ∧ Below w.heap.size w w' := by
  have C := Lib.hid (Clone57L _ xs hne hn (w.alloc (.cells #[.int .i64 2, .string ⟨#[]⟩, .slice A xs.length cap, .slice none 0 0, .slice none 0 0, .slice none 0 0] 64)) (h.below alloc_old))
  have hb := Lib.hid (heap_alloc_new w (.cells #[.int .i64 2, .string ⟨#[]⟩, .slice A xs.length cap, .slice none 0 0, .slice none 0 0, .slice none 0 0] 64))
  have hn0 := Lib.hid (alloc_old (w := w) (o := .cells #[.int .i64 2, .string ⟨#[]⟩, .slice A xs.length cap, .slice none 0 0, .slice none 0 0, .slice none 0 0] 64))
  clear h
  go_enter Tryz.func166, Tryz.ntmps166
  go_wp2_with (first | (go_at_call 145; (with_reducible refine (C.out).mono ?_); rintro e w2 ⟨v2, rfl, hT, hg, hb2⟩; have HT := Lib.hid hT; have HG := Lib.hid hg; have B2 := Lib.hid (hn0.out.trans (hb2.mono (by simp))); have R2 := Lib.hid (blk_below hb.out hb2); clear hT hg hb2; obtain ⟨⟨c0, c1, c2, c3, c4, c5⟩, _⟩ := cells6 R2.out))
  go_loopw [3, 16] (fun t i wr => v2 = t ∧ i = .int .i64 0 ∧ w2 = wr) (fun _ _ _ => 0)
  case atStart => exact ⟨rfl, rfl, rfl⟩
  case round =>
  obtain ⟨rfl, rfl, rfl⟩ := hrel
  go_wp2
  go_loopw [3, 31] (fun t i wr => v2 = t ∧ i = .int .i64 0 ∧ w2 = wr) (fun _ _ _ => 0)
  case atStart => exact ⟨rfl, rfl, rfl⟩
  case round =>
  obtain ⟨rfl, rfl, rfl⟩ := hrel
  go_wp2
  go_loopw [3, 44] (fun t i wr => v2 = t ∧ i = .int .i64 0 ∧ w2 = wr) (fun _ _ _ => 0)
  case atStart => exact ⟨rfl, rfl, rfl⟩
  case round =>
  obtain ⟨rfl, rfl, rfl⟩ := hrel
  go_wp2
  go_ret
  exact ⟨v2, rfl, HT.out, B2.out⟩
set_option maxRecDepth 100000 in
set_option maxHeartbeats 4000000 in
theorem texts47O (xs : List ByteArray) (A : Option Addr) (cap : Nat) (hne : xs ≠ []) (hn : xs.length ≤ 1000000) (w : World) (h : SSl w (.slice A xs.length cap) xs) : Calls Tryz.prog 166 #[.agg #[.int .i64 0, .string ⟨#[]⟩, .slice A xs.length cap, .slice none 0 0, .slice none 0 0, .slice none 0 0]] w fun e w' => ∃ v', e = .returned v' ∧ TR w' v' xs ∧ Below w.heap.size w w' := by
  have C := Lib.hid (Clone57L _ xs hne hn (w.alloc (.cells #[.int .i64 0, .string ⟨#[]⟩, .slice A xs.length cap, .slice none 0 0, .slice none 0 0, .slice none 0 0] 64)) (h.below alloc_old))
  have hb := Lib.hid (heap_alloc_new w (.cells #[.int .i64 0, .string ⟨#[]⟩, .slice A xs.length cap, .slice none 0 0, .slice none 0 0, .slice none 0 0] 64))
  have hn0 := Lib.hid (alloc_old (w := w) (o := .cells #[.int .i64 0, .string ⟨#[]⟩, .slice A xs.length cap, .slice none 0 0, .slice none 0 0, .slice none 0 0] 64))
  clear h
  go_enter Tryz.func166, Tryz.ntmps166
  go_wp2_with (first | (go_at_call 145; (with_reducible refine (C.out).mono ?_); rintro e w2 ⟨v2, rfl, hT, hg, hb2⟩; have HT := Lib.hid hT; have HG := Lib.hid hg; have B2 := Lib.hid (hn0.out.trans (hb2.mono (by simp))); have R2 := Lib.hid (blk_below hb.out hb2); clear hT hg hb2; obtain ⟨⟨c0, c1, c2, c3, c4, c5⟩, _⟩ := cells6 R2.out))
  go_loopw [3, 16] (fun t i wr => v2 = t ∧ i = .int .i64 0 ∧ w2 = wr) (fun _ _ _ => 0)
  case atStart => exact ⟨rfl, rfl, rfl⟩
  case round =>
  obtain ⟨rfl, rfl, rfl⟩ := hrel
  go_wp2
  go_loopw [3, 31] (fun t i wr => v2 = t ∧ i = .int .i64 0 ∧ w2 = wr) (fun _ _ _ => 0)
  case atStart => exact ⟨rfl, rfl, rfl⟩
  case round =>
  obtain ⟨rfl, rfl, rfl⟩ := hrel
  go_wp2
  go_loopw [3, 44] (fun t i wr => v2 = t ∧ i = .int .i64 0 ∧ w2 = wr) (fun _ _ _ => 0)
  case atStart => exact ⟨rfl, rfl, rfl⟩
  case round =>
  obtain ⟨rfl, rfl, rfl⟩ := hrel
  go_wp2
  go_ret
  exact ⟨v2, rfl, HT.out, B2.out⟩
theorem sz_q1 (n : Nat) (h : n ≤ 1000000) : IntKind.i64.wrap (16 * (n : Int)) = 16 * (n : Int) := IntWalk.i64_in _ (by omega)
theorem sz_q2 (n : Nat) (h : n ≤ 1000000) : IntKind.i64.wrap (16 + 16 * (n : Int)) = 16 + 16 * (n : Int) := IntWalk.i64_in _ (by omega)
theorem sz_q3 (n a b : Nat) (h : n ≤ 1000000) (hab : a + b ≤ 1000000000) : IntKind.i64.wrap (16 + 16 * (n : Int) + (a : Int) + (b : Int)) = 16 + 16 * (n : Int) + ((a + b : Nat) : Int) := (IntWalk.i64_in _ (by omega)).trans (by omega)
theorem some_at {α : Type} {l : List α} {k : Nat} (h : k < l.length) : ∃ x, l[k]? = some x := ⟨_, List.getElem?_eq_getElem h⟩
set_option maxRecDepth 100000 in
set_option maxHeartbeats 4000000 in
theorem Size24L (xs : List ByteArray) (A : Option Addr) (cap : Nat) (hne : xs ≠ []) (hn : xs.length ≤ 1000000) (w : World) (h : SSl w (.slice A xs.length cap) xs) (hs : sumSz xs ≤ 1000000000) : Calls Tryz.prog 113 #[.agg #[.int .i64 2, .string ⟨#[]⟩, .slice A xs.length cap, .slice none 0 0, .slice none 0 0, .slice none 0 0]] w fun e w' => e = .returned (.int .i64 (16 + 16 * (xs.length : Int) + (sumSz xs : Int))) ∧ Below w.heap.size w w' := by
  obtain ⟨W, hW⟩ : ∃ W, (w.alloc (.cells #[.int .i64 2, .string ⟨#[]⟩, .slice A xs.length cap, .slice none 0 0, .slice none 0 0, .slice none 0 0] 64)).alloc (.cells #[.int .i64 0, .string ⟨#[]⟩, .slice A xs.length cap, .slice none 0 0, .slice none 0 0, .slice none 0 0] 64) = W := ⟨_, rfl⟩
  have hb0 : W.heap[w.heap.size]? = some (.cells #[.int .i64 2, .string ⟨#[]⟩, .slice A xs.length cap, .slice none 0 0, .slice none 0 0, .slice none 0 0] 64) := by rw [← hW]; exact blk_below (heap_alloc_new w _) alloc_old
  have hb1 : W.heap[w.heap.size + 1]? = some (.cells #[.int .i64 0, .string ⟨#[]⟩, .slice A xs.length cap, .slice none 0 0, .slice none 0 0, .slice none 0 0] 64) := by rw [← hW]; have := heap_alloc_new (w.alloc (.cells #[.int .i64 2, .string ⟨#[]⟩, .slice A xs.length cap, .slice none 0 0, .slice none 0 0, .slice none 0 0] 64)) (.cells #[.int .i64 0, .string ⟨#[]⟩, .slice A xs.length cap, .slice none 0 0, .slice none 0 0, .slice none 0 0] 64); rw [World.size_alloc] at this; exact this
  have hB : Below w.heap.size w W := by rw [← hW]; exact alloc_old.trans (alloc_old.mono (by simp))
  have LN := Lib.hid (Len56L xs A cap W)
  have TX := Lib.hid (fun X (hX : Below w.heap.size w X) => texts47O xs A cap hne hn X (h.below hX))
  have B0 := Lib.hid hB
  have H0 := Lib.hid hb0
  have H1 := Lib.hid hb1
  have q1 := sz_q1 xs.length hn
  have q2 := sz_q2 xs.length hn
  obtain ⟨⟨c0, c1, c2, c3, c4, c5⟩, _⟩ := cells6 hb0
  obtain ⟨⟨d0, d1, d2, d3, d4, d5⟩, _⟩ := cells6 hb1
  clear h hb0 hb1 hB
  go_enter Tryz.func113, Tryz.ntmps113
  go_wp2_with (first | (go_at_call 165; (with_reducible refine (LN.out).mono ?_); rintro e w2 ⟨rfl, hb2⟩; have B2 := Lib.hid (B0.out.trans (hb2.mono (Below.size B0.out))); have R1 := Lib.hid (blk_below H1.out hb2); clear hb2; obtain ⟨⟨e0, e1, e2, e3, e4, e5⟩, _⟩ := cells6 R1.out; have T2 := Lib.hid (TX.out w2 B2.out)) | (go_at_call 166; (with_reducible refine (T2.out).mono ?_); rintro e w3 ⟨v3, rfl, hT3, hb3⟩; have T3 := Lib.hid hT3; have B3 := Lib.hid (B2.out.trans (hb3.mono (Below.size B2.out))); clear hT3 hb3; refine Hid.out ?_))
  refine Lib.hid ?_
  obtain ⟨A3, cap3, rfl, s2, s3, s4⟩ := T3.out.ssl
  obtain ⟨blk, off, rfl, hblt, hcell⟩ := s4 hne
  clear s2 s3 s4
  have HCL := Lib.hid hcell
  clear hcell c0 c1 c2 c3 c4 c5 d0 d1 d2 d3 d4 d5 e0 e1 e2 e3 e4 e5
  go_wp2
  go_loopw [4, 44] (fun n i wr => ∃ k : Nat, k ≤ xs.length ∧ i = .int .i64 k ∧ n = .int .i64 (16 + 16 * (xs.length : Int) + (sumSz (xs.take k) : Int)) ∧ w3 = wr) (fun _ i _ => xs.length - (iOfL i).toNat)
  case atStart => exact ⟨0, Nat.zero_le _, rfl, by simp [sumSz], rfl⟩
  case round =>
    obtain ⟨k, hk, rfl, rfl, rfl⟩ := hrel
    by_cases hlt : k < xs.length
    · have i0 : (k : Int) < (xs.length : Int) := by omega
      obtain ⟨s, hs0⟩ := some_at hlt
      have x0 := HCL.out k s hs0
      have e9 := sumSz_take hs0
      have e8 := sumSz_le xs (k + 1)
      have q3 := sz_q3 xs.length (sumSz (xs.take k)) s.size hn (by omega)
      rw [← e9] at q3
      have HE := Lib.hid e9
      clear hs0 e8 e9
      go_wp2
      exact ⟨⟨k + 1, hlt, by go_num, rfl, trivial⟩, by simp [iOfL]; omega⟩
    · have i0 : ¬ (k : Int) < (xs.length : Int) := by omega
      have hkk : xs.take k = xs := List.take_of_length_le (by omega)
      rw [hkk]
      clear hkk hlt
      go_wp2
      go_ret
      exact ⟨by simp, B3.out⟩
set_option maxRecDepth 100000 in
set_option maxHeartbeats 4000000 in
theorem VMay23L (xs : List ByteArray) (A : Option Addr) (cap : Nat) (hne : xs ≠ []) (hn : xs.length ≤ 1000000) (w : World) (h : SSl w (.slice A xs.length cap) xs) (h1000 : xs.length ≤ 1000) (hsz : ∀ s ∈ xs, s.size ≤ 4096) (hs : 16 + 16 * xs.length + sumSz xs ≤ 262144) : Calls Tryz.prog 114 #[.agg #[.int .i64 2, .string ⟨#[]⟩, .slice A xs.length cap, .slice none 0 0, .slice none 0 0, .slice none 0 0]] w fun e w' => e = .returned (.bool true) ∧ Below w.heap.size w w' := by
  have CN := Lib.hid (fun X => count46L xs A cap X)
  have TX := Lib.hid (fun X (hX : Below w.heap.size w X) => texts47L xs A cap hne hn X (h.below hX))
  have SZ := Lib.hid (fun X (hX : Below w.heap.size w X) => Size24L xs A cap hne hn X (h.below hX) (by omega))
  have F1 := Lib.hid rise49
  have F2 := Lib.hid rise51
  have F3 := Lib.hid rise53
  have F4 := Lib.hid once55
  have B0 := Lib.hid (alloc_old (w := w) (o := .cells #[.int .i64 2, .string ⟨#[]⟩, .slice A xs.length cap, .slice none 0 0, .slice none 0 0, .slice none 0 0] 64))
  have R0 := Lib.hid (heap_alloc_new w (.cells #[.int .i64 2, .string ⟨#[]⟩, .slice A xs.length cap, .slice none 0 0, .slice none 0 0, .slice none 0 0] 64))
  have hpos : 0 < xs.length := List.length_pos_iff.2 hne
  have g1 : ¬ (xs.length : Int) < 1 := by omega
  have g2 : ¬ (1000 : Int) < (xs.length : Int) := by omega
  have g3 : 16 + 16 * (xs.length : Int) + (sumSz xs : Int) ≤ 262144 := by omega
  clear h hs hpos
  go_enter Tryz.func114, Tryz.ntmps114
  go_wp2_with (first | (go_at_call 167; (with_reducible refine (CN.out _).mono ?_); rintro e w1 ⟨rfl, hb⟩; have B1 := Lib.hid (B0.out.trans (hb.mono (Below.size B0.out))); have R1 := Lib.hid (blk_below R0.out hb); clear hb; obtain ⟨⟨c0, c1, c2, c3, c4, c5⟩, _⟩ := cells6 R1.out; refine Hid.out ?_))
  refine Lib.hid ?_
  have RN := Lib.hid (heap_alloc_new w1 (.cells #[.int .i64 (xs.length : Int), .int .i64 0, .int .i64 0, .int .i64 0] 186))
  have B2 := Lib.hid (B1.out.trans ((alloc_old (o := .cells #[.int .i64 (xs.length : Int), .int .i64 0, .int .i64 0, .int .i64 0] 186)).mono (Below.size B1.out)))
  have R2 := Lib.hid (blk_below R1.out (alloc_old (o := .cells #[.int .i64 (xs.length : Int), .int .i64 0, .int .i64 0, .int .i64 0] 186)))
  obtain ⟨⟨c0, c1, c2, c3, c4, c5⟩, _⟩ := cells6 R2.out
  obtain ⟨⟨n0, n1, n2, n3⟩, _⟩ := cells4 RN.out
  have T2 := Lib.hid (TX.out _ B2.out)
  go_wp2_with (first | (go_at_call 166; (with_reducible refine (T2.out).mono ?_); rintro e w3 ⟨v3, rfl, hT3, hb⟩; have T3 := Lib.hid hT3; clear hT3; have B3 := Lib.hid (B2.out.trans (hb.mono (Below.size B2.out))); have R3 := Lib.hid (blk_below R2.out hb); clear hb; obtain ⟨⟨c0, c1, c2, c3, c4, c5⟩, _⟩ := cells6 R3.out; refine Hid.out ?_))
  refine Lib.hid ?_
  obtain ⟨A3, cap3, rfl, s2, s3, s4⟩ := T3.out.ssl
  obtain ⟨blk, off, rfl, hblt, hcell⟩ := s4 hne
  clear s2 s3 s4 n0 n1 n2 n3
  have HCL := Lib.hid hcell
  clear hcell
  go_wp2
  go_loopw [62] (fun i wr => ∃ k : Nat, k ≤ xs.length ∧ i = .int .i64 k ∧ w3 = wr) (fun i _ => xs.length - (iOfL i).toNat)
  case atStart => exact ⟨0, Nat.zero_le _, rfl, rfl⟩
  case round =>
    obtain ⟨k, hk, rfl, rfl⟩ := hrel
    by_cases hlt : k < xs.length
    · have i0 : (k : Int) < (xs.length : Int) := by omega
      obtain ⟨s, hs0⟩ := some_at hlt
      have x0 := HCL.out k s hs0
      have hs1 := hsz s (List.mem_of_getElem? hs0)
      have i1 : ¬ (4096 : Int) < (s.size : Int) := by omega
      clear hs0 hs1
      go_wp2
      exact ⟨⟨k + 1, hlt, by go_num, trivial⟩, by simp [iOfL]; omega⟩
    · have i0 : ¬ (k : Int) < (xs.length : Int) := by omega
      clear hlt
      go_wp2
      go_loopw [73] (fun i wr => i = .int .i64 0 ∧ w3 = wr) (fun _ _ => 0)
      case atStart => exact ⟨rfl, rfl⟩
      case round =>
        obtain ⟨rfl, rfl⟩ := hrel
        go_wp2_with (first | (go_at_call 168; (with_reducible refine (F1.out _ _).mono ?_); rintro e w4 ⟨rfl, hb⟩; have B4 := Lib.hid (B3.out.trans (hb.mono (Below.size B3.out))); have R4 := Lib.hid (blk_below R3.out hb); clear hb; obtain ⟨⟨c0, c1, c2, c3, c4, c5⟩, _⟩ := cells6 R4.out) | (go_at_call 170; (with_reducible refine (F2.out _ _).mono ?_); rintro e w5 ⟨rfl, hb⟩; have B5 := Lib.hid (B4.out.trans (hb.mono (Below.size B4.out))); have R5 := Lib.hid (blk_below R4.out hb); clear hb; obtain ⟨⟨c0, c1, c2, c3, c4, c5⟩, _⟩ := cells6 R5.out) | (go_at_call 172; (with_reducible refine (F3.out _ _).mono ?_); rintro e w6 ⟨rfl, hb⟩; have B6 := Lib.hid (B5.out.trans (hb.mono (Below.size B5.out))); have R6 := Lib.hid (blk_below R5.out hb); clear hb; obtain ⟨⟨c0, c1, c2, c3, c4, c5⟩, _⟩ := cells6 R6.out) | (go_at_call 174; (with_reducible refine (F4.out _).mono ?_); rintro e w7 ⟨rfl, hb⟩; have B7 := Lib.hid (B6.out.trans (hb.mono (Below.size B6.out))); have R7 := Lib.hid (blk_below R6.out hb); clear hb; obtain ⟨⟨c0, c1, c2, c3, c4, c5⟩, _⟩ := cells6 R7.out; have S7 := Lib.hid (SZ.out _ B7.out)) | (go_at_call 113; (with_reducible refine (S7.out).mono ?_); rintro e w8 ⟨rfl, hb⟩; have B8 := Lib.hid (B7.out.trans (hb.mono (Below.size B7.out))); have R8 := Lib.hid (blk_below R7.out hb); clear hb; obtain ⟨⟨c0, c1, c2, c3, c4, c5⟩, _⟩ := cells6 R8.out))
        go_ret
        exact ⟨by simp, B8.out⟩
end Go.Proofs.YticlacjpgjkhcaaGreatDoor

/- Copies of values and entries that are lists. -/
namespace Go.Proofs.YticlacjpgjkhcaaGreatDoor
open Go.ChangeShapes Go.WideShapes Go.ChangeAt Go.RowKit

theorem far60 {X : World} {b i : Nat} (v0 v1 v2 v3 v4 v5 : Value) (hi : i ≠ b) : ((((((X.setCell ⟨b, 0, none⟩ v0).setCell ⟨b, 1, none⟩ v1).setCell ⟨b, 2, none⟩ v2).setCell ⟨b, 3, none⟩ v3).setCell ⟨b, 4, none⟩ v4).setCell ⟨b, 5, none⟩ v5).heap[i]? = X.heap[i]? :=
  (Below.heap_setCell _ ⟨b, 5, none⟩ _ _ hi).trans ((Below.heap_setCell _ ⟨b, 4, none⟩ _ _ hi).trans ((Below.heap_setCell _ ⟨b, 3, none⟩ _ _ hi).trans ((Below.heap_setCell _ ⟨b, 2, none⟩ _ _ hi).trans ((Below.heap_setCell _ ⟨b, 1, none⟩ _ _ hi).trans (Below.heap_setCell _ ⟨b, 0, none⟩ _ _ hi)))))
set_option maxRecDepth 100000 in
set_option maxHeartbeats 4000000 in
theorem VClone25L (xs : List ByteArray) (A : Option Addr) (cap : Nat) (hne : xs ≠ []) (hn : xs.length ≤ 1000000) (w : World) (h : SSl w (.slice A xs.length cap) xs) : Calls Tryz.prog 93 #[.agg #[.int .i64 2, .string ⟨#[]⟩, .slice A xs.length cap, .slice none 0 0, .slice none 0 0, .slice none 0 0]] w fun e w' => ∃ v', e = .returned (.agg #[.int .i64 2, .string ⟨#[]⟩, v', .slice none 0 0, .slice none 0 0, .slice none 0 0]) ∧ TR w' v' xs ∧ (∃ g, v'.ownBlock = some g ∧ w.heap.size ≤ g) ∧ Below w.heap.size w w' := by
  go_enter Tryz.func93, Tryz.ntmps93
  go_wp2
  obtain ⟨W, hW⟩ : ∃ W, (w.alloc (.cells #[.int .i64 2, .string ⟨#[]⟩, .slice A xs.length cap, .slice none 0 0, .slice none 0 0, .slice none 0 0] 64)).alloc (.cells #[.int .i64 0, .string ⟨#[]⟩, .slice none 0 0, .slice none 0 0, .slice none 0 0, .slice none 0 0] 64) = W := ⟨_, rfl⟩
  have hz : W.heap.size = w.heap.size + 2 := by rw [← hW]; simp
  have hb0 : W.heap[w.heap.size]? = some (.cells #[.int .i64 2, .string ⟨#[]⟩, .slice A xs.length cap, .slice none 0 0, .slice none 0 0, .slice none 0 0] 64) := by rw [← hW]; exact blk_below (heap_alloc_new w _) alloc_old
  have hb1 : W.heap[w.heap.size + 1]? = some (.cells #[.int .i64 0, .string ⟨#[]⟩, .slice none 0 0, .slice none 0 0, .slice none 0 0, .slice none 0 0] 64) := by rw [← hW]; have := heap_alloc_new (w.alloc (.cells #[.int .i64 2, .string ⟨#[]⟩, .slice A xs.length cap, .slice none 0 0, .slice none 0 0, .slice none 0 0] 64)) (.cells #[.int .i64 0, .string ⟨#[]⟩, .slice none 0 0, .slice none 0 0, .slice none 0 0, .slice none 0 0] 64); rw [World.size_alloc] at this; exact this
  have hB : Below w.heap.size w W := by rw [← hW]; exact alloc_old.trans (alloc_old.mono (by simp))
  have C57 := Lib.hid (Clone57L _ xs hne hn W.drew (h.below hB.drew))
  have K := Lib.hid (show ∀ X, Below (w.heap.size + 1) W X → ((X.cell? ⟨w.heap.size, 0, none⟩ = some (.int .i64 2) ∧ X.cell? ⟨w.heap.size, 1, none⟩ = some (.string ⟨#[]⟩) ∧ X.cell? ⟨w.heap.size, 2, none⟩ = some (.slice A xs.length cap) ∧ X.cell? ⟨w.heap.size, 3, none⟩ = some (.slice none 0 0) ∧ X.cell? ⟨w.heap.size, 4, none⟩ = some (.slice none 0 0) ∧ X.cell? ⟨w.heap.size, 5, none⟩ = some (.slice none 0 0)) ∧ Below (w.heap.size + 1) W X) from fun X hb => by
    obtain ⟨⟨c0, c1, c2, c3, c4, c5⟩, _⟩ := cells6 ((hb.block _ (Nat.lt_succ_self _)).trans hb0)
    exact ⟨⟨c0, c1, c2, c3, c4, c5⟩, hb⟩)
  have ST := Lib.hid (show ∀ X v0 v1 v2 v3 v4 v5, ((X.cell? ⟨w.heap.size, 0, none⟩ = some (.int .i64 2) ∧ X.cell? ⟨w.heap.size, 1, none⟩ = some (.string ⟨#[]⟩) ∧ X.cell? ⟨w.heap.size, 2, none⟩ = some (.slice A xs.length cap) ∧ X.cell? ⟨w.heap.size, 3, none⟩ = some (.slice none 0 0) ∧ X.cell? ⟨w.heap.size, 4, none⟩ = some (.slice none 0 0) ∧ X.cell? ⟨w.heap.size, 5, none⟩ = some (.slice none 0 0)) ∧ Below (w.heap.size + 1) W X) → (fun X => (X.cell? ⟨w.heap.size, 0, none⟩ = some (.int .i64 2) ∧ X.cell? ⟨w.heap.size, 1, none⟩ = some (.string ⟨#[]⟩) ∧ X.cell? ⟨w.heap.size, 2, none⟩ = some (.slice A xs.length cap) ∧ X.cell? ⟨w.heap.size, 3, none⟩ = some (.slice none 0 0) ∧ X.cell? ⟨w.heap.size, 4, none⟩ = some (.slice none 0 0) ∧ X.cell? ⟨w.heap.size, 5, none⟩ = some (.slice none 0 0)) ∧ Below (w.heap.size + 1) W X) (((((((X).setCell ⟨w.heap.size + 1, 0, none⟩ v0).setCell ⟨w.heap.size + 1, 1, none⟩ v1).setCell ⟨w.heap.size + 1, 2, none⟩ v2).setCell ⟨w.heap.size + 1, 3, none⟩ v3).setCell ⟨w.heap.size + 1, 4, none⟩ v4).setCell ⟨w.heap.size + 1, 5, none⟩ v5) from fun X v0 v1 v2 v3 v4 v5 hX => K.out _ ((((((hX.2.setCell (p := ⟨w.heap.size + 1, 0, none⟩) (Nat.le_refl _) v0).setCell (p := ⟨w.heap.size + 1, 1, none⟩) (Nat.le_refl _) v1).setCell (p := ⟨w.heap.size + 1, 2, none⟩) (Nat.le_refl _) v2).setCell (p := ⟨w.heap.size + 1, 3, none⟩) (Nat.le_refl _) v3).setCell (p := ⟨w.heap.size + 1, 4, none⟩) (Nat.le_refl _) v4).setCell (p := ⟨w.heap.size + 1, 5, none⟩) (Nat.le_refl _) v5))
  have S0 : (W.drew.cell? ⟨w.heap.size, 0, none⟩ = some (.int .i64 2) ∧ W.drew.cell? ⟨w.heap.size, 1, none⟩ = some (.string ⟨#[]⟩) ∧ W.drew.cell? ⟨w.heap.size, 2, none⟩ = some (.slice A xs.length cap) ∧ W.drew.cell? ⟨w.heap.size, 3, none⟩ = some (.slice none 0 0) ∧ W.drew.cell? ⟨w.heap.size, 4, none⟩ = some (.slice none 0 0) ∧ W.drew.cell? ⟨w.heap.size, 5, none⟩ = some (.slice none 0 0)) ∧ Below (w.heap.size + 1) W W.drew := K.out _ (Below.refl _ W).drew
  have B0 := Lib.hid hB.drew
  have H1 := Lib.hid (show W.drew.heap[w.heap.size + 1]? = some (.cells #[.int .i64 0, .string ⟨#[]⟩, .slice none 0 0, .slice none 0 0, .slice none 0 0, .slice none 0 0] 64) from hb1)
  have hzd : w.heap.size + 1 ≤ W.drew.heap.size := by show _ ≤ W.heap.size; omega
  have hz2 : w.heap.size + 2 ≤ W.drew.heap.size := by show _ ≤ W.heap.size; omega
  obtain ⟨⟨c0, c1, c2, c3, c4, c5⟩, ⟨f0, f1, f2, f3, f4, f5⟩⟩ := cells6 H1.out
  rw [hW]
  clear hW hz hb0 hb1 hB h
  go_region_held3 (fun X => (X.cell? ⟨w.heap.size, 0, none⟩ = some (.int .i64 2) ∧ X.cell? ⟨w.heap.size, 1, none⟩ = some (.string ⟨#[]⟩) ∧ X.cell? ⟨w.heap.size, 2, none⟩ = some (.slice A xs.length cap) ∧ X.cell? ⟨w.heap.size, 3, none⟩ = some (.slice none 0 0) ∧ X.cell? ⟨w.heap.size, 4, none⟩ = some (.slice none 0 0) ∧ X.cell? ⟨w.heap.size, 5, none⟩ = some (.slice none 0 0)) ∧ Below (w.heap.size + 1) W X) (first | (with_reducible exact S0) | (with_reducible exact S3.out) | (refine ST.out _ _ _ _ _ _ _ ?_; assumption))
    (first | (go_at_call 145; (with_reducible refine (C57.out).mono ?_); rintro e w3 ⟨v3, rfl, ⟨g, C, cs, rfl, t2, t3, t4, t5⟩, hg, hb⟩; have HT := Lib.hid (show TR w3 (.slice (some ⟨g, 0, none⟩) xs.length C) xs from ⟨g, C, cs, rfl, t2, t3, t4, t5⟩); have HG := Lib.hid (by obtain ⟨g0, hg0, hg1⟩ := hg; cases hg0; exact hg1 : W.drew.heap.size ≤ g); have S3 := Lib.hid (K.out w3 ((Below.refl _ W).drew.trans (hb.mono hzd))); have R3 := Lib.hid (blk_below H1.out hb); have B3 := Lib.hid (B0.out.trans (hb.mono (Below.size B0.out))); clear t2 t3 t4 t5 hg hb; obtain ⟨⟨c0, c1, c2, c3, c4, c5⟩, ⟨f0, f1, f2, f3, f4, f5⟩⟩ := cells6 R3.out) | (go_at_call 146; (with_reducible refine (Clone58 _).mono ?_); rintro e w' ⟨rfl, rfl⟩) | (go_at_call 147; (with_reducible refine (Clone59 _).mono ?_); rintro e w' ⟨rfl, rfl⟩) | (go_at_call 148; (with_reducible refine (Clone60 _).mono ?_); rintro e w' ⟨rfl, rfl⟩))
  go_wp2
  have hge := HG.out
  exact bodyPost_ret (v := .agg #[.int .i64 2, .string ⟨#[]⟩, .slice (some ⟨g, 0, none⟩) xs.length C, .slice none 0 0, .slice none 0 0, .slice none 0 0]) (by simp [results, Tryz.results93, go_sem, c0, c1, c2, c3, c4, c5]) rfl ⟨_, rfl, HT.out.kept (fun g' hg' => far60 _ _ _ _ _ _ (by cases hg'; show g ≠ w.heap.size + 1; omega)), ⟨g, rfl, by omega⟩, (((((B3.out.setCell (Nat.le_succ _) _).setCell (Nat.le_succ _) _).setCell (Nat.le_succ _) _).setCell (Nat.le_succ _) _).setCell (Nat.le_succ _) _).setCell (Nat.le_succ _) _⟩
end Go.Proofs.YticlacjpgjkhcaaGreatDoor
