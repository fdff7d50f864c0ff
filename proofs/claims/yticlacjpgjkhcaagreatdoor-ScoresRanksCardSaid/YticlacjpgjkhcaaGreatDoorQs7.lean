/- Texts joined: G3b, St35, Li1, St21 -/
import Derived.Test.YticlacjpgjkhcaaGreatDoorQs6
import Derived.Test.YticlacjpgjkhcaaGreatDoorQs4
import Derived.Deep.AppendSrc
import Derived.ArgAppend
import Derived.Deep.MidRow
import Derived.OneCell
import Derived.OwnWalk
import Derived.Laws.Rows
import Derived.Lib.LazyBuf
import Derived.Maps.AppendAt
import Derived.Test.YticlacjpgjkhcaaGreatDoorQs5
set_option linter.unusedVariables false
set_option linter.unusedSimpArgs false

/- The space's Put of an entry of any kind over another. -/
namespace Go.Proofs.YticlacjpgjkhcaaGreatDoor
open Go.ChangeShapes Go.WideShapes Go.ChangeAt Go.RowKit

set_option maxRecDepth 100000 in
set_option maxHeartbeats 8000000 in
theorem Put10_oldG {α : Type} (K : Kd α) (ok : ByteArray → α → Prop) (hO : KdOk K ok) (bS bM : Nat) (l : MapT.Ents) (k : ByteArray) (x : α) (A3 A4 A5 A6 : Option Addr) (an3 ac3 an4 ac4 an5 ac5 an6 ac6 : Nat) (hk : ok k x) (w : World) (h : SP w bS bM l) (k0 t0 : ByteArray) (kd0 u0 : Int) (E3 E4 E5 E6 : Option Addr) (xn3 xc3 xn4 xc4 xn5 xc5 xn6 xc6 : Nat) (hf : MapT.find k l = some (.agg #[.string k0, .int .i64 kd0, .string t0, .slice E3 xn3 xc3, .slice E4 xn4 xc4, .slice E5 xn5 xc5, .slice E6 xn6 xc6, .int .i64 u0])) (m0 : Int) (hsz : ∀ X, Below w.heap.size w X → Calls Tryz.prog 50 #[.agg #[.string k0, .int .i64 kd0, .string t0, .slice E3 xn3 xc3, .slice E4 xn4 xc4, .slice E5 xn5 xc5, .slice E6 xn6 xc6, .int .i64 u0]] X fun e w' => e = .returned (.int .i64 m0) ∧ Below X.heap.size X w') (hV : K.V w x (.slice A3 an3 ac3) (.slice A4 an4 ac4) (.slice A5 an5 ac5) (.slice A6 an6 ac6)) : Calls Tryz.prog 29 #[.pointer (some ⟨bS, 0, none⟩), .agg #[.string k, .int .i64 K.kd, .string ⟨#[]⟩, .slice A3 an3 ac3, .slice A4 an4 ac4, .slice A5 an5 ac5, .slice A6 an6 ac6, .int .i64 0]] w fun e w' => ∃ (Y3 Y4 Y5 Y6 : Option Addr) (yn3 yc3 yn4 yc4 yn5 yc5 yn6 yc6 : Nat), e = .returned (.int .i64 0) ∧ SP w' bS bM (MapT.put k (.agg #[.string k, .int .i64 K.kd, .string ⟨#[]⟩, .slice Y3 yn3 yc3, .slice Y4 yn4 yc4, .slice Y5 yn5 yc5, .slice Y6 yn6 yc6, .int .i64 0]) l) ∧ K.V w' x (.slice Y3 yn3 yc3) (.slice Y4 yn4 yc4) (.slice Y5 yn5 yc5) (.slice Y6 yn6 yc6) ∧ (∀ g, Own (.slice Y3 yn3 yc3) (.slice Y4 yn4 yc4) (.slice Y5 yn5 yc5) (.slice Y6 yn6 yc6) g → w.heap.size ≤ g) ∧ Kp w.heap.size (fun i => i ≠ bS ∧ i ≠ bM) w w' := by
  have MY := hO.may k x A3 A4 A5 A6 an3 ac3 an4 ac4 an5 ac5 an6 ac6 (w.alloc (.cells #[.string k, .int .i64 K.kd, .string ⟨#[]⟩, .slice A3 an3 ac3, .slice A4 an4 ac4, .slice A5 an5 ac5, .slice A6 an6 ac6, .int .i64 0] 66)) hk (K.below hV alloc_old)
  have CL := fun X (hX : K.V X x (.slice A3 an3 ac3) (.slice A4 an4 ac4) (.slice A5 an5 ac5) (.slice A6 an6 ac6)) => hO.clone k x A3 A4 A5 A6 an3 ac3 an4 ac4 an5 ac5 an6 ac6 X hk hX
  have SZ := fun X (hX : K.V X x (.slice A3 an3 ac3) (.slice A4 an4 ac4) (.slice A5 an5 ac5) (.slice A6 an6 ac6)) => hO.size k x A3 A4 A5 A6 an3 ac3 an4 ac4 an5 ac5 an6 ac6 X hk hX
  obtain ⟨kd, hkd⟩ : ∃ kd, K.kd = kd := ⟨_, rfl⟩
  obtain ⟨mz, hmz⟩ : ∃ mz, hO.sz k x = mz := ⟨_, rfl⟩
  simp only [hkd, hmz] at MY CL SZ ⊢
  have MY := Lib.hid MY
  have CL := Lib.hid CL
  have SZ := Lib.hid SZ
  have HTR := Lib.hid hV
  have HAB := Lib.hid (K.own_ne hV h)
  have hlt := Lib.hid h.lt
  have hneP := Lib.hid (show bS ≠ w.heap.size from by have := h.lt; omega)
  obtain ⟨⟨mem, hmem⟩, hMB, hne⟩ := h
  have hp := Lib.hid (heap_alloc_new w (.cells #[.string k, .int .i64 kd, .string ⟨#[]⟩, .slice A3 an3 ac3, .slice A4 an4 ac4, .slice A5 an5 ac5, .slice A6 an6 ac6, .int .i64 0] 66))
  have hS1 := Lib.hid (blk_below hmem (alloc_old (o := .cells #[.string k, .int .i64 kd, .string ⟨#[]⟩, .slice A3 an3 ac3, .slice A4 an4 ac4, .slice A5 an5 ac5, .slice A6 an6 ac6, .int .i64 0] 66)))
  have hM1 := Lib.hid (hMB.below (alloc_old (o := .cells #[.string k, .int .i64 kd, .string ⟨#[]⟩, .slice A3 an3 ac3, .slice A4 an4 ac4, .slice A5 an5 ac5, .slice A6 an6 ac6, .int .i64 0] 66)))
  have hr : (Value.tuple #[(MapT.find k l).getD (.agg #[.string ⟨#[]⟩, .int .i64 0, .string ⟨#[]⟩, .slice none 0 0, .slice none 0 0, .slice none 0 0, .slice none 0 0, .int .i64 0]), .bool (MapT.find k l).isSome]) = .tuple #[.agg #[.string k0, .int .i64 kd0, .string t0, .slice E3 xn3 xc3, .slice E4 xn4 xc4, .slice E5 xn5 xc5, .slice E6 xn6 xc6, .int .i64 u0], .bool true] := by rw [hf]; rfl
  have HR := Lib.hid hr
  clear hmem hMB hf hr hV hk hkd hmz
  go_enter Tryz.func29, Tryz.ntmps29
  go_wp2_with (first | (go_at_call 51; (with_reducible refine (MY.out).mono ?_); rintro e w1 ⟨rfl, h1⟩; have B1 := Lib.hid h1; clear h1))
  have hS2 := blk_below hS1.out B1.out
  have hp2 := blk_below hp.out B1.out
  have hM2 := hM1.out.below B1.out
  obtain ⟨⟨p0, p1, p2, p3, p4, p5, p6, p7⟩, ⟨pf0, pf1, pf2, pf3, pf4, pf5, pf6, pf7⟩, pz⟩ := cells8 hp2
  have s0 : w1.cell? ⟨bS, 0, none⟩ = some (.map (some bM)) := by simp [World.cell?, hS2]
  have hmk := (hMB_all w1 bM l k _ hM2 HR.out)
  have L1 := hmk w1.drew (Below.refl w1.heap.size w1).drew
  have L2 := hmk (w1.alloc (.cells #[.string ⟨#[]⟩, .int .i64 0, .string ⟨#[]⟩, .slice none 0 0, .slice none 0 0, .slice none 0 0, .slice none 0 0, .int .i64 0] 66)).drew (alloc_old).drew
  have sz := (Array.getElem?_eq_some_iff.1 hS2).1
  have hpz : w.heap.size < w1.heap.size := pz
  have KH := Lib.hid (show ∀ X, Below w1.heap.size w1 X → (X.cell? ⟨bS, 0, none⟩ = some (.map (some bM)) ∧ X.cell? ⟨w.heap.size, 0, none⟩ = some (.string k)) from fun X hb => ⟨(hb.cell (p := ⟨bS, 0, none⟩) sz).trans s0, (hb.cell (p := ⟨w.heap.size, 0, none⟩) hpz).trans p0⟩)
  have K0 := Lib.hid (KH.out w1.drew (Below.refl w1.heap.size w1).drew)
  have K1 := Lib.hid (KH.out (w1.alloc (.cells #[.string ⟨#[]⟩, .int .i64 0, .string ⟨#[]⟩, .slice none 0 0, .slice none 0 0, .slice none 0 0, .slice none 0 0, .int .i64 0] 66)).drew (alloc_old).drew)
  have K2 := Lib.hid (KH.out (w1.alloc (.cells #[.string k0, .int .i64 kd0, .string t0, .slice E3 xn3 xc3, .slice E4 xn4 xc4, .slice E5 xn5 xc5, .slice E6 xn6 xc6, .int .i64 u0] 66)).drew (alloc_old).drew)
  clear hmk hM2 hS2 hp2
  go_region_held3 (fun X => X.cell? ⟨bS, 0, none⟩ = some (.map (some bM)) ∧ X.cell? ⟨w.heap.size, 0, none⟩ = some (.string k)) (first | (with_reducible exact K0.out) | (with_reducible exact K1.out) | (with_reducible exact K2.out)) (first | skip)
  all_goals (
    change Exit.then _ _ _ _ (w1.alloc (.cells #[.string k0, .int .i64 kd0, .string t0, .slice E3 xn3 xc3, .slice E4 xn4 xc4, .slice E5 xn5 xc5, .slice E6 xn6 xc6, .int .i64 u0] 66)).drew
    have w2b := Lib.hid (show Below w1.heap.size w1 (w1.alloc (.cells #[.string k0, .int .i64 kd0, .string t0, .slice E3 xn3 xc3, .slice E4 xn4 xc4, .slice E5 xn5 xc5, .slice E6 xn6 xc6, .int .i64 u0] 66)).drew from alloc_old.drew)
    have w2n := Lib.hid (show (w1.alloc (.cells #[.string k0, .int .i64 kd0, .string t0, .slice E3 xn3 xc3, .slice E4 xn4 xc4, .slice E5 xn5 xc5, .slice E6 xn6 xc6, .int .i64 u0] 66)).drew.heap[w1.heap.size]? = some (.cells #[.string k0, .int .i64 kd0, .string t0, .slice E3 xn3 xc3, .slice E4 xn4 xc4, .slice E5 xn5 xc5, .slice E6 xn6 xc6, .int .i64 u0] 66) from heap_alloc_new w1 _)
    generalize (w1.alloc (.cells #[.string k0, .int .i64 kd0, .string t0, .slice E3 xn3 xc3, .slice E4 xn4 xc4, .slice E5 xn5 xc5, .slice E6 xn6 xc6, .int .i64 u0] 66)).drew = w2 at w2b w2n ⊢
    clear L1 L2 K0 K1 K2 KH s0
    have BW := Lib.hid (show Below w.heap.size w w2 from (alloc_old.trans (B1.out.mono (by simp))).trans (w2b.out.mono (by omega)))
    have Q2 := Lib.hid (show Kp w.heap.size (fun i => i ≠ bS ∧ i ≠ bM) w w2 from .of BW.out)
    have S2 := Lib.hid (blk_below hS1.out (B1.out.trans (w2b.out.mono (Below.size B1.out))))
    have P2 := Lib.hid (blk_below hp.out (B1.out.trans (w2b.out.mono (Below.size B1.out))))
    have M2 := Lib.hid (hM1.out.below (B1.out.trans (w2b.out.mono (Below.size B1.out))))
    have hne1 := Lib.hid (show bS ≠ w1.heap.size from by omega)
    clear hS1 hM1 hp w2b p0 p1 p2 p3 p4 p5 p6 p7 pf0 pf1 pf2 pf3 pf4 pf5 pf6 pf7

    go_wp2
    obtain ⟨cm2, cf2⟩ := mem53 S2.out
    obtain ⟨⟨g0, g1, g2, g3, g4, g5, g6, g7⟩, _, gz⟩ := cells8 w2n.out
    have Z7 := Lib.hid (hsz w2.drew BW.out.drew)
    go_region_with ((go_at_call 50; (with_reducible refine (Z7.out).mono ?_); rintro e w3 ⟨rfl, h5⟩; have B3 : Below w2.heap.size w2 w3 := belT (Below.refl w2.heap.size w2).drew h5; clear h5; obtain ⟨cm3, cf3⟩ := mem53 (blk_below S2.out B3)))
    all_goals (
      change Exit.then _ _ _ _ (w3.setCell ⟨bS, 1, none⟩ (.int .i64 (IntKind.i64.wrap (mem - m0))))
      have S4 := Lib.hid (set53 (blk_below S2.out B3) (.int .i64 (IntKind.i64.wrap (mem - m0))))
      have P4 := Lib.hid ((Below.heap_setCell w3 ⟨bS, 1, none⟩ (.int .i64 (IntKind.i64.wrap (mem - m0))) w.heap.size (by have := hlt.out; show w.heap.size ≠ bS; omega)).trans (blk_below P2.out B3))
      have M4 := Lib.hid ((M2.out.below B3).kept (Below.heap_setCell w3 ⟨bS, 1, none⟩ (.int .i64 (IntKind.i64.wrap (mem - m0))) bM (Ne.symm hne)))
      have Q4 := Lib.hid (((Q2.out.trans (.of (B3.mono Q2.out.size))).setCell (p := ⟨bS, 1, none⟩) (by simp) (.int .i64 (IntKind.i64.wrap (mem - m0)))))
      clear cm2 cf2 cm3 cf3 g0 g1 g2 g3 g4 g5 g6 g7 gz Z7 B3
      generalize w3.setCell ⟨bS, 1, none⟩ (.int .i64 (IntKind.i64.wrap (mem - m0))) = w4 at S4 P4 M4 Q4 ⊢
      go_wp2
      have KQ := Lib.hid (show ∀ X, Below w4.heap.size w4 X → (X.cell? ⟨bS, 0, none⟩ = some (.map (some bM)) ∧ X.cell? ⟨w.heap.size, 0, none⟩ = some (.string k) ∧ X.cell? ⟨w.heap.size, 1, none⟩ = some (.int .i64 kd) ∧ X.cell? ⟨w.heap.size, 2, none⟩ = some (.string ⟨#[]⟩) ∧ X.cell? ⟨w.heap.size, 3, none⟩ = some (.slice A3 an3 ac3) ∧ X.cell? ⟨w.heap.size, 4, none⟩ = some (.slice A4 an4 ac4) ∧ X.cell? ⟨w.heap.size, 5, none⟩ = some (.slice A5 an5 ac5) ∧ X.cell? ⟨w.heap.size, 6, none⟩ = some (.slice A6 an6 ac6) ∧ X.cell? ⟨w.heap.size, 7, none⟩ = some (.int .i64 0)) from fun X hb => ⟨cell53 (blk_below S4.out hb), (cells8 (blk_below P4.out hb)).1⟩)
      have KU := Lib.hid (show ∀ X Y, X.grownBy Y (some bM) → Below w4.heap.size w4 X → (Y.cell? ⟨bS, 0, none⟩ = some (.map (some bM)) ∧ Y.cell? ⟨w.heap.size, 0, none⟩ = some (.string k) ∧ Y.cell? ⟨w.heap.size, 1, none⟩ = some (.int .i64 kd) ∧ Y.cell? ⟨w.heap.size, 2, none⟩ = some (.string ⟨#[]⟩) ∧ Y.cell? ⟨w.heap.size, 3, none⟩ = some (.slice A3 an3 ac3) ∧ Y.cell? ⟨w.heap.size, 4, none⟩ = some (.slice A4 an4 ac4) ∧ Y.cell? ⟨w.heap.size, 5, none⟩ = some (.slice A5 an5 ac5) ∧ Y.cell? ⟨w.heap.size, 6, none⟩ = some (.slice A6 an6 ac6) ∧ Y.cell? ⟨w.heap.size, 7, none⟩ = some (.int .i64 0)) from fun X Y hg hb => ⟨cell53 ((grown_block hg (lt_blk (blk_below S4.out hb)) hne).trans (blk_below S4.out hb)), (cells8 ((grown_block hg (lt_blk (blk_below P4.out hb)) (by have := hlt.out; omega)).trans (blk_below P4.out hb))).1⟩)
      have Z8 := Lib.hid (CL.out w4.drew (K.kept HTR.out (fun g' hg' => Q4.out.block g' (HAB.out g' hg').1 (HAB.out g' hg').2)))
      have K8 := Lib.hid (KQ.out w4.drew (Below.refl _ _).drew)
      go_region_held3 (fun X => X.cell? ⟨bS, 0, none⟩ = some (.map (some bM)) ∧ X.cell? ⟨w.heap.size, 0, none⟩ = some (.string k) ∧ X.cell? ⟨w.heap.size, 1, none⟩ = some (.int .i64 kd) ∧ X.cell? ⟨w.heap.size, 2, none⟩ = some (.string ⟨#[]⟩) ∧ X.cell? ⟨w.heap.size, 3, none⟩ = some (.slice A3 an3 ac3) ∧ X.cell? ⟨w.heap.size, 4, none⟩ = some (.slice A4 an4 ac4) ∧ X.cell? ⟨w.heap.size, 5, none⟩ = some (.slice A5 an5 ac5) ∧ X.cell? ⟨w.heap.size, 6, none⟩ = some (.slice A6 an6 ac6) ∧ X.cell? ⟨w.heap.size, 7, none⟩ = some (.int .i64 0)) (first | (with_reducible exact K8.out) | (with_reducible exact KU.out _ _ (by assumption) (by assumption)) | (with_reducible exact KQ.out _ (by assumption))) (first | (go_at_call 34; (with_reducible refine (Z8.out).mono ?_); rintro e w5 ⟨Y3, Y4, Y5, Y6, yn3, yc3, yn4, yc4, yn5, yc5, yn6, yc6, rfl, hT5, hg5, h5⟩; have B5 : Below w4.heap.size w4 w5 := belT (Below.refl w4.heap.size w4).drew h5; clear h5; obtain ⟨w6, hrun, r1, r2, r3⟩ := MapT.run_update Tryz.underlying55 Tryz.underlying9 (M4.out.below B5) k (.agg #[.string k, .int .i64 kd, .string ⟨#[]⟩, .slice Y3 yn3 yc3, .slice Y4 yn4 yc4, .slice Y5 yn5 yc5, .slice Y6 yn6 yc6, .int .i64 0])))
      all_goals (
        have S6 := Lib.hid ((grown_block r2 (lt_blk (blk_below S4.out B5)) hne).trans (blk_below S4.out B5))
        have P6 := Lib.hid ((grown_block r2 (lt_blk (blk_below P4.out B5)) (show w.heap.size ≠ bM by have := hlt.out; omega)).trans (blk_below P4.out B5))
        have M6 := Lib.hid r1
        have Q6 := Lib.hid ((Q4.out.trans (.of (B5.mono Q4.out.size))).grown r2 (Nat.le_trans Q4.out.size (Below.size B5)) (fun k hk _ hS => hS.2 (Option.some.inj hk).symm))
        have hgw : ∀ g, Own (.slice Y3 yn3 yc3) (.slice Y4 yn4 yc4) (.slice Y5 yn5 yc5) (.slice Y6 yn6 yc6) g → w.heap.size ≤ g := fun g hg => Nat.le_trans Q4.out.size (hg5 g hg)
        have GW := Lib.hid hgw
        have TG6 := Lib.hid (K.kept hT5 (fun g' hg' => grown_block r2 (K.lt hT5 hg') (by have := hlt.out; have := hgw g' hg'; omega)))
        have T6 := Lib.hid (K.kept HTR.out (fun g' hg' => Q6.out.block g' (HAB.out g' hg').1 (HAB.out g' hg').2))
        clear KQ KU Z8 K8 B5 hrun r1 r2 r3 hT5 hg5 hgw
        go_wp2
        obtain ⟨cm6, cf6⟩ := mem53 S6.out
        obtain ⟨⟨g0, g1, g2, g3, g4, g5, g6, g7⟩, _, gz⟩ := cells8 P6.out
        have Z7 := Lib.hid (SZ.out w6.drew (K.kept T6.out (fun _ _ => rfl)))
        go_region_with ((go_at_call 50; (with_reducible refine (Z7.out).mono ?_); rintro e w7 ⟨rfl, h5⟩; have B7 : Below w6.heap.size w6 w7 := belT (Below.refl w6.heap.size w6).drew h5; clear h5; obtain ⟨cm7, cf7⟩ := mem53 (blk_below S6.out B7)))
        all_goals (
          change Exit.then _ _ _ _ (w7.setCell ⟨bS, 1, none⟩ (.int .i64 (IntKind.i64.wrap ((IntKind.i64.wrap (mem - m0)) + mz))))
          have S8 := Lib.hid (set53 (blk_below S6.out B7) (.int .i64 (IntKind.i64.wrap ((IntKind.i64.wrap (mem - m0)) + mz))))
          have P8 := Lib.hid ((Below.heap_setCell w7 ⟨bS, 1, none⟩ (.int .i64 (IntKind.i64.wrap ((IntKind.i64.wrap (mem - m0)) + mz))) w.heap.size (by have := hlt.out; show w.heap.size ≠ bS; omega)).trans (blk_below P6.out B7))
          have M8 := Lib.hid ((M6.out.below B7).kept (Below.heap_setCell w7 ⟨bS, 1, none⟩ (.int .i64 (IntKind.i64.wrap ((IntKind.i64.wrap (mem - m0)) + mz))) bM (Ne.symm hne)))
          have Q8 := Lib.hid (((Q6.out.trans (.of (B7.mono Q6.out.size))).setCell (p := ⟨bS, 1, none⟩) (by simp) (.int .i64 (IntKind.i64.wrap ((IntKind.i64.wrap (mem - m0)) + mz)))))
          have TG8 := Lib.hid (K.kept (K.below TG6.out B7) (fun g' hg' => Below.heap_setCell w7 ⟨bS, 1, none⟩ (.int .i64 (IntKind.i64.wrap ((IntKind.i64.wrap (mem - m0)) + mz))) g' (by have := hlt.out; have := GW.out g' hg'; show g' ≠ bS; omega)))
          clear cm6 cf6 cm7 cf7 g0 g1 g2 g3 g4 g5 g6 g7 gz Z7 B7
          generalize w7.setCell ⟨bS, 1, none⟩ (.int .i64 (IntKind.i64.wrap ((IntKind.i64.wrap (mem - m0)) + mz))) = w8 at S8 P8 M8 Q8 TG8 ⊢
          go_wp2
          go_ret
          exact ⟨Y3, Y4, Y5, Y6, yn3, yc3, yn4, yc4, yn5, yc5, yn6, yc6, by simp, ⟨⟨_, S8.out⟩, M8.out, hne⟩, TG8.out, GW.out, Q8.out⟩))))
end Go.Proofs.YticlacjpgjkhcaaGreatDoor

/- A row of bytes that is appended to and written over. -/
namespace Go.Proofs.YticlacjpgjkhcaaGreatDoor
open Go.ChangeShapes Go.WideShapes Go.ChangeAt Go.RowKit

/-- Bytes in memory. -/
def Bytes (w : World) (blk off : Nat) (l : List UInt8) : Prop := ∀ i c, l[i]? = some c → w.cell? ⟨blk, off + i, none⟩ = some (.int .u8 (c.toNat : Int))
/-- A row of bytes of the call's own: it may be appended to. -/
def OwnG (c : Nat) (w : World) (v : Value) (l : List UInt8) : Prop :=
  (∃ g off cap, v = .slice (some ⟨g, off, none⟩) l.length cap ∧ c ≤ g ∧ g < w.heap.size ∧ l.length ≤ cap ∧ cap ≤ maxLen ∧ Bytes w g off l ∧
    ∀ j, j < cap → (w.cell? ⟨g, off + j, none⟩).isSome = true ∧ w.frozen? ⟨g, off + j, none⟩ = false) ∨ (l = [] ∧ v = .slice none 0 0)
theorem OwnG.kept {c : Nat} {w w' : World} {v : Value} {l : List UInt8} (h : OwnG c w v l) (hs : w.heap.size ≤ w'.heap.size) (hb : ∀ k, c ≤ k → k < w.heap.size → w'.heap[k]? = w.heap[k]?) : OwnG c w' v l := by
  rcases h with ⟨g, off, cap, rfl, h2, h3, h4, h5, h6, h7⟩ | h
  · have hk := hb g h2 h3
    have hc : ∀ j, w'.cell? ⟨g, j, none⟩ = w.cell? ⟨g, j, none⟩ := fun j => World.cell?_of_block hk
    refine .inl ⟨g, off, cap, rfl, h2, by omega, h4, h5, fun i x hx => (hc _).trans (h6 i x hx), fun j hj => ⟨by rw [hc]; exact (h7 j hj).1, ?_⟩⟩
    have := (h7 j hj).2
    unfold World.frozen? at this ⊢
    simp only [hk]
    exact this
  · exact .inr h
theorem OwnG.below {c : Nat} {w w' : World} {v : Value} {l : List UInt8} (h : OwnG c w v l) (hb : Below w.heap.size w w') : OwnG c w' v l := h.kept hb.size (fun k _ hk => hb.block k hk)
theorem OwnG.set_ {c : Nat} {w : World} {v : Value} {l : List UInt8} (h : OwnG c w v l) {b : Nat} (hb : b < c) (i : Nat) (u : Value) : OwnG c (w.setCell ⟨b, i, none⟩ u) v l :=
  h.kept (by show _ ≤ (w.heap.modify _ _).size; rw [Array.size_modify]; exact Nat.le_refl _) (fun k hk _ => Below.heap_setCell w ⟨b, i, none⟩ u k (by show k ≠ b; omega))
theorem i5 : (Tryz.prog.info? 5).map (fun i => (i.zero, i.size, i.bytes)) = some (some (.int .u8 0), 1, 1) := by kernel_rfl
def cellB (c : UInt8) : Value := .int .u8 (c.toNat : Int)
theorem size_setCells (w : World) (g o : Nat) (vs : List Value) : (w.setCells g o vs).heap.size = w.heap.size := by
  induction vs generalizing w o with
  | nil => rfl
  | cons v r ih => rw [World.setCells, ih]; simp
theorem below_setCells (B : Nat) (w : World) (g o : Nat) (vs : List Value) (hg : B ≤ g) : Below B w (w.setCells g o vs) := by
  induction vs generalizing w o with
  | nil => exact Below.refl _ _
  | cons v r ih => rw [World.setCells]; exact ((Below.refl B w).setCell (by exact hg) v).trans (ih _ _)
theorem OwnG.fresh {c : Nat} {w : World} (l : List UInt8) (X : Array Value) (hX : l.length ≤ X.size) (hm : X.size ≤ maxLen) (hl : ∀ (i : Nat) (x : UInt8), l[i]? = some x → X[i]? = some (cellB x)) (hc : c ≤ w.heap.size) :
    OwnG c (w.alloc (.cells X 5)) (.slice (some ⟨w.heap.size, 0, none⟩) l.length X.size) l := by
  have hn : (w.alloc (.cells X 5)).heap[w.heap.size]? = some (.cells X 5 (0, 0)) := heap_alloc_new w _
  refine .inl ⟨w.heap.size, 0, X.size, rfl, hc, by simp, hX, hm, fun i x hi => ?_, fun j hj => ⟨?_, ?_⟩⟩
  · rw [cell_of_row _ _ _ _ _ _ hn, Nat.zero_add, hl i x hi]; rfl
  · rw [cell_of_row _ _ _ _ _ _ hn, Nat.zero_add]; simp [hj]
  · rw [Nat.zero_add]; unfold World.frozen?; rw [hn]; simp
set_option maxRecDepth 100000 in
theorem OwnG.new (w : World) (s : ByteArray) (hs : s.size ≤ 1000000) : OwnG w.heap.size (Lib.bytesWorld w 5 s) (.slice (some ⟨w.heap.size, 0, none⟩) s.size (grownCap w s.size 0 5)) s.data.toList := by
  have hl : s.data.toList.length = s.size := by simp
  have hc1 := grownCap_ge w s.size 0 5
  have hc2 := grownCap_le_maxLen w s.size 0 5 (by unfold maxLen; omega)
  have hz : (Lib.bytesCells w 5 s).size = grownCap w s.size 0 5 := by simp [Lib.bytesCells]; omega
  refine .inl ⟨w.heap.size, 0, _, by rw [hl], Nat.le_refl _, by rw [Lib.bytesWorld_size]; omega, by rw [hl]; exact hc1, hc2, fun i x hx => ?_, fun j hj => ⟨?_, ?_⟩⟩
  · have hi : i < s.size := by rw [← hl]; exact (List.getElem?_eq_some_iff.1 hx).1
    have := Lib.bytesWorld_cell w 5 s i hi
    rw [Nat.zero_add, this]
    simp [List.getD, hx]
  · rw [Nat.zero_add]
    simp [World.cell?, Lib.bytesWorld_at_new, hz, hj]
  · rw [Nat.zero_add]
    unfold World.frozen?
    rw [Lib.bytesWorld_at_new]
    simp [hz]
    omega
/-- A row over a part of which another is laid. -/
def ovL (l s : List UInt8) (p : Nat) : List UInt8 := l.take p ++ s ++ l.drop (p + s.length)
theorem ovL_len (l s : List UInt8) (p : Nat) (h : p + s.length ≤ l.length) : (ovL l s p).length = l.length := by
  unfold ovL
  rw [List.length_append, List.length_append, List.length_take, List.length_drop]
  omega
theorem OwnG.back {c g off n cap : Nat} {w : World} {l : List UInt8} (h : OwnG c w (.slice (some ⟨g, off, none⟩) n cap) l) : (convert 31 9 (.slice (some ⟨g, off, none⟩) n cap)).run Tryz.prog w = .ok (.string ⟨l.toArray⟩) w := by
  rcases h with ⟨g', off', cap', h1, h2, h3, h4, h5, h6, h7⟩ | ⟨_, h⟩
  · obtain ⟨⟨e1, e4⟩, e2, e3⟩ : (g = g' ∧ off = off') ∧ n = l.length ∧ cap = cap' := by simpa using h1
    subst e1 e3
    subst e2
    subst e4
    refine run_convert_bytes_back (P := Tryz.prog) w 31 9 5 ⟨g, off, none⟩ cap l Tryz.underlying31 Tryz.underlying5 Tryz.underlying9 (fun j hj => ?_)
    have := h6 j l[j] (List.getElem?_eq_getElem hj)
    rw [Addr.add_lit, this]
  · cases h
end Go.Proofs.YticlacjpgjkhcaaGreatDoor

/- Rows of texts of the call's own; the copy of a list. -/
namespace Go.Proofs.YticlacjpgjkhcaaGreatDoor
open Go.ChangeShapes Go.WideShapes Go.ChangeAt Go.RowKit

/-- A row of texts at the head of a block of texts. -/
def TR (w : World) (v : Value) (xs : List ByteArray) : Prop := ∃ (g C : Nat) (cs : Array Value), v = .slice (some ⟨g, 0, none⟩) xs.length C ∧ w.heap[g]? = some (.cells cs 9) ∧ xs.length ≤ C ∧ C ≤ maxLen ∧ ∀ (i : Nat) (s : ByteArray), xs[i]? = some s → cs[i]? = some (Value.string s)
theorem TR.ssl {w : World} {v : Value} {xs : List ByteArray} (h : TR w v xs) : SSl w v xs := by
  obtain ⟨g, C, cs, rfl, h2, h3, h4, h5⟩ := h
  refine ⟨_, C, rfl, h3, h4, fun _ => ⟨g, 0, rfl, (Array.getElem?_eq_some_iff.1 h2).1, fun i s hi => ?_⟩⟩
  rw [cell_of_row _ g _ _ 9 (0, 0) h2, Nat.zero_add]
  exact h5 i s hi
theorem TR.kept {w w' : World} {v : Value} {xs : List ByteArray} (h : TR w v xs) (hb : ∀ g, v.ownBlock = some g → w'.heap[g]? = w.heap[g]?) : TR w' v xs := by
  obtain ⟨g, C, cs, rfl, h2, h3, h4, h5⟩ := h
  exact ⟨g, C, cs, rfl, (hb g rfl).trans h2, h3, h4, h5⟩
theorem TR.below {w w' : World} {v : Value} {xs : List ByteArray} (h : TR w v xs) (hb : Below w.heap.size w w') : TR w' v xs := by
  refine h.kept (fun g hg => ?_)
  obtain ⟨g', C, cs, rfl, h2, _⟩ := h
  cases hg
  exact hb.block _ (Array.getElem?_eq_some_iff.1 h2).1
theorem TR.lt {w : World} {v : Value} {xs : List ByteArray} (h : TR w v xs) : ∃ g, v.ownBlock = some g ∧ g < w.heap.size ∧ ∃ cs, w.heap[g]? = some (.cells cs 9) := by
  obtain ⟨g', C, cs, rfl, h2, _⟩ := h
  exact ⟨g', rfl, (Array.getElem?_eq_some_iff.1 h2).1, cs, h2⟩
theorem TR.lit (w : World) (x : ByteArray) : TR (w.alloc (.cells #[.string x] 9)) (.slice (some ⟨w.heap.size, 0, none⟩) 1 1) [x] := by
  refine ⟨w.heap.size, 1, #[.string x], rfl, heap_alloc_new w _, Nat.le_refl _, by unfold maxLen; decide, fun i s hi => ?_⟩
  match i, hi with
  | 0, hi => cases hi; rfl
theorem i9 : (Tryz.prog.info? 9).map (fun i => (i.zero, i.size, i.bytes)) = some (some (.string ⟨#[]⟩), 1, 16) := by kernel_rfl
theorem Src.ofSSl {w : World} {v : Value} {xs : List ByteArray} (h : SSl w v xs) (hne : xs ≠ []) : Src Tryz.prog 1 58 v xs.length (xs.map Value.string) w := by
  obtain ⟨A, cap, rfl, h2, h3, h4⟩ := h
  obtain ⟨blk, off, rfl, h5, h6⟩ := h4 hne
  refine Src.ofSlice (P := Tryz.prog) (size := 1) w Tryz.underlying58 ⟨blk, off, none⟩ xs.length cap (xs.map Value.string) (by simp) (fun j u hj => ?_) (fun u hu => by obtain ⟨s, _, rfl⟩ := List.mem_map.1 hu; rfl)
  rw [List.getElem?_map] at hj
  obtain ⟨s, hs, rfl⟩ := Option.map_eq_some_iff.1 hj
  rw [Addr.add_lit]
  exact h6 j s hs
theorem wpList_append_T {ops : Array Oper} {rest : List Oper} {o : Oper} {a : Act} {Q : Exit → Act → World → Prop} (w : World) (hg : o.guard = none) (s x : Operand) (hop : o.op = Op.call { callee := Callee.builtin Builtin.append, args := #[s, x], argTypes := #[58, 58] })
    (base : Option Addr) (xs : List ByteArray) (u : Value) (hs : a.eval s = .slice base 0 0) (hfc : (Builtin.firstCells 1 0 (.slice base 0 0)).run Tryz.prog w.drew = .ok #[] w.drew) (hx : a.eval x = u) (h2 : SSl w u xs) (hne : xs ≠ []) (hb : xs.length ≤ 1000000)
    (k : ∀ v' w', TR w' v' xs → v'.ownBlock = some w.heap.size → Below w.heap.size w w' → wpList Tryz.prog ops Q rest (a.put o.dst v') w') : wpList Tryz.prog ops Q (o :: rest) a w := by
  obtain ⟨i0, hi, hz0, hz1, hz2⟩ := info_parts i9
  have h2' : Src Tryz.prog i0.size 58 u xs.length (xs.map Value.string) w := by rw [hz1]; exact Src.ofSSl h2 hne
  have hpos : 0 < xs.length := List.length_pos_iff.2 hne
  have hge := grownCap_ge w (0 + xs.length) 0 9
  have hcm : grownCap w (0 + xs.length) 0 9 ≤ maxLen := grownCap_le_maxLen w (0 + xs.length) 0 9 (by unfold maxLen; omega)
  have hrun := run_append_grow_src (P := Tryz.prog) w 58 58 o.type 9 i0 (.string ⟨#[]⟩) Tryz.underlying58 hi hz0 base 0 0 [] (by rw [hz1]; exact hfc) u xs.length (xs.map Value.string) h2' (by omega) (by omega) (by rw [hz2]; exact growslice_fits (by omega) (by omega))
  refine wpList_plain hg fun K hK' => ?_
  unfold Oper.wp
  simp [execOp, hop, resolve, invoke, builtin, hs, hx, hrun, Result.andThen]
  refine hK' _ _ (k _ _ ⟨w.heap.size, grownCap w (0 + xs.length) 0 9, _, by simp, heap_alloc_new w.drew _, by omega, hcm, fun i s hi => ?_⟩ rfl (((Below.refl w.heap.size w).drew).alloc (Nat.le_refl _) _))
  have hlt := (List.getElem?_eq_some_iff.1 hi).1
  rw [Array.getElem?_append_left (by simp; omega)]
  simp [hi]
set_option maxRecDepth 100000 in
set_option maxHeartbeats 2000000 in
theorem Clone57L (v : Value) (xs : List ByteArray) (hne : xs ≠ []) (hn : xs.length ≤ 1000000) (w : World) (h : SSl w v xs) : Calls Tryz.prog 145 #[v] w fun e w' => ∃ v', e = .returned v' ∧ TR w' v' xs ∧ (∃ g, v'.ownBlock = some g ∧ w.heap.size ≤ g) ∧ Below w.heap.size w w' := by
  have H := Lib.hid h
  obtain ⟨A, cap, rfl, h2, h3, h4⟩ := h
  obtain ⟨blk, off, rfl, h5, h6⟩ := h4 hne
  have hq : ∀ w, (binOp .eql 58 (.slice (some ⟨blk, off, none⟩) xs.length cap) (.slice none 0 0)).run Tryz.prog w = .ok (.bool false) w := fun w => by kernel_rfl
  clear h2 h3 h4 h5 h6
  go_enter Tryz.func145, Tryz.ntmps145
  have hfc : (Builtin.firstCells 1 0 (.slice (some ⟨w.heap.size, 0, none⟩) 0 0)).run Tryz.prog (w.alloc (.cells #[] 9)).drew = .ok #[] (w.alloc (.cells #[] 9)).drew := by
    refine run_firstCells_some _ 1 0 ⟨w.heap.size, 0, none⟩ _ _ [] rfl (fun j u hj => by cases hj)
  have HF := Lib.hid hfc
  have HZ := Lib.hid (H.out.below (alloc_old (o := .cells #[] 9)))
  clear hfc
  go_wp2_with (first | (at_builtin; refine wpList_append_T _ rfl _ _ rfl (some ⟨w.heap.size, 0, none⟩) xs _ rfl HF.out rfl HZ.out hne hn ?_; intro v2 w2 hT2 ho2 hb2))
  go_ret
  exact ⟨v2, rfl, hT2, ⟨_, ho2, by simp⟩, alloc_old.trans (hb2.mono (by simp))⟩
end Go.Proofs.YticlacjpgjkhcaaGreatDoor

/- Two values are the same: at values of texts. -/
namespace Go.Proofs.YticlacjpgjkhcaaGreatDoor
open Go.ChangeShapes Go.WideShapes Go.ChangeAt Go.RowKit

theorem new_next (w : World) (o1 o2 : Obj) : ((w.alloc o1).alloc o2).heap[w.heap.size + 1]? = some o2 := by
  have := heap_alloc_new (w.alloc o1) o2
  rw [World.size_alloc] at this
  exact this
theorem bytes_ne {t s : ByteArray} (h : t ≠ s) : ¬ t.toList = s.toList := by
  rw [ByteArray.toList_eq, ByteArray.toList_eq]
  exact fun e => h (bytes_inj e)
theorem Eq101 (w : World) : Calls Tryz.prog 232 #[.slice none 0 0, .slice none 0 0] w fun e w' => e = .returned (.bool true) ∧ Below w.heap.size w w' := by
  go_enter Tryz.func232, Tryz.ntmps232
  go_wp2
  refine wp_loop_once ?_
  go_wp2
  go_ret
  exact ⟨rfl, Below.refl _ _⟩
theorem Eq102 (w : World) : Calls Tryz.prog 233 #[.slice none 0 0, .slice none 0 0] w fun e w' => e = .returned (.bool true) ∧ Below w.heap.size w w' := by
  go_enter Tryz.func233, Tryz.ntmps233
  go_wp2
  refine wp_loop_once ?_
  go_wp2
  go_ret
  exact ⟨rfl, Below.refl _ _⟩
theorem Eq103 (w : World) : Calls Tryz.prog 234 #[.slice none 0 0, .slice none 0 0] w fun e w' => e = .returned (.bool true) ∧ Below w.heap.size w w' := by
  go_enter Tryz.func234, Tryz.ntmps234
  go_wp2
  refine wp_loop_once ?_
  go_wp2
  go_ret
  exact ⟨rfl, Below.refl _ _⟩
theorem Eq99 (f : Value) (w : World) : Calls Tryz.prog 230 #[.slice none 0 0, .slice none 0 0, f] w fun e w' => e = .returned (.bool true) ∧ Below w.heap.size w w' := by
  go_enter Tryz.func230, Tryz.ntmps230
  go_wp2
  refine wp_loop_once ?_
  go_wp2
  go_ret
  exact ⟨rfl, Below.refl _ _⟩
set_option maxRecDepth 100000 in
set_option maxHeartbeats 4000000 in
theorem Same_yes (t : ByteArray) (w : World) : Calls Tryz.prog 211 #[.agg #[.int .i64 1, .string t, .slice none 0 0, .slice none 0 0, .slice none 0 0, .slice none 0 0], .agg #[.int .i64 1, .string t, .slice none 0 0, .slice none 0 0, .slice none 0 0, .slice none 0 0]] w fun e w' => e = .returned (.bool true) ∧ Below w.heap.size w w' := by
  have hmf : ∀ (fn : Fn) (first cap : Array Value) (w : World), (Instr.makeFunc fn first cap).run Tryz.prog w = .ok (.func fn first cap) w := fun _ _ _ _ => rfl
  have hsf : ∀ (a : Addr) (f : Fn) (x y : Array Value) (w : World) (m : Mode), (store a (.func f x y) m).run Tryz.prog w = stored Tryz.prog w a (.func f x y) m := fun a f x y w m => run_store Tryz.prog w a _ m rfl
  have q1 := Lib.hid (fun w => Eq101 w)
  have q2 := Lib.hid (fun w => Eq102 w)
  have q3 := Lib.hid (fun w => Eq103 w)
  have q4 := Lib.hid (fun f w => Eq99 f w)
  have C1 := Lib.hid (fun w1 (hb : Below ((((w.alloc (.cells #[.int .i64 1, .string t, .slice none 0 0, .slice none 0 0, .slice none 0 0, .slice none 0 0] 64)).alloc (.cells #[.int .i64 1, .string t, .slice none 0 0, .slice none 0 0, .slice none 0 0, .slice none 0 0] 64)).alloc (.cells #[.func (.func 228) #[] #[]] 256))).heap.size ((((w.alloc (.cells #[.int .i64 1, .string t, .slice none 0 0, .slice none 0 0, .slice none 0 0, .slice none 0 0] 64)).alloc (.cells #[.int .i64 1, .string t, .slice none 0 0, .slice none 0 0, .slice none 0 0, .slice none 0 0] 64)).alloc (.cells #[.func (.func 228) #[] #[]] 256))) w1) => cells6 (blk_below (show ((((w.alloc (.cells #[.int .i64 1, .string t, .slice none 0 0, .slice none 0 0, .slice none 0 0, .slice none 0 0] 64)).alloc (.cells #[.int .i64 1, .string t, .slice none 0 0, .slice none 0 0, .slice none 0 0, .slice none 0 0] 64)).alloc (.cells #[.func (.func 228) #[] #[]] 256))).heap[w.heap.size]? = some (.cells #[.int .i64 1, .string t, .slice none 0 0, .slice none 0 0, .slice none 0 0, .slice none 0 0] 64) from blk_below (blk_below (heap_alloc_new w _) alloc_old) alloc_old) hb))
  have C2 := Lib.hid (fun w1 (hb : Below ((((w.alloc (.cells #[.int .i64 1, .string t, .slice none 0 0, .slice none 0 0, .slice none 0 0, .slice none 0 0] 64)).alloc (.cells #[.int .i64 1, .string t, .slice none 0 0, .slice none 0 0, .slice none 0 0, .slice none 0 0] 64)).alloc (.cells #[.func (.func 228) #[] #[]] 256))).heap.size ((((w.alloc (.cells #[.int .i64 1, .string t, .slice none 0 0, .slice none 0 0, .slice none 0 0, .slice none 0 0] 64)).alloc (.cells #[.int .i64 1, .string t, .slice none 0 0, .slice none 0 0, .slice none 0 0, .slice none 0 0] 64)).alloc (.cells #[.func (.func 228) #[] #[]] 256))) w1) => cells6 (blk_below (show ((((w.alloc (.cells #[.int .i64 1, .string t, .slice none 0 0, .slice none 0 0, .slice none 0 0, .slice none 0 0] 64)).alloc (.cells #[.int .i64 1, .string t, .slice none 0 0, .slice none 0 0, .slice none 0 0, .slice none 0 0] 64)).alloc (.cells #[.func (.func 228) #[] #[]] 256))).heap[w.heap.size + 1]? = some (.cells #[.int .i64 1, .string t, .slice none 0 0, .slice none 0 0, .slice none 0 0, .slice none 0 0] 64) from blk_below (new_next w _ _) alloc_old) hb))
  have BA := Lib.hid (show Below w.heap.size w ((((w.alloc (.cells #[.int .i64 1, .string t, .slice none 0 0, .slice none 0 0, .slice none 0 0, .slice none 0 0] 64)).alloc (.cells #[.int .i64 1, .string t, .slice none 0 0, .slice none 0 0, .slice none 0 0, .slice none 0 0] 64)).alloc (.cells #[.func (.func 228) #[] #[]] 256))) from (alloc_old.trans (alloc_old.mono (by simp))).trans (alloc_old.mono (by simp; omega)))
  go_enter Tryz.func211, Tryz.ntmps211
  go_wp2_with (first | (go_at_call 230; (with_reducible refine (q4.out _ _).mono ?_); rintro e w1 ⟨rfl, h1⟩; have B1 := Lib.hid h1; clear h1; refine Hid.out ?_))
  refine Lib.hid ?_
  have B2 := Lib.hid (BA.out.trans (B1.out.mono (Below.size BA.out)))
  obtain ⟨⟨a0, a1, a2, a3, a4, a5⟩, _⟩ := C1.out _ B1.out
  obtain ⟨⟨b0, b1, b2, b3, b4, b5⟩, _⟩ := C2.out _ B1.out
  have D := Lib.hid (show ∀ X, Below w1.heap.size w1 X → X.cell? ⟨w.heap.size, 3, none⟩ = some (.slice none 0 0) ∧ X.cell? ⟨w.heap.size, 4, none⟩ = some (.slice none 0 0) ∧ X.cell? ⟨w.heap.size + 1, 3, none⟩ = some (.slice none 0 0) ∧ X.cell? ⟨w.heap.size + 1, 4, none⟩ = some (.slice none 0 0) from fun X hb =>
    have x1 := (C1.out _ (belT B1.out hb)).1
    have x2 := (C2.out _ (belT B1.out hb)).1
    ⟨x1.2.2.2.1, x1.2.2.2.2.1, x2.2.2.2.1, x2.2.2.2.2.1⟩)
  go_wp2_with (first | (go_at_call 232; (with_reducible refine (q1.out _).mono ?_); rintro e w2 ⟨rfl, h1⟩; have B3 := Lib.hid h1; clear h1; obtain ⟨x1, x2, x3, x4⟩ := D.out _ B3.out) | (go_at_call 233; (with_reducible refine (q2.out _).mono ?_); rintro e w3 ⟨rfl, h1⟩; have B4 := Lib.hid (belT B3.out h1); clear h1; obtain ⟨y1, y2, y3, y4⟩ := D.out _ B4.out) | (go_at_call 234; (with_reducible refine (q3.out _).mono ?_); rintro e w4 ⟨rfl, h1⟩; have B5 := Lib.hid (belT B4.out h1); clear h1))
  go_ret
  exact ⟨by simp, belT B2.out B5.out⟩
set_option maxRecDepth 100000 in
set_option maxHeartbeats 4000000 in
theorem Same_no (t s : ByteArray) (hn : t ≠ s) (w : World) : Calls Tryz.prog 211 #[.agg #[.int .i64 1, .string t, .slice none 0 0, .slice none 0 0, .slice none 0 0, .slice none 0 0], .agg #[.int .i64 1, .string s, .slice none 0 0, .slice none 0 0, .slice none 0 0, .slice none 0 0]] w fun e w' => e = .returned (.bool false) ∧ Below w.heap.size w w' := by
  have hmf : ∀ (fn : Fn) (first cap : Array Value) (w : World), (Instr.makeFunc fn first cap).run Tryz.prog w = .ok (.func fn first cap) w := fun _ _ _ _ => rfl
  have hsf : ∀ (a : Addr) (f : Fn) (x y : Array Value) (w : World) (m : Mode), (store a (.func f x y) m).run Tryz.prog w = stored Tryz.prog w a (.func f x y) m := fun a f x y w m => run_store Tryz.prog w a _ m rfl
  have q1 := Lib.hid (fun w => Eq101 w)
  have q2 := Lib.hid (fun w => Eq102 w)
  have q3 := Lib.hid (fun w => Eq103 w)
  have q4 := Lib.hid (fun f w => Eq99 f w)
  have hq := bytes_ne hn
  have C1 := Lib.hid (fun w1 (hb : Below ((((w.alloc (.cells #[.int .i64 1, .string t, .slice none 0 0, .slice none 0 0, .slice none 0 0, .slice none 0 0] 64)).alloc (.cells #[.int .i64 1, .string s, .slice none 0 0, .slice none 0 0, .slice none 0 0, .slice none 0 0] 64)).alloc (.cells #[.func (.func 228) #[] #[]] 256))).heap.size ((((w.alloc (.cells #[.int .i64 1, .string t, .slice none 0 0, .slice none 0 0, .slice none 0 0, .slice none 0 0] 64)).alloc (.cells #[.int .i64 1, .string s, .slice none 0 0, .slice none 0 0, .slice none 0 0, .slice none 0 0] 64)).alloc (.cells #[.func (.func 228) #[] #[]] 256))) w1) => cells6 (blk_below (show ((((w.alloc (.cells #[.int .i64 1, .string t, .slice none 0 0, .slice none 0 0, .slice none 0 0, .slice none 0 0] 64)).alloc (.cells #[.int .i64 1, .string s, .slice none 0 0, .slice none 0 0, .slice none 0 0, .slice none 0 0] 64)).alloc (.cells #[.func (.func 228) #[] #[]] 256))).heap[w.heap.size]? = some (.cells #[.int .i64 1, .string t, .slice none 0 0, .slice none 0 0, .slice none 0 0, .slice none 0 0] 64) from blk_below (blk_below (heap_alloc_new w _) alloc_old) alloc_old) hb))
  have C2 := Lib.hid (fun w1 (hb : Below ((((w.alloc (.cells #[.int .i64 1, .string t, .slice none 0 0, .slice none 0 0, .slice none 0 0, .slice none 0 0] 64)).alloc (.cells #[.int .i64 1, .string s, .slice none 0 0, .slice none 0 0, .slice none 0 0, .slice none 0 0] 64)).alloc (.cells #[.func (.func 228) #[] #[]] 256))).heap.size ((((w.alloc (.cells #[.int .i64 1, .string t, .slice none 0 0, .slice none 0 0, .slice none 0 0, .slice none 0 0] 64)).alloc (.cells #[.int .i64 1, .string s, .slice none 0 0, .slice none 0 0, .slice none 0 0, .slice none 0 0] 64)).alloc (.cells #[.func (.func 228) #[] #[]] 256))) w1) => cells6 (blk_below (show ((((w.alloc (.cells #[.int .i64 1, .string t, .slice none 0 0, .slice none 0 0, .slice none 0 0, .slice none 0 0] 64)).alloc (.cells #[.int .i64 1, .string s, .slice none 0 0, .slice none 0 0, .slice none 0 0, .slice none 0 0] 64)).alloc (.cells #[.func (.func 228) #[] #[]] 256))).heap[w.heap.size + 1]? = some (.cells #[.int .i64 1, .string s, .slice none 0 0, .slice none 0 0, .slice none 0 0, .slice none 0 0] 64) from blk_below (new_next w _ _) alloc_old) hb))
  have BA := Lib.hid (show Below w.heap.size w ((((w.alloc (.cells #[.int .i64 1, .string t, .slice none 0 0, .slice none 0 0, .slice none 0 0, .slice none 0 0] 64)).alloc (.cells #[.int .i64 1, .string s, .slice none 0 0, .slice none 0 0, .slice none 0 0, .slice none 0 0] 64)).alloc (.cells #[.func (.func 228) #[] #[]] 256))) from (alloc_old.trans (alloc_old.mono (by simp))).trans (alloc_old.mono (by simp; omega)))
  go_enter Tryz.func211, Tryz.ntmps211
  go_wp2_with (first | (go_at_call 230; (with_reducible refine (q4.out _ _).mono ?_); rintro e w1 ⟨rfl, h1⟩; have B1 := Lib.hid h1; clear h1; refine Hid.out ?_))
  refine Lib.hid ?_
  have B2 := Lib.hid (BA.out.trans (B1.out.mono (Below.size BA.out)))
  obtain ⟨⟨a0, a1, a2, a3, a4, a5⟩, _⟩ := C1.out _ B1.out
  obtain ⟨⟨b0, b1, b2, b3, b4, b5⟩, _⟩ := C2.out _ B1.out
  have D := Lib.hid (show ∀ X, Below w1.heap.size w1 X → X.cell? ⟨w.heap.size, 3, none⟩ = some (.slice none 0 0) ∧ X.cell? ⟨w.heap.size, 4, none⟩ = some (.slice none 0 0) ∧ X.cell? ⟨w.heap.size + 1, 3, none⟩ = some (.slice none 0 0) ∧ X.cell? ⟨w.heap.size + 1, 4, none⟩ = some (.slice none 0 0) from fun X hb =>
    have x1 := (C1.out _ (belT B1.out hb)).1
    have x2 := (C2.out _ (belT B1.out hb)).1
    ⟨x1.2.2.2.1, x1.2.2.2.2.1, x2.2.2.2.1, x2.2.2.2.2.1⟩)
  clear D
  go_wp2
  go_ret
  exact ⟨by simp, B2.out⟩
end Go.Proofs.YticlacjpgjkhcaaGreatDoor
