/- The space: a key is taken away. -/
import Derived.Test.YtllaeocclpaiaaaGreatDoorSt18
namespace Go.Proofs.YtllaeocclpaiaaaGreatDoor
open Go.ChangeShapes Go.WideShapes Go.ChangeAt Go.RowKit

set_option maxRecDepth 100000 in
set_option maxHeartbeats 8000000 in
theorem Del19 (bS bM : Nat) (l : MapT.Ents) (k : ByteArray) (k0 t0 : ByteArray) (kd u0 : Int) (A : Option Addr) (n c : Nat) (hf : MapT.find k l = some (.agg #[.string k0, .int .i64 kd, .string t0, .slice A n c, .slice none 0 0, .slice none 0 0, .slice none 0 0, .int .i64 u0])) (w : World) (m0 : Int) (hsz : ∀ X, Below w.heap.size w X → Calls Tryz.prog 11 #[.agg #[.string k0, .int .i64 kd, .string t0, .slice A n c, .slice none 0 0, .slice none 0 0, .slice none 0 0, .int .i64 u0]] X fun e w' => e = .returned (.int .i64 m0) ∧ Below X.heap.size X w') (h : SP w bS bM l) : Calls Tryz.prog 13 #[.pointer (some ⟨bS, 0, none⟩), .string k] w fun e w' => e = .returned (.bool true) ∧ SP w' bS bM (MapT.del k l) ∧ Kp w.heap.size (fun i => i ≠ bS ∧ i ≠ bM) w w' := by
  have hlt := Lib.hid h.lt
  have hr : (if true = true then Value.tuple #[(MapT.find k l).getD (.agg #[.string ⟨#[]⟩, .int .i64 0, .string ⟨#[]⟩, .slice none 0 0, .slice none 0 0, .slice none 0 0, .slice none 0 0, .int .i64 0]), .bool (MapT.find k l).isSome] else (MapT.find k l).getD (.agg #[.string ⟨#[]⟩, .int .i64 0, .string ⟨#[]⟩, .slice none 0 0, .slice none 0 0, .slice none 0 0, .slice none 0 0, .int .i64 0])) = .tuple #[.agg #[.string k0, .int .i64 kd, .string t0, .slice A n c, .slice none 0 0, .slice none 0 0, .slice none 0 0, .int .i64 u0], .bool true] := by rw [hf]; rfl
  have HR := Lib.hid hr
  obtain ⟨hs1, hs2⟩ := h.cell
  obtain ⟨⟨mem, hmem⟩, hMB, hne⟩ := h
  have S1 := Lib.hid hmem
  have M1 := Lib.hid hMB
  clear hmem hMB hf hr
  have w2b := Lib.hid (show Below w.heap.size w (w.alloc (.cells #[.string k0, .int .i64 kd, .string t0, .slice A n c, .slice none 0 0, .slice none 0 0, .slice none 0 0, .int .i64 u0] 33)) from alloc_old)
  have w2n := Lib.hid (show (w.alloc (.cells #[.string k0, .int .i64 kd, .string t0, .slice A n c, .slice none 0 0, .slice none 0 0, .slice none 0 0, .int .i64 u0] 33)).heap[w.heap.size]? = some (.cells #[.string k0, .int .i64 kd, .string t0, .slice A n c, .slice none 0 0, .slice none 0 0, .slice none 0 0, .int .i64 u0] 33) from heap_alloc_new w _)
  go_enter Tryz.func13, Tryz.ntmps13
  go_wp2_with (first | (at_lookup; refine MapT.at_look _ rfl _ _ true rfl Tryz.underlying44 Tryz.underlying9 bM l rfl M1.out k rfl _ (zero33 _) _ HR.out ?_))
  change Code.wp _ _ _ _ (w.alloc (.cells #[.string k0, .int .i64 kd, .string t0, .slice A n c, .slice none 0 0, .slice none 0 0, .slice none 0 0, .int .i64 u0] 33))
  generalize (w.alloc (.cells #[.string k0, .int .i64 kd, .string t0, .slice A n c, .slice none 0 0, .slice none 0 0, .slice none 0 0, .int .i64 u0] 33)) = w2 at w2b w2n ⊢
  have BW := Lib.hid w2b
  have Q2 := Lib.hid (show Kp w.heap.size (fun i => i ≠ bS ∧ i ≠ bM) w w2 from .of BW.out)
  have S2 := Lib.hid (blk_below S1.out BW.out)
  have M2 := Lib.hid (M1.out.below BW.out)
  have w2n := Lib.hid w2n
  clear w2b
  obtain ⟨cm2, cf2⟩ := mem53 S2.out
  obtain ⟨⟨g0, g1, g2, g3, g4, g5, g6, g7⟩, _, gz⟩ := cells8 w2n.out
  have Z7 := Lib.hid (hsz w2.drew BW.out.drew)
  go_region_with ((go_at_call 11; (with_reducible refine (Z7.out).mono ?_); rintro e w3 ⟨rfl, h5⟩; have B3 : Below w2.heap.size w2 w3 := belT (Below.refl w2.heap.size w2).drew h5; clear h5; obtain ⟨cm3, cf3⟩ := mem53 (blk_below S2.out B3)))
  all_goals (
    change Exit.then _ _ _ _ (w3.setCell ⟨bS, 1, none⟩ (.int .i64 (IntKind.i64.wrap (mem - m0))))
    have S4 := Lib.hid (set53 (blk_below S2.out B3) (.int .i64 (IntKind.i64.wrap (mem - m0))))
    have M4 := Lib.hid ((M2.out.below B3).kept (Below.heap_setCell w3 ⟨bS, 1, none⟩ (.int .i64 (IntKind.i64.wrap (mem - m0))) bM (Ne.symm hne)))
    have Q4 := Lib.hid (((Q2.out.trans (.of (B3.mono Q2.out.size))).setCell (p := ⟨bS, 1, none⟩) (by simp) (.int .i64 (IntKind.i64.wrap (mem - m0)))))
    clear cm2 cf2 cm3 cf3 g0 g1 g2 g3 g4 g5 g6 g7 gz Z7 B3
    generalize w3.setCell ⟨bS, 1, none⟩ (.int .i64 (IntKind.i64.wrap (mem - m0))) = w4 at S4 M4 Q4 ⊢
    have cM4 := cell53 S4.out
    obtain ⟨w5, hrun, r1, r2, r3⟩ := MapT.run_delete Tryz.underlying44 Tryz.underlying9 M4.out k #[44, 9] rfl 0
    have S5 := Lib.hid ((grown_block r2 (lt_blk S4.out) hne).trans S4.out)
    have Q5 := Lib.hid (Q4.out.grown r2 Q4.out.size (fun k hk _ hS => hS.2 (Option.some.inj hk).symm))
    go_wp2
    go_ret
    exact ⟨by simp, ⟨⟨_, S5.out⟩, r1, hne⟩, Q5.out⟩)
end Go.Proofs.YtllaeocclpaiaaaGreatDoor
