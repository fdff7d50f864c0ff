/- Texts joined: HN, HO, HQ -/
import Derived.Test.YtjfejmdnjbekkaaGreatDoorQb12
import Derived.Test.YtjfejmdnjbekkaaGreatDoorQb11
set_option linter.unusedVariables false
set_option linter.unusedSimpArgs false

/- undo.Do at an effect that lays a new text. -/
namespace Go.Proofs.YtjfejmdnjbekkaaGreatDoor
open Go.ChangeShapes Go.WideShapes Go.ChangeAt Go.RowKit

theorem bel8h {W X : World} {b c : Nat} (h : Below c W X) (hb : c ≤ b) (v0 v1 v2 v3 v4 v5 v6 v7 : Value) : Below c W ((((((((X.setCell ⟨b, 0, none⟩ v0).setCell ⟨b, 1, none⟩ v1).setCell ⟨b, 2, none⟩ v2).setCell ⟨b, 3, none⟩ v3).setCell ⟨b, 4, none⟩ v4).setCell ⟨b, 5, none⟩ v5).setCell ⟨b, 6, none⟩ v6).setCell ⟨b, 7, none⟩ v7) :=
  (((((((h.setCell (p := ⟨b, 0, none⟩) hb _).setCell (p := ⟨b, 1, none⟩) hb _).setCell (p := ⟨b, 2, none⟩) hb _).setCell (p := ⟨b, 3, none⟩) hb _).setCell (p := ⟨b, 4, none⟩) hb _).setCell (p := ⟨b, 5, none⟩) hb _).setCell (p := ⟨b, 6, none⟩) hb _).setCell (p := ⟨b, 7, none⟩) hb _
theorem set8of8 {X : World} {b : Nat} {a0 a1 a2 a3 a4 a5 a6 a7 : Value} {t : TypeId} (h : X.heap[b]? = some (.cells #[a0, a1, a2, a3, a4, a5, a6, a7] t)) (v0 v1 v2 v3 v4 v5 v6 v7 : Value) : ((((((((X.setCell ⟨b, 0, none⟩ v0).setCell ⟨b, 1, none⟩ v1).setCell ⟨b, 2, none⟩ v2).setCell ⟨b, 3, none⟩ v3).setCell ⟨b, 4, none⟩ v4).setCell ⟨b, 5, none⟩ v5).setCell ⟨b, 6, none⟩ v6).setCell ⟨b, 7, none⟩ v7).heap[b]? = some (.cells #[v0, v1, v2, v3, v4, v5, v6, v7] t) := by
  simp [World.setCell, Array.getElem?_modify, h]
theorem iNt : (Tryz.prog.info? 102).map (fun i => (i.zero, i.size, i.bytes)) = some (some (.agg #[.string ⟨#[]⟩, .int .i64 0, .string ⟨#[]⟩, .slice none 0 0, .slice none 0 0, .slice none 0 0, .slice none 0 0, .int .i64 0, .string ⟨#[]⟩, .int .i64 0, .string ⟨#[]⟩, .slice none 0 0, .slice none 0 0, .slice none 0 0, .slice none 0 0, .int .i64 0, .bool false]), 17, 296) := by kernel_rfl
/-- A note is appended to none. -/
theorem step_note {ops : Array Oper} {o : Oper} {a : Act} {K : Act → World → Prop} {Q : Exit → Act → World → Prop} {E : Prop} (w : World) (hgd : o.guard = none) (s x : Operand) (hop : o.op = Op.call { callee := Callee.builtin Builtin.append, args := #[s, x], argTypes := #[58, 58] })
    (hs : a.eval s = .slice none 0 0) (cs : List Value) (hcs : cs.length = 17) (h1 : ∀ u ∈ cs, u.oneCell' = true) (b : Nat) (hx : a.eval x = .slice (some ⟨b, 0, none⟩) 1 1) (hb : w.heap[b]? = some (.cells cs.toArray 102))
    (k : ∀ g cap w', Below w.heap.size w w' → K (a.put o.dst (.slice (some ⟨g, 0, none⟩) 1 cap)) w') : if Region.wanted o (yielded ops a.tmps) = true then Oper.wp Tryz.prog o a w K Q else E := by
  obtain ⟨i0, hi, hz0, hz1, hz2⟩ := info_parts iNt
  refine step_append_lies w hgd s x 58 hop w.heap.size 102 i0 _ 17 296 Tryz.underlying58 hi hz0 hz1 hz2 rfl (by decide) _ 0 [] hs (World.ownsRow_nil _ _ _ _) ⟨b, 0, none⟩ 1 1 cs hx (by rw [hcs]) (news_blk hb) h1 (by decide) (by decide) (by decide) (Nat.le_refl _) _ rfl ?_
  intro g cap w' _ h2 _ _
  exact k g cap w' ((Below.refl _ _).grown h2 (Nat.le_refl _) (fun k hk => by cases hk))
set_option maxRecDepth 100000 in
set_option maxHeartbeats 8000000 in
theorem uDo_new (u bS bM : Nat) (k t : ByteArray) (hk1 : 1 ≤ k.size) (hk : k.size ≤ 512) (ht : t.size ≤ 4096) (mem : Int) (w : World) (hu : w.heap[u]? = some (.cells #[.pointer (some ⟨bS, 0, none⟩), .slice none 0 0] 60)) (hmem : w.heap[bS]? = some (.cells #[.map (some bM), .int .i64 mem] 57)) (h : SP w bS bM []) (hub : u ≠ bS ∧ u ≠ bM) : Calls Tryz.prog 41 #[.pointer (some ⟨u, 0, none⟩), effV k t] w fun e w' => e = .returned (.int .i64 0) ∧ w'.heap[bS]? = some (.cells #[.map (some bM), .int .i64 (IntKind.i64.wrap (mem + (48 + (k.size : Int) + t.size)))] 57) ∧ Kp w.heap.size (fun i => i ≠ bS ∧ i ≠ bM ∧ i ≠ u) w w' := by
  have A1 := Lib.hid (alloc_old (w := w) (o := .cells #[.string k, .int .i64 1, .string t, .slice none 0 0, .slice none 0 0, .slice none 0 0, .slice none 0 0, .int .i64 0] 86))
  have z1 := Lib.hid (heap_alloc_new w (.cells #[.string k, .int .i64 1, .string t, .slice none 0 0, .slice none 0 0, .slice none 0 0, .slice none 0 0, .int .i64 0] 86))
  have u1 := Lib.hid (blk_below hu A1.out)
  have HN := Lib.hid (fun X (hX : Below w.heap.size w X) => Has_no bS bM [] k rfl X (h.below hX))
  have AP := Lib.hid (fun X (hX : Below w.heap.size w X) => Apply_new bS bM k t hk1 hk ht mem X (blk_below hmem hX) (h.below hX))
  have hlu := lt_blk hu
  have hlS := lt_blk hmem
  have hlM := h.2.1.lt
  clear hu hmem h
  go_enter Tryz.func41, Tryz.ntmps41
  go_wp2
  generalize w.alloc (.cells #[.string k, .int .i64 1, .string t, .slice none 0 0, .slice none 0 0, .slice none 0 0, .slice none 0 0, .int .i64 0] 86) = W1 at A1 z1 u1 ⊢
  have KH := Lib.hid (show ∀ X, Below W1.heap.size W1 X → (X.cell? ⟨u, 0, none⟩ = some (.pointer (some ⟨bS, 0, none⟩)) ∧ X.cell? ⟨w.heap.size, 0, none⟩ = some (.string k)) from fun X hb => ⟨(cellsU (blk_below u1.out hb)).1, (cells8 (blk_below z1.out hb)).1.1⟩)
  have K0 := Lib.hid (Below.refl W1.heap.size W1).drew
  have K1 := Lib.hid (show Below W1.heap.size W1 (W1.alloc (.cells #[.string ⟨#[]⟩, .int .i64 0, .string ⟨#[]⟩, .slice none 0 0, .slice none 0 0, .slice none 0 0, .slice none 0 0, .int .i64 0] 84)).drew from alloc_old.drew)
  have K2 := Lib.hid (show ∀ X, Below W1.heap.size W1 X → Below W1.heap.size W1 (X.alloc (.cells #[.string ⟨#[]⟩, .int .i64 0, .string ⟨#[]⟩, .slice none 0 0, .slice none 0 0, .slice none 0 0, .slice none 0 0, .int .i64 0] 84)) from fun X hX => hX.trans (alloc_old.mono (Below.size hX)))
  have KT := Lib.hid (show ∀ X Y, Below W1.heap.size W1 X → Below X.heap.size X Y → Below W1.heap.size W1 Y from fun X Y hX hY => hX.trans (hY.mono (Below.size hX)))
  have S0 := Lib.hid (KH.out _ K0.out)
  have S1 := Lib.hid (KH.out _ K1.out)
  have H0 := Lib.hid (HN.out W1.drew (A1.out.trans (K0.out.mono (Below.size A1.out))))
  have H1 := Lib.hid (HN.out (W1.alloc (.cells #[.string ⟨#[]⟩, .int .i64 0, .string ⟨#[]⟩, .slice none 0 0, .slice none 0 0, .slice none 0 0, .slice none 0 0, .int .i64 0] 84)).drew (A1.out.trans (K1.out.mono (Below.size A1.out))))
  have o1 := Lib.hid (show (W1.alloc (.cells #[.string ⟨#[]⟩, .int .i64 0, .string ⟨#[]⟩, .slice none 0 0, .slice none 0 0, .slice none 0 0, .slice none 0 0, .int .i64 0] 84)).drew.heap[W1.heap.size]? = some (.cells #[.string ⟨#[]⟩, .int .i64 0, .string ⟨#[]⟩, .slice none 0 0, .slice none 0 0, .slice none 0 0, .slice none 0 0, .int .i64 0] 84) from heap_alloc_new W1 _)
  go_region_held3 (fun X => X.cell? ⟨u, 0, none⟩ = some (.pointer (some ⟨bS, 0, none⟩)) ∧ X.cell? ⟨w.heap.size, 0, none⟩ = some (.string k)) (first | (with_reducible exact S0.out) | (with_reducible exact S1.out) | (with_reducible exact S5.out) | (with_reducible exact S6.out) | (with_reducible exact S7.out)) (first | (go_at_call 47; (with_reducible refine (H0.out).mono ?_); rintro e w5 ⟨rfl, h5⟩; have B5 := KT.out _ _ K0.out h5; have S5 := Lib.hid (KH.out _ B5); have S6 := Lib.hid (KH.out _ (K2.out _ B5)); clear h5) | (go_at_call 47; (with_reducible refine (H1.out).mono ?_); rintro e w5 ⟨rfl, h5⟩; have B5 := KT.out _ _ K1.out h5; have S5 := Lib.hid (KH.out _ B5); have o5 := blk_below o1.out h5; clear h5; have B8 := bel8h B5 (Nat.le_refl _) (.string ⟨#[]⟩) (.int .i64 0) (.string ⟨#[]⟩) (.slice none 0 0) (.slice none 0 0) (.slice none 0 0) (.slice none 0 0) (.int .i64 0); have S7 := Lib.hid (KH.out _ B8); obtain ⟨_, ⟨f0, f1, f2, f3, f4, f5, f6, f7⟩, fz⟩ := cells8 o5))
  have FX := Lib.hid (show (Below w.heap.size w (w5.alloc (.cells #[.string ⟨#[]⟩, .int .i64 0, .string ⟨#[]⟩, .slice none 0 0, .slice none 0 0, .slice none 0 0, .slice none 0 0, .int .i64 0] 84)) ∧ (w5.alloc (.cells #[.string ⟨#[]⟩, .int .i64 0, .string ⟨#[]⟩, .slice none 0 0, .slice none 0 0, .slice none 0 0, .slice none 0 0, .int .i64 0] 84)).heap[u]? = some (.cells #[.pointer (some ⟨bS, 0, none⟩), .slice none 0 0] 60) ∧ (w5.alloc (.cells #[.string ⟨#[]⟩, .int .i64 0, .string ⟨#[]⟩, .slice none 0 0, .slice none 0 0, .slice none 0 0, .slice none 0 0, .int .i64 0] 84)).heap[w.heap.size]? = some (.cells #[.string k, .int .i64 1, .string t, .slice none 0 0, .slice none 0 0, .slice none 0 0, .slice none 0 0, .int .i64 0] 86) ∧ (w5.alloc (.cells #[.string ⟨#[]⟩, .int .i64 0, .string ⟨#[]⟩, .slice none 0 0, .slice none 0 0, .slice none 0 0, .slice none 0 0, .int .i64 0] 84)).heap[w5.heap.size]? = some (.cells #[.string ⟨#[]⟩, .int .i64 0, .string ⟨#[]⟩, .slice none 0 0, .slice none 0 0, .slice none 0 0, .slice none 0 0, .int .i64 0] 84) ∧ w.heap.size < w5.heap.size) from ⟨A1.out.trans ((K2.out _ B5).mono (Below.size A1.out)), blk_below u1.out (K2.out _ B5), blk_below z1.out (K2.out _ B5), heap_alloc_new w5 _, Nat.lt_of_lt_of_le (lt_blk z1.out) (Below.size B5)⟩)
  clear KH K0 K1 K2 KT H0 H1 S0 S1 S5 S6 o1 z1 u1 A1 B5 HN
  generalize w5.alloc (.cells #[.string ⟨#[]⟩, .int .i64 0, .string ⟨#[]⟩, .slice none 0 0, .slice none 0 0, .slice none 0 0, .slice none 0 0, .int .i64 0] 84) = X at FX ⊢
  generalize w5.heap.size = b at FX ⊢
  rotate_left
  have FX := Lib.hid (And.intro (A1.out.trans (B8.mono (Below.size A1.out))) (And.intro (blk_below u1.out B8) (And.intro (blk_below z1.out B8) (And.intro (set8of8 o5 (.string ⟨#[]⟩) (.int .i64 0) (.string ⟨#[]⟩) (.slice none 0 0) (.slice none 0 0) (.slice none 0 0) (.slice none 0 0) (.int .i64 0)) (lt_blk z1.out)))))
  clear KH K0 K1 K2 KT H0 H1 S0 S1 S5 S7 o1 z1 u1 A1 B5 B8 HN f0 f1 f2 f3 f4 f5 f6 f7 fz o5
  generalize ((((((((w5.setCell ⟨W1.heap.size, 0, none⟩ (.string ⟨#[]⟩)).setCell ⟨W1.heap.size, 1, none⟩ (.int .i64 0)).setCell ⟨W1.heap.size, 2, none⟩ (.string ⟨#[]⟩)).setCell ⟨W1.heap.size, 3, none⟩ (.slice none 0 0)).setCell ⟨W1.heap.size, 4, none⟩ (.slice none 0 0)).setCell ⟨W1.heap.size, 5, none⟩ (.slice none 0 0)).setCell ⟨W1.heap.size, 6, none⟩ (.slice none 0 0)).setCell ⟨W1.heap.size, 7, none⟩ (.int .i64 0)) = X at FX ⊢
  generalize W1.heap.size = b at FX ⊢
  rotate_right
  all_goals (
    have KH := Lib.hid (show ∀ Y, Below X.heap.size X Y → (Y.cell? ⟨u, 0, none⟩ = some (.pointer (some ⟨bS, 0, none⟩)) ∧ Y.cell? ⟨w.heap.size, 0, none⟩ = some (.string k) ∧ Y.cell? ⟨w.heap.size, 1, none⟩ = some (.int .i64 1) ∧ Y.cell? ⟨w.heap.size, 2, none⟩ = some (.string t) ∧ Y.cell? ⟨w.heap.size, 3, none⟩ = some (.slice none 0 0) ∧ Y.cell? ⟨w.heap.size, 4, none⟩ = some (.slice none 0 0) ∧ Y.cell? ⟨w.heap.size, 5, none⟩ = some (.slice none 0 0) ∧ Y.cell? ⟨w.heap.size, 6, none⟩ = some (.slice none 0 0) ∧ Y.cell? ⟨w.heap.size, 7, none⟩ = some (.int .i64 0)) from fun Y hb => ⟨(cellsU (blk_below FX.out.2.1 hb)).1, (cells8 (blk_below FX.out.2.2.1 hb)).1⟩)
    have S0 := Lib.hid (KH.out X.drew (Below.refl X.heap.size X).drew)
    have AX := Lib.hid (AP.out X.drew FX.out.1.drew)
    have KK := Lib.hid (show ∀ Y, Kp X.drew.heap.size (fun i => i ≠ bS ∧ i ≠ bM) X.drew Y → (Y.heap[u]? = some (.cells #[.pointer (some ⟨bS, 0, none⟩), .slice none 0 0] 60) ∧ Y.heap[w.heap.size]? = some (.cells #[.string k, .int .i64 1, .string t, .slice none 0 0, .slice none 0 0, .slice none 0 0, .slice none 0 0, .int .i64 0] 86) ∧ Y.heap[b]? = some (.cells #[.string ⟨#[]⟩, .int .i64 0, .string ⟨#[]⟩, .slice none 0 0, .slice none 0 0, .slice none 0 0, .slice none 0 0, .int .i64 0] 84) ∧ Kp w.heap.size (fun i => i ≠ bS ∧ i ≠ bM) w Y) from fun Y hY => by
      have lb : b < X.heap.size := lt_blk FX.out.2.2.2.1
      have lz : w.heap.size < X.heap.size := lt_blk FX.out.2.2.1
      have lu : u < X.heap.size := by omega
      have hb := FX.out.2.2.2.2
      exact ⟨(hY.block u lu hub).trans FX.out.2.1, (hY.block _ lz ⟨by omega, by omega⟩).trans FX.out.2.2.1, (hY.block b lb ⟨by omega, by omega⟩).trans FX.out.2.2.2.1, (Kp.of FX.out.1.drew).trans (hY.mono (Nat.le_of_lt lz) (fun i hi => hi))⟩)
    go_wp2
    go_region_held3 (fun Y => Y.cell? ⟨u, 0, none⟩ = some (.pointer (some ⟨bS, 0, none⟩)) ∧ Y.cell? ⟨w.heap.size, 0, none⟩ = some (.string k) ∧ Y.cell? ⟨w.heap.size, 1, none⟩ = some (.int .i64 1) ∧ Y.cell? ⟨w.heap.size, 2, none⟩ = some (.string t) ∧ Y.cell? ⟨w.heap.size, 3, none⟩ = some (.slice none 0 0) ∧ Y.cell? ⟨w.heap.size, 4, none⟩ = some (.slice none 0 0) ∧ Y.cell? ⟨w.heap.size, 5, none⟩ = some (.slice none 0 0) ∧ Y.cell? ⟨w.heap.size, 6, none⟩ = some (.slice none 0 0) ∧ Y.cell? ⟨w.heap.size, 7, none⟩ = some (.int .i64 0)) (first | (with_reducible exact S0.out) | (with_reducible exact S7.out)) (first | (go_at_call 48; (with_reducible refine (AX.out).mono ?_); rintro e w7 ⟨rfl, ⟨h6, h6b⟩, h7⟩; have M7 := Lib.hid h6; have Q7 := Lib.hid (KK.out _ h7); have S7 := Lib.hid (And.intro (cellsU Q7.out.1).1 (cells8 Q7.out.2.1).1); clear h6 h6b h7))
    have VC := Lib.hid (fun Y => VClone25 1 t Y)
    obtain ⟨⟨c0, c1, c2, c3, c4, c5, c6, c7⟩, ⟨f0, f1, f2, f3, f4, f5, f6, f7⟩, fz⟩ := cells8 Q7.out.2.1
    go_wp2_with (first | (go_at_call 49; (with_reducible refine (VC.out _).mono ?_); rintro e w8 ⟨rfl, h8⟩; have Q8 := Lib.hid h8; obtain ⟨⟨d0, d1, d2, d3, d4, d5, d6, d7⟩, ⟨e0, e1, e2, e3, e4, e5, e6, e7⟩, ez⟩ := cells8 (blk_below Q7.out.2.1 h8); clear c0 c1 c2 c3 c4 c5 c6 c7 f0 f1 f2 f3 f4 f5 f6 f7 fz h8))
    have lz := lt_blk FX.out.2.2.1
    have hb9 := FX.out.2.2.2.2
    have FY := Lib.hid (show (((((((w8.setCell ⟨w.heap.size, 1, none⟩ (.int .i64 1)).setCell ⟨w.heap.size, 2, none⟩ (.string t)).setCell ⟨w.heap.size, 3, none⟩ (.slice none 0 0)).setCell ⟨w.heap.size, 4, none⟩ (.slice none 0 0)).setCell ⟨w.heap.size, 5, none⟩ (.slice none 0 0)).setCell ⟨w.heap.size, 6, none⟩ (.slice none 0 0)).heap[u]? = some (.cells #[.pointer (some ⟨bS, 0, none⟩), .slice none 0 0] 60) ∧ ((((((w8.setCell ⟨w.heap.size, 1, none⟩ (.int .i64 1)).setCell ⟨w.heap.size, 2, none⟩ (.string t)).setCell ⟨w.heap.size, 3, none⟩ (.slice none 0 0)).setCell ⟨w.heap.size, 4, none⟩ (.slice none 0 0)).setCell ⟨w.heap.size, 5, none⟩ (.slice none 0 0)).setCell ⟨w.heap.size, 6, none⟩ (.slice none 0 0)).heap[w.heap.size]? = some (.cells #[.string k, .int .i64 1, .string t, .slice none 0 0, .slice none 0 0, .slice none 0 0, .slice none 0 0, .int .i64 0] 86) ∧ ((((((w8.setCell ⟨w.heap.size, 1, none⟩ (.int .i64 1)).setCell ⟨w.heap.size, 2, none⟩ (.string t)).setCell ⟨w.heap.size, 3, none⟩ (.slice none 0 0)).setCell ⟨w.heap.size, 4, none⟩ (.slice none 0 0)).setCell ⟨w.heap.size, 5, none⟩ (.slice none 0 0)).setCell ⟨w.heap.size, 6, none⟩ (.slice none 0 0)).heap[b]? = some (.cells #[.string ⟨#[]⟩, .int .i64 0, .string ⟨#[]⟩, .slice none 0 0, .slice none 0 0, .slice none 0 0, .slice none 0 0, .int .i64 0] 84) ∧ ((((((w8.setCell ⟨w.heap.size, 1, none⟩ (.int .i64 1)).setCell ⟨w.heap.size, 2, none⟩ (.string t)).setCell ⟨w.heap.size, 3, none⟩ (.slice none 0 0)).setCell ⟨w.heap.size, 4, none⟩ (.slice none 0 0)).setCell ⟨w.heap.size, 5, none⟩ (.slice none 0 0)).setCell ⟨w.heap.size, 6, none⟩ (.slice none 0 0)).heap[bS]? = some (.cells #[.map (some bM), .int .i64 (IntKind.i64.wrap (mem + (48 + (k.size : Int) + t.size)))] 57) ∧ Kp w.heap.size (fun i => i ≠ bS ∧ i ≠ bM) w ((((((w8.setCell ⟨w.heap.size, 1, none⟩ (.int .i64 1)).setCell ⟨w.heap.size, 2, none⟩ (.string t)).setCell ⟨w.heap.size, 3, none⟩ (.slice none 0 0)).setCell ⟨w.heap.size, 4, none⟩ (.slice none 0 0)).setCell ⟨w.heap.size, 5, none⟩ (.slice none 0 0)).setCell ⟨w.heap.size, 6, none⟩ (.slice none 0 0))) from ⟨(far6 _ _ _ _ _ _ (by omega)).trans (blk_below Q7.out.1 Q8.out), set6of8 (blk_below Q7.out.2.1 Q8.out) _ _ _ _ _ _, (far6 _ _ _ _ _ _ (by omega)).trans (blk_below Q7.out.2.2.1 Q8.out), (far6 _ _ _ _ _ _ (by omega)).trans (blk_below M7.out Q8.out), (Q7.out.2.2.2).trans (.of (bel6 (Q8.out.mono Q7.out.2.2.2.size) (Nat.le_refl _) _ _ _ _ _ _))⟩)
    clear d0 d1 d2 d3 d4 d5 d6 d7 e0 e1 e2 e3 e4 e5 e6 e7 ez Q8 Q7 M7 S7 KK AX S0 KH VC
    generalize ((((((w8.setCell ⟨w.heap.size, 1, none⟩ (.int .i64 1)).setCell ⟨w.heap.size, 2, none⟩ (.string t)).setCell ⟨w.heap.size, 3, none⟩ (.slice none 0 0)).setCell ⟨w.heap.size, 4, none⟩ (.slice none 0 0)).setCell ⟨w.heap.size, 5, none⟩ (.slice none 0 0)).setCell ⟨w.heap.size, 6, none⟩ (.slice none 0 0)) = Y at FY ⊢
    obtain ⟨⟨c0, c1, c2, c3, c4, c5, c6, c7⟩, _, _⟩ := cells8 FY.out.2.1
    obtain ⟨⟨d0, d1, d2, d3, d4, d5, d6, d7⟩, _, _⟩ := cells8 FY.out.2.2.1
    obtain ⟨_, u1, uf⟩ := cellsU FY.out.1
    have AY := Lib.hid (show Below Y.heap.size Y (Y.alloc (.cells #[.string k, .int .i64 1, .string t, .slice none 0 0, .slice none 0 0, .slice none 0 0, .slice none 0 0, .int .i64 0, .string ⟨#[]⟩, .int .i64 0, .string ⟨#[]⟩, .slice none 0 0, .slice none 0 0, .slice none 0 0, .slice none 0 0, .int .i64 0, .bool false] 102)).drew from alloc_old.drew)
    obtain ⟨⟨g0, g1, g2, g3, g4, g5, g6, g7⟩, _, _⟩ := cells8 (blk_below FY.out.2.1 AY.out)
    obtain ⟨⟨h0, h1, h2, h3, h4, h5, h6, h7⟩, _, _⟩ := cells8 (blk_below FY.out.2.2.1 AY.out)
    obtain ⟨_, k1, kf⟩ := cellsU (blk_below FY.out.1 AY.out)
    have nY := Lib.hid (show (Y.alloc (.cells #[.string k, .int .i64 1, .string t, .slice none 0 0, .slice none 0 0, .slice none 0 0, .slice none 0 0, .int .i64 0, .string ⟨#[]⟩, .int .i64 0, .string ⟨#[]⟩, .slice none 0 0, .slice none 0 0, .slice none 0 0, .slice none 0 0, .int .i64 0, .bool false] 102)).drew.heap[Y.heap.size]? = some (.cells [.string k, .int .i64 1, .string t, .slice none 0 0, .slice none 0 0, .slice none 0 0, .slice none 0 0, .int .i64 0, .string ⟨#[]⟩, .int .i64 0, .string ⟨#[]⟩, .slice none 0 0, .slice none 0 0, .slice none 0 0, .slice none 0 0, .int .i64 0, .bool false].toArray 102) from heap_alloc_new Y _)
    have UY := Lib.hid (show ∀ Z, Below (Y.alloc (.cells #[.string k, .int .i64 1, .string t, .slice none 0 0, .slice none 0 0, .slice none 0 0, .slice none 0 0, .int .i64 0, .string ⟨#[]⟩, .int .i64 0, .string ⟨#[]⟩, .slice none 0 0, .slice none 0 0, .slice none 0 0, .slice none 0 0, .int .i64 0, .bool false] 102)).drew.heap.size (Y.alloc (.cells #[.string k, .int .i64 1, .string t, .slice none 0 0, .slice none 0 0, .slice none 0 0, .slice none 0 0, .int .i64 0, .string ⟨#[]⟩, .int .i64 0, .string ⟨#[]⟩, .slice none 0 0, .slice none 0 0, .slice none 0 0, .slice none 0 0, .int .i64 0, .bool false] 102)).drew Z → Below Y.heap.size Y Z from fun Z hZ => AY.out.trans (hZ.mono (Below.size AY.out)))
    have ON := Lib.hid (show ∀ x ∈ [.string k, .int .i64 1, .string t, .slice none 0 0, .slice none 0 0, .slice none 0 0, .slice none 0 0, .int .i64 0, .string ⟨#[]⟩, .int .i64 0, .string ⟨#[]⟩, .slice none 0 0, .slice none 0 0, .slice none 0 0, .slice none 0 0, .int .i64 0, .bool false], Value.oneCell' x = true from fun x hx => by simp only [List.mem_cons, List.not_mem_nil, or_false] at hx; rcases hx with rfl | rfl | rfl | rfl | rfl | rfl | rfl | rfl | rfl | rfl | rfl | rfl | rfl | rfl | rfl | rfl | rfl <;> rfl)
    go_region_law (first | (refine step_note _ rfl _ _ rfl rfl [.string k, .int .i64 1, .string t, .slice none 0 0, .slice none 0 0, .slice none 0 0, .slice none 0 0, .int .i64 0, .string ⟨#[]⟩, .int .i64 0, .string ⟨#[]⟩, .slice none 0 0, .slice none 0 0, .slice none 0 0, .slice none 0 0, .int .i64 0, .bool false] rfl ON.out _ rfl nY.out ?_; intro g9 cap9 w9 hB9; have B9 := Lib.hid (UY.out w9 hB9); obtain ⟨_, v1, vf⟩ := cellsU (blk_below FY.out.1 B9.out); clear hB9))
    all_goals (
      go_wp2
      go_ret
      exact ⟨rfl, (Below.heap_setCell _ ⟨u, 1, none⟩ _ bS (Ne.symm hub.1)).trans (blk_below FY.out.2.2.2.1 B9.out), ((FY.out.2.2.2.2.trans (.of (B9.out.mono FY.out.2.2.2.2.size))).mono (Nat.le_refl _) (fun i hi => ⟨hi.1, hi.2.1⟩)).setCell (p := ⟨u, 1, none⟩) (by simp) _⟩))
end Go.Proofs.YtjfejmdnjbekkaaGreatDoor

/- exec.Do of "incr" of a key that is not there. -/
namespace Go.Proofs.YtjfejmdnjbekkaaGreatDoor
open Go.ChangeShapes Go.WideShapes Go.ChangeAt Go.RowKit

set_option maxRecDepth 100000 in
set_option maxHeartbeats 4000000 in
theorem execs_is (w : World) : Calls Tryz.prog 46 #[] w fun e w' => e = .returned (.slice (some ⟨w.heap.size, 0, none⟩) 6 6) ∧ w'.cell? ⟨w.heap.size, 0, none⟩ = some (.func (.func 56) #[] #[]) ∧ w'.cell? ⟨w.heap.size, 1, none⟩ = some (.func (.func 57) #[] #[]) ∧ w.heap.size < w'.heap.size ∧ Below w.heap.size w w' := by
  go_enter Tryz.func46, Tryz.ntmps46
  go_wp2
  go_ret
  refine ⟨rfl, ?_, ?_, ?_, alloc_old⟩
  · rw [cell_of_row _ w.heap.size _ _ 95 (0, 0) (heap_alloc_new w _)]; rfl
  · rw [cell_of_row _ w.heap.size _ _ 95 (0, 0) (heap_alloc_new w _)]; rfl
  · rw [World.size_alloc]; omega
theorem ent_kDo (args : Array Value) (w : World) : (callFunc 56 args).run Tryz.prog w = .ok (.enter 56 args) w := by kernel_rfl
theorem ent_stDo (args : Array Value) (w : World) : (callFunc 57 args).run Tryz.prog w = .ok (.enter 57 args) w := by kernel_rfl
set_option maxRecDepth 100000 in
set_option maxHeartbeats 8000000 in
theorem eDo_incr (W0 : World) (hT : Tab W0) (bS bM : Nat) (l : MapT.Ents) (now : Int) (k : ByteArray) (hk1 : 1 ≤ k.size) (hk : k.size ≤ 512) (hf : MapT.find k l = none) (vA : Value) (w : World) (hI : Below W0.heap.size W0 w) (hS : SP w bS bM l) (hA : SSl w vA [⟨#[105, 110, 99, 114]⟩, k]) :
    Calls Tryz.prog 38 #[.pointer (some ⟨bS, 0, none⟩), .int .i64 now, vA] w fun e w' => ∃ A' n' c', e = .returned (.tuple #[.agg #[.int .i64 3, .int .i64 1, .string ⟨#[]⟩, .slice none 0 0], .slice A' n' c']) ∧ EF w' w.heap.size (.slice A' n' c') [⟨k, 1, ⟨#[49]⟩, 0⟩] ∧ Below w.heap.size w w' := by
  have A1 := Lib.hid (alloc_old (w := w) (o := .cells #[.int .i64 0, .int .i64 0, .string ⟨#[]⟩, .slice none 0 0] 24))
  have r1 := Lib.hid (heap_alloc_new w (.cells #[.int .i64 0, .int .i64 0, .string ⟨#[]⟩, .slice none 0 0] 24))
  have FT := Lib.hid (Fits_incr_low vA _ rfl (by simp) (by simp) _ (hA.below A1.out))
  have UP := Lib.hid hu_incr_low
  have EX := Lib.hid (fun X => execs_is X)
  have KD := Lib.hid (fun X (hX : Below w.heap.size w X) => kDo_incr bS now k vA X (hA.below hX))
  have SD := Lib.hid (fun X (hX : Below w.heap.size w X) => stDo_incr W0 hT bS bM l now k hk1 hk hf vA X (hI.trans (hX.mono (Below.size hI))) (hS.below hX) (hA.below hX))
  obtain ⟨aA, cap, hv, p1, p2, p3⟩ := hA
  replace hv : vA = .slice aA 2 cap := hv
  obtain ⟨blk, off, rfl, hblt, hc⟩ := p3 (by simp)
  have CA := Lib.hid (show ∀ X, Below w.heap.size w X → X.cell? ⟨blk, off, none⟩ = some (.string ⟨#[105, 110, 99, 114]⟩) from fun X hX => (hX.cell (p := ⟨blk, off, none⟩) hblt).trans (hc 0 _ rfl))
  clear hT hI hS p3 hc hf p1 p2 hblt
  subst hv
  have i0 : (0 : Int) < 2 := by decide
  have hsf : ∀ (a : Addr) (f : Fn) (x y : Array Value) (w : World) (m : Mode), (store a (.func f x y) m).run Tryz.prog w = stored Tryz.prog w a (.func f x y) m := fun a f x y w m => run_store Tryz.prog w a _ m rfl
  go_enter Tryz.func38, Tryz.ntmps38
  go_wp2_with (first | (go_at_call 28; (with_reducible refine (FT.out).mono ?_); rintro e x1 ⟨rfl, h1⟩; have B1 := Lib.hid (A1.out.trans (h1.mono (Below.size A1.out))); have r2 := Lib.hid (blk_below r1.out h1); clear h1; have ca := CA.out _ B1.out) | (go_at_call 30; (with_reducible refine (UP.out _).mono ?_); rintro e x2 ⟨rfl, h1⟩; have B2 := Lib.hid (B1.out.trans (h1.mono (Below.size B1.out))); have r3 := Lib.hid (blk_below r2.out h1); clear h1) | (go_at_call 46; (with_reducible refine (EX.out _).mono ?_); rintro e x3 ⟨rfl, g1, g2, g3, h1⟩; have B3 := Lib.hid (B2.out.trans (h1.mono (Below.size B2.out))); have r4 := Lib.hid (blk_below r3.out h1); have G := Lib.hid (And.intro g1 (And.intro g2 g3)); clear g1 g2 g3 h1; refine Hid.out ?_))
  refine Lib.hid ?_
  clear ca
  obtain ⟨g, hg⟩ : ∃ g, x2.heap.size = g := ⟨_, rfl⟩
  rw [hg] at G
  go_wp2
  simp only [hg]
  go_loopw [35] (fun iv wr => ∃ i : Nat, i ≤ 1 ∧ iv = .int .i64 i ∧ Hid (Below x3.heap.size x3 wr)) (fun iv _ => 2 - (intOf iv).toNat)
  case atStart => exact ⟨0, Nat.zero_le _, rfl, Lib.hid (Below.refl _ _)⟩
  case round =>
    obtain ⟨i, hi, rfl, HQ⟩ := hrel
    have BW := Lib.hid (B3.out.trans (HQ.out.mono (Below.size B3.out)))
    have rw_ := Lib.hid (blk_below r4.out HQ.out)
    have e1 := (HQ.out.cell (p := ⟨g, 0, none⟩) G.out.2.2).trans G.out.1
    have e2 := (HQ.out.cell (p := ⟨g, 1, none⟩) G.out.2.2).trans G.out.2.1
    rcases (show i = 0 ∨ i = 1 by omega) with rfl | rfl
    · have AX := Lib.hid (alloc_old (w := wr) (o := .cells #[.func (.func 56) #[] #[]] 95))
      have KX := Lib.hid (KD.out _ (BW.out.trans (AX.out.mono (Below.size BW.out))))
      go_wp2_with (first | (go_at_call 56; (with_reducible refine (KX.out).mono ?_); rintro e x4 ⟨rfl, h1⟩; have B5 := Lib.hid (HQ.out.trans ((AX.out.trans (h1.mono (Below.size AX.out))).mono (Below.size HQ.out))); clear h1))
      exact ⟨⟨1, Nat.le_refl _, rfl, Lib.hid (B5.out.trans (alloc_old.mono (Below.size B5.out)))⟩, by simp [intOf]⟩
    · have AX := Lib.hid (alloc_old (w := wr) (o := .cells #[.func (.func 57) #[] #[]] 95))
      have SX := Lib.hid (SD.out _ (BW.out.trans (AX.out.mono (Below.size BW.out))))
      have hr9 := Lib.hid (lt_blk rw_.out)
      have hz9 := Lib.hid (show (wr.alloc (.cells #[.func (.func 57) #[] #[]] 95)).heap.size = wr.heap.size + 1 from World.size_alloc _ _)
      go_wp2_with (first | (go_at_call 57; (with_reducible refine (SX.out).mono ?_); rintro e x4 ⟨A', n', c', rfl, hE, h1⟩; have B5 := Lib.hid (AX.out.trans (h1.mono (Below.size AX.out))); have E5 := Lib.hid hE; have r5 := Lib.hid (blk_below rw_.out B5.out); clear h1 hE; refine Hid.out ?_))
      refine Lib.hid ?_
      have AY := Lib.hid (alloc_old (w := x4) (o := .cells #[.int .i64 3, .int .i64 1, .string ⟨#[]⟩, .slice none 0 0] 24))
      obtain ⟨⟨a0, a1, a2, a3⟩, ⟨f0, f1, f2, f3⟩⟩ := cells4 (blk_below r5.out AY.out)
      obtain ⟨⟨y0, y1, y2, y3⟩, _⟩ := cells4 (heap_alloc_new x4 (.cells #[.int .i64 3, .int .i64 1, .string ⟨#[]⟩, .slice none 0 0] 24))
      go_wp2
      have BX := BW.out.trans ((B5.out.trans (AY.out.mono (Below.size B5.out))).mono (Below.size BW.out))
      have hE6 := EF.kept (w' := ((((x4.alloc (.cells #[.int .i64 3, .int .i64 1, .string ⟨#[]⟩, .slice none 0 0] 24)).setCell ⟨w.heap.size, 0, none⟩ (.int .i64 3)).setCell ⟨w.heap.size, 1, none⟩ (.int .i64 1)).setCell ⟨w.heap.size, 2, none⟩ (.string ⟨#[]⟩)).setCell ⟨w.heap.size, 3, none⟩ (.slice none 0 0)) (E5.out.below AY.out) (by simp [World.setCell]) (fun g hg => far4 (X := x4.alloc (.cells #[.int .i64 3, .int .i64 1, .string ⟨#[]⟩, .slice none 0 0] 24)) (b := w.heap.size) (.int .i64 3) (.int .i64 1) (.string ⟨#[]⟩) (.slice none 0 0) (by have := ((E5.out.below AY.out).own g hg).1; have := hr9.out; have := hz9.out; omega))
      exact bodyPost_ret (v := .tuple #[.agg #[.int .i64 3, .int .i64 1, .string ⟨#[]⟩, .slice none 0 0], .slice A' n' c']) (by simp [results, Tryz.results38, go_sem, a0, a1, a2, a3]) rfl ⟨A', n', c', rfl, hE6.mono (by have := hr9.out; have := hz9.out; omega), (((BX.setCell (p := ⟨w.heap.size, 0, none⟩) (Nat.le_refl _) _).setCell (p := ⟨w.heap.size, 1, none⟩) (Nat.le_refl _) _).setCell (p := ⟨w.heap.size, 2, none⟩) (Nat.le_refl _) _).setCell (p := ⟨w.heap.size, 3, none⟩) (Nat.le_refl _) _⟩
end Go.Proofs.YtjfejmdnjbekkaaGreatDoor

/- exec.Run of "incr" of a key that is not there. -/
namespace Go.Proofs.YtjfejmdnjbekkaaGreatDoor
open Go.ChangeShapes Go.WideShapes Go.ChangeAt Go.RowKit

theorem EF.one {w : World} {c : Nat} {A : Option Addr} {n C : Nat} {t : Ent} (h : EF w c (.slice A n C) [t]) : n = 1 ∧ ∃ g, A = some ⟨g, 0, none⟩ ∧ c ≤ g ∧ g < w.heap.size ∧ (∀ j u, t.cells[j]? = some u → w.cell? ⟨g, j, none⟩ = some u) := by
  have h2 := h
  unfold EF World.ownsRow at h2
  obtain ⟨_, ⟨_, h0⟩ | ⟨g, cap, cur, h1, hg, hc, _⟩⟩ := h2
  · cases h0
  · cases h1
    refine ⟨rfl, g, rfl, hg, (Array.getElem?_eq_some_iff.1 hc).1, fun j u hu => ?_⟩
    have hl : t.cells.length = 8 := rfl
    have := row_cell h j u (by simpa using hu)
    exact this
set_option maxRecDepth 100000 in
set_option maxHeartbeats 8000000 in
theorem eRun_incr (W0 : World) (hT : Tab W0) (u bS bM : Nat) (now : Int) (k : ByteArray) (hk1 : 1 ≤ k.size) (hk : k.size ≤ 512) (vA : Value) (w : World) (hI : Below W0.heap.size W0 w) (hu : w.heap[u]? = some (.cells #[.pointer (some ⟨bS, 0, none⟩), .slice none 0 0] 60)) (hmem : w.heap[bS]? = some (.cells #[.map (some bM), .int .i64 0] 57)) (hS : SP w bS bM []) (hub : u ≠ bS ∧ u ≠ bM) (hA : SSl w vA [⟨#[105, 110, 99, 114]⟩, k]) :
    Calls Tryz.prog 33 #[.pointer (some ⟨u, 0, none⟩), .pointer (some ⟨bS, 0, none⟩), .int .i64 now, .int .i64 1000, vA] w fun e w' => e = .returned (.agg #[.int .i64 3, .int .i64 1, .string ⟨#[]⟩, .slice none 0 0]) ∧ Kp w.heap.size (fun i => i ≠ bS ∧ i ≠ bM ∧ i ≠ u) w w' := by
  have A1 := Lib.hid (alloc_old (w := w) (o := .cells #[.int .i64 0, .int .i64 0, .string ⟨#[]⟩, .slice none 0 0] 24))
  have r1 := Lib.hid (heap_alloc_new w (.cells #[.int .i64 0, .int .i64 0, .string ⟨#[]⟩, .slice none 0 0] 24))
  have DO := Lib.hid (eDo_incr W0 hT bS bM [] now k hk1 hk rfl vA _ (hI.trans (A1.out.mono (Below.size hI))) (hS.below A1.out) (hA.below A1.out))
  have MK := Lib.hid (fun X (hX : Below w.heap.size w X) => uMark_is u _ X (blk_below hu hX))
  have ME := Lib.hid (fun X (hX : Below w.heap.size w X) => sMem_is bS _ 0 X (blk_below hmem hX))
  have UD := Lib.hid (fun X (hX : Below w.heap.size w X) => uDo_new u bS bM k ⟨#[49]⟩ hk1 hk (by decide) 0 X (blk_below hu hX) (blk_below hmem hX) (hS.below hX) hub)
  have MZ := Lib.hid (fun X h => sMem_is bS (.map (some bM)) (IntKind.i64.wrap (0 + (48 + (k.size : Int) + (⟨#[49]⟩ : ByteArray).size))) X h)
  have hlu := lt_blk hu
  have hlS := lt_blk hmem
  have hlM := hS.2.1.lt
  clear hT hI hu hmem hS hA
  go_enter Tryz.func33, Tryz.ntmps33
  go_wp2_with (first | (go_at_call 38; (with_reducible refine (DO.out).mono ?_); rintro e x1 ⟨A', n', c', rfl, hE, h1⟩; have B1 := Lib.hid (A1.out.trans (h1.mono (Below.size A1.out))); have r2 := Lib.hid (blk_below r1.out h1); have E1 := Lib.hid hE; clear h1 hE; refine Hid.out ?_))
  refine Lib.hid ?_
  obtain ⟨rfl, g, rfl, hg1, hg2, hgc⟩ := E1.out.one
  obtain ⟨m, hm, hm9⟩ : ∃ m : Int, IntKind.i64.wrap (0 + (48 + (k.size : Int) + (⟨#[49]⟩ : ByteArray).size)) = m ∧ m ≤ 1000 := ⟨_, rfl, by rw [IntKind.wrap_i64, show (⟨#[49]⟩ : ByteArray).size = 1 from rfl]; omega⟩
  rw [hm] at UD MZ
  have AY := Lib.hid (alloc_old (w := x1) (o := .cells #[.int .i64 3, .int .i64 1, .string ⟨#[]⟩, .slice none 0 0] 24))
  have BY := Lib.hid (B1.out.trans (AY.out.mono (Below.size B1.out)))
  have rY := Lib.hid (blk_below r2.out AY.out)
  have tY := Lib.hid (heap_alloc_new x1 (.cells #[.int .i64 3, .int .i64 1, .string ⟨#[]⟩, .slice none 0 0] 24))
  have EY := Lib.hid (E1.out.below AY.out)
  have lY := Lib.hid (lt_blk r2.out)
  have MK2 := Lib.hid (MK.out _ BY.out)
  have ME2 := Lib.hid (ME.out _ BY.out)
  have g0 := Lib.hid (And.intro hg1 (And.intro hg2 hgc))
  clear MK ME hg1 hg2 hgc E1 AY
  go_wp2_with (first | (go_at_call 39; (with_reducible refine (MK2.out).mono ?_); rintro e x2 ⟨rfl, hx⟩; obtain rfl := hx.symm) | (go_at_call 40; (with_reducible refine (ME2.out).mono ?_); rintro e x3 ⟨rfl, hx⟩; obtain rfl := hx.symm))
  generalize x1.alloc (.cells #[.int .i64 3, .int .i64 1, .string ⟨#[]⟩, .slice none 0 0] 24) = y at BY rY tY EY ⊢
  generalize x1.heap.size = z at tY lY g0 ⊢
  clear MK2 ME2
  go_loopw [15, 35] (fun ok iv wr => ok = .bool true ∧ ∃ i : Nat, i ≤ 1 ∧ iv = .int .i64 i ∧ Hid ((i = 0 ∧ wr = y) ∨ (i = 1 ∧ wr.heap[bS]? = some (.cells #[.map (some bM), .int .i64 m] 57) ∧ wr.heap[w.heap.size]? = some (.cells #[.int .i64 0, .int .i64 0, .string ⟨#[]⟩, .slice none 0 0] 24) ∧ wr.heap[z]? = some (.cells #[.int .i64 3, .int .i64 1, .string ⟨#[]⟩, .slice none 0 0] 24) ∧ Kp w.heap.size (fun i => i ≠ bS ∧ i ≠ bM ∧ i ≠ u) w wr))) (fun _ iv _ => 2 - (intOf iv).toNat)
  case atStart => exact ⟨rfl, 0, Nat.zero_le _, rfl, Lib.hid (.inl ⟨rfl, rfl⟩)⟩
  case round =>
    obtain ⟨rfl, i, hi, rfl, HQ⟩ := hrel
    rcases HQ.out with ⟨rfl, hw⟩ | ⟨rfl, hw⟩
    · obtain rfl := hw.symm
      clear HQ
      obtain ⟨_, g', ge, _, gl, gc⟩ := EY.out.one
      cases ge
      have e0 := gc 0 _ rfl
      have e1 := gc 1 _ rfl
      have e2 := gc 2 _ rfl
      have e3 := gc 3 _ rfl
      have e4 := gc 4 _ rfl
      have e5 := gc 5 _ rfl
      have e6 := gc 6 _ rfl
      have e7 := gc 7 _ rfl
      have AX := Lib.hid (alloc_old (w := y) (o := .cells #[.string k, .int .i64 1, .string ⟨#[49]⟩, .slice none 0 0, .slice none 0 0, .slice none 0 0, .slice none 0 0, .int .i64 0] 86))
      have UX := Lib.hid (UD.out _ (BY.out.trans (AX.out.mono (Below.size BY.out))))
      obtain ⟨⟨c0, c1, c2, c3, c4, c5, c6, c7⟩, _, _⟩ := cells8 (heap_alloc_new y (.cells #[.string k, .int .i64 1, .string ⟨#[49]⟩, .slice none 0 0, .slice none 0 0, .slice none 0 0, .slice none 0 0, .int .i64 0] 86))
      clear gc
      go_wp2_with (first | (go_at_call 41; (with_reducible refine (UX.out).mono ?_); rintro e x4 ⟨rfl, h1, h2⟩; have M4 := Lib.hid h1; have K4 := Lib.hid h2; clear h1 h2))
      have hlz := lY.out
      have hr9 := lt_blk rY.out
      have ht9 := lt_blk tY.out
      have hk4 := Lib.hid (show Kp w.heap.size (fun i => i ≠ bS ∧ i ≠ bM ∧ i ≠ u) w x4 from (Kp.of (BY.out.trans (AX.out.mono (Below.size BY.out)))).trans (K4.out.mono (Nat.le_trans (Below.size BY.out) (Below.size AX.out)) (fun i hi => hi)))
      have hr4 := Lib.hid ((K4.out.block w.heap.size (by rw [World.size_alloc]; omega) ⟨by omega, by omega, by omega⟩).trans (blk_below rY.out AX.out))
      have ht4 := Lib.hid ((K4.out.block z (by rw [World.size_alloc]; omega) ⟨by omega, by omega, by omega⟩).trans (blk_below tY.out AX.out))
      exact ⟨⟨rfl, 1, Nat.le_refl _, rfl, Lib.hid (.inr ⟨rfl, M4.out, hr4.out, ht4.out, hk4.out⟩)⟩, by simp [intOf]⟩
    · obtain ⟨hw1, hw2, hw3, hw4⟩ := hw
      have MZ2 := Lib.hid (MZ.out wr hw1)
      have KZ := Lib.hid hw4
      obtain ⟨⟨c0, c1, c2, c3⟩, _⟩ := cells4 hw3
      obtain ⟨⟨a0, a1, a2, a3⟩, ⟨f0, f1, f2, f3⟩⟩ := cells4 hw2
      have hm8 : decide ((1000 : Int) < m) = false := decide_eq_false (by omega)
      clear hw1 hw2 hw3 hw4 HQ
      go_wp2_with (first | (go_at_call 40; (with_reducible refine (MZ2.out).mono ?_); rintro e x5 ⟨rfl, hx⟩; obtain rfl := hx.symm))
      exact bodyPost_ret (v := .agg #[.int .i64 3, .int .i64 1, .string ⟨#[]⟩, .slice none 0 0]) (by simp [results, Tryz.results33, go_sem, a0, a1, a2, a3]) rfl ⟨rfl, (((KZ.out.setCell (p := ⟨w.heap.size, 0, none⟩) (by simp) _).setCell (p := ⟨w.heap.size, 1, none⟩) (by simp) _).setCell (p := ⟨w.heap.size, 2, none⟩) (by simp) _).setCell (p := ⟨w.heap.size, 3, none⟩) (by simp) _⟩
end Go.Proofs.YtjfejmdnjbekkaaGreatDoor
