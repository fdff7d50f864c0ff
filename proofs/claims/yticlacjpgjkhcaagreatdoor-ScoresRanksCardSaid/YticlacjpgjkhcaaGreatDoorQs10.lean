/- Texts joined: G5 -/
import Derived.Test.YticlacjpgjkhcaaGreatDoorQs6
import Derived.Test.YticlacjpgjkhcaaGreatDoorQs9
set_option linter.unusedVariables false
set_option linter.unusedSimpArgs false

/- Looking up entries of any kind. -/
namespace Go.Proofs.YticlacjpgjkhcaaGreatDoor
open Go.ChangeShapes Go.WideShapes Go.ChangeAt Go.RowKit

theorem OverG (k : ByteArray) (kd : Int) (A3 A4 A5 A6 : Option Addr) (an3 ac3 an4 ac4 an5 ac5 an6 ac6 : Nat) (n : Int) (w : World) : Calls Tryz.prog 241 #[.agg #[.string k, .int .i64 kd, .string ⟨#[]⟩, .slice A3 an3 ac3, .slice A4 an4 ac4, .slice A5 an5 ac5, .slice A6 an6 ac6, .int .i64 0], .int .i64 n] w fun e w' => e = .returned (.bool false) ∧ Below w.heap.size w w' := by
  go_enter Tryz.func241, Tryz.ntmps241
  go_wp2
  go_ret
  exact ⟨rfl, alloc_old⟩
set_option maxRecDepth 100000 in
set_option maxHeartbeats 4000000 in
theorem Has_yesG {α : Type} (K : Kd α) (ok : ByteArray → α → Prop) (hO : KdOk K ok) (bS bM : Nat) (l : MapT.Ents) (k : ByteArray) (x : α) (A3 A4 A5 A6 : Option Addr) (an3 ac3 an4 ac4 an5 ac5 an6 ac6 : Nat) (hk : ok k x) (hf : MapT.find k l = some (.agg #[.string k, .int .i64 K.kd, .string ⟨#[]⟩, .slice A3 an3 ac3, .slice A4 an4 ac4, .slice A5 an5 ac5, .slice A6 an6 ac6, .int .i64 0])) (w : World) (h : SP w bS bM l) (hl : K.V w x (.slice A3 an3 ac3) (.slice A4 an4 ac4) (.slice A5 an5 ac5) (.slice A6 an6 ac6)) : Calls Tryz.prog 240 #[.pointer (some ⟨bS, 0, none⟩), .string k] w fun e w' => ∃ Y3 Y4 Y5 Y6 yn3 yc3 yn4 yc4 yn5 yc5 yn6 yc6, e = .returned (.tuple #[.agg #[.string k, .int .i64 K.kd, .string ⟨#[]⟩, .slice Y3 yn3 yc3, .slice Y4 yn4 yc4, .slice Y5 yn5 yc5, .slice Y6 yn6 yc6, .int .i64 0], .bool true]) ∧ K.V w' x (.slice Y3 yn3 yc3) (.slice Y4 yn4 yc4) (.slice Y5 yn5 yc5) (.slice Y6 yn6 yc6) ∧ (∀ g, Own (.slice Y3 yn3 yc3) (.slice Y4 yn4 yc4) (.slice Y5 yn5 yc5) (.slice Y6 yn6 yc6) g → w.heap.size ≤ g) ∧ Below w.heap.size w w' := by
  have CL := hO.clone k x A3 A4 A5 A6 an3 ac3 an4 ac4 an5 ac5 an6 ac6 ((w.alloc (.cells #[.string ⟨#[]⟩, .int .i64 0, .string ⟨#[]⟩, .slice none 0 0, .slice none 0 0, .slice none 0 0, .slice none 0 0, .int .i64 0] 66)).alloc (.cells #[.string k, .int .i64 K.kd, .string ⟨#[]⟩, .slice A3 an3 ac3, .slice A4 an4 ac4, .slice A5 an5 ac5, .slice A6 an6 ac6, .int .i64 0] 66)) hk (K.below hl (alloc_old.trans (alloc_old.mono (by simp))))
  obtain ⟨kd, hkd⟩ : ∃ kd, K.kd = kd := ⟨_, rfl⟩
  simp only [hkd] at CL hf ⊢
  have CL := Lib.hid CL
  have hz : ((w.alloc (.cells #[.string ⟨#[]⟩, .int .i64 0, .string ⟨#[]⟩, .slice none 0 0, .slice none 0 0, .slice none 0 0, .slice none 0 0, .int .i64 0] 66)).alloc (.cells #[.string k, .int .i64 kd, .string ⟨#[]⟩, .slice A3 an3 ac3, .slice A4 an4 ac4, .slice A5 an5 ac5, .slice A6 an6 ac6, .int .i64 0] 66)).heap.size = w.heap.size + 2 := by simp
  have HZ := Lib.hid hz
  have hr : (if true = true then Value.tuple #[(MapT.find k l).getD (.agg #[.string ⟨#[]⟩, .int .i64 0, .string ⟨#[]⟩, .slice none 0 0, .slice none 0 0, .slice none 0 0, .slice none 0 0, .int .i64 0]), .bool (MapT.find k l).isSome] else (MapT.find k l).getD (.agg #[.string ⟨#[]⟩, .int .i64 0, .string ⟨#[]⟩, .slice none 0 0, .slice none 0 0, .slice none 0 0, .slice none 0 0, .int .i64 0])) = .tuple #[.agg #[.string k, .int .i64 kd, .string ⟨#[]⟩, .slice A3 an3 ac3, .slice A4 an4 ac4, .slice A5 an5 ac5, .slice A6 an6 ac6, .int .i64 0], .bool true] := by rw [hf]; rfl
  have HR := Lib.hid hr
  have z2 := Lib.hid (fun o => show ((w.alloc (.cells #[.string ⟨#[]⟩, .int .i64 0, .string ⟨#[]⟩, .slice none 0 0, .slice none 0 0, .slice none 0 0, .slice none 0 0, .int .i64 0] 66)).alloc o).heap[w.heap.size]? = some (.cells #[.string ⟨#[]⟩, .int .i64 0, .string ⟨#[]⟩, .slice none 0 0, .slice none 0 0, .slice none 0 0, .slice none 0 0, .int .i64 0] 66) from blk_below (heap_alloc_new w _) alloc_old)
  have hs := (h.below (alloc_old (o := .cells #[.string ⟨#[]⟩, .int .i64 0, .string ⟨#[]⟩, .slice none 0 0, .slice none 0 0, .slice none 0 0, .slice none 0 0, .int .i64 0] 66))).cell
  obtain ⟨hs1, hs2⟩ := hs
  have hM := Lib.hid (h.2.1.below (alloc_old (o := .cells #[.string ⟨#[]⟩, .int .i64 0, .string ⟨#[]⟩, .slice none 0 0, .slice none 0 0, .slice none 0 0, .slice none 0 0, .int .i64 0] 66)))
  clear h hf hr hl hz hk hkd
  go_enter Tryz.func240, Tryz.ntmps240
  go_wp2_with (first | (at_lookup; refine MapT.at_look _ rfl _ _ true rfl Tryz.underlying55 Tryz.underlying9 bM l rfl hM.out k rfl _ (zero33 _) _ HR.out ?_) | (go_at_call 34; (with_reducible refine (CL.out).mono ?_); rintro e w1 ⟨Y3, Y4, Y5, Y6, yn3, yc3, yn4, yc4, yn5, yc5, yn6, yc6, rfl, hT, hge, h1⟩; have HT := Lib.hid hT; have HG := Lib.hid hge; have B1 := Lib.hid h1; clear hT hge h1; obtain ⟨⟨c0, c1, c2, c3, c4, c5, c6, c7⟩, ⟨f0, f1, f2, f3, f4, f5, f6, f7⟩, z1⟩ := cells8 (blk_below (z2.out _) B1.out)))
  have hge := HG.out
  have hz := HZ.out
  rw [hz] at hge
  have hn1 : ∀ g, Own (.slice Y3 yn3 yc3) (.slice Y4 yn4 yc4) (.slice Y5 yn5 yc5) (.slice Y6 yn6 yc6) g → g ≠ w.heap.size := fun g hg => by have := hge g hg; omega
  exact bodyPost_ret (v := .tuple #[.agg #[.string k, .int .i64 kd, .string ⟨#[]⟩, .slice Y3 yn3 yc3, .slice Y4 yn4 yc4, .slice Y5 yn5 yc5, .slice Y6 yn6 yc6, .int .i64 0], .bool true]) (by simp [results, Tryz.results240, go_sem, c0, c1, c2, c3, c4, c5, c6, c7]) rfl ⟨Y3, Y4, Y5, Y6, yn3, yc3, yn4, yc4, yn5, yc5, yn6, yc6, rfl, K.kept HT.out (fun g' hg' => far8b (hn1 g' hg') _ _ _ _ _ _ _ _), fun g hg => by have := hge g hg; omega, (((((((((alloc_old.trans (alloc_old.mono (by simp))).trans (B1.out.mono (by omega))).setCell (Nat.le_refl _) _).setCell (Nat.le_refl _) _).setCell (Nat.le_refl _) _).setCell (Nat.le_refl _) _).setCell (Nat.le_refl _) _).setCell (Nat.le_refl _) _).setCell (Nat.le_refl _) _).setCell (Nat.le_refl _) _⟩
set_option maxRecDepth 100000 in
set_option maxHeartbeats 4000000 in
theorem Get_yesG {α : Type} (K : Kd α) (ok : ByteArray → α → Prop) (hO : KdOk K ok) (bS bM : Nat) (l : MapT.Ents) (k : ByteArray) (x : α) (now : Int) (A3 A4 A5 A6 : Option Addr) (an3 ac3 an4 ac4 an5 ac5 an6 ac6 : Nat) (hk : ok k x) (hf : MapT.find k l = some (.agg #[.string k, .int .i64 K.kd, .string ⟨#[]⟩, .slice A3 an3 ac3, .slice A4 an4 ac4, .slice A5 an5 ac5, .slice A6 an6 ac6, .int .i64 0])) (w : World) (h : SP w bS bM l) (hl : K.V w x (.slice A3 an3 ac3) (.slice A4 an4 ac4) (.slice A5 an5 ac5) (.slice A6 an6 ac6)) : Calls Tryz.prog 215 #[.pointer (some ⟨bS, 0, none⟩), .string k, .int .i64 now] w fun e w' => ∃ Y3 Y4 Y5 Y6 yn3 yc3 yn4 yc4 yn5 yc5 yn6 yc6, e = .returned (.tuple #[.agg #[.string k, .int .i64 K.kd, .string ⟨#[]⟩, .slice Y3 yn3 yc3, .slice Y4 yn4 yc4, .slice Y5 yn5 yc5, .slice Y6 yn6 yc6, .int .i64 0], .bool true]) ∧ K.V w' x (.slice Y3 yn3 yc3) (.slice Y4 yn4 yc4) (.slice Y5 yn5 yc5) (.slice Y6 yn6 yc6) ∧ (∀ g, Own (.slice Y3 yn3 yc3) (.slice Y4 yn4 yc4) (.slice Y5 yn5 yc5) (.slice Y6 yn6 yc6) g → w.heap.size ≤ g) ∧ Below w.heap.size w w' := by
  have H := Has_yesG K ok hO bS bM l k x A3 A4 A5 A6 an3 ac3 an4 ac4 an5 ac5 an6 ac6 hk hf _ (h.below (alloc_old (w := w) (o := .cells #[.string ⟨#[]⟩, .int .i64 0, .string ⟨#[]⟩, .slice none 0 0, .slice none 0 0, .slice none 0 0, .slice none 0 0, .int .i64 0] 66))) (K.below hl alloc_old)
  obtain ⟨kd, hkd⟩ : ∃ kd, K.kd = kd := ⟨_, rfl⟩
  simp only [hkd] at H ⊢
  have H := Lib.hid H
  have z0 := Lib.hid (heap_alloc_new w (.cells #[.string ⟨#[]⟩, .int .i64 0, .string ⟨#[]⟩, .slice none 0 0, .slice none 0 0, .slice none 0 0, .slice none 0 0, .int .i64 0] 66))
  have hz : (w.alloc (.cells #[.string ⟨#[]⟩, .int .i64 0, .string ⟨#[]⟩, .slice none 0 0, .slice none 0 0, .slice none 0 0, .slice none 0 0, .int .i64 0] 66)).heap.size = w.heap.size + 1 := by simp
  have HZ := Lib.hid hz
  clear h hf hl hz hk hkd
  go_enter Tryz.func215, Tryz.ntmps215
  go_wp2_with (first | (go_at_call 240; (with_reducible refine (H.out).mono ?_); rintro e w1 ⟨Y3, Y4, Y5, Y6, yn3, yc3, yn4, yc4, yn5, yc5, yn6, yc6, rfl, hT, hge, h1⟩; have HT := Lib.hid hT; have HG := Lib.hid hge; have B1 := Lib.hid h1; clear hT hge h1; refine Hid.out ?_))
  refine Lib.hid ?_
  have zE := Lib.hid (heap_alloc_new w1 (.cells #[.string k, .int .i64 kd, .string ⟨#[]⟩, .slice Y3 yn3 yc3, .slice Y4 yn4 yc4, .slice Y5 yn5 yc5, .slice Y6 yn6 yc6, .int .i64 0] 66))
  have OV := Lib.hid (OverG k kd Y3 Y4 Y5 Y6 yn3 yc3 yn4 yc4 yn5 yc5 yn6 yc6 now (w1.alloc (.cells #[.string k, .int .i64 kd, .string ⟨#[]⟩, .slice Y3 yn3 yc3, .slice Y4 yn4 yc4, .slice Y5 yn5 yc5, .slice Y6 yn6 yc6, .int .i64 0] 66)))
  go_wp2_with (first | (go_at_call 241; (with_reducible refine (OV.out).mono ?_); rintro e w2 ⟨rfl, h2⟩; have B2 := Lib.hid h2; clear h2; obtain ⟨⟨c0, c1, c2, c3, c4, c5, c6, c7⟩, ⟨f0, f1, f2, f3, f4, f5, f6, f7⟩, z1⟩ := cells8 (blk_below z0.out (belA B1.out B2.out)); obtain ⟨⟨d0, d1, d2, d3, d4, d5, d6, d7⟩, _, z2⟩ := cells8 (blk_below zE.out B2.out)))
  have hge := HG.out
  have hz := HZ.out
  rw [hz] at hge
  have hn1 : ∀ g, Own (.slice Y3 yn3 yc3) (.slice Y4 yn4 yc4) (.slice Y5 yn5 yc5) (.slice Y6 yn6 yc6) g → g ≠ w.heap.size := fun g hg => by have := hge g hg; omega
  exact bodyPost_ret (v := .tuple #[.agg #[.string k, .int .i64 kd, .string ⟨#[]⟩, .slice Y3 yn3 yc3, .slice Y4 yn4 yc4, .slice Y5 yn5 yc5, .slice Y6 yn6 yc6, .int .i64 0], .bool true]) (by simp [results, Tryz.results215, go_sem, c0, c1, c2, c3, c4, c5, c6, c7]) rfl ⟨Y3, Y4, Y5, Y6, yn3, yc3, yn4, yc4, yn5, yc5, yn6, yc6, rfl, K.kept (K.below (K.below HT.out alloc_old) B2.out) (fun g' hg' => far8b (hn1 g' hg') _ _ _ _ _ _ _ _), fun g hg => by have := hge g hg; omega, (((((((((alloc_old.trans ((belA B1.out B2.out).mono (by omega))).setCell (Nat.le_refl _) _).setCell (Nat.le_refl _) _).setCell (Nat.le_refl _) _).setCell (Nat.le_refl _) _).setCell (Nat.le_refl _) _).setCell (Nat.le_refl _) _).setCell (Nat.le_refl _) _).setCell (Nat.le_refl _) _)⟩
set_option maxRecDepth 100000 in
set_option maxHeartbeats 4000000 in
theorem JGet_yesG {α : Type} (K : Kd α) (ok : ByteArray → α → Prop) (hO : KdOk K ok) (bS bM j : Nat) (l : MapT.Ents) (k : ByteArray) (x : α) (now : Int) (vA vl : Value) (A3 A4 A5 A6 : Option Addr) (an3 ac3 an4 ac4 an5 ac5 an6 ac6 : Nat) (hk : ok k x) (hf : MapT.find k l = some (.agg #[.string k, .int .i64 K.kd, .string ⟨#[]⟩, .slice A3 an3 ac3, .slice A4 an4 ac4, .slice A5 an5 ac5, .slice A6 an6 ac6, .int .i64 0])) (w : World) (h : SP w bS bM l) (hj : JB w j bS now vA vl) (hss : K.V w x (.slice A3 an3 ac3) (.slice A4 an4 ac4) (.slice A5 an5 ac5) (.slice A6 an6 ac6)) : Calls Tryz.prog 181 #[.pointer (some ⟨j, 0, none⟩), .string k] w fun e w' => ∃ Y3 Y4 Y5 Y6 yn3 yc3 yn4 yc4 yn5 yc5 yn6 yc6, e = .returned (.tuple #[.agg #[.string k, .int .i64 K.kd, .string ⟨#[]⟩, .slice Y3 yn3 yc3, .slice Y4 yn4 yc4, .slice Y5 yn5 yc5, .slice Y6 yn6 yc6, .int .i64 0], .bool true]) ∧ K.V w' x (.slice Y3 yn3 yc3) (.slice Y4 yn4 yc4) (.slice Y5 yn5 yc5) (.slice Y6 yn6 yc6) ∧ (∀ g, Own (.slice Y3 yn3 yc3) (.slice Y4 yn4 yc4) (.slice Y5 yn5 yc5) (.slice Y6 yn6 yc6) g → w.heap.size ≤ g) ∧ Below w.heap.size w w' := by
  obtain ⟨W, hW⟩ : ∃ W, w.alloc (.cells #[.string ⟨#[]⟩, .int .i64 0, .string ⟨#[]⟩, .slice none 0 0, .slice none 0 0, .slice none 0 0, .slice none 0 0, .int .i64 0] 66) = W := ⟨_, rfl⟩
  have hb3 : Below w.heap.size w W := by rw [← hW]; exact alloc_old
  have z0 : W.heap[w.heap.size]? = some (.cells #[.string ⟨#[]⟩, .int .i64 0, .string ⟨#[]⟩, .slice none 0 0, .slice none 0 0, .slice none 0 0, .slice none 0 0, .int .i64 0] 66) := by rw [← hW]; exact heap_alloc_new w _
  have hJ := hj.below hb3
  have hS := h.below hb3
  have hss2 := K.below hss hb3
  have G := fun X (hX : ((X.cell? ⟨j, 0, none⟩ = some (.pointer (some ⟨bS, 0, none⟩)) ∧ X.cell? ⟨j, 1, none⟩ = some (.int .i64 now)) ∧ Below W.heap.size W X)) => Get_yesG K ok hO bS bM l k x now A3 A4 A5 A6 an3 ac3 an4 ac4 an5 ac5 an6 ac6 hk hf X (hS.below hX.2) (K.below hss2 hX.2)
  obtain ⟨kd, hkd⟩ : ∃ kd, K.kd = kd := ⟨_, rfl⟩
  simp only [hkd] at G ⊢
  have G := Lib.hid G
  have KK := Lib.hid (show ∀ X, Below W.heap.size W X → ((X.cell? ⟨j, 0, none⟩ = some (.pointer (some ⟨bS, 0, none⟩)) ∧ X.cell? ⟨j, 1, none⟩ = some (.int .i64 now)) ∧ Below W.heap.size W X) from fun X hb => ⟨⟨(hJ.below hb).cells.1, (hJ.below hb).cells.2.1⟩, hb⟩)
  have S0 : ((W.drew.cell? ⟨j, 0, none⟩ = some (.pointer (some ⟨bS, 0, none⟩)) ∧ W.drew.cell? ⟨j, 1, none⟩ = some (.int .i64 now)) ∧ Below W.heap.size W W.drew) := KK.out _ (Below.refl W.heap.size W).drew
  have SK := Lib.hid (show ∀ Y X : World, Below X.heap.size X Y → ((X.cell? ⟨j, 0, none⟩ = some (.pointer (some ⟨bS, 0, none⟩)) ∧ X.cell? ⟨j, 1, none⟩ = some (.int .i64 now)) ∧ Below W.heap.size W X) → ((Y.cell? ⟨j, 0, none⟩ = some (.pointer (some ⟨bS, 0, none⟩)) ∧ Y.cell? ⟨j, 1, none⟩ = some (.int .i64 now)) ∧ Below W.heap.size W Y) from fun Y X hb h => KK.out _ (belT h.2 hb))
  have SA := Lib.hid (show ∀ (X : World) (o : Obj), ((X.cell? ⟨j, 0, none⟩ = some (.pointer (some ⟨bS, 0, none⟩)) ∧ X.cell? ⟨j, 1, none⟩ = some (.int .i64 now)) ∧ Below W.heap.size W X) → (((X.alloc o).cell? ⟨j, 0, none⟩ = some (.pointer (some ⟨bS, 0, none⟩)) ∧ (X.alloc o).cell? ⟨j, 1, none⟩ = some (.int .i64 now)) ∧ Below W.heap.size W (X.alloc o)) from fun X o h => SK.out _ X alloc_old h)
  have Z0 := Lib.hid (And.intro z0 hb3)
  have hz : w.heap.size < W.heap.size := (Array.getElem?_eq_some_iff.1 z0).1
  have HZ := Lib.hid hz
  have G1 := Lib.hid (G.out _ S0)
  have S2 := Lib.hid (KK.out ((W.alloc (.cells #[.string ⟨#[]⟩, .int .i64 0, .string ⟨#[]⟩, .slice none 0 0, .slice none 0 0, .slice none 0 0, .slice none 0 0, .int .i64 0] 66)).drew) alloc_old.drew)
  have G2 := Lib.hid (G.out _ S2.out)
  have hA := Lib.hid (show ((W.alloc (.cells #[.string ⟨#[]⟩, .int .i64 0, .string ⟨#[]⟩, .slice none 0 0, .slice none 0 0, .slice none 0 0, .slice none 0 0, .int .i64 0] 66)).drew).heap[W.heap.size]? = some (.cells #[.string ⟨#[]⟩, .int .i64 0, .string ⟨#[]⟩, .slice none 0 0, .slice none 0 0, .slice none 0 0, .slice none 0 0, .int .i64 0] 66) from heap_alloc_new W (.cells #[.string ⟨#[]⟩, .int .i64 0, .string ⟨#[]⟩, .slice none 0 0, .slice none 0 0, .slice none 0 0, .slice none 0 0, .int .i64 0] 66))
  have ST := Lib.hid (show ∀ (X : World) (a0 a1 a2 a3 a4 a5 a6 a7 : Value), Below W.heap.size W X → ((((((((((X.setCell ⟨W.heap.size, 0, none⟩ a0).setCell ⟨W.heap.size, 1, none⟩ a1).setCell ⟨W.heap.size, 2, none⟩ a2).setCell ⟨W.heap.size, 3, none⟩ a3).setCell ⟨W.heap.size, 4, none⟩ a4).setCell ⟨W.heap.size, 5, none⟩ a5).setCell ⟨W.heap.size, 6, none⟩ a6).setCell ⟨W.heap.size, 7, none⟩ a7).cell? ⟨j, 0, none⟩ = some (.pointer (some ⟨bS, 0, none⟩)) ∧ ((((((((X.setCell ⟨W.heap.size, 0, none⟩ a0).setCell ⟨W.heap.size, 1, none⟩ a1).setCell ⟨W.heap.size, 2, none⟩ a2).setCell ⟨W.heap.size, 3, none⟩ a3).setCell ⟨W.heap.size, 4, none⟩ a4).setCell ⟨W.heap.size, 5, none⟩ a5).setCell ⟨W.heap.size, 6, none⟩ a6).setCell ⟨W.heap.size, 7, none⟩ a7).cell? ⟨j, 1, none⟩ = some (.int .i64 now)) ∧ Below W.heap.size W ((((((((X.setCell ⟨W.heap.size, 0, none⟩ a0).setCell ⟨W.heap.size, 1, none⟩ a1).setCell ⟨W.heap.size, 2, none⟩ a2).setCell ⟨W.heap.size, 3, none⟩ a3).setCell ⟨W.heap.size, 4, none⟩ a4).setCell ⟨W.heap.size, 5, none⟩ a5).setCell ⟨W.heap.size, 6, none⟩ a6).setCell ⟨W.heap.size, 7, none⟩ a7)) from fun X a0 a1 a2 a3 a4 a5 a6 a7 hb => KK.out _ ((((((((hb.setCell (Nat.le_refl _) _).setCell (Nat.le_refl _) _).setCell (Nat.le_refl _) _).setCell (Nat.le_refl _) _).setCell (Nat.le_refl _) _).setCell (Nat.le_refl _) _).setCell (Nat.le_refl _) _).setCell (Nat.le_refl _) _))
  have S5 := Lib.hid (show ∀ X, Below ((W.alloc (.cells #[.string ⟨#[]⟩, .int .i64 0, .string ⟨#[]⟩, .slice none 0 0, .slice none 0 0, .slice none 0 0, .slice none 0 0, .int .i64 0] 66)).drew).heap.size ((W.alloc (.cells #[.string ⟨#[]⟩, .int .i64 0, .string ⟨#[]⟩, .slice none 0 0, .slice none 0 0, .slice none 0 0, .slice none 0 0, .int .i64 0] 66)).drew) X → Below W.heap.size W X from fun X hb => belT S2.out.2 hb)
  clear h hj hJ hS hss hss2 hf hb3 z0 hz hk hkd
  go_enter Tryz.func181, Tryz.ntmps181
  go_wp2
  clear hW
  go_region_held3 (fun X => ((X.cell? ⟨j, 0, none⟩ = some (.pointer (some ⟨bS, 0, none⟩)) ∧ X.cell? ⟨j, 1, none⟩ = some (.int .i64 now)) ∧ Below W.heap.size W X)) (first | (with_reducible exact S0) | (with_reducible exact S2.out) | (with_reducible exact ST.out _ _ _ _ _ _ _ _ _ (S5.out _ (by assumption))) | (with_reducible exact SA.out _ _ (SK.out _ _ (by assumption) S0)) | (with_reducible exact SK.out _ _ (by assumption) S0) | (with_reducible exact SK.out _ _ (by assumption) S2.out) | exact SA.out _ _ (by assumption))
    (first | (go_at_call 215; (with_reducible refine (G1.out).mono ?_); rintro e w5 ⟨Y3, Y4, Y5, Y6, yn3, yc3, yn4, yc4, yn5, yc5, yn6, yc6, rfl, hT, hge, hb5⟩) | (go_at_call 215; (with_reducible refine (G2.out).mono ?_); rintro e w5 ⟨Y3, Y4, Y5, Y6, yn3, yc3, yn4, yc4, yn5, yc5, yn6, yc6, rfl, hT, hge, hb5⟩; obtain ⟨⟨c0, c1, c2, c3, c4, c5, c6, c7⟩, ⟨f0, f1, f2, f3, f4, f5, f6, f7⟩, z5⟩ := cells8 (blk_below hA.out hb5)))
  · have hb := belT S0.2 hb5
    obtain ⟨⟨d0, d1, d2, d3, d4, d5, d6, d7⟩, ⟨g0, g1, g2, g3, g4, g5, g6, g7⟩, zz⟩ := cells8 (blk_below Z0.out.1 hb)
    have BB := Lib.hid (Z0.out.2.trans (hb.mono (Nat.le_of_lt HZ.out)))
    have HT := Lib.hid hT
    have hge2 : ∀ g, Own (.slice Y3 yn3 yc3) (.slice Y4 yn4 yc4) (.slice Y5 yn5 yc5) (.slice Y6 yn6 yc6) g → W.heap.size ≤ g := hge
    have hn3 : ∀ g, Own (.slice Y3 yn3 yc3) (.slice Y4 yn4 yc4) (.slice Y5 yn5 yc5) (.slice Y6 yn6 yc6) g → w.heap.size ≤ g := fun g hg => by have := HZ.out; have := hge2 g hg; omega
    have hn1 : ∀ g, Own (.slice Y3 yn3 yc3) (.slice Y4 yn4 yc4) (.slice Y5 yn5 yc5) (.slice Y6 yn6 yc6) g → g ≠ w.heap.size := fun g hg => by have := HZ.out; have := hge2 g hg; omega
    clear hb hb5 hT hge
    go_wp2
    exact bodyPost_ret (v := .tuple #[.agg #[.string k, .int .i64 kd, .string ⟨#[]⟩, .slice Y3 yn3 yc3, .slice Y4 yn4 yc4, .slice Y5 yn5 yc5, .slice Y6 yn6 yc6, .int .i64 0], .bool true]) (by simp [results, Tryz.results181, go_sem, d0, d1, d2, d3, d4, d5, d6, d7, zz]) rfl ⟨Y3, Y4, Y5, Y6, yn3, yc3, yn4, yc4, yn5, yc5, yn6, yc6, rfl, K.below (K.kept HT.out (fun g' hg' => far8b (hn1 g' hg') _ _ _ _ _ _ _ _)) alloc_old, hn3, ((((((((BB.out.setCell (Nat.le_refl _) _).setCell (Nat.le_refl _) _).setCell (Nat.le_refl _) _).setCell (Nat.le_refl _) _).setCell (Nat.le_refl _) _).setCell (Nat.le_refl _) _).setCell (Nat.le_refl _) _).setCell (Nat.le_refl _) _).alloc (by simp; omega) _⟩
  · have hb := S5.out _ hb5
    obtain ⟨⟨d0, d1, d2, d3, d4, d5, d6, d7⟩, ⟨g0, g1, g2, g3, g4, g5, g6, g7⟩, zz⟩ := cells8 (blk_below Z0.out.1 hb)
    have BB := Lib.hid (Z0.out.2.trans (hb.mono (Nat.le_of_lt HZ.out)))
    have hne1 : ¬ w.heap.size = W.heap.size := by have := HZ.out; omega
    have hne2 : ¬ W.heap.size = w.heap.size := by have := HZ.out; omega
    have hle := Lib.hid (Nat.le_of_lt HZ.out)
    have HT := Lib.hid hT
    have e9 : (W.alloc (.cells #[.string ⟨#[]⟩, .int .i64 0, .string ⟨#[]⟩, .slice none 0 0, .slice none 0 0, .slice none 0 0, .slice none 0 0, .int .i64 0] 66)).drew.heap.size = W.heap.size + 1 := (by simp : (W.alloc (.cells #[.string ⟨#[]⟩, .int .i64 0, .string ⟨#[]⟩, .slice none 0 0, .slice none 0 0, .slice none 0 0, .slice none 0 0, .int .i64 0] 66)).heap.size = W.heap.size + 1)
    have hge2 : ∀ g, Own (.slice Y3 yn3 yc3) (.slice Y4 yn4 yc4) (.slice Y5 yn5 yc5) (.slice Y6 yn6 yc6) g → W.heap.size + 1 ≤ g := by rw [e9] at hge; exact hge
    have hn3 : ∀ g, Own (.slice Y3 yn3 yc3) (.slice Y4 yn4 yc4) (.slice Y5 yn5 yc5) (.slice Y6 yn6 yc6) g → w.heap.size ≤ g := fun g hg => by have := HZ.out; have := hge2 g hg; omega
    have hn1 : ∀ g, Own (.slice Y3 yn3 yc3) (.slice Y4 yn4 yc4) (.slice Y5 yn5 yc5) (.slice Y6 yn6 yc6) g → g ≠ w.heap.size := fun g hg => by have := HZ.out; have := hge2 g hg; omega
    have hn2 : ∀ g, Own (.slice Y3 yn3 yc3) (.slice Y4 yn4 yc4) (.slice Y5 yn5 yc5) (.slice Y6 yn6 yc6) g → g ≠ W.heap.size := fun g hg => by have := hge2 g hg; omega
    clear hb hb5 hT hge e9
    go_wp2
    exact bodyPost_ret (v := .tuple #[.agg #[.string k, .int .i64 kd, .string ⟨#[]⟩, .slice Y3 yn3 yc3, .slice Y4 yn4 yc4, .slice Y5 yn5 yc5, .slice Y6 yn6 yc6, .int .i64 0], .bool true]) (by simp [results, Tryz.results181, go_sem, d0, d1, d2, d3, d4, d5, d6, d7]) rfl ⟨Y3, Y4, Y5, Y6, yn3, yc3, yn4, yc4, yn5, yc5, yn6, yc6, rfl, K.kept HT.out (fun g' hg' => (far8b (hn1 g' hg') _ _ _ _ _ _ _ _).trans (far8b (hn2 g' hg') _ _ _ _ _ _ _ _)), hn3, ((((((((((((((((BB.out.setCell hle.out _).setCell hle.out _).setCell hle.out _).setCell hle.out _).setCell hle.out _).setCell hle.out _).setCell hle.out _).setCell hle.out _).setCell (Nat.le_refl _) _).setCell (Nat.le_refl _) _).setCell (Nat.le_refl _) _).setCell (Nat.le_refl _) _).setCell (Nat.le_refl _) _).setCell (Nat.le_refl _) _).setCell (Nat.le_refl _) _).setCell (Nat.le_refl _) _)⟩
end Go.Proofs.YticlacjpgjkhcaaGreatDoor
