/- Texts joined: G5, G6, St19 -/
import Derived.Test.YticlacjpgjkhcaaGreatDoorQn9
import Derived.Test.YticlacjpgjkhcaaGreatDoorQn11
import Derived.Test.YticlacjpgjkhcaaGreatDoorQn7
import Derived.Test.YticlacjpgjkhcaaGreatDoorQn6

/- Looking up entries of any kind. -/
namespace Go.Proofs.YticlacjpgjkhcaaGreatDoor
open Go.ChangeShapes Go.WideShapes Go.ChangeAt Go.RowKit

theorem OverG (k : ByteArray) (kd : Int) (A3 A4 A5 A6 : Option Addr) (an3 ac3 an4 ac4 an5 ac5 an6 ac6 : Nat) (n : Int) (w : World) : Calls Tryz.prog 241 #[.agg #[.string k, .int .i64 kd, .string ⟨#[]⟩, .slice A3 an3 ac3, .slice A4 an4 ac4, .slice A5 an5 ac5, .slice A6 an6 ac6, .int .i64 0], .int .i64 n] w fun e w' => e = .returned (.bool false) ∧ Below w.heap.size w w' := by
  go_enter Tryz.func241, Tryz.ntmps241
  go_wp2
  go_ret
  exact ⟨rfl, alloc_old⟩
set_option maxRecDepth 100000 in
set_option maxHeartbeats 4000000 in
theorem Has_yesG {α : Type} (K : Kd α) (ok : ByteArray → α → Prop) (hO : KdOk K ok) (bS bM : Nat) (l : MapT.Ents) (k : ByteArray) (x : α) (A3 A4 A5 A6 : Option Addr) (an3 ac3 an4 ac4 an5 ac5 an6 ac6 : Nat) (hk : ok k x) (hf : MapT.find k l = some (.agg #[.string k, .int .i64 K.kd, .string ⟨#[]⟩, .slice A3 an3 ac3, .slice A4 an4 ac4, .slice A5 an5 ac5, .slice A6 an6 ac6, .int .i64 0])) (w : World) (h : SP w bS bM l) (hl : K.V w x (.slice A3 an3 ac3) (.slice A4 an4 ac4) (.slice A5 an5 ac5) (.slice A6 an6 ac6)) : Calls Tryz.prog 240 #[.pointer (some ⟨bS, 0, none⟩), .string k] w fun e w' => ∃ Y3 Y4 Y5 Y6 yn3 yc3 yn4 yc4 yn5 yc5 yn6 yc6, e = .returned (.tuple #[.agg #[.string k, .int .i64 K.kd, .string ⟨#[]⟩, .slice Y3 yn3 yc3, .slice Y4 yn4 yc4, .slice Y5 yn5 yc5, .slice Y6 yn6 yc6, .int .i64 0], .bool true]) ∧ K.V w' x (.slice Y3 yn3 yc3) (.slice Y4 yn4 yc4) (.slice Y5 yn5 yc5) (.slice Y6 yn6 yc6) ∧ (∀ g, Own (.slice Y3 yn3 yc3) (.slice Y4 yn4 yc4) (.slice Y5 yn5 yc5) (.slice Y6 yn6 yc6) g → w.heap.size ≤ g) ∧ Below w.heap.size w w' := by
  have CL := hO.clone k x A3 A4 A5 A6 an3 ac3 an4 ac4 an5 ac5 an6 ac6 ((w.alloc (.cells #[.string ⟨#[]⟩, .int .i64 0, .string ⟨#[]⟩, .slice none 0 0, .slice none 0 0, .slice none 0 0, .slice none 0 0, .int .i64 0] 66)).alloc (.cells #[.string k, .int .i64 K.kd, .string ⟨#[]⟩, .slice A3 an3 ac3, .slice A4 an4 ac4, .slice A5 an5 ac5, .slice A6 an6 ac6, .int .i64 0] 66)) hk (K.below hl (alloc_old.trans (alloc_old.mono (by simp))))
  obtain ⟨kd, hkd⟩ : ∃ kd, K.kd = kd := ⟨_, rfl⟩
  simp only [hkd] at CL hf ⊢
  have CL := Lib.hid CL
  have hz : ((w.alloc (.cells #[.string ⟨#[]⟩, .int .i64 0, .string ⟨#[]⟩, .slice none 0 0, .slice none 0 0, .slice none 0 0, .slice none 0 0, .int .i64 0] 66)).alloc (.cells #[.string k, .int .i64 kd, .string ⟨#[]⟩, .slice A3 an3 ac3, .slice A4 an4 ac4, .slice A5 an5 ac5, .slice A6 an6 ac6, .int .i64 0] 66)).heap.size = w.heap.size + 2 := by simp
  have HZ := Lib.hid hz
  have hr : (if true = true then Value.tuple #[(MapT.find k l).getD (.agg #[.string ⟨#[]⟩, .int .i64 0, .string ⟨#[]⟩, .slice none 0 0, .slice none 0 0, .slice none 0 0, .slice none 0 0, .int .i64 0]), .bool (MapT.find k l).isSome] else (MapT.find k l).getD (.agg #[.string ⟨#[]⟩, .int .i64 0, .string ⟨#[]⟩, .slice none 0 0, .slice none 0 0, .slice none 0 0, .slice none 0 0, .int .i64 0])) = .tuple #[.agg #[.string k, .int .i64 kd, .string ⟨#[]⟩, .slice A3 an3 ac3, .slice A4 an4 ac4, .slice A5 an5 ac5, .slice A6 an6 ac6, .int .i64 0], .bool true] := by rw [hf]; rfl
  have HR := Lib.hid hr
  have z2 := Lib.hid (fun o => show ((w.alloc (.cells #[.string ⟨#[]⟩, .int .i64 0, .string ⟨#[]⟩, .slice none 0 0, .slice none 0 0, .slice none 0 0, .slice none 0 0, .int .i64 0] 66)).alloc o).heap[w.heap.size]? = some (.cells #[.string ⟨#[]⟩, .int .i64 0, .string ⟨#[]⟩, .slice none 0 0, .slice none 0 0, .slice none 0 0, .slice none 0 0, .int .i64 0] 66) from blk_below (heap_alloc_new w _) alloc_old)
  have hs := (h.below (alloc_old (o := .cells #[.string ⟨#[]⟩, .int .i64 0, .string ⟨#[]⟩, .slice none 0 0, .slice none 0 0, .slice none 0 0, .slice none 0 0, .int .i64 0] 66))).cell
  obtain ⟨hs1, hs2⟩ := hs
  have hM := Lib.hid (h.2.1.below (alloc_old (o := .cells #[.string ⟨#[]⟩, .int .i64 0, .string ⟨#[]⟩, .slice none 0 0, .slice none 0 0, .slice none 0 0, .slice none 0 0, .int .i64 0] 66)))
  clear h hf hr hl hz hk hkd
  go_enter Tryz.func240, Tryz.ntmps240
  go_wp2_with (first | (at_lookup; refine MapT.at_look _ rfl _ _ true rfl Tryz.underlying55 Tryz.underlying9 bM l rfl hM.out k rfl _ (zero33 _) _ HR.out ?_) | (go_at_call 34; (with_reducible refine (CL.out).mono ?_); rintro e w1 ⟨Y3, Y4, Y5, Y6, yn3, yc3, yn4, yc4, yn5, yc5, yn6, yc6, rfl, hT, hge, h1⟩; have HT := Lib.hid hT; have HG := Lib.hid hge; have B1 := Lib.hid h1; clear hT hge h1; obtain ⟨⟨c0, c1, c2, c3, c4, c5, c6, c7⟩, ⟨f0, f1, f2, f3, f4, f5, f6, f7⟩, z1⟩ := cells8 (blk_below (z2.out _) B1.out)))
  have hge := HG.out
  have hz := HZ.out
  rw [hz] at hge
  have hn1 : ∀ g, Own (.slice Y3 yn3 yc3) (.slice Y4 yn4 yc4) (.slice Y5 yn5 yc5) (.slice Y6 yn6 yc6) g → g ≠ w.heap.size := fun g hg => by have := hge g hg; omega
  exact bodyPost_ret (v := .tuple #[.agg #[.string k, .int .i64 kd, .string ⟨#[]⟩, .slice Y3 yn3 yc3, .slice Y4 yn4 yc4, .slice Y5 yn5 yc5, .slice Y6 yn6 yc6, .int .i64 0], .bool true]) (by simp [results, Tryz.results240, go_sem, c0, c1, c2, c3, c4, c5, c6, c7]) rfl ⟨Y3, Y4, Y5, Y6, yn3, yc3, yn4, yc4, yn5, yc5, yn6, yc6, rfl, K.kept HT.out (fun g' hg' => far8b (hn1 g' hg') _ _ _ _ _ _ _ _), fun g hg => by have := hge g hg; omega, (((((((((alloc_old.trans (alloc_old.mono (by simp))).trans (B1.out.mono (by omega))).setCell (Nat.le_refl _) _).setCell (Nat.le_refl _) _).setCell (Nat.le_refl _) _).setCell (Nat.le_refl _) _).setCell (Nat.le_refl _) _).setCell (Nat.le_refl _) _).setCell (Nat.le_refl _) _).setCell (Nat.le_refl _) _⟩
set_option maxRecDepth 100000 in
set_option maxHeartbeats 4000000 in
theorem Get_yesG {α : Type} (K : Kd α) (ok : ByteArray → α → Prop) (hO : KdOk K ok) (bS bM : Nat) (l : MapT.Ents) (k : ByteArray) (x : α) (now : Int) (A3 A4 A5 A6 : Option Addr) (an3 ac3 an4 ac4 an5 ac5 an6 ac6 : Nat) (hk : ok k x) (hf : MapT.find k l = some (.agg #[.string k, .int .i64 K.kd, .string ⟨#[]⟩, .slice A3 an3 ac3, .slice A4 an4 ac4, .slice A5 an5 ac5, .slice A6 an6 ac6, .int .i64 0])) (w : World) (h : SP w bS bM l) (hl : K.V w x (.slice A3 an3 ac3) (.slice A4 an4 ac4) (.slice A5 an5 ac5) (.slice A6 an6 ac6)) : Calls Tryz.prog 215 #[.pointer (some ⟨bS, 0, none⟩), .string k, .int .i64 now] w fun e w' => ∃ Y3 Y4 Y5 Y6 yn3 yc3 yn4 yc4 yn5 yc5 yn6 yc6, e = .returned (.tuple #[.agg #[.string k, .int .i64 K.kd, .string ⟨#[]⟩, .slice Y3 yn3 yc3, .slice Y4 yn4 yc4, .slice Y5 yn5 yc5, .slice Y6 yn6 yc6, .int .i64 0], .bool true]) ∧ K.V w' x (.slice Y3 yn3 yc3) (.slice Y4 yn4 yc4) (.slice Y5 yn5 yc5) (.slice Y6 yn6 yc6) ∧ (∀ g, Own (.slice Y3 yn3 yc3) (.slice Y4 yn4 yc4) (.slice Y5 yn5 yc5) (.slice Y6 yn6 yc6) g → w.heap.size ≤ g) ∧ Below w.heap.size w w' := by
  have H := Has_yesG K ok hO bS bM l k x A3 A4 A5 A6 an3 ac3 an4 ac4 an5 ac5 an6 ac6 hk hf _ (h.below (alloc_old (w := w) (o := .cells #[.string ⟨#[]⟩, .int .i64 0, .string ⟨#[]⟩, .slice none 0 0, .slice none 0 0, .slice none 0 0, .slice none 0 0, .int .i64 0] 66))) (K.below hl alloc_old)
  obtain ⟨kd, hkd⟩ : ∃ kd, K.kd = kd := ⟨_, rfl⟩
  simp only [hkd] at H ⊢
  have H := Lib.hid H
  have z0 := Lib.hid (heap_alloc_new w (.cells #[.string ⟨#[]⟩, .int .i64 0, .string ⟨#[]⟩, .slice none 0 0, .slice none 0 0, .slice none 0 0, .slice none 0 0, .int .i64 0] 66))
  have hz : (w.alloc (.cells #[.string ⟨#[]⟩, .int .i64 0, .string ⟨#[]⟩, .slice none 0 0, .slice none 0 0, .slice none 0 0, .slice none 0 0, .int .i64 0] 66)).heap.size = w.heap.size + 1 := by simp
  have HZ := Lib.hid hz
  clear h hf hl hz hk hkd
  go_enter Tryz.func215, Tryz.ntmps215
  go_wp2_with (first | (go_at_call 240; (with_reducible refine (H.out).mono ?_); rintro e w1 ⟨Y3, Y4, Y5, Y6, yn3, yc3, yn4, yc4, yn5, yc5, yn6, yc6, rfl, hT, hge, h1⟩; have HT := Lib.hid hT; have HG := Lib.hid hge; have B1 := Lib.hid h1; clear hT hge h1; refine Hid.out ?_))
  refine Lib.hid ?_
  have zE := Lib.hid (heap_alloc_new w1 (.cells #[.string k, .int .i64 kd, .string ⟨#[]⟩, .slice Y3 yn3 yc3, .slice Y4 yn4 yc4, .slice Y5 yn5 yc5, .slice Y6 yn6 yc6, .int .i64 0] 66))
  have OV := Lib.hid (OverG k kd Y3 Y4 Y5 Y6 yn3 yc3 yn4 yc4 yn5 yc5 yn6 yc6 now (w1.alloc (.cells #[.string k, .int .i64 kd, .string ⟨#[]⟩, .slice Y3 yn3 yc3, .slice Y4 yn4 yc4, .slice Y5 yn5 yc5, .slice Y6 yn6 yc6, .int .i64 0] 66)))
  go_wp2_with (first | (go_at_call 241; (with_reducible refine (OV.out).mono ?_); rintro e w2 ⟨rfl, h2⟩; have B2 := Lib.hid h2; clear h2; obtain ⟨⟨c0, c1, c2, c3, c4, c5, c6, c7⟩, ⟨f0, f1, f2, f3, f4, f5, f6, f7⟩, z1⟩ := cells8 (blk_below z0.out (belA B1.out B2.out)); obtain ⟨⟨d0, d1, d2, d3, d4, d5, d6, d7⟩, _, z2⟩ := cells8 (blk_below zE.out B2.out)))
  have hge := HG.out
  have hz := HZ.out
  rw [hz] at hge
  have hn1 : ∀ g, Own (.slice Y3 yn3 yc3) (.slice Y4 yn4 yc4) (.slice Y5 yn5 yc5) (.slice Y6 yn6 yc6) g → g ≠ w.heap.size := fun g hg => by have := hge g hg; omega
  exact bodyPost_ret (v := .tuple #[.agg #[.string k, .int .i64 kd, .string ⟨#[]⟩, .slice Y3 yn3 yc3, .slice Y4 yn4 yc4, .slice Y5 yn5 yc5, .slice Y6 yn6 yc6, .int .i64 0], .bool true]) (by simp [results, Tryz.results215, go_sem, c0, c1, c2, c3, c4, c5, c6, c7]) rfl ⟨Y3, Y4, Y5, Y6, yn3, yc3, yn4, yc4, yn5, yc5, yn6, yc6, rfl, K.kept (K.below (K.below HT.out alloc_old) B2.out) (fun g' hg' => far8b (hn1 g' hg') _ _ _ _ _ _ _ _), fun g hg => by have := hge g hg; omega, (((((((((alloc_old.trans ((belA B1.out B2.out).mono (by omega))).setCell (Nat.le_refl _) _).setCell (Nat.le_refl _) _).setCell (Nat.le_refl _) _).setCell (Nat.le_refl _) _).setCell (Nat.le_refl _) _).setCell (Nat.le_refl _) _).setCell (Nat.le_refl _) _).setCell (Nat.le_refl _) _)⟩
set_option maxRecDepth 100000 in
set_option maxHeartbeats 4000000 in
theorem JGet_yesG {α : Type} (K : Kd α) (ok : ByteArray → α → Prop) (hO : KdOk K ok) (bS bM j : Nat) (l : MapT.Ents) (k : ByteArray) (x : α) (now : Int) (vA vl : Value) (A3 A4 A5 A6 : Option Addr) (an3 ac3 an4 ac4 an5 ac5 an6 ac6 : Nat) (hk : ok k x) (hf : MapT.find k l = some (.agg #[.string k, .int .i64 K.kd, .string ⟨#[]⟩, .slice A3 an3 ac3, .slice A4 an4 ac4, .slice A5 an5 ac5, .slice A6 an6 ac6, .int .i64 0])) (w : World) (h : SP w bS bM l) (hj : JB w j bS now vA vl) (hss : K.V w x (.slice A3 an3 ac3) (.slice A4 an4 ac4) (.slice A5 an5 ac5) (.slice A6 an6 ac6)) : Calls Tryz.prog 181 #[.pointer (some ⟨j, 0, none⟩), .string k] w fun e w' => ∃ Y3 Y4 Y5 Y6 yn3 yc3 yn4 yc4 yn5 yc5 yn6 yc6, e = .returned (.tuple #[.agg #[.string k, .int .i64 K.kd, .string ⟨#[]⟩, .slice Y3 yn3 yc3, .slice Y4 yn4 yc4, .slice Y5 yn5 yc5, .slice Y6 yn6 yc6, .int .i64 0], .bool true]) ∧ K.V w' x (.slice Y3 yn3 yc3) (.slice Y4 yn4 yc4) (.slice Y5 yn5 yc5) (.slice Y6 yn6 yc6) ∧ (∀ g, Own (.slice Y3 yn3 yc3) (.slice Y4 yn4 yc4) (.slice Y5 yn5 yc5) (.slice Y6 yn6 yc6) g → w.heap.size ≤ g) ∧ Below w.heap.size w w' := by
  obtain ⟨W, hW⟩ : ∃ W, w.alloc (.cells #[.string ⟨#[]⟩, .int .i64 0, .string ⟨#[]⟩, .slice none 0 0, .slice none 0 0, .slice none 0 0, .slice none 0 0, .int .i64 0] 66) = W := ⟨_, rfl⟩
  have hb3 : Below w.heap.size w W := by rw [← hW]; exact alloc_old
  have z0 : W.heap[w.heap.size]? = some (.cells #[.string ⟨#[]⟩, .int .i64 0, .string ⟨#[]⟩, .slice none 0 0, .slice none 0 0, .slice none 0 0, .slice none 0 0, .int .i64 0] 66) := by rw [← hW]; exact heap_alloc_new w _
  have hJ := hj.below hb3
  have hS := h.below hb3
  have hss2 := K.below hss hb3
  have G := fun X (hX : ((X.cell? ⟨j, 0, none⟩ = some (.pointer (some ⟨bS, 0, none⟩)) ∧ X.cell? ⟨j, 1, none⟩ = some (.int .i64 now)) ∧ Below W.heap.size W X)) => Get_yesG K ok hO bS bM l k x now A3 A4 A5 A6 an3 ac3 an4 ac4 an5 ac5 an6 ac6 hk hf X (hS.below hX.2) (K.below hss2 hX.2)
  obtain ⟨kd, hkd⟩ : ∃ kd, K.kd = kd := ⟨_, rfl⟩
  simp only [hkd] at G ⊢
  have G := Lib.hid G
  have KK := Lib.hid (show ∀ X, Below W.heap.size W X → ((X.cell? ⟨j, 0, none⟩ = some (.pointer (some ⟨bS, 0, none⟩)) ∧ X.cell? ⟨j, 1, none⟩ = some (.int .i64 now)) ∧ Below W.heap.size W X) from fun X hb => ⟨⟨(hJ.below hb).cells.1, (hJ.below hb).cells.2.1⟩, hb⟩)
  have S0 : ((W.drew.cell? ⟨j, 0, none⟩ = some (.pointer (some ⟨bS, 0, none⟩)) ∧ W.drew.cell? ⟨j, 1, none⟩ = some (.int .i64 now)) ∧ Below W.heap.size W W.drew) := KK.out _ (Below.refl W.heap.size W).drew
  have SK := Lib.hid (show ∀ Y X : World, Below X.heap.size X Y → ((X.cell? ⟨j, 0, none⟩ = some (.pointer (some ⟨bS, 0, none⟩)) ∧ X.cell? ⟨j, 1, none⟩ = some (.int .i64 now)) ∧ Below W.heap.size W X) → ((Y.cell? ⟨j, 0, none⟩ = some (.pointer (some ⟨bS, 0, none⟩)) ∧ Y.cell? ⟨j, 1, none⟩ = some (.int .i64 now)) ∧ Below W.heap.size W Y) from fun Y X hb h => KK.out _ (belT h.2 hb))
  have SA := Lib.hid (show ∀ (X : World) (o : Obj), ((X.cell? ⟨j, 0, none⟩ = some (.pointer (some ⟨bS, 0, none⟩)) ∧ X.cell? ⟨j, 1, none⟩ = some (.int .i64 now)) ∧ Below W.heap.size W X) → (((X.alloc o).cell? ⟨j, 0, none⟩ = some (.pointer (some ⟨bS, 0, none⟩)) ∧ (X.alloc o).cell? ⟨j, 1, none⟩ = some (.int .i64 now)) ∧ Below W.heap.size W (X.alloc o)) from fun X o h => SK.out _ X alloc_old h)
  have Z0 := Lib.hid (And.intro z0 hb3)
  have hz : w.heap.size < W.heap.size := (Array.getElem?_eq_some_iff.1 z0).1
  have HZ := Lib.hid hz
  have G1 := Lib.hid (G.out _ S0)
  have S2 := Lib.hid (KK.out ((W.alloc (.cells #[.string ⟨#[]⟩, .int .i64 0, .string ⟨#[]⟩, .slice none 0 0, .slice none 0 0, .slice none 0 0, .slice none 0 0, .int .i64 0] 66)).drew) alloc_old.drew)
  have G2 := Lib.hid (G.out _ S2.out)
  have hA := Lib.hid (show ((W.alloc (.cells #[.string ⟨#[]⟩, .int .i64 0, .string ⟨#[]⟩, .slice none 0 0, .slice none 0 0, .slice none 0 0, .slice none 0 0, .int .i64 0] 66)).drew).heap[W.heap.size]? = some (.cells #[.string ⟨#[]⟩, .int .i64 0, .string ⟨#[]⟩, .slice none 0 0, .slice none 0 0, .slice none 0 0, .slice none 0 0, .int .i64 0] 66) from heap_alloc_new W (.cells #[.string ⟨#[]⟩, .int .i64 0, .string ⟨#[]⟩, .slice none 0 0, .slice none 0 0, .slice none 0 0, .slice none 0 0, .int .i64 0] 66))
  have ST := Lib.hid (show ∀ (X : World) (a0 a1 a2 a3 a4 a5 a6 a7 : Value), Below W.heap.size W X → ((((((((((X.setCell ⟨W.heap.size, 0, none⟩ a0).setCell ⟨W.heap.size, 1, none⟩ a1).setCell ⟨W.heap.size, 2, none⟩ a2).setCell ⟨W.heap.size, 3, none⟩ a3).setCell ⟨W.heap.size, 4, none⟩ a4).setCell ⟨W.heap.size, 5, none⟩ a5).setCell ⟨W.heap.size, 6, none⟩ a6).setCell ⟨W.heap.size, 7, none⟩ a7).cell? ⟨j, 0, none⟩ = some (.pointer (some ⟨bS, 0, none⟩)) ∧ ((((((((X.setCell ⟨W.heap.size, 0, none⟩ a0).setCell ⟨W.heap.size, 1, none⟩ a1).setCell ⟨W.heap.size, 2, none⟩ a2).setCell ⟨W.heap.size, 3, none⟩ a3).setCell ⟨W.heap.size, 4, none⟩ a4).setCell ⟨W.heap.size, 5, none⟩ a5).setCell ⟨W.heap.size, 6, none⟩ a6).setCell ⟨W.heap.size, 7, none⟩ a7).cell? ⟨j, 1, none⟩ = some (.int .i64 now)) ∧ Below W.heap.size W ((((((((X.setCell ⟨W.heap.size, 0, none⟩ a0).setCell ⟨W.heap.size, 1, none⟩ a1).setCell ⟨W.heap.size, 2, none⟩ a2).setCell ⟨W.heap.size, 3, none⟩ a3).setCell ⟨W.heap.size, 4, none⟩ a4).setCell ⟨W.heap.size, 5, none⟩ a5).setCell ⟨W.heap.size, 6, none⟩ a6).setCell ⟨W.heap.size, 7, none⟩ a7)) from fun X a0 a1 a2 a3 a4 a5 a6 a7 hb => KK.out _ ((((((((hb.setCell (Nat.le_refl _) _).setCell (Nat.le_refl _) _).setCell (Nat.le_refl _) _).setCell (Nat.le_refl _) _).setCell (Nat.le_refl _) _).setCell (Nat.le_refl _) _).setCell (Nat.le_refl _) _).setCell (Nat.le_refl _) _))
  have S5 := Lib.hid (show ∀ X, Below ((W.alloc (.cells #[.string ⟨#[]⟩, .int .i64 0, .string ⟨#[]⟩, .slice none 0 0, .slice none 0 0, .slice none 0 0, .slice none 0 0, .int .i64 0] 66)).drew).heap.size ((W.alloc (.cells #[.string ⟨#[]⟩, .int .i64 0, .string ⟨#[]⟩, .slice none 0 0, .slice none 0 0, .slice none 0 0, .slice none 0 0, .int .i64 0] 66)).drew) X → Below W.heap.size W X from fun X hb => belT S2.out.2 hb)
  clear h hj hJ hS hss hss2 hf hb3 z0 hz hk hkd
  go_enter Tryz.func181, Tryz.ntmps181
  go_wp2
  clear hW
  go_region_held3 (fun X => ((X.cell? ⟨j, 0, none⟩ = some (.pointer (some ⟨bS, 0, none⟩)) ∧ X.cell? ⟨j, 1, none⟩ = some (.int .i64 now)) ∧ Below W.heap.size W X)) (first | (with_reducible exact S0) | (with_reducible exact S2.out) | (with_reducible exact ST.out _ _ _ _ _ _ _ _ _ (S5.out _ (by assumption))) | (with_reducible exact SA.out _ _ (SK.out _ _ (by assumption) S0)) | (with_reducible exact SK.out _ _ (by assumption) S0) | (with_reducible exact SK.out _ _ (by assumption) S2.out) | exact SA.out _ _ (by assumption))
    (first | (go_at_call 215; (with_reducible refine (G1.out).mono ?_); rintro e w5 ⟨Y3, Y4, Y5, Y6, yn3, yc3, yn4, yc4, yn5, yc5, yn6, yc6, rfl, hT, hge, hb5⟩) | (go_at_call 215; (with_reducible refine (G2.out).mono ?_); rintro e w5 ⟨Y3, Y4, Y5, Y6, yn3, yc3, yn4, yc4, yn5, yc5, yn6, yc6, rfl, hT, hge, hb5⟩; obtain ⟨⟨c0, c1, c2, c3, c4, c5, c6, c7⟩, ⟨f0, f1, f2, f3, f4, f5, f6, f7⟩, z5⟩ := cells8 (blk_below hA.out hb5)))
  · have hb := belT S0.2 hb5
    obtain ⟨⟨d0, d1, d2, d3, d4, d5, d6, d7⟩, ⟨g0, g1, g2, g3, g4, g5, g6, g7⟩, zz⟩ := cells8 (blk_below Z0.out.1 hb)
    have BB := Lib.hid (Z0.out.2.trans (hb.mono (Nat.le_of_lt HZ.out)))
    have HT := Lib.hid hT
    have hge2 : ∀ g, Own (.slice Y3 yn3 yc3) (.slice Y4 yn4 yc4) (.slice Y5 yn5 yc5) (.slice Y6 yn6 yc6) g → W.heap.size ≤ g := hge
    have hn3 : ∀ g, Own (.slice Y3 yn3 yc3) (.slice Y4 yn4 yc4) (.slice Y5 yn5 yc5) (.slice Y6 yn6 yc6) g → w.heap.size ≤ g := fun g hg => by have := HZ.out; have := hge2 g hg; omega
    have hn1 : ∀ g, Own (.slice Y3 yn3 yc3) (.slice Y4 yn4 yc4) (.slice Y5 yn5 yc5) (.slice Y6 yn6 yc6) g → g ≠ w.heap.size := fun g hg => by have := HZ.out; have := hge2 g hg; omega
    clear hb hb5 hT hge
    go_wp2
    exact bodyPost_ret (v := .tuple #[.agg #[.string k, .int .i64 kd, .string ⟨#[]⟩, .slice Y3 yn3 yc3, .slice Y4 yn4 yc4, .slice Y5 yn5 yc5, .slice Y6 yn6 yc6, .int .i64 0], .bool true]) (by simp [results, Tryz.results181, go_sem, d0, d1, d2, d3, d4, d5, d6, d7, zz]) rfl ⟨Y3, Y4, Y5, Y6, yn3, yc3, yn4, yc4, yn5, yc5, yn6, yc6, rfl, K.below (K.kept HT.out (fun g' hg' => far8b (hn1 g' hg') _ _ _ _ _ _ _ _)) alloc_old, hn3, ((((((((BB.out.setCell (Nat.le_refl _) _).setCell (Nat.le_refl _) _).setCell (Nat.le_refl _) _).setCell (Nat.le_refl _) _).setCell (Nat.le_refl _) _).setCell (Nat.le_refl _) _).setCell (Nat.le_refl _) _).setCell (Nat.le_refl _) _).alloc (by simp; omega) _⟩
  · have hb := S5.out _ hb5
    obtain ⟨⟨d0, d1, d2, d3, d4, d5, d6, d7⟩, ⟨g0, g1, g2, g3, g4, g5, g6, g7⟩, zz⟩ := cells8 (blk_below Z0.out.1 hb)
    have BB := Lib.hid (Z0.out.2.trans (hb.mono (Nat.le_of_lt HZ.out)))
    have hne1 : ¬ w.heap.size = W.heap.size := by have := HZ.out; omega
    have hne2 : ¬ W.heap.size = w.heap.size := by have := HZ.out; omega
    have hle := Lib.hid (Nat.le_of_lt HZ.out)
    have HT := Lib.hid hT
    have e9 : (W.alloc (.cells #[.string ⟨#[]⟩, .int .i64 0, .string ⟨#[]⟩, .slice none 0 0, .slice none 0 0, .slice none 0 0, .slice none 0 0, .int .i64 0] 66)).drew.heap.size = W.heap.size + 1 := (by simp : (W.alloc (.cells #[.string ⟨#[]⟩, .int .i64 0, .string ⟨#[]⟩, .slice none 0 0, .slice none 0 0, .slice none 0 0, .slice none 0 0, .int .i64 0] 66)).heap.size = W.heap.size + 1)
    have hge2 : ∀ g, Own (.slice Y3 yn3 yc3) (.slice Y4 yn4 yc4) (.slice Y5 yn5 yc5) (.slice Y6 yn6 yc6) g → W.heap.size + 1 ≤ g := by rw [e9] at hge; exact hge
    have hn3 : ∀ g, Own (.slice Y3 yn3 yc3) (.slice Y4 yn4 yc4) (.slice Y5 yn5 yc5) (.slice Y6 yn6 yc6) g → w.heap.size ≤ g := fun g hg => by have := HZ.out; have := hge2 g hg; omega
    have hn1 : ∀ g, Own (.slice Y3 yn3 yc3) (.slice Y4 yn4 yc4) (.slice Y5 yn5 yc5) (.slice Y6 yn6 yc6) g → g ≠ w.heap.size := fun g hg => by have := HZ.out; have := hge2 g hg; omega
    have hn2 : ∀ g, Own (.slice Y3 yn3 yc3) (.slice Y4 yn4 yc4) (.slice Y5 yn5 yc5) (.slice Y6 yn6 yc6) g → g ≠ W.heap.size := fun g hg => by have := hge2 g hg; omega
    clear hb hb5 hT hge e9
    go_wp2
    exact bodyPost_ret (v := .tuple #[.agg #[.string k, .int .i64 kd, .string ⟨#[]⟩, .slice Y3 yn3 yc3, .slice Y4 yn4 yc4, .slice Y5 yn5 yc5, .slice Y6 yn6 yc6, .int .i64 0], .bool true]) (by simp [results, Tryz.results181, go_sem, d0, d1, d2, d3, d4, d5, d6, d7]) rfl ⟨Y3, Y4, Y5, Y6, yn3, yc3, yn4, yc4, yn5, yc5, yn6, yc6, rfl, K.kept HT.out (fun g' hg' => (far8b (hn1 g' hg') _ _ _ _ _ _ _ _).trans (far8b (hn2 g' hg') _ _ _ _ _ _ _ _)), hn3, ((((((((((((((((BB.out.setCell hle.out _).setCell hle.out _).setCell hle.out _).setCell hle.out _).setCell hle.out _).setCell hle.out _).setCell hle.out _).setCell hle.out _).setCell (Nat.le_refl _) _).setCell (Nat.le_refl _) _).setCell (Nat.le_refl _) _).setCell (Nat.le_refl _) _).setCell (Nat.le_refl _) _).setCell (Nat.le_refl _) _).setCell (Nat.le_refl _) _).setCell (Nat.le_refl _) _)⟩
end Go.Proofs.YticlacjpgjkhcaaGreatDoor

/- A command is run: a function with captured values, effects by a reading of any kind. -/
namespace Go.Proofs.YticlacjpgjkhcaaGreatDoor
open Go.ChangeShapes Go.WideShapes Go.ChangeAt Go.RowKit

/-- A command's function: its reply and its effects (E tells them). -/
def CmdOkG (W0 : World) (F : FuncId) (caps : Array Value) (bS bM : Nat) (l : MapT.Ents) (now : Int) (xs : List ByteArray) (k n : Int) (s : ByteArray) (R E : Nat → World → Value → Prop) : Prop :=
  ∀ (X : World) (j : Nat) (vA : Value), Below W0.heap.size W0 X → SP X bS bM l → JB X j bS now vA (.slice none 0 0) → SSl X vA xs →
    Calls Tryz.prog F (#[.pointer (some ⟨j, 0, none⟩)] ++ caps) X fun e w' => ∃ A m c, e = .returned (.agg #[.int .i64 k, .int .i64 n, .string s, .slice A m c]) ∧ R X.heap.size w' (.slice A m c) ∧
      (∃ A' n' c', JB w' j bS now vA (.slice A' n' c') ∧ E X.heap.size w' (.slice A' n' c')) ∧ Kp X.heap.size (fun i => i ≠ j) X w'
set_option maxRecDepth 100000 in
set_option maxHeartbeats 8000000 in
theorem Run_okG (W0 : World) (RAW NAME : ByteArray) (F : FuncId) (caps : Array Value) (bS bM bF : Nat) (l fl : MapT.Ents) (now : Int) (xs : List ByteArray) (vA : Value) (k n : Int) (s : ByteArray) (R E : Nat → World → Value → Prop) (hF : CmdOkG W0 F caps bS bM l now xs k n s R E) (hR : RKeep R) (hE : RKeep E) (w : World) (hI : Below W0.heap.size W0 w) (hS : SP w bS bM l) (hA : SSl w vA xs) (hM : MapT.MB w bF fl) (hf : MapT.find NAME fl = some (.func (.func F) #[] caps)) (hx : xs[0]? = some RAW) (hent : ∀ (args : Array Value) (w : World), (callFunc F args).run Tryz.prog w = .ok (.enter F args) w) (hfit : ∀ X, SSl X vA xs → Calls Tryz.prog 95 #[vA] X fun e w' => e = .returned (.int .i64 0) ∧ Below X.heap.size X w') (hup : ∀ X, Calls Tryz.prog 96 #[.string RAW] X fun e w' => e = .returned (.string NAME) ∧ Below X.heap.size X w') :
    Calls Tryz.prog 36 #[.pointer (some ⟨bS, 0, none⟩), .int .i64 now, vA, .map (some bF)] w fun e w' => ∃ A m c A' n' c', e = .returned (.tuple #[.agg #[.int .i64 k, .int .i64 n, .string s, .slice A m c], .slice A' n' c', .bool true]) ∧ R w.heap.size w' (.slice A m c) ∧ E w.heap.size w' (.slice A' n' c') ∧ Below w.heap.size w w' := by
  have hmf : ∀ (fn : Fn) (first cap : Array Value) (w : World), (Instr.makeFunc fn first cap).run Tryz.prog w = .ok (.func fn first cap) w := fun _ _ _ _ => rfl
  have hr : (if true = true then Value.tuple #[(MapT.find NAME fl).getD .nilFunc, .bool (MapT.find NAME fl).isSome] else (MapT.find NAME fl).getD .nilFunc) = .tuple #[.func (.func F) #[] caps, .bool true] := by rw [hf]; rfl
  have HR := Lib.hid hr
  have h8 := Lib.hid (show ((((w.alloc (.cells #[.int .i64 0, .int .i64 0, .string ⟨#[]⟩, .slice none 0 0] 29)).alloc (.cells #[.slice none 0 0] 59)).alloc (.cells #[.bool false] 4))).heap[w.heap.size]? = some (.cells #[.int .i64 0, .int .i64 0, .string ⟨#[]⟩, .slice none 0 0] 29) from blk_below (blk_below (heap_alloc_new w _) alloc_old) alloc_old)
  have h9 := Lib.hid (show ((((w.alloc (.cells #[.int .i64 0, .int .i64 0, .string ⟨#[]⟩, .slice none 0 0] 29)).alloc (.cells #[.slice none 0 0] 59)).alloc (.cells #[.bool false] 4))).heap[w.heap.size + 1]? = some (.cells #[.slice none 0 0] 59) from blk_below (new_next w _ _) alloc_old)
  have h10 := Lib.hid (show ((((w.alloc (.cells #[.int .i64 0, .int .i64 0, .string ⟨#[]⟩, .slice none 0 0] 29)).alloc (.cells #[.slice none 0 0] 59)).alloc (.cells #[.bool false] 4))).heap[w.heap.size + 2]? = some (.cells #[.bool false] 4) from by
    have := new_next (w.alloc (.cells #[.int .i64 0, .int .i64 0, .string ⟨#[]⟩, .slice none 0 0] 29)) (.cells #[.slice none 0 0] 59) (.cells #[.bool false] 4)
    rw [World.size_alloc] at this
    exact this)
  have B3 := Lib.hid (show Below w.heap.size w ((((w.alloc (.cells #[.int .i64 0, .int .i64 0, .string ⟨#[]⟩, .slice none 0 0] 29)).alloc (.cells #[.slice none 0 0] 59)).alloc (.cells #[.bool false] 4))) from (alloc_old.trans (alloc_old.mono (by simp))).trans (alloc_old.mono (by simp; omega)))
  have hz3 := Lib.hid (show ((((w.alloc (.cells #[.int .i64 0, .int .i64 0, .string ⟨#[]⟩, .slice none 0 0] 29)).alloc (.cells #[.slice none 0 0] 59)).alloc (.cells #[.bool false] 4))).heap.size = w.heap.size + 3 from by simp)
  have FT := Lib.hid (hfit _ (hA.below B3.out))
  have UP := Lib.hid hup
  obtain ⟨aA, acap, hvA, p1, p2, p3⟩ := id hA
  have hpos : 0 < xs.length := by
    rcases Nat.eq_zero_or_pos xs.length with h0 | h0
    · rw [List.eq_nil_of_length_eq_zero h0] at hx; cases hx
    · exact h0
  have hl0 : xs.length ≤ 9223372036854775807 := by unfold maxLen at p2; omega
  have i0 : (0 : Int) < (xs.length : Int) := by omega
  obtain ⟨blk, off, rfl, hblt, hc⟩ := p3 (by intro e; rw [e] at hpos; simp at hpos)
  have CA := Lib.hid (show ∀ X, Below w.heap.size w X → X.cell? ⟨blk, off, none⟩ = some (.string RAW) from fun X hb => (hb.cell (p := ⟨blk, off, none⟩) hblt).trans (hc 0 RAW hx))
  have AS := Lib.hid (show ∀ X, Below w.heap.size w X → SSl X vA xs from fun X hb => hA.below hb)
  have SS := Lib.hid (show ∀ X, Below w.heap.size w X → SP X bS bM l from fun X hb => hS.below hb)
  have MM := Lib.hid (show ∀ X, Below w.heap.size w X → MapT.MB X bF fl from fun X hb => hM.below hb)
  have HF := Lib.hid hF
  have HI := Lib.hid hI
  clear hI
  clear hf hr hfit hup hA hS hM hc p3 hx hF
  subst hvA
  go_enter_defers Tryz.func36, Tryz.ntmps36
  go_wp2_with (first | (go_at_call 95; (with_reducible refine (FT.out).mono ?_); rintro e w1 ⟨rfl, h1⟩; have B1 := Lib.hid h1; clear h1; have BW := Lib.hid (B3.out.trans (B1.out.mono (Below.size B3.out))); have ca := CA.out _ BW.out) | (go_at_call 96; (with_reducible refine (UP.out _).mono ?_); rintro e w2 ⟨rfl, h2⟩; have B2 := Lib.hid (BW.out.trans (h2.mono (Below.size BW.out))); have B13 := Lib.hid (B1.out.trans (h2.mono (Below.size B1.out))); clear h2) | (at_lookup; refine MapT.at_look _ rfl _ _ true rfl Tryz.underlying81 Tryz.underlying9 bF fl rfl (MM.out _ B2.out) NAME rfl _ (zeroF _) _ HR.out ?_; refine Hid.out ?_))
  refine Lib.hid ?_
  have b8 := Lib.hid (blk_below h8.out B13.out)
  have b9 := Lib.hid (blk_below h9.out B13.out)
  have b10 := Lib.hid (blk_below h10.out B13.out)
  have sz2 := Lib.hid (show w.heap.size + 3 ≤ w2.heap.size from by rw [← hz3.out]; exact Below.size B13.out)
  have B4 := Lib.hid (show Below w.heap.size w (w2.alloc (.cells #[.pointer (some ⟨bS, 0, none⟩), .int .i64 now, .slice (some ⟨blk, off, none⟩) xs.length acap, .slice none 0 0] 101)) from B2.out.trans (alloc_old.mono (Below.size B2.out)))
  have HC := Lib.hid (HF.out (w2.alloc (.cells #[.pointer (some ⟨bS, 0, none⟩), .int .i64 now, .slice (some ⟨blk, off, none⟩) xs.length acap, .slice none 0 0] 101)) w2.heap.size (.slice (some ⟨blk, off, none⟩) xs.length acap) (HI.out.trans (B4.out.mono (Below.size HI.out))) (SS.out _ B4.out) (heap_alloc_new w2 _) (AS.out _ B4.out))
  have KF := Lib.hid (show ∀ X, Kp (w2.alloc (.cells #[.pointer (some ⟨bS, 0, none⟩), .int .i64 now, .slice (some ⟨blk, off, none⟩) xs.length acap, .slice none 0 0] 101)).heap.size (fun i => i ≠ w2.heap.size) (w2.alloc (.cells #[.pointer (some ⟨bS, 0, none⟩), .int .i64 now, .slice (some ⟨blk, off, none⟩) xs.length acap, .slice none 0 0] 101)) X → X.heap[w.heap.size]? = some (.cells #[.int .i64 0, .int .i64 0, .string ⟨#[]⟩, .slice none 0 0] 29) ∧ X.heap[w.heap.size + 1]? = some (.cells #[.slice none 0 0] 59) ∧ X.heap[w.heap.size + 2]? = some (.cells #[.bool false] 4) ∧ Below w.heap.size w X from fun X hK => by
    have := sz2.out
    exact ⟨(hK.block _ (by simp; omega) (by omega)).trans (blk_below b8.out alloc_old), (hK.block _ (by simp; omega) (by omega)).trans (blk_below b9.out alloc_old), (hK.block _ (by simp; omega) (by omega)).trans (blk_below b10.out alloc_old), B4.out.trans (hK.below (fun k hk => ⟨by simp; omega, by omega⟩))⟩)
  clear b8 b9 b10 h8 h9 h10 FT UP CA AS SS MM HF
  go_wp2_with (first | ((with_reducible refine (HC.out).mono ?_); rintro e w5 ⟨A, m, c, rfl, hRR, ⟨A', n', c', hJ5, hE5⟩, hK5⟩; have FF := Lib.hid (KF.out _ hK5); have HRR := Lib.hid hRR; have HE5 := Lib.hid hE5; have HJ5 := Lib.hid hJ5; have HK5 := Lib.hid hK5; clear hRR hE5 hJ5 hK5; refine Hid.out ?_))
  refine Lib.hid ?_
  obtain ⟨x8, x9, x10, BX⟩ := FF.out
  have X8 := Lib.hid x8
  have X9 := Lib.hid x9
  have X10 := Lib.hid x10
  have BX := Lib.hid BX
  obtain ⟨⟨a0, a1, a2, a3⟩, ⟨f0, f1, f2, f3⟩⟩ := cells4 x8
  obtain ⟨g0, g1⟩ := cells1 x9
  obtain ⟨l0, l1⟩ := cells1 x10
  obtain ⟨j0, j1, j2, j3, jf, jz⟩ := HJ5.out.cells
  have nj8 : ¬ w.heap.size = w2.heap.size := by have := sz2.out; omega
  clear x8 x9 x10 FF KF
  go_wp2
  have X8b := Lib.hid (set4 X8.out (.int .i64 k) (.int .i64 n) (.string s) (.slice A m c))
  have X9b := Lib.hid ((far4 (X := w5) (b := w.heap.size) (.int .i64 k) (.int .i64 n) (.string s) (.slice A m c) (show w.heap.size + 1 ≠ w.heap.size by omega)).trans X9.out)
  have X10b := Lib.hid ((far4 (X := w5) (b := w.heap.size) (.int .i64 k) (.int .i64 n) (.string s) (.slice A m c) (show w.heap.size + 2 ≠ w.heap.size by omega)).trans X10.out)
  have HJ6 := Lib.hid (HJ5.out.kept (far4 (X := w5) (b := w.heap.size) (.int .i64 k) (.int .i64 n) (.string s) (.slice A m c) (fun e => nj8 e.symm)))
  have far := Lib.hid (fun i (hi : i ≠ w.heap.size) => far4 (X := w5) (b := w.heap.size) (i := i) (.int .i64 k) (.int .i64 n) (.string s) (.slice A m c) hi)
  have hs6 := Lib.hid (show ((((w5.setCell ⟨w.heap.size, 0, none⟩ (.int .i64 k)).setCell ⟨w.heap.size, 1, none⟩ (.int .i64 n)).setCell ⟨w.heap.size, 2, none⟩ (.string s)).setCell ⟨w.heap.size, 3, none⟩ (.slice A m c)).heap.size = w5.heap.size from by simp [World.setCell])
  have BX6 := Lib.hid ((((BX.out.setCell (p := ⟨w.heap.size, 0, none⟩) (Nat.le_refl _) (.int .i64 k)).setCell (p := ⟨w.heap.size, 1, none⟩) (Nat.le_refl _) (.int .i64 n)).setCell (p := ⟨w.heap.size, 2, none⟩) (Nat.le_refl _) (.string s)).setCell (p := ⟨w.heap.size, 3, none⟩) (Nat.le_refl _) (.slice A m c))
  clear a0 a1 a2 a3 f0 f1 f2 f3 g0 g1 l0 l1 j0 j1 j2 j3 jf jz
  generalize ((((w5.setCell ⟨w.heap.size, 0, none⟩ (.int .i64 k)).setCell ⟨w.heap.size, 1, none⟩ (.int .i64 n)).setCell ⟨w.heap.size, 2, none⟩ (.string s)).setCell ⟨w.heap.size, 3, none⟩ (.slice A m c)) = w6 at X8b X9b X10b HJ6 far hs6 BX6 ⊢
  obtain ⟨⟨a0, a1, a2, a3⟩, ⟨f0, f1, f2, f3⟩⟩ := cells4 X8b.out
  obtain ⟨g0, g1⟩ := cells1 X9b.out
  obtain ⟨l0, l1⟩ := cells1 X10b.out
  obtain ⟨j0, j1, j2, j3, jf, jz⟩ := HJ6.out.cells
  go_region
  have q1 : w.heap.size + 1 + 1 ≠ w.heap.size := by omega
  have q2 : w.heap.size + 1 ≠ w.heap.size := by omega
  have q3 : w.heap.size + 1 + 1 ≠ w.heap.size + 1 := by omega
  have L7 := Lib.hid (laid26 w w5 w6 (.int .i64 k) (.int .i64 n) (.string s) (.slice A m c) (.slice A' n' c') X8b.out X9b.out X10b.out far.out hs6.out BX6.out)
  clear a0 a1 a2 a3 f0 f1 f2 f3 g0 g1 l0 l1 j0 j1 j2 j3 jf jz
  generalize ((((((((w6.setCell ⟨w.heap.size, 0, none⟩ (.int .i64 k)).setCell ⟨w.heap.size, 1, none⟩ (.int .i64 n)).setCell ⟨w.heap.size, 2, none⟩ (.string s)).setCell ⟨w.heap.size, 3, none⟩ (.slice A m c)).setCell ⟨w.heap.size + 1, 0, none⟩ (.slice A' n' c')).setCell ⟨w.heap.size + 1 + 1, 0, none⟩ (.bool true))).drew) = w7 at L7 ⊢
  obtain ⟨far7, Y8, Y9, Y10, hs7, BX7⟩ := L7.out
  have far7 := Lib.hid far7
  have Y8 := Lib.hid Y8
  have Y9 := Lib.hid Y9
  have Y10 := Lib.hid Y10
  have hs7 := Lib.hid hs7
  have BX7 := Lib.hid BX7
  clear L7
  have CI := Lib.hid (fun w => catch_idle ⟨w.heap.size, 0, none⟩ ⟨w.heap.size + 1, 0, none⟩ ⟨w.heap.size + 1 + 1, 0, none⟩ w)
  go_wp2
  refine leaves_cons (f := 97) (args := #[.pointer (some ⟨w.heap.size, 0, none⟩), .pointer (some ⟨w.heap.size + 1, 0, none⟩), .pointer (some ⟨w.heap.size + 1 + 1, 0, none⟩)]) (by simp) (by simp [go_sem]) ?_
  refine (catch_idle ⟨w.heap.size, 0, none⟩ ⟨w.heap.size + 1, 0, none⟩ ⟨w.heap.size + 1 + 1, 0, none⟩ _).mono ?_
  rintro e u' w8 ⟨rfl, rfl, hb8⟩
  obtain ⟨⟨a0, a1, a2, a3⟩, _⟩ := cells4 (blk_below Y8.out hb8)
  obtain ⟨g0, _⟩ := cells1 (blk_below Y9.out hb8)
  obtain ⟨l0, _⟩ := cells1 (blk_below Y10.out hb8)
  have HF8 : ∀ i, w2.heap.size + 1 ≤ i → i < w5.heap.size → w8.heap[i]? = w5.heap[i]? := fun i h1 h2 => by
    have := sz2.out
    exact (hb8.block i (by rw [hs7.out]; exact h2)).trans (far7.out i (by omega) (by omega) (by omega))
  have hs8 : w5.heap.size ≤ w8.heap.size := by rw [← hs7.out]; exact Below.size hb8
  have hz2 : (w2.alloc (.cells #[.pointer (some ⟨bS, 0, none⟩), .int .i64 now, .slice (some ⟨blk, off, none⟩) xs.length acap, .slice none 0 0] 101)).heap.size = w2.heap.size + 1 := by simp
  have HR1 := HRR.out
  have HE1 := HE5.out
  rw [hz2] at HR1 HE1
  have B8 : Below w.heap.size w w8 := BX7.out.trans (hb8.mono (Below.size BX7.out))
  have hle : w.heap.size ≤ w2.heap.size + 1 := by have := sz2.out; omega
  have R8 := hR.mono _ w.heap.size _ _ (hR.kept _ _ w8 _ HR1 hs8 HF8) hle
  have E8 := hE.mono _ w.heap.size _ _ (hE.kept _ _ w8 _ HE1 hs8 HF8) hle
  exact ⟨_, by simp [results, Tryz.results36, go_sem, a0, a1, a2, a3, g0, l0], A, m, c, A', n', c', rfl, R8, E8, B8⟩
end Go.Proofs.YticlacjpgjkhcaaGreatDoor

/- The space: a key is taken away. -/
namespace Go.Proofs.YticlacjpgjkhcaaGreatDoor
open Go.ChangeShapes Go.WideShapes Go.ChangeAt Go.RowKit

set_option maxRecDepth 100000 in
set_option maxHeartbeats 8000000 in
theorem Del19 (bS bM : Nat) (l : MapT.Ents) (k : ByteArray) (k0 t0 : ByteArray) (kd u0 : Int) (A : Option Addr) (n c : Nat) (hf : MapT.find k l = some (.agg #[.string k0, .int .i64 kd, .string t0, .slice A n c, .slice none 0 0, .slice none 0 0, .slice none 0 0, .int .i64 u0])) (w : World) (m0 : Int) (hsz : ∀ X, Below w.heap.size w X → Calls Tryz.prog 50 #[.agg #[.string k0, .int .i64 kd, .string t0, .slice A n c, .slice none 0 0, .slice none 0 0, .slice none 0 0, .int .i64 u0]] X fun e w' => e = .returned (.int .i64 m0) ∧ Below X.heap.size X w') (h : SP w bS bM l) : Calls Tryz.prog 28 #[.pointer (some ⟨bS, 0, none⟩), .string k] w fun e w' => e = .returned (.bool true) ∧ SP w' bS bM (MapT.del k l) ∧ Kp w.heap.size (fun i => i ≠ bS ∧ i ≠ bM) w w' := by
  have hlt := Lib.hid h.lt
  have hr : (if true = true then Value.tuple #[(MapT.find k l).getD (.agg #[.string ⟨#[]⟩, .int .i64 0, .string ⟨#[]⟩, .slice none 0 0, .slice none 0 0, .slice none 0 0, .slice none 0 0, .int .i64 0]), .bool (MapT.find k l).isSome] else (MapT.find k l).getD (.agg #[.string ⟨#[]⟩, .int .i64 0, .string ⟨#[]⟩, .slice none 0 0, .slice none 0 0, .slice none 0 0, .slice none 0 0, .int .i64 0])) = .tuple #[.agg #[.string k0, .int .i64 kd, .string t0, .slice A n c, .slice none 0 0, .slice none 0 0, .slice none 0 0, .int .i64 u0], .bool true] := by rw [hf]; rfl
  have HR := Lib.hid hr
  obtain ⟨hs1, hs2⟩ := h.cell
  obtain ⟨⟨mem, hmem⟩, hMB, hne⟩ := h
  have S1 := Lib.hid hmem
  have M1 := Lib.hid hMB
  clear hmem hMB hf hr
  have w2b := Lib.hid (show Below w.heap.size w (w.alloc (.cells #[.string k0, .int .i64 kd, .string t0, .slice A n c, .slice none 0 0, .slice none 0 0, .slice none 0 0, .int .i64 u0] 66)) from alloc_old)
  have w2n := Lib.hid (show (w.alloc (.cells #[.string k0, .int .i64 kd, .string t0, .slice A n c, .slice none 0 0, .slice none 0 0, .slice none 0 0, .int .i64 u0] 66)).heap[w.heap.size]? = some (.cells #[.string k0, .int .i64 kd, .string t0, .slice A n c, .slice none 0 0, .slice none 0 0, .slice none 0 0, .int .i64 u0] 66) from heap_alloc_new w _)
  go_enter Tryz.func28, Tryz.ntmps28
  go_wp2_with (first | (at_lookup; refine MapT.at_look _ rfl _ _ true rfl Tryz.underlying55 Tryz.underlying9 bM l rfl M1.out k rfl _ (zero33 _) _ HR.out ?_))
  change Code.wp _ _ _ _ (w.alloc (.cells #[.string k0, .int .i64 kd, .string t0, .slice A n c, .slice none 0 0, .slice none 0 0, .slice none 0 0, .int .i64 u0] 66))
  generalize (w.alloc (.cells #[.string k0, .int .i64 kd, .string t0, .slice A n c, .slice none 0 0, .slice none 0 0, .slice none 0 0, .int .i64 u0] 66)) = w2 at w2b w2n ⊢
  have BW := Lib.hid w2b
  have Q2 := Lib.hid (show Kp w.heap.size (fun i => i ≠ bS ∧ i ≠ bM) w w2 from .of BW.out)
  have S2 := Lib.hid (blk_below S1.out BW.out)
  have M2 := Lib.hid (M1.out.below BW.out)
  have w2n := Lib.hid w2n
  clear w2b
  obtain ⟨cm2, cf2⟩ := mem53 S2.out
  obtain ⟨⟨g0, g1, g2, g3, g4, g5, g6, g7⟩, _, gz⟩ := cells8 w2n.out
  have Z7 := Lib.hid (hsz w2.drew BW.out.drew)
  go_region_with ((go_at_call 50; (with_reducible refine (Z7.out).mono ?_); rintro e w3 ⟨rfl, h5⟩; have B3 : Below w2.heap.size w2 w3 := belT (Below.refl w2.heap.size w2).drew h5; clear h5; obtain ⟨cm3, cf3⟩ := mem53 (blk_below S2.out B3)))
  all_goals (
    change Exit.then _ _ _ _ (w3.setCell ⟨bS, 1, none⟩ (.int .i64 (IntKind.i64.wrap (mem - m0))))
    have S4 := Lib.hid (set53 (blk_below S2.out B3) (.int .i64 (IntKind.i64.wrap (mem - m0))))
    have M4 := Lib.hid ((M2.out.below B3).kept (Below.heap_setCell w3 ⟨bS, 1, none⟩ (.int .i64 (IntKind.i64.wrap (mem - m0))) bM (Ne.symm hne)))
    have Q4 := Lib.hid (((Q2.out.trans (.of (B3.mono Q2.out.size))).setCell (p := ⟨bS, 1, none⟩) (by simp) (.int .i64 (IntKind.i64.wrap (mem - m0)))))
    clear cm2 cf2 cm3 cf3 g0 g1 g2 g3 g4 g5 g6 g7 gz Z7 B3
    generalize w3.setCell ⟨bS, 1, none⟩ (.int .i64 (IntKind.i64.wrap (mem - m0))) = w4 at S4 M4 Q4 ⊢
    have cM4 := cell53 S4.out
    obtain ⟨w5, hrun, r1, r2, r3⟩ := MapT.run_delete Tryz.underlying55 Tryz.underlying9 M4.out k #[55, 9] rfl 0
    have S5 := Lib.hid ((grown_block r2 (lt_blk S4.out) hne).trans S4.out)
    have Q5 := Lib.hid (Q4.out.grown r2 Q4.out.size (fun k hk _ hS => hS.2 (Option.some.inj hk).symm))
    go_wp2
    go_ret
    exact ⟨by simp, ⟨⟨_, S5.out⟩, r1, hne⟩, Q5.out⟩)
end Go.Proofs.YticlacjpgjkhcaaGreatDoor
