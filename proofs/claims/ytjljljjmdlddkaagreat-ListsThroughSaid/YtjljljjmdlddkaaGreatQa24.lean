/- Texts joined: L10, L11 -/
import Derived.Test.YtjljljjmdlddkaaGreatQa23

/- Commands of lists: LTRIM, LSET. -/
namespace Go.Proofs.YtjljljjmdlddkaaGreat
open Go.ChangeShapes Go.WideShapes Go.ChangeAt Go.RowKit

theorem okL_span {k : ByteArray} {ys : List ByteArray} (x y : Int) (h : okL k ys) (hne : spanT x y ys ≠ []) : okL k (spanT x y ys) := by
  obtain ⟨h1, h2, _, h4, h5⟩ := h
  refine ⟨h1, h2, hne, Nat.le_trans (spanT_len x y ys) h4, fun s hs => h5 s ?_⟩
  unfold spanT at hs
  split at hs
  · exact List.mem_of_mem_drop (List.mem_of_mem_take hs)
  · cases hs
set_option maxRecDepth 100000 in
set_option maxHeartbeats 8000000 in
/-- LTRIM. -/
theorem cLTRIM (bS bM : Nat) (D : List (ByteArray × List ByteArray)) (now : Int) (NM k a b : ByteArray) (x y : Int) (ha : a.size ≤ 100000) (hpa : parseI a.data.toList = some x) (hb : b.size ≤ 100000) (hpb : parseI b.data.toList = some y) (hx : -1000000000 ≤ x ∧ x ≤ 1000000000) (hy : -1000000000 ≤ y ∧ y ≤ 1000000000) (ys : List ByteArray) (hf : findD k D = some ys) (w : World) : CmdD 25 #[] bS bM D now [NM, k, a, b] 1 0 ⟨#[79, 75]⟩ R0 (dEff k (xoL (spanT x y ys)) D) w := by
  intro j vA hS hj hA
  show Calls Tryz.prog 25 #[.pointer (some ⟨j, 0, none⟩)] w _
  have hok := hS.okOf hf
  have hok2 := fun h => okL_span x y hok h
  have hn := hok.2.2.2.1
  have hz31 := Nat.le_trans (spanT_len x y ys) hn
  have J2 := Lib.hid (fun Y (hY : Below w.heap.size w Y) => JIn 2 j bS now vA (.slice none 0 0) [NM, k, a, b] 2 rfl a x ha hpa rfl Y (hj.below hY) (hA.below hY))
  have J3 := Lib.hid (fun Y (hY : Below w.heap.size w Y) => JIn 3 j bS now vA (.slice none 0 0) [NM, k, a, b] 3 rfl b y hb hpb rfl Y (hj.below hY) (hA.below hY))
  obtain ⟨blk, off, cap, rfl, hAR⟩ := AR.of hj hA (by simp)
  have HJ := Lib.hid hj
  have hjw := lt_blk hj
  have A1 := Lib.hid (alloc_old (w := w) (o := .cells #[.int .i64 0, .int .i64 0, .string ⟨#[]⟩, .slice none 0 0] 28))
  have hr := Lib.hid (heap_alloc_new w (.cells #[.int .i64 0, .int .i64 0, .string ⟨#[]⟩, .slice none 0 0] 28))
  have RW := fun Y (hY : Below w.heap.size w Y) => RowD bS bM j D k now _ _ Y (SPG.below KL okL hS hY) (hj.below hY)
  simp only [hf, Option.getD_some] at RW
  have RW := Lib.hid RW
  have hl2 : ([NM, k, a, b] : List ByteArray).length = 4 := rfl
  rw [hl2] at HJ ⊢
  have c1 := (hAR.job _ A1.out).1
  have c2 := hAR.arg _ A1.out 1 k rfl
  rw [hl2] at c1
  have SP := Lib.hid (fun cr p l X d hX hR h2 h3 => SPAN j x y hx hy cr p l ys (by omega) d X hX hR h2 h3)
  have HS := Lib.hid hS
  clear hS hj hA hAR hpa hpb ha hb hx hy hok
  obtain ⟨zs, hzs⟩ : ∃ zs, spanT x y ys = zs := ⟨_, rfl⟩
  simp only [hzs] at SP hok2 hz31 ⊢
  have HO := Lib.hid hok2
  have OF := Lib.hid (fun v X hX => ROf v zs hz31 X hX)
  have OK := Lib.hid (fun X => OK74 X)
  have TT := Lib.hid (fun (X : World) (cr p : Nat) (l : Value) (A3 A4 A5 A6 : Option Addr) (an3 ac3 an4 ac4 an5 ac5 an6 ac6 : Nat) (hX : Below w.heap.size w X) (hR : RowL cr X p l zs) => TurnL bS bM j D [] k zs now (.slice (some ⟨blk, off, none⟩) 4 cap) (.slice none 0 0) w.heap.size cr p l 2 ⟨#[]⟩ A3 A4 A5 A6 an3 ac3 an4 ac4 an5 ac5 an6 ac6 HO.out (by omega) X (SPG.below KL okL HS.out hX) (JD.below KL (JD.nil KL w.heap.size HJ.out) hX) (Below.size hX) (by simp) hR)
  clear hok2 hzs
  go_enter Tryz.func25, Tryz.ntmps25
  go_wp2_with (first | (go_at_call 35; (with_reducible refine (RW.out _ A1.out).mono ?_); rintro e w1 ⟨A3, A4, A5, A6, an3, ac3, an4, ac4, an5, ac5, an6, ac6, p, l, rfl, hR1, h1⟩; have B1 := Lib.hid ((A1.out.trans (h1.mono (Below.size A1.out))).trans ((alloc_old (w := w1) (o := .cells #[.string k, .int .i64 2, .string ⟨#[]⟩, .slice A3 an3 ac3, .slice A4 an4 ac4, .slice A5 an5 ac5, .slice A6 an6 ac6, .int .i64 0] 45)).mono (by have := Below.size A1.out; have := Below.size h1; omega))); have R1 := Lib.hid (hR1.below (alloc_old (w := w1) (o := .cells #[.string k, .int .i64 2, .string ⟨#[]⟩, .slice A3 an3 ac3, .slice A4 an4 ac4, .slice A5 an5 ac5, .slice A6 an6 ac6, .int .i64 0] 45))); have r1 := Lib.hid (blk_below (blk_below hr.out h1) (alloc_old (w := w1) (o := .cells #[.string k, .int .i64 2, .string ⟨#[]⟩, .slice A3 an3 ac3, .slice A4 an4 ac4, .slice A5 an5 ac5, .slice A6 an6 ac6, .int .i64 0] 45))); have z1 := Lib.hid (heap_alloc_new w1 (.cells #[.string k, .int .i64 2, .string ⟨#[]⟩, .slice A3 an3 ac3, .slice A4 an4 ac4, .slice A5 an5 ac5, .slice A6 an6 ac6, .int .i64 0] 45)); have hw1 := Lib.hid (lt_blk (blk_below hr.out h1)); clear h1 hR1))
  generalize (w1.alloc (.cells #[.string k, .int .i64 2, .string ⟨#[]⟩, .slice A3 an3 ac3, .slice A4 an4 ac4, .slice A5 an5 ac5, .slice A6 an6 ac6, .int .i64 0] 45)) = W1 at B1 R1 r1 z1 ⊢
  have KS := Lib.hid (show ∀ X : World, X.heap[w1.heap.size]? = some (.cells #[.string k, .int .i64 2, .string ⟨#[]⟩, .slice A3 an3 ac3, .slice A4 an4 ac4, .slice A5 an5 ac5, .slice A6 an6 ac6, .int .i64 0] 45) → (X.cell? ⟨w1.heap.size, 0, none⟩ = some (.string k) ∧ X.cell? ⟨w1.heap.size, 1, none⟩ = some (.int .i64 2) ∧ X.cell? ⟨w1.heap.size, 2, none⟩ = some (.string ⟨#[]⟩) ∧ X.cell? ⟨w1.heap.size, 3, none⟩ = some (.slice A3 an3 ac3) ∧ X.cell? ⟨w1.heap.size, 4, none⟩ = some (.slice A4 an4 ac4) ∧ X.cell? ⟨w1.heap.size, 5, none⟩ = some (.slice A5 an5 ac5) ∧ X.cell? ⟨w1.heap.size, 6, none⟩ = some (.slice A6 an6 ac6) ∧ X.cell? ⟨w1.heap.size, 7, none⟩ = some (.int .i64 0)) from fun X hb => (cells8 hb).1)
  have S0 := KS.out W1.drew z1.out
  have S1 := Lib.hid (SP.out _ p l W1.drew w.heap.size (Below.size B1.out.drew) (R1.out.below (Below.refl W1.heap.size W1).drew) (fun Y hY => J2.out Y (belT B1.out (belT (Below.refl W1.heap.size W1).drew hY))) (fun Y hY => J3.out Y (belT B1.out (belT (Below.refl W1.heap.size W1).drew hY))))
  go_region_held3 (fun X => X.cell? ⟨w1.heap.size, 0, none⟩ = some (.string k) ∧ X.cell? ⟨w1.heap.size, 1, none⟩ = some (.int .i64 2) ∧ X.cell? ⟨w1.heap.size, 2, none⟩ = some (.string ⟨#[]⟩) ∧ X.cell? ⟨w1.heap.size, 3, none⟩ = some (.slice A3 an3 ac3) ∧ X.cell? ⟨w1.heap.size, 4, none⟩ = some (.slice A4 an4 ac4) ∧ X.cell? ⟨w1.heap.size, 5, none⟩ = some (.slice A5 an5 ac5) ∧ X.cell? ⟨w1.heap.size, 6, none⟩ = some (.slice A6 an6 ac6) ∧ X.cell? ⟨w1.heap.size, 7, none⟩ = some (.int .i64 0)) (first | (with_reducible exact S0) | (with_reducible exact S3.out) | (with_reducible exact S4.out) | (with_reducible exact S5.out))
    (first | (go_at_call 54; (with_reducible refine (S1.out).mono ?_); rintro e w3 ⟨A, n, C, rfl, hF3, h1⟩; have B3 := Lib.hid (belT (Below.refl W1.heap.size W1).drew h1); have z3 := Lib.hid (blk_below z1.out B3.out); have S3 := Lib.hid (KS.out _ z3.out); have K3 := Lib.hid (OF.out _ _ hF3.ssl); clear h1 hF3) | (go_at_call 55; (with_reducible refine (K3.out).mono ?_); rintro e w4 ⟨p4, l4, rfl, hR4, h1⟩; have B4 := Lib.hid (belT B3.out h1); have z4 := Lib.hid (blk_below z3.out h1); have S4 := Lib.hid (KS.out _ z4.out); have TU := Lib.hid (TT.out w4 w3.heap.size p4 l4 A3 A4 A5 A6 an3 ac3 an4 ac4 an5 ac5 an6 ac6 (B1.out.trans (B4.out.mono (Below.size B1.out))) hR4); clear h1 hR4) | (go_at_call 38; (with_reducible refine (TU.out).mono ?_); rintro e w5 ⟨rfl, ⟨vl5, hJ5⟩, hK5⟩; have J5 := Lib.hid hJ5; have K5 := Lib.hid hK5; have z5 := (hK5.block w1.heap.size (lt_blk z4.out) ⟨by have := hw1.out; omega, by simp [Value.ownBlock]⟩).trans z4.out; have S5 := Lib.hid (KS.out _ z5); clear hJ5 hK5))
  have BW := Lib.hid (B1.out.trans (B4.out.mono (Below.size B1.out)))
  have r4 := blk_below r1.out B4.out
  have r5 := Lib.hid ((K5.out.block w.heap.size (lt_blk r4) ⟨by omega, by simp [Value.ownBlock]⟩).trans r4)
  go_wp2_with (first | (go_at_call 52; (with_reducible refine (OK.out _).mono ?_); rintro e w7 ⟨rfl, h1⟩; have B7 := Lib.hid h1; have r7 := Lib.hid (blk_below r5.out h1); obtain ⟨⟨c0, c1, c2, c3⟩, ⟨f0, f1, f2, f3⟩⟩ := cells4 (blk_below r5.out h1); clear h1))
  exact bodyPost_ret (v := .agg #[.int .i64 1, .int .i64 0, .string ⟨#[79, 75]⟩, .slice none 0 0]) (by simp [results, Tryz.results25, go_sem, c0, c1, c2, c3]) rfl (endT hjw (JD.below KL J5.out B7.out) r7.out (((Kp.of BW.out).trans (K5.out.mono (Below.size BW.out) (fun i hi => ⟨hi, by simp [Value.ownBlock]⟩))).below_after B7.out (Nat.le_trans (Below.size BW.out) K5.out.size)) _ _ _ _)
set_option maxRecDepth 100000 in
set_option maxHeartbeats 8000000 in
/-- LSET of a place that there is. -/
theorem cLSET (bS bM : Nat) (D : List (ByteArray × List ByteArray)) (now : Int) (NM k a s : ByteArray) (x : Int) (ha : a.size ≤ 100000) (hpa : parseI a.data.toList = some x) (hx : -1000000000 ≤ x ∧ x ≤ 1000000000) (ys : List ByteArray) (hf : findD k D = some ys) (m : Nat) (hm : (0 ≤ x ∧ x < ys.length ∧ (m : Int) = x) ∨ (x < 0 ∧ -(ys.length : Int) ≤ x ∧ (m : Int) = x + ys.length)) (hs : s.size ≤ 4096) (w : World) : CmdD 23 #[] bS bM D now [NM, k, a, s] 1 0 ⟨#[79, 75]⟩ R0 (dEff k (some (ys.set m s)) D) w := by
  intro j vA hS hj hA
  show Calls Tryz.prog 23 #[.pointer (some ⟨j, 0, none⟩)] w _
  have hok := hS.okOf hf
  have hml : m < ys.length := by omega
  have hok2 : okL k (ys.set m s) := by
    obtain ⟨h1, h2, h3, h4, h5⟩ := hok
    refine ⟨h1, h2, by simpa using h3, by simpa using h4, fun t ht => ?_⟩
    rcases List.mem_or_eq_of_mem_set ht with h | rfl
    · exact h5 t h
    · exact hs
  have hn := hok.2.2.2.1
  have J2 := Lib.hid (fun Y (hY : Below w.heap.size w Y) => JIn 2 j bS now vA (.slice none 0 0) [NM, k, a, s] 2 rfl a x ha hpa rfl Y (hj.below hY) (hA.below hY))
  obtain ⟨blk, off, cap, rfl, hAR⟩ := AR.of hj hA (by simp)
  have HJ := Lib.hid hj
  have hjw := lt_blk hj
  have A1 := Lib.hid (alloc_old (w := w) (o := .cells #[.int .i64 0, .int .i64 0, .string ⟨#[]⟩, .slice none 0 0] 28))
  have hr := Lib.hid (heap_alloc_new w (.cells #[.int .i64 0, .int .i64 0, .string ⟨#[]⟩, .slice none 0 0] 28))
  have RW := fun Y (hY : Below w.heap.size w Y) => RowD bS bM j D k now _ _ Y (SPG.below KL okL hS hY) (hj.below hY)
  simp only [hf, Option.getD_some, Option.isSome_some] at RW
  have RW := Lib.hid RW
  have hl2 : ([NM, k, a, s] : List ByteArray).length = 4 := rfl
  rw [hl2] at HJ ⊢
  have c1 := (hAR.job _ A1.out).1
  have c2 := hAR.arg _ A1.out 1 k rfl
  rw [hl2] at c1
  have CJ := Lib.hid (fun Y hY => (hAR.job Y hY).1)
  rw [hl2] at CJ
  have CA := Lib.hid (fun Y hY => hAR.arg Y hY 3 s rfl)
  have AT := AtL x ys.length m (by omega) hx (hm.imp id (fun h => .inl h))
  have RL := fun c p l w h => RLen c p l ys w h
  have RS := Lib.hid (fun c p l w h => RSet c p l ys (by omega) m hml s w h)
  obtain ⟨zs, hzs⟩ : ∃ zs, ys.set m s = zs := ⟨_, rfl⟩
  have hzl : zs.length ≤ 31 := by rw [← hzs, List.length_set]; exact hn
  simp only [hzs] at RS hok2 ⊢
  obtain ⟨n, hnn⟩ : ∃ n : Nat, ys.length = n := ⟨_, rfl⟩
  simp only [hnn] at AT RL
  have AT := Lib.hid AT
  have RL := Lib.hid RL
  have HS := Lib.hid hS
  have HO := Lib.hid hok2
  have TT := Lib.hid (fun (X : World) (cr p : Nat) (l : Value) (A3 A4 A5 A6 : Option Addr) (an3 ac3 an4 ac4 an5 ac5 an6 ac6 : Nat) (hX : Below w.heap.size w X) (hR : RowL cr X p l zs) => TurnL bS bM j D [] k zs now (.slice (some ⟨blk, off, none⟩) 4 cap) (.slice none 0 0) w.heap.size cr p l 2 ⟨#[]⟩ A3 A4 A5 A6 an3 ac3 an4 ac4 an5 ac5 an6 ac6 (fun _ => HO.out) (by omega) X (SPG.below KL okL HS.out hX) (JD.below KL (JD.nil KL w.heap.size HJ.out) hX) (Below.size hX) (by simp) hR)
  simp only [show xoL zs = some zs from if_neg hok2.2.2.1, List.nil_append] at TT
  have OK := Lib.hid (fun X => OK74 X)
  have m1 : ¬ (m : Int) < 0 := by omega
  clear hS hj hA hAR hpa ha hx hok hok2 hzs hm hs hml hnn hf
  go_enter Tryz.func23, Tryz.ntmps23
  go_wp2_with (first | (go_at_call 35; (with_reducible refine (RW.out _ A1.out).mono ?_); rintro e w1 ⟨A3, A4, A5, A6, an3, ac3, an4, ac4, an5, ac5, an6, ac6, p, l, rfl, hR1, h1⟩; have B1 := Lib.hid ((A1.out.trans (h1.mono (Below.size A1.out))).trans ((alloc_old (w := w1) (o := .cells #[.string k, .int .i64 2, .string ⟨#[]⟩, .slice A3 an3 ac3, .slice A4 an4 ac4, .slice A5 an5 ac5, .slice A6 an6 ac6, .int .i64 0] 45)).mono (by have := Below.size A1.out; have := Below.size h1; omega))); have R1 := Lib.hid (hR1.below (alloc_old (w := w1) (o := .cells #[.string k, .int .i64 2, .string ⟨#[]⟩, .slice A3 an3 ac3, .slice A4 an4 ac4, .slice A5 an5 ac5, .slice A6 an6 ac6, .int .i64 0] 45))); have r1 := Lib.hid (blk_below (blk_below hr.out h1) (alloc_old (w := w1) (o := .cells #[.string k, .int .i64 2, .string ⟨#[]⟩, .slice A3 an3 ac3, .slice A4 an4 ac4, .slice A5 an5 ac5, .slice A6 an6 ac6, .int .i64 0] 45))); have z1 := Lib.hid (heap_alloc_new w1 (.cells #[.string k, .int .i64 2, .string ⟨#[]⟩, .slice A3 an3 ac3, .slice A4 an4 ac4, .slice A5 an5 ac5, .slice A6 an6 ac6, .int .i64 0] 45)); have hw1 := Lib.hid (lt_blk (blk_below hr.out h1)); clear h1 hR1; refine Hid.out ?_))
  refine Lib.hid ?_
  have J1 := Lib.hid (J2.out _ B1.out)
  go_wp2_with (first | (go_at_call 48; (with_reducible refine (J1.out).mono ?_); rintro e w2 ⟨rfl, h1⟩; have B2 := Lib.hid (B1.out.trans (h1.mono (Below.size B1.out))); have r2 := Lib.hid (blk_below r1.out h1); have z2 := Lib.hid (blk_below z1.out h1); have R2 := Lib.hid (R1.out.below h1); have L2 := Lib.hid (RL.out _ p l _ R2.out); clear h1) | (go_at_call 39; (with_reducible refine (L2.out).mono ?_); rintro e w3 ⟨rfl, h1⟩; have B3 := Lib.hid (B2.out.trans (h1.mono (Below.size B2.out))); have r3 := Lib.hid (blk_below r2.out h1); have z3 := Lib.hid (blk_below z2.out h1); have R3 := Lib.hid (R2.out.below h1); clear h1) | (go_at_call 47; (with_reducible refine (AT.out _).mono ?_); rintro e w4 ⟨rfl, h1⟩; have B4 := Lib.hid (B3.out.trans (h1.mono (Below.size B3.out))); have r4 := Lib.hid (blk_below r3.out h1); have z4 := Lib.hid (blk_below z3.out h1); have R4 := Lib.hid (R3.out.below h1); have RA4 := Lib.hid (RS.out _ p l _ R4.out); have ca := CA.out _ B4.out; have cj := CJ.out _ B4.out; clear h1) | (go_at_call 51; (with_reducible refine (RA4.out).mono ?_); rintro e w5 ⟨rfl, hR5, hB5, hT5⟩; refine Hid.out ?_))
  refine Lib.hid ?_
  have hcz : (w.alloc (.cells #[.int .i64 0, .int .i64 0, .string ⟨#[]⟩, .slice none 0 0] 28)).heap.size = w.heap.size + 1 := by simp
  have BW := Lib.hid (B4.out.trans (hB5.mono (by rw [hcz]; omega)))
  have r5 := Lib.hid ((hT5 _ _ _ r4.out (by decide)).trans r4.out)
  have z5 := (hT5 _ _ _ z4.out (by decide)).trans z4.out
  have TU := Lib.hid (TT.out w5 _ p l A3 A4 A5 A6 an3 ac3 an4 ac4 an5 ac5 an6 ac6 BW.out hR5)
  obtain ⟨⟨p0, p1, p2, p3, p4, p5, p6, p7⟩, _, _⟩ := cells8 z5
  clear hR5 hB5 hT5 hcz z5
  go_wp2_with (first | (go_at_call 38; (with_reducible refine (TU.out).mono ?_); rintro e w6 ⟨rfl, ⟨vl5, hJ5⟩, hK5⟩; have J5 := Lib.hid hJ5; have K5 := Lib.hid hK5; have r6 := Lib.hid ((hK5.block w.heap.size (lt_blk r5.out) ⟨by omega, by simp [Value.ownBlock]⟩).trans r5.out); clear hJ5 hK5) | (go_at_call 52; (with_reducible refine (OK.out _).mono ?_); rintro e w7 ⟨rfl, h1⟩; have B7 := Lib.hid h1; have r7 := Lib.hid (blk_below r6.out h1); obtain ⟨⟨c0, c1, c2, c3⟩, ⟨f0, f1, f2, f3⟩⟩ := cells4 (blk_below r6.out h1); clear h1))
  exact bodyPost_ret (v := .agg #[.int .i64 1, .int .i64 0, .string ⟨#[79, 75]⟩, .slice none 0 0]) (by simp [results, Tryz.results23, go_sem, c0, c1, c2, c3]) rfl (endT hjw (JD.below KL J5.out B7.out) r7.out (((Kp.of BW.out).trans (K5.out.mono (Below.size BW.out) (fun i hi => ⟨hi, by simp [Value.ownBlock]⟩))).below_after B7.out (Nat.le_trans (Below.size BW.out) K5.out.size)) _ _ _ _)
end Go.Proofs.YtjljljjmdlddkaaGreat

/- Commands of lists: LREM. -/
namespace Go.Proofs.YtjljljjmdlddkaaGreat
open Go.ChangeShapes Go.WideShapes Go.ChangeAt Go.RowKit

/-- The place that a round looks at. -/
def remK (n : Int) (len i : Nat) : Nat := if n < 0 then len - 1 - i else i
/-- What is found and gone behind so many rounds. -/
def remF (n : Int) (s : ByteArray) (ys : List ByteArray) : Nat → Int × (Nat → Bool)
  | 0 => (0, fun _ => false)
  | i + 1 =>
    let p := remF n s ys i
    if ys[remK n ys.length i]? = some s ∧ (n = 0 ∨ (n > 0 ∧ p.1 < n) ∨ (n < 0 ∧ -p.1 > n)) then (p.1 + 1, fun q => if q = remK n ys.length i then true else p.2 q) else p
/-- What is left of the first so many. -/
def leftT (g : Nat → Bool) (ys : List ByteArray) : Nat → List ByteArray
  | 0 => []
  | i + 1 => if g i then leftT g ys i else leftT g ys i ++ (ys[i]?).toList
def remT (n : Int) (s : ByteArray) (ys : List ByteArray) : List ByteArray := leftT (remF n s ys ys.length).2 ys ys.length
theorem leftT_len (g : Nat → Bool) (ys : List ByteArray) : ∀ i, (leftT g ys i).length ≤ i
  | 0 => Nat.le_refl _
  | i + 1 => by
    have := leftT_len g ys i
    unfold leftT
    split
    · omega
    · rw [List.length_append]
      have : (ys[i]?).toList.length ≤ 1 := by cases ys[i]? <;> simp
      omega
theorem leftT_mem (g : Nat → Bool) (ys : List ByteArray) : ∀ i s, s ∈ leftT g ys i → s ∈ ys
  | 0, s, h => by cases h
  | i + 1, s, h => by
    unfold leftT at h
    split at h
    · exact leftT_mem g ys i s h
    · rcases List.mem_append.1 h with h | h
      · exact leftT_mem g ys i s h
      · cases hy : ys[i]? with
        | none => rw [hy] at h; cases h
        | some t =>
          rw [hy] at h
          simp at h
          subst h
          exact List.mem_of_getElem? hy
theorem okL_rem {k : ByteArray} {ys : List ByteArray} (n : Int) (s : ByteArray) (h : okL k ys) (hne : remT n s ys ≠ []) : okL k (remT n s ys) := by
  obtain ⟨h1, h2, _, h4, h5⟩ := h
  refine ⟨h1, h2, hne, Nat.le_trans (leftT_len _ _ _) h4, fun t ht => h5 t (leftT_mem _ _ _ _ ht)⟩
theorem remF_bound (n : Int) (s : ByteArray) (ys : List ByteArray) : ∀ i, 0 ≤ (remF n s ys i).1 ∧ (remF n s ys i).1 ≤ i
  | 0 => ⟨Int.le_refl _, Int.le_refl _⟩
  | i + 1 => by
    have := remF_bound n s ys i
    unfold remF
    simp only
    split
    · simp only
      omega
    · omega
theorem remF_hit (n : Int) (s : ByteArray) (ys : List ByteArray) (i k : Nat) (hk : remK n ys.length i = k) (hs : ys[k]? = some s) (hc : n = 0 ∨ (n > 0 ∧ (remF n s ys i).1 < n) ∨ (n < 0 ∧ -(remF n s ys i).1 > n)) : remF n s ys (i + 1) = ((remF n s ys i).1 + 1, fun q => if q = k then true else (remF n s ys i).2 q) := by
  subst hk
  exact if_pos ⟨hs, hc⟩
theorem remF_miss (n : Int) (s : ByteArray) (ys : List ByteArray) (i : Nat) (h : ¬ (ys[remK n ys.length i]? = some s ∧ (n = 0 ∨ (n > 0 ∧ (remF n s ys i).1 < n) ∨ (n < 0 ∧ -(remF n s ys i).1 > n)))) : remF n s ys (i + 1) = remF n s ys i := if_neg h
/-- A row of bools in a block of its own. -/
def BL (w : World) (b n : Nat) (G : Nat → Bool) : Prop := ∃ cs, w.heap[b]? = some (.cells cs 4) ∧ cs.size = n ∧ ∀ q, q < n → cs[q]? = some (.bool (G q))
theorem iBool : (Tryz.prog.info? 4).map (fun i => (i.zero, i.size, i.bytes)) = some (some (.bool false), 1, 1) := by kernel_rfl
theorem makeB (n : Nat) (hn : n ≤ 1000000) (X : World) : (Instr.makeSlice 95 (.int .i64 n) (.int .i64 n)).run Tryz.prog X = .ok (.slice (some ⟨X.heap.size, 0, none⟩) n n) (X.alloc (.cells (madeCells #[.bool false] n) 4)) := by
  obtain ⟨i0, hi, hz0, hz1, hz2⟩ := info_parts iBool
  have h := run_make (P := Tryz.prog) X 95 4 i0 (.bool false) Tryz.underlying95 hi hz0 .i64 .i64 n n (by omega) (Int.le_refl _) (by rw [hz2]; omega) (by omega)
  rw [hz1, Int.toNat_natCast, Nat.mul_one] at h
  exact h
theorem BL.new (X : World) (n : Nat) : BL (X.alloc (.cells (madeCells #[.bool false] n) 4)) X.heap.size n (fun _ => false) := by
  refine ⟨_, heap_alloc_new X _, size_madeCells _ _, fun q hq => ?_⟩
  have h := toList_madeCells_one (.bool false) n
  rw [← Array.getElem?_toList, h, List.getElem?_replicate, if_pos hq]
theorem BL.cell {w : World} {b n : Nat} {G : Nat → Bool} (h : BL w b n G) (q : Nat) (hq : q < n) : w.cell? ⟨b, q, none⟩ = some (.bool (G q)) ∧ w.frozen? ⟨b, q, none⟩ = false := by
  obtain ⟨cs, h1, h2, h3⟩ := h
  exact ⟨(cell_of_row w b q _ 4 (0, 0) h1).trans (h3 q hq), frozen_of_row w b q _ _ h1⟩
theorem BL.set {w : World} {b n : Nat} {G : Nat → Bool} (h : BL w b n G) (k : Nat) (v : Bool) : BL (w.setCell ⟨b, k, none⟩ (.bool v)) b n (fun q => if q = k then v else G q) := by
  obtain ⟨cs, h1, h2, h3⟩ := h
  refine ⟨cs.setIfInBounds k (.bool v), by simp [World.setCell, Array.getElem?_modify, h1], by simpa using h2, fun q hq => ?_⟩
  rw [Array.getElem?_setIfInBounds]
  by_cases hk : k = q
  · subst hk
    simp [h2, hq]
  · have hk2 : ¬ q = k := fun e => hk e.symm
    simp only [hk, hk2, if_false]
    exact h3 q hq
theorem BL.below {w w' : World} {b n : Nat} {G : Nat → Bool} (h : BL w b n G) (hb : Below w.heap.size w w') : BL w' b n G := by
  obtain ⟨cs, h1, h2⟩ := h
  exact ⟨cs, blk_below h1 hb, h2⟩
set_option maxRecDepth 100000 in
set_option maxHeartbeats 8000000 in
/-- LREM. -/
theorem cLREM (bS bM : Nat) (D : List (ByteArray × List ByteArray)) (now : Int) (NM k a s : ByteArray) (x : Int) (ha : a.size ≤ 100000) (hpa : parseI a.data.toList = some x) (hx : -1000000000 ≤ x ∧ x ≤ 1000000000) (ys : List ByteArray) (hf : findD k D = some ys) (w : World) : CmdD 26 #[] bS bM D now [NM, k, a, s] 3 (remF x s ys ys.length).1 ⟨#[]⟩ R0 (dEff k (xoL (remT x s ys)) D) w := by
  intro j vA hS hj hA
  show Calls Tryz.prog 26 #[.pointer (some ⟨j, 0, none⟩)] w _
  have hok := hS.okOf hf
  have hok2 := fun h => okL_rem x s hok h
  have hn := hok.2.2.2.1
  have hne := hok.2.2.1
  have J2 := Lib.hid (fun Y (hY : Below w.heap.size w Y) => JIn 2 j bS now vA (.slice none 0 0) [NM, k, a, s] 2 rfl a x ha hpa rfl Y (hj.below hY) (hA.below hY))
  obtain ⟨blk, off, cap, rfl, hAR⟩ := AR.of hj hA (by simp)
  have HJ := Lib.hid hj
  have hjw := lt_blk hj
  have A1 := Lib.hid (alloc_old (w := w) (o := .cells #[.int .i64 0, .int .i64 0, .string ⟨#[]⟩, .slice none 0 0] 28))
  have hr := Lib.hid (heap_alloc_new w (.cells #[.int .i64 0, .int .i64 0, .string ⟨#[]⟩, .slice none 0 0] 28))
  have RW := fun Y (hY : Below w.heap.size w Y) => RowD bS bM j D k now _ _ Y (SPG.below KL okL hS hY) (hj.below hY)
  simp only [hf, Option.getD_some, Option.isSome_some] at RW
  have RW := Lib.hid RW
  have hl2 : ([NM, k, a, s] : List ByteArray).length = 4 := rfl
  rw [hl2] at HJ ⊢
  have c1 := (hAR.job _ A1.out).1
  have c2 := hAR.arg _ A1.out 1 k rfl
  rw [hl2] at c1
  have CJ := Lib.hid (fun Y hY => (hAR.job Y hY).1)
  rw [hl2] at CJ
  have CA := Lib.hid (fun Y hY => hAR.arg Y hY 3 s rfl)
  have AL := fun c p l w h => RAll1 c p l ys hne (by omega) w h
  obtain ⟨n, hnn⟩ : ∃ n : Nat, ys.length = n := ⟨_, rfl⟩
  simp only [hnn] at AL
  have AL := Lib.hid AL
  have HS := Lib.hid hS
  have HO := Lib.hid hok2
  have HN := Lib.hid hnn
  have hn31 : n ≤ 31 := by omega
  have hnp : 0 < n := by rw [← hnn]; exact List.length_pos_iff.2 hne
  have TT := Lib.hid (fun (X : World) (cr p : Nat) (l : Value) (A3 A4 A5 A6 : Option Addr) (an3 ac3 an4 ac4 an5 ac5 an6 ac6 : Nat) (hX : Below w.heap.size w X) (hR : RowL cr X p l (remT x s ys)) => TurnL bS bM j D [] k (remT x s ys) now (.slice (some ⟨blk, off, none⟩) 4 cap) (.slice none 0 0) w.heap.size cr p l 2 ⟨#[]⟩ A3 A4 A5 A6 an3 ac3 an4 ac4 an5 ac5 an6 ac6 HO.out (Nat.le_trans (leftT_len _ _ _) (by omega)) X (SPG.below KL okL HS.out hX) (JD.below KL (JD.nil KL w.heap.size HJ.out) hX) (Below.size hX) (by simp) hR)
  simp only [List.nil_append] at TT
  have mk := fun X => makeB n (by omega) X
  obtain ⟨F, hF⟩ : ∃ F, (remF x s ys ys.length).1 = F := ⟨_, rfl⟩
  have HFF := Lib.hid hF
  rw [hF]
  clear hF
  clear hS hj hA hAR hpa ha hok hok2 hnn hf hn
  go_enter Tryz.func26, Tryz.ntmps26
  go_wp2_with (first | (go_at_call 35; (with_reducible refine (RW.out _ A1.out).mono ?_); rintro e w1 ⟨A3, A4, A5, A6, an3, ac3, an4, ac4, an5, ac5, an6, ac6, p, l, rfl, hR1, h1⟩; have B1 := Lib.hid ((A1.out.trans (h1.mono (Below.size A1.out))).trans ((alloc_old (w := w1) (o := .cells #[.string k, .int .i64 2, .string ⟨#[]⟩, .slice A3 an3 ac3, .slice A4 an4 ac4, .slice A5 an5 ac5, .slice A6 an6 ac6, .int .i64 0] 45)).mono (by have := Below.size A1.out; have := Below.size h1; omega))); have R1 := Lib.hid (hR1.below (alloc_old (w := w1) (o := .cells #[.string k, .int .i64 2, .string ⟨#[]⟩, .slice A3 an3 ac3, .slice A4 an4 ac4, .slice A5 an5 ac5, .slice A6 an6 ac6, .int .i64 0] 45))); have r1 := Lib.hid (blk_below (blk_below hr.out h1) (alloc_old (w := w1) (o := .cells #[.string k, .int .i64 2, .string ⟨#[]⟩, .slice A3 an3 ac3, .slice A4 an4 ac4, .slice A5 an5 ac5, .slice A6 an6 ac6, .int .i64 0] 45))); have z1 := Lib.hid (heap_alloc_new w1 (.cells #[.string k, .int .i64 2, .string ⟨#[]⟩, .slice A3 an3 ac3, .slice A4 an4 ac4, .slice A5 an5 ac5, .slice A6 an6 ac6, .int .i64 0] 45)); have hw1 := Lib.hid (lt_blk (blk_below hr.out h1)); clear h1 hR1; refine Hid.out ?_))
  refine Lib.hid ?_
  have J1 := Lib.hid (J2.out _ B1.out)
  go_wp2_with (first | (go_at_call 48; (with_reducible refine (J1.out).mono ?_); rintro e w2 ⟨rfl, h1⟩; have B2 := Lib.hid (B1.out.trans (h1.mono (Below.size B1.out))); have r2 := Lib.hid (blk_below r1.out h1); have z2 := Lib.hid (blk_below z1.out h1); have R2 := Lib.hid (R1.out.below h1); have L2 := Lib.hid (AL.out _ p l _ R2.out); clear h1) | (go_at_call 56; (with_reducible refine (L2.out).mono ?_); rintro e w3 ⟨g3, C3, rfl, hT3, hg3, h1⟩; have T3 := Lib.hid hT3; have G3 := Lib.hid hg3; have B3 := Lib.hid (B2.out.trans (h1.mono (Below.size B2.out))); have r3 := Lib.hid (blk_below r2.out h1); have z3 := Lib.hid (blk_below z2.out h1); clear h1 hT3 hg3))
  have hw3 := Below.size B3.out
  have Q4 := BL.new w3 n
  have z4 := Lib.hid (blk_below z3.out (alloc_old (w := w3) (o := .cells (madeCells #[.bool false] n) 4)))
  have r4 := Lib.hid (blk_below r3.out (alloc_old (w := w3) (o := .cells (madeCells #[.bool false] n) 4)))
  have T4 := Lib.hid (T3.out.below (alloc_old (w := w3) (o := .cells (madeCells #[.bool false] n) 4)))
  have B4 := Lib.hid (B3.out.trans ((alloc_old (w := w3) (o := .cells (madeCells #[.bool false] n) 4)).mono hw3))
  have hs4 : (w3.alloc (.cells (madeCells #[.bool false] n) 4)).heap.size = w3.heap.size + 1 := by simp
  generalize (w3.alloc (.cells (madeCells #[.bool false] n) 4)) = W4 at Q4 z4 r4 T4 B4 hs4 ⊢
  have KW := Lib.hid (show ∀ X, Kp W4.heap.size (fun q => q ≠ w3.heap.size) W4 X → Below w.heap.size w X from fun X hX => B4.out.trans (hX.below (fun q hq => ⟨by omega, by omega⟩)))
  have KT := Lib.hid (show ∀ X, Kp W4.heap.size (fun q => q ≠ w3.heap.size) W4 X → TX X g3 C3 ys from fun X hX => T4.out.kept (hX.block _ T4.out.lt (by have := T3.out.lt; omega)))
  go_loopw [9, 10, 11, 36] (fun fv _ _ iv wr => ∃ (i : Nat) (f : Int), i ≤ n ∧ iv = .int .i64 i ∧ fv = .int .i64 f ∧ Hid (f = (remF x s ys i).1 ∧ BL wr w3.heap.size n (remF x s ys i).2 ∧ Kp W4.heap.size (fun q => q ≠ w3.heap.size) W4 wr)) (fun _ _ _ iv _ => n - (intOf iv).toNat)
  case atStart => exact ⟨0, 0, Nat.zero_le _, rfl, rfl, Lib.hid ⟨rfl, Q4, Kp.refl _ _ _⟩⟩
  case round =>
    obtain ⟨i, f, hi, rfl, rfl, HQ⟩ := hrel
    have BWr := Lib.hid (KW.out _ HQ.out.2.2)
    by_cases hlt : i < n
    · obtain ⟨kk, hk⟩ : ∃ kk, remK x ys.length i = kk := ⟨_, rfl⟩
      have hkn : kk < n := by rw [← hk, HN.out]; unfold remK; split <;> omega
      obtain ⟨t, ht⟩ : ∃ t, ys[kk]? = some t := ⟨_, List.getElem?_eq_getElem (by rw [HN.out]; exact hkn)⟩
      have q0 : (i : Int) < (n : Int) := by omega
      have q1 : (kk : Int) < (n : Int) := by omega
      have ca := (KT.out _ HQ.out.2.2).cell kk t ht
      have cs3 := CA.out _ BWr.out
      have cj := CJ.out _ BWr.out
      obtain ⟨bc, bf⟩ := HQ.out.2.1.cell kk hkn
      have caD : wr.drew.cell? ⟨g3, kk, none⟩ = some (.string t) := ca
      have csD : wr.drew.cell? ⟨blk, off + 3, none⟩ = some (.string s) := cs3
      have cjD : wr.drew.cell? ⟨j, 2, none⟩ = some (.slice (some ⟨blk, off, none⟩) 4 cap) := cj
      have bcD : wr.drew.cell? ⟨w3.heap.size, kk, none⟩ = some (.bool ((remF x s ys i).2 kk)) := bc
      have bfD : wr.drew.frozen? ⟨w3.heap.size, kk, none⟩ = false := bf
      obtain ⟨hf0, hf1⟩ := remF_bound x s ys i
      rw [← HQ.out.1] at hf0 hf1
      have w1 : wrap64 ((n : Int) - 1) = (n : Int) - 1 := by unfold wrap64; omega
      have w2 : wrap64 (f + 1) = f + 1 := by unfold wrap64; omega
      have w3' : wrap64 (-f) = -f := by unfold wrap64; omega
      by_cases hts : t = s
      · have hq : t.toList = s.toList := by rw [hts]
        rw [hts] at ht
        replace hts := ht
        by_cases x0 : x = 0
        · subst x0
          have hk2 : i = kk := by rw [← hk]; rfl
          subst hk2
          have HH := Lib.hid (remF_hit _ s ys _ _ hk hts (.inl rfl))
          clear hts hk ht
          go_wp2
          go_region
          go_wp2
          exact ⟨⟨i + 1, f + 1, by omega, by go_num, by go_num, Lib.hid ⟨by rw [HH.out, HQ.out.1], by rw [HH.out]; exact HQ.out.2.1.set _ true, HQ.out.2.2.drew.setCell (p := ⟨w3.heap.size, _, none⟩) (fun h => h.2 rfl) _⟩⟩, by simp [intOf]; omega⟩
        · have xb0 : (x == 0) = false := by rw [beq_eq_false_iff_ne]; exact x0
          have xb1 : decide (x = 0) = false := decide_eq_false x0
          by_cases xp : 0 < x
          · have xn : ¬ x < 0 := by omega
            have xb2 : decide (0 < x) = true := decide_eq_true xp
            have xb3 : decide (x < 0) = false := decide_eq_false xn
            have hk2 : i = kk := by rw [← hk]; exact (if_neg xn).symm
            subst hk2
            by_cases hfx : f < x
            · have xb4 : decide (f < x) = true := decide_eq_true hfx
              have HH := Lib.hid (remF_hit _ s ys _ _ hk hts (.inr (.inl ⟨xp, by rw [← HQ.out.1]; exact hfx⟩)))
              clear hts hk ht
              go_wp2
              go_region
              go_wp2
              exact ⟨⟨i + 1, f + 1, by omega, by go_num, by go_num, Lib.hid ⟨by rw [HH.out, HQ.out.1], by rw [HH.out]; exact HQ.out.2.1.set _ true, HQ.out.2.2.drew.setCell (p := ⟨w3.heap.size, _, none⟩) (fun h => h.2 rfl) _⟩⟩, by simp [intOf]; omega⟩
            · have xb4 : decide (f < x) = false := decide_eq_false hfx
              have HM := Lib.hid (remF_miss x s ys i (fun h => by have h1 := HQ.out.1; rcases h.2 with h2 | ⟨_, h3⟩ | ⟨h3, _⟩ <;> omega))
              clear hts hk ht
              go_wp2
              go_region
              go_wp2
              exact ⟨⟨i + 1, f, by omega, by go_num, by rfl, Lib.hid ⟨by rw [HM.out, HQ.out.1], by rw [HM.out]; exact HQ.out.2.1, HQ.out.2.2.drew⟩⟩, by simp [intOf]; omega⟩
          · have xn : x < 0 := by omega
            have xg : ¬ x > 0 := xp
            have xb2 : decide (0 < x) = false := decide_eq_false xp
            have xb3 : decide (x < 0) = true := decide_eq_true xn
            have hk2 : kk = n - 1 - i := by rw [← hk, HN.out]; exact if_pos xn
            have w4 : ((n : Int) - 1 - (i : Int)).toNat = kk := by omega
            have w5 : wrap64 ((n : Int) - 1 - (i : Int)) = (n : Int) - 1 - (i : Int) := by unfold wrap64; omega
            have w6 : 0 ≤ (n : Int) - 1 - (i : Int) := by omega
            have w7 : (n : Int) - 1 - (i : Int) < (n : Int) := by omega
            have w8 : (i : Int) ≤ (n : Int) - 1 := by omega
            clear hk2
            by_cases hfx : x < -f
            · have xb4 : decide (x < -f) = true := decide_eq_true hfx
              have HH := Lib.hid (remF_hit _ s ys _ _ hk hts (.inr (.inr ⟨xn, by rw [← HQ.out.1]; exact hfx⟩)))
              clear hts hk ht
              go_wp2
              go_region
              go_wp2
              exact ⟨⟨i + 1, f + 1, by omega, by go_num, by go_num, Lib.hid ⟨by rw [HH.out, HQ.out.1], by rw [HH.out]; exact HQ.out.2.1.set _ true, HQ.out.2.2.drew.setCell (p := ⟨w3.heap.size, _, none⟩) (fun h => h.2 rfl) _⟩⟩, by simp [intOf]; omega⟩
            · have xb4 : decide (x < -f) = false := decide_eq_false hfx
              have HM := Lib.hid (remF_miss x s ys i (fun h => by have h1 := HQ.out.1; rcases h.2 with h2 | ⟨h3, _⟩ | ⟨_, h3⟩ <;> omega))
              clear hts hk ht
              go_wp2
              go_region
              go_wp2
              exact ⟨⟨i + 1, f, by omega, by go_num, by rfl, Lib.hid ⟨by rw [HM.out, HQ.out.1], by rw [HM.out]; exact HQ.out.2.1, HQ.out.2.2.drew⟩⟩, by simp [intOf]; omega⟩
      · have hq := bytes_ne hts
        have hqb : decide (t.toList = s.toList) = false := decide_eq_false hq
        have hqc : (t.toList == s.toList) = false := by rw [beq_eq_false_iff_ne]; exact hq
        have hqe : decide (t = s) = false := decide_eq_false hts
        by_cases xn : x < 0
        · have hk2 : kk = n - 1 - i := by rw [← hk, HN.out]; exact if_pos xn
          have w4 : ((n : Int) - 1 - (i : Int)).toNat = kk := by omega
          have w5 : wrap64 ((n : Int) - 1 - (i : Int)) = (n : Int) - 1 - (i : Int) := by unfold wrap64; omega
          have w6 : 0 ≤ (n : Int) - 1 - (i : Int) := by omega
          have w7 : (n : Int) - 1 - (i : Int) < (n : Int) := by omega
          have w8 : (i : Int) ≤ (n : Int) - 1 := by omega
          clear hk2
          have HM := Lib.hid (remF_miss x s ys i (fun h => hts (by rw [hk, ht] at h; exact Option.some.inj h.1)))
          clear ht
          go_wp2
          go_region
          go_wp2
          exact ⟨⟨i + 1, f, by omega, by go_num, by rfl, Lib.hid ⟨by rw [HM.out, HQ.out.1], by rw [HM.out]; exact HQ.out.2.1, HQ.out.2.2.drew⟩⟩, by simp [intOf]; omega⟩
        · have hk2 : i = kk := by rw [← hk]; exact (if_neg xn).symm
          subst hk2
          have HM := Lib.hid (remF_miss x s ys i (fun h => hts (by rw [hk, ht] at h; exact Option.some.inj h.1)))
          clear ht
          go_wp2
          go_region
          go_wp2
          exact ⟨⟨i + 1, f, by omega, by go_num, by rfl, Lib.hid ⟨by rw [HM.out, HQ.out.1], by rw [HM.out]; exact HQ.out.2.1, HQ.out.2.2.drew⟩⟩, by simp [intOf]; omega⟩
    · obtain rfl : n = i := by omega
      have q0 : ¬ (n : Int) < (n : Int) := by omega
      obtain ⟨w5, rfl⟩ : ∃ w5, w5 = wr := ⟨_, rfl⟩
      obtain ⟨g, hgg⟩ : ∃ g, (remF x s ys n).2 = g := ⟨_, rfl⟩
      have hQ := HQ.out
      rw [hgg] at hQ
      obtain ⟨hf, hBL, hKW⟩ := hQ
      have hfF : f = F := by rw [hf, ← HFF.out, HN.out]
      subst hfF
      have hfb := remF_bound x s ys n
      rw [← hf] at hfb
      have v1 : wrap64 f = f := by unfold wrap64; omega
      have v2 : IntKind.i64.wrap f = f := IntWalk.i64_in _ (by omega)
      have GG := Lib.hid hgg
      have TW := Lib.hid (KT.out _ hKW)
      have rW := Lib.hid ((hKW.block w.heap.size (by have := lt_blk r4.out; omega) (by have := lt_blk r3.out; omega)).trans r4.out)
      have zW := Lib.hid ((hKW.block _ (lt_blk z4.out) (by have := lt_blk z3.out; omega)).trans z4.out)
      have BQ := Lib.hid hBL
      have NW := Lib.hid (RNew w5)
      clear hf hBL hKW hgg HQ hi hlt
      go_wp2_with (first | (go_at_call 57; (with_reducible refine (NW.out).mono ?_); rintro e w6 ⟨pl, rfl, hR6, h6⟩; have R6 := Lib.hid hR6; have B6 := Lib.hid h6; clear hR6 h6))
      have hnot : ∀ (x : Bool) (w : World), (Op.unary .not (.bool x)).run Tryz.prog w = .ok (.bool (!x)) w := fun _ _ => rfl
      have HL := Lib.hid (show remT x s ys = leftT g ys n by unfold remT; rw [HN.out, GG.out])
      have BWr := Lib.hid BWr.out
      go_loopw [13, 14, 90] (fun _ _ iv wr => ∃ (i : Nat) (l2 : Value), i ≤ n ∧ iv = .int .i64 i ∧ Hid (RowL w5.heap.size wr pl l2 (leftT g ys i) ∧ Below w5.heap.size w5 wr)) (fun _ _ iv _ => n - (intOf iv).toNat)
      case atStart => exact ⟨0, _, Nat.zero_le _, rfl, Lib.hid ⟨R6.out, B6.out⟩⟩
      case round =>
        obtain ⟨i, l2, hi, rfl, HQ⟩ := hrel
        by_cases hlt : i < n
        · obtain ⟨t, ht⟩ : ∃ t, ys[i]? = some t := ⟨_, List.getElem?_eq_getElem (by rw [HN.out]; exact hlt)⟩
          have q2 : (i : Int) < (n : Int) := by omega
          have ca := (TW.out.below HQ.out.2).cell i t ht
          obtain ⟨bc, bf⟩ := (BQ.out.below HQ.out.2).cell i hlt
          cases hg : g i with
          | true =>
            rw [hg] at bc
            have HS1 := Lib.hid (show leftT g ys (i + 1) = leftT g ys i from if_pos hg)
            clear ht hg
            go_wp2
            exact ⟨⟨i + 1, l2, by omega, by go_num, Lib.hid ⟨by rw [HS1.out]; exact HQ.out.1, HQ.out.2⟩⟩, by simp [intOf]; omega⟩
          | false =>
            rw [hg] at bc
            have HS1 := Lib.hid (show leftT g ys (i + 1) = leftT g ys i ++ [t] from (if_neg (by rw [hg]; decide)).trans (by rw [ht]; rfl))
            have PU := Lib.hid (RPush w5.heap.size pl l2 (leftT g ys i) (by have := leftT_len g ys i; omega) false t wr HQ.out.1)
            clear ht hg
            go_wp2_with (first | (go_at_call 37; (with_reducible refine (PU.out).mono ?_); rintro e w7 ⟨l7, rfl, h7, _, hK7⟩; have R7 := Lib.hid h7; have K7 := Lib.hid hK7; clear h7 hK7))
            exact ⟨⟨i + 1, l7, by omega, by go_num, Lib.hid ⟨by rw [HS1.out]; exact R7.out, HQ.out.1.own _ _ HQ.out.2 K7.out⟩⟩, by simp [intOf]; omega⟩
        · obtain rfl : n = i := by omega
          have q2 : ¬ (n : Int) < (n : Int) := by omega
          have BX := Lib.hid (BWr.out.trans (HQ.out.2.mono (Below.size BWr.out)))
          have rX := Lib.hid (blk_below rW.out HQ.out.2)
          have TU := Lib.hid (TT.out wr w5.heap.size pl l2 A3 A4 A5 A6 an3 ac3 an4 ac4 an5 ac5 an6 ac6 BX.out (by rw [HL.out]; exact HQ.out.1))
          obtain ⟨⟨p0, p1, p2, p3, p4, p5, p6, p7⟩, _, _⟩ := cells8 (blk_below zW.out HQ.out.2)
          have IN := Lib.hid (fun X => Int75 f X)
          clear HQ hi hlt
          go_wp2_with (first | (go_at_call 38; (with_reducible refine (TU.out).mono ?_); rintro e w8 ⟨rfl, ⟨vl5, hJ5⟩, hK5⟩; have J5 := Lib.hid hJ5; have K5 := Lib.hid hK5; have r8 := Lib.hid ((hK5.block w.heap.size (lt_blk rX.out) ⟨by omega, by simp [Value.ownBlock]⟩).trans rX.out); clear hJ5 hK5) | (go_at_call 36; (with_reducible refine (IN.out _).mono ?_); rintro e w9 ⟨rfl, h1⟩; have B9 := Lib.hid h1; have r9 := Lib.hid (blk_below r8.out h1); obtain ⟨⟨c0, c1, c2, c3⟩, ⟨f0, f1, f2, f3⟩⟩ := cells4 (blk_below r8.out h1); clear h1))
          exact bodyPost_ret (v := .agg #[.int .i64 3, .int .i64 f, .string ⟨#[]⟩, .slice none 0 0]) (by simp [results, Tryz.results26, go_sem, c0, c1, c2, c3]) rfl (endT hjw (JD.below KL J5.out B9.out) r9.out (((Kp.of BX.out).trans (K5.out.mono (Below.size BX.out) (fun i hi => ⟨hi, by simp [Value.ownBlock]⟩))).below_after B9.out (Nat.le_trans (Below.size BX.out) K5.out.size)) _ _ _ _)
end Go.Proofs.YtjljljjmdlddkaaGreat
