/- Texts joined: G8, G10, G12, Rw, Tb2 -/
import Derived.Test.YticlacjpgjkhcaaGreatDoorQs12
import Derived.Test.YticlacjpgjkhcaaGreatDoorQs3
import Derived.Test.YticlacjpgjkhcaaGreatDoorQs14
import Derived.Deep.AppendLies
set_option linter.unusedVariables false
set_option linter.unusedSimpArgs false

/- A law's do: a command's effects, as data, applied to the space as data. -/
namespace Go.Proofs.YticlacjpgjkhcaaGreatDoor
open Go.ChangeShapes Go.WideShapes Go.ChangeAt Go.RowKit

/-- The space's Del of data. -/
theorem DelD {α : Type} (K : Kd α) (ok : ByteArray → α → Prop) (hO : KdOk K ok) (bS bM : Nat) (D : List (ByteArray × α)) (k : ByteArray) (y : α) (hf : findD k D = some y) (w : World) (h : SPG K ok w bS bM D) : Calls Tryz.prog 28 #[.pointer (some ⟨bS, 0, none⟩), .string k] w fun e w' => e = .returned (.bool true) ∧ SPG K ok w' bS bM (delD k D) ∧ Kp w.heap.size (fun i => i ≠ bS ∧ i ≠ bM) w w' := by
  obtain ⟨⟨l, hS, hA⟩, hall⟩ := h
  obtain ⟨E3, E4, E5, E6, xn3, xc3, xn4, xc4, xn5, xc5, xn6, xc6, hf2, hV2⟩ := AllE.find_some K hA hf
  have hky := hall _ (findD_mem hf)
  refine (Del19G bS bM l k k ⟨#[]⟩ K.kd 0 E3 E4 E5 E6 xn3 xc3 xn4 xc4 xn5 xc5 xn6 xc6 hf2 w (hO.sz k y) (fun X hX => hO.size k y E3 E4 E5 E6 xn3 xc3 xn4 xc4 xn5 xc5 xn6 xc6 X hky (K.below hV2 hX)) hS).mono ?_
  rintro e w' ⟨rfl, h1, h4⟩
  exact ⟨rfl, ⟨⟨_, h1, AllE.del K (AllE.kept K hS (fun i hi hn => h4.block i hi hn) hA)⟩, fun p hp => hall p (mem_delD hp)⟩, h4⟩
set_option maxRecDepth 100000 in
set_option maxHeartbeats 8000000 in
theorem do_okG {α : Type} (K : Kd α) (ok : ByteArray → α → Prop) (hO : KdOk K ok) (bS bM : Nat) (D : List (ByteArray × α)) (vA : Value) (k n : Int) (s : ByteArray) (R : Nat → World → Value → Prop) (hR : RKeep R) (des : List (ByteArray × Option α)) (hm : MayD ok des D) (w : World) (hS : SPG K ok w bS bM D)
    (hD : ∀ X, Below w.heap.size w X → Calls Tryz.prog 31 #[.pointer (some ⟨bS, 0, none⟩), .int .i64 1, vA] X fun e w' => ∃ A m c A' n' c', e = .returned (.tuple #[.agg #[.int .i64 k, .int .i64 n, .string s, .slice A m c], .slice A' n' c', .bool true]) ∧ R X.heap.size w' (.slice A m c) ∧ EL K des X.heap.size w' (.slice A' n' c') ∧ Below X.heap.size X w') :
    Calls Tryz.prog 23 #[.pointer (some ⟨bS, 0, none⟩), vA] w fun e w' => ∃ A m c, e = .returned (.agg #[.int .i64 k, .int .i64 n, .string s, .slice A m c]) ∧ R w.heap.size w' (.slice A m c) ∧ SPG K ok w' bS bM (applyD des D) ∧ Kp w.heap.size (fun i => i ≠ bS ∧ i ≠ bM) w w' := by
  have A1 := Lib.hid (alloc_old (w := w) (o := .cells #[.int .i64 0, .int .i64 0, .string ⟨#[]⟩, .slice none 0 0] 29))
  have hr := Lib.hid (heap_alloc_new w (.cells #[.int .i64 0, .int .i64 0, .string ⟨#[]⟩, .slice none 0 0] 29))
  have DO := Lib.hid (hD _ A1.out)
  have HS := Lib.hid hS
  have HM := Lib.hid hm
  obtain ⟨hl1, hl2, hne⟩ := SPG.lt K ok hS
  obtain ⟨kd, hkd⟩ : ∃ kd, K.kd = kd := ⟨_, rfl⟩
  have hz0 : ¬ kd = 0 := hkd ▸ K.nz.1
  have hz1 : (kd == 0) = false := by rw [beq_eq_false_iff_ne]; exact hz0
  clear hS hD hm
  go_enter Tryz.func23, Tryz.ntmps23
  go_wp2_with (first | (go_at_call 31; (with_reducible refine (DO.out).mono ?_); rintro e w5 ⟨A, m, c, A', n', c', rfl, hRR, hE, hb5⟩; have B5 := Lib.hid (A1.out.trans (hb5.mono (Below.size A1.out))); have R5 := Lib.hid (blk_below hr.out hb5); have HR := Lib.hid hRR; have HE := Lib.hid hE; clear hRR hE hb5; refine Hid.out ?_))
  refine Lib.hid ?_
  have B6 := Lib.hid (show Below w.heap.size w (w5.alloc (.cells #[.int .i64 k, .int .i64 n, .string s, .slice A m c] 29)) from B5.out.trans (alloc_old.mono (Below.size B5.out)))
  have o6 := Lib.hid (heap_alloc_new w5 (.cells #[.int .i64 k, .int .i64 n, .string s, .slice A m c] 29))
  have R6 := Lib.hid (blk_below R5.out (alloc_old (o := .cells #[.int .i64 k, .int .i64 n, .string s, .slice A m c] 29)))
  have HE6 := Lib.hid ((EL.keep K des).kept _ _ (w5.alloc (.cells #[.int .i64 k, .int .i64 n, .string s, .slice A m c] 29)) _ HE.out (by simp) (fun i _ hi => alloc_old.block i hi))
  have hs5 := Below.size B5.out
  have hs6 := lt_blk R5.out
  have hz : w5.heap.size < (w5.alloc (.cells #[.int .i64 k, .int .i64 n, .string s, .slice A m c] 29)).heap.size := by simp
  go_wp2_with fail
  have B56 := Lib.hid (show Below w5.heap.size w5 (w5.alloc (.cells #[.int .i64 k, .int .i64 n, .string s, .slice A m c] 29)) from alloc_old)
  generalize (w5.alloc (.cells #[.int .i64 k, .int .i64 n, .string s, .slice A m c] 29)) = w6 at B6 o6 R6 HE6 hz B56 ⊢
  obtain ⟨css, hEF, hAL⟩ := HE6.out
  have hlen := ALC.len K hAL
  obtain ⟨hn, hg⟩ := hEF.form
  rw [hlen] at hn
  subst hn
  have EF6 := Lib.hid hEF
  have AL6 := Lib.hid hAL
  have S6 := Lib.hid (SPG.below K ok HS.out B6.out)
  have hz1w : (w.alloc (.cells #[.int .i64 0, .int .i64 0, .string ⟨#[]⟩, .slice none 0 0] 29)).heap.size = w.heap.size + 1 := by simp
  have hmx : des.length ≤ maxLen := by
    have := hEF
    unfold EFC World.ownsRow at this
    obtain ⟨_, ⟨_, h0⟩ | ⟨g, cap', cur, _, _, _, h3, h4, _⟩⟩ := this
    · omega
    · omega
  have hl9 : des.length ≤ 9223372036854775807 := by unfold maxLen at hmx; omega
  clear hEF hAL hmx
  go_loopw [8] (fun iv wr => ∃ (i : Nat) (D2 : List (ByteArray × α)), i ≤ des.length ∧ iv = .int .i64 i ∧ Hid (SPG K ok wr bS bM D2 ∧ MayD ok (des.drop i) D2 ∧ applyD (des.drop i) D2 = applyD des D ∧ Kp w6.heap.size (fun i => i ≠ bS ∧ i ≠ bM) w6 wr)) (fun iv _ => des.length - (intOf iv).toNat)
  case atStart => exact ⟨0, D, Nat.zero_le _, rfl, Lib.hid ⟨S6.out, HM.out, rfl, Kp.refl _ _ _⟩⟩
  case round =>
    obtain ⟨i, D2, hi, rfl, HQ⟩ := hrel
    by_cases hlt2 : i < des.length
    · have q0 : (i : Int) < (des.length : Int) := by omega
      obtain ⟨g, rfl, hgc, hgl⟩ := hg (by intro e; rw [e] at hlen; simp at hlen; omega)
      have hdrop : des.drop i = des[i] :: des.drop (i + 1) := List.drop_eq_getElem_cons hlt2
      obtain ⟨e0, he0⟩ : ∃ e0, des[i]? = some e0 := ⟨des[i], List.getElem?_eq_getElem hlt2⟩
      have hei : des[i] = e0 := by have := List.getElem?_eq_getElem hlt2; rw [he0] at this; exact (Option.some.inj this).symm
      have hQ := HQ.out
      rw [hdrop, hei] at hQ
      obtain ⟨hSP, hmm, hap, hKp⟩ := hQ
      have hEr : EFC wr (w.alloc (.cells #[.int .i64 0, .int .i64 0, .string ⟨#[]⟩, .slice none 0 0] 29)).heap.size (.slice (some ⟨g, 0, none⟩) des.length c') css := EF6.out.kept (fun g9 hg9 => by cases hg9; exact hKp.block g hgl ⟨by omega, by omega⟩)
      have hAr : ALC K (w.alloc (.cells #[.int .i64 0, .int .i64 0, .string ⟨#[]⟩, .slice none 0 0] 29)).heap.size wr des css := ALC.kept K (fun x a b d e hV hc g hg => hKp.block g (K.lt hV hg) (K.own_ne hV S6.out.1.choose_spec.1 g hg).2) AL6.out
      obtain ⟨cs0, hcs, hEC⟩ := ALC.get K hAr i e0 he0
      have hcells := fun j v hj => hEr.cell (i * 8 + j) v (flat8 K hAr i cs0 hcs j v hj)
      obtain ⟨k9, x9⟩ := e0
      cases x9 with
      | some x9 =>
        obtain ⟨hok, hl4, hmr⟩ := hmm
        obtain ⟨A3, A4, A5, A6, an3, ac3, an4, ac4, an5, ac5, an6, ac6, rfl, hV9, _⟩ := hEC
        have PP := PutD K ok hO bS bM D2 k9 x9 A3 A4 A5 A6 an3 ac3 an4 ac4 an5 ac5 an6 ac6 hok wr hSP hl4 hV9
        rw [hkd] at PP hcells
        have x0 := hcells 0 _ rfl
        have x1 := hcells 1 _ rfl
        have x2 := hcells 2 _ rfl
        have x3 := hcells 3 _ rfl
        have x4 := hcells 4 _ rfl
        have x5 := hcells 5 _ rfl
        have x6 := hcells 6 _ rfl
        have x7 := hcells 7 _ rfl
        simp only [Nat.add_zero] at x0
        have PP := Lib.hid PP
        have HMR := Lib.hid hmr
        have HAP := Lib.hid hap
        have HKP := Lib.hid hKp
        clear hcells hEr hAr hSP hmr hap hKp he0 hei hdrop HQ hV9 hok hl4 hcs
        go_wp2_with (first | (go_at_call 29; (with_reducible refine (PP.out).mono ?_); rintro e w8 ⟨rfl, hSP8, hK8⟩; have HS8 := Lib.hid hSP8; have HK8 := Lib.hid hK8; clear hSP8 hK8))
        refine ⟨⟨i + 1, _, by omega, by go_num, Lib.hid ⟨HS8.out, HMR.out, HAP.out, HKP.out.trans (HK8.out.mono HKP.out.size (fun _ h => h))⟩⟩, by simp [intOf]; omega⟩
      | none =>
        obtain ⟨⟨y, hy⟩, hmr⟩ := hmm
        have hEC : cs0 = _ := hEC
        subst hEC
        have x0 := hcells 0 _ rfl
        have x1 := hcells 1 _ rfl
        have x2 := hcells 2 _ rfl
        simp only [Nat.add_zero] at x0
        have PP := Lib.hid (DelD K ok hO bS bM D2 k9 y hy wr hSP)
        have HMR := Lib.hid hmr
        have HAP := Lib.hid hap
        have HKP := Lib.hid hKp
        clear hcells hEr hAr hSP hmr hap hKp he0 hei hdrop HQ hcs hy
        go_wp2_with (first | (go_at_call 28; (with_reducible refine (PP.out).mono ?_); rintro e w8 ⟨rfl, hSP8, hK8⟩; have HS8 := Lib.hid hSP8; have HK8 := Lib.hid hK8; clear hSP8 hK8))
        refine ⟨⟨i + 1, _, by omega, by go_num, Lib.hid ⟨HS8.out, HMR.out, HAP.out, HKP.out.trans (HK8.out.mono HKP.out.size (fun _ h => h))⟩⟩, by simp [intOf]; omega⟩
    · have hie : i = des.length := by omega
      subst hie
      have q0 : ¬ (des.length : Int) < (des.length : Int) := by omega
      have hQ := HQ.out
      rw [List.drop_length] at hQ
      obtain ⟨hSP, _, hap, hKp⟩ := hQ
      have hlW : w5.heap.size ≠ bS ∧ w5.heap.size ≠ bM ∧ w.heap.size ≠ bS ∧ w.heap.size ≠ bM := by omega
      have o8 := Lib.hid ((hKp.block w5.heap.size (lt_blk o6.out) ⟨hlW.1, hlW.2.1⟩).trans o6.out)
      have R8 := Lib.hid ((hKp.block w.heap.size (lt_blk R6.out) ⟨hlW.2.2.1, hlW.2.2.2⟩).trans R6.out)
      have HSP := Lib.hid hSP
      have HAP := Lib.hid hap
      have HKP := Lib.hid hKp
      clear hSP hap hKp HQ hi hlt2
      obtain ⟨⟨d0, d1, d2, d3⟩, _⟩ := cells4 o8.out
      obtain ⟨⟨c0, c1, c2, c3⟩, ⟨f0, f1, f2, f3⟩⟩ := cells4 R8.out
      go_wp2
      have hR5 := HR.out
      rw [hz1w] at hR5
      have hsz : w5.heap.size ≤ (((((wr.setCell ⟨w.heap.size, 0, none⟩ (.int .i64 k)).setCell ⟨w.heap.size, 1, none⟩ (.int .i64 n)).setCell ⟨w.heap.size, 2, none⟩ (.string s)).setCell ⟨w.heap.size, 3, none⟩ (.slice A m c))).heap.size := Nat.le_trans (Below.size B56.out) (Nat.le_trans HKP.out.size (by simp [World.setCell]))
      have hR9 := hR.mono _ w.heap.size _ _ (hR.kept _ _ (((((wr.setCell ⟨w.heap.size, 0, none⟩ (.int .i64 k)).setCell ⟨w.heap.size, 1, none⟩ (.int .i64 n)).setCell ⟨w.heap.size, 2, none⟩ (.string s)).setCell ⟨w.heap.size, 3, none⟩ (.slice A m c))) _ hR5 hsz (fun i h1 h2 => (far4 _ _ _ _ (by omega)).trans ((HKP.out.block i (Nat.lt_of_lt_of_le h2 (Below.size B56.out)) ⟨by omega, by omega⟩).trans (B56.out.block i h2)))) (by omega)
      have hl2 : D2 = applyD des D := HAP.out
      subst hl2
      have hS9 : SPG K ok ((((wr.setCell ⟨w.heap.size, 0, none⟩ (.int .i64 k)).setCell ⟨w.heap.size, 1, none⟩ (.int .i64 n)).setCell ⟨w.heap.size, 2, none⟩ (.string s)).setCell ⟨w.heap.size, 3, none⟩ (.slice A m c)) bS bM (applyD des D) := by
        obtain ⟨⟨l, h1, h2⟩, h3⟩ := HSP.out
        refine ⟨⟨l, h1.kept (far4 _ _ _ _ (by omega)) (far4 _ _ _ _ (by omega)), AllE.kept2 K (fun x a b d e hV g hg => far4 _ _ _ _ (fun e => ?_)) h2⟩, h3⟩
        obtain ⟨cs, t, h4, _, _, _, _, h5⟩ := K.typ hV hg
        rw [e] at h4
        have := R8.out
        rw [h4] at this
        cases this
        exact h5 rfl
      exact bodyPost_ret (v := .agg #[.int .i64 k, .int .i64 n, .string s, .slice A m c]) (by simp [results, Tryz.results23, go_sem, c0, c1, c2, c3]) rfl ⟨A, m, c, rfl, hR9, hS9, ((((((Kp.of B6.out).trans (HKP.out.mono (Below.size B6.out) (fun _ h => h))).setCell (p := ⟨w.heap.size, 0, none⟩) (by simp) _).setCell (p := ⟨w.heap.size, 1, none⟩) (by simp) _).setCell (p := ⟨w.heap.size, 2, none⟩) (by simp) _).setCell (p := ⟨w.heap.size, 3, none⟩) (by simp) _)⟩
end Go.Proofs.YticlacjpgjkhcaaGreatDoor

/- A job's look at a key of a kind, at a space as data. -/
namespace Go.Proofs.YticlacjpgjkhcaaGreatDoor
open Go.ChangeShapes Go.WideShapes Go.ChangeAt Go.RowKit

set_option maxRecDepth 100000 in
set_option maxHeartbeats 4000000 in
theorem Of_yesG {α : Type} (K : Kd α) (ok : ByteArray → α → Prop) (hO : KdOk K ok) (bS bM j : Nat) (l : MapT.Ents) (k : ByteArray) (x : α) (now : Int) (vA vl : Value) (A3 A4 A5 A6 : Option Addr) (an3 ac3 an4 ac4 an5 ac5 an6 ac6 : Nat) (hk : ok k x) (hf : MapT.find k l = some (.agg #[.string k, .int .i64 K.kd, .string ⟨#[]⟩, .slice A3 an3 ac3, .slice A4 an4 ac4, .slice A5 an5 ac5, .slice A6 an6 ac6, .int .i64 0])) (w : World) (h : SP w bS bM l) (hj : JB w j bS now vA vl) (hss : K.V w x (.slice A3 an3 ac3) (.slice A4 an4 ac4) (.slice A5 an5 ac5) (.slice A6 an6 ac6)) : Calls Tryz.prog 130 #[.pointer (some ⟨j, 0, none⟩), .string k, .int .i64 K.kd] w fun e w' => ∃ Y3 Y4 Y5 Y6 yn3 yc3 yn4 yc4 yn5 yc5 yn6 yc6, e = .returned (.tuple #[.agg #[.string k, .int .i64 K.kd, .string ⟨#[]⟩, .slice Y3 yn3 yc3, .slice Y4 yn4 yc4, .slice Y5 yn5 yc5, .slice Y6 yn6 yc6, .int .i64 0], .bool true]) ∧ K.V w' x (.slice Y3 yn3 yc3) (.slice Y4 yn4 yc4) (.slice Y5 yn5 yc5) (.slice Y6 yn6 yc6) ∧ (∀ g, Own (.slice Y3 yn3 yc3) (.slice Y4 yn4 yc4) (.slice Y5 yn5 yc5) (.slice Y6 yn6 yc6) g → w.heap.size ≤ g) ∧ Below w.heap.size w w' := by
  have G := JGet_yesG K ok hO bS bM j l k x now vA vl A3 A4 A5 A6 an3 ac3 an4 ac4 an5 ac5 an6 ac6 hk hf _ (h.below (alloc_old (w := w) (o := .cells #[.string ⟨#[]⟩, .int .i64 0, .string ⟨#[]⟩, .slice none 0 0, .slice none 0 0, .slice none 0 0, .slice none 0 0, .int .i64 0] 66))) (hj.below (alloc_old (w := w) (o := .cells #[.string ⟨#[]⟩, .int .i64 0, .string ⟨#[]⟩, .slice none 0 0, .slice none 0 0, .slice none 0 0, .slice none 0 0, .int .i64 0] 66))) (K.below hss (alloc_old (w := w) (o := .cells #[.string ⟨#[]⟩, .int .i64 0, .string ⟨#[]⟩, .slice none 0 0, .slice none 0 0, .slice none 0 0, .slice none 0 0, .int .i64 0] 66)))
  have hz : (w.alloc (.cells #[.string ⟨#[]⟩, .int .i64 0, .string ⟨#[]⟩, .slice none 0 0, .slice none 0 0, .slice none 0 0, .slice none 0 0, .int .i64 0] 66)).heap.size = w.heap.size + 1 := by simp
  have HZ := Lib.hid hz
  obtain ⟨kd, hkd⟩ : ∃ kd, K.kd = kd := ⟨_, rfl⟩
  simp only [hkd] at G ⊢
  have G := Lib.hid G
  have z0 := Lib.hid (heap_alloc_new w (.cells #[.string ⟨#[]⟩, .int .i64 0, .string ⟨#[]⟩, .slice none 0 0, .slice none 0 0, .slice none 0 0, .slice none 0 0, .int .i64 0] 66))
  clear h hj hf hk hss hkd hz
  go_enter Tryz.func130, Tryz.ntmps130
  go_wp2_with (first | (go_at_call 181; (with_reducible refine (G.out).mono ?_); rintro e w1 ⟨Y3, Y4, Y5, Y6, yn3, yc3, yn4, yc4, yn5, yc5, yn6, yc6, rfl, hV1, hg1, h1⟩; have HV := Lib.hid hV1; have HG := Lib.hid hg1; have B1 := Lib.hid h1; clear h1 hV1 hg1; obtain ⟨⟨c0, c1, c2, c3, c4, c5, c6, c7⟩, ⟨f0, f1, f2, f3, f4, f5, f6, f7⟩, z1⟩ := cells8 (blk_below z0.out B1.out)))
  have hge := HG.out
  have hz := HZ.out
  rw [hz] at hge
  have hn1 : ∀ g, Own (.slice Y3 yn3 yc3) (.slice Y4 yn4 yc4) (.slice Y5 yn5 yc5) (.slice Y6 yn6 yc6) g → g ≠ w.heap.size := fun g hg => by have := hge g hg; omega
  exact bodyPost_ret (v := .tuple #[.agg #[.string k, .int .i64 kd, .string ⟨#[]⟩, .slice Y3 yn3 yc3, .slice Y4 yn4 yc4, .slice Y5 yn5 yc5, .slice Y6 yn6 yc6, .int .i64 0], .bool true]) (by simp [results, Tryz.results130, go_sem, c0, c1, c2, c3, c4, c5, c6, c7, z1]) rfl ⟨Y3, Y4, Y5, Y6, yn3, yc3, yn4, yc4, yn5, yc5, yn6, yc6, rfl, K.below (K.kept HV.out (fun g' hg' => far8b (hn1 g' hg') _ _ _ _ _ _ _ _)) alloc_old, fun g hg => by have := hge g hg; omega, (((((((((alloc_old.trans (B1.out.mono (by simp))).setCell (Nat.le_refl _) _).setCell (Nat.le_refl _) _).setCell (Nat.le_refl _) _).setCell (Nat.le_refl _) _).setCell (Nat.le_refl _) _).setCell (Nat.le_refl _) _).setCell (Nat.le_refl _) _).setCell (Nat.le_refl _) _).alloc (by have := Below.size B1.out; simp at this ⊢; omega) _⟩
theorem OfD_no {α : Type} (K : Kd α) (ok : ByteArray → α → Prop) (bS bM j : Nat) (D : List (ByteArray × α)) (k : ByteArray) (now : Int) (vA vl : Value) (hf : findD k D = none) (w : World) (h : SPG K ok w bS bM D) (hj : JB w j bS now vA vl) : Calls Tryz.prog 130 #[.pointer (some ⟨j, 0, none⟩), .string k, .int .i64 K.kd] w fun e w' => e = .returned (.tuple #[.agg #[.string k, .int .i64 K.kd, .string ⟨#[]⟩, .slice none 0 0, .slice none 0 0, .slice none 0 0, .slice none 0 0, .int .i64 0], .bool false]) ∧ Below w.heap.size w w' := by
  obtain ⟨⟨l, hS, hA⟩, _⟩ := h
  exact Of_no bS bM j l k now vA vl K.kd (AllE.find_none K hA hf) w hS hj
theorem OfD_yes {α : Type} (K : Kd α) (ok : ByteArray → α → Prop) (hO : KdOk K ok) (bS bM j : Nat) (D : List (ByteArray × α)) (k : ByteArray) (x : α) (now : Int) (vA vl : Value) (hf : findD k D = some x) (w : World) (h : SPG K ok w bS bM D) (hj : JB w j bS now vA vl) : Calls Tryz.prog 130 #[.pointer (some ⟨j, 0, none⟩), .string k, .int .i64 K.kd] w fun e w' => ∃ Y3 Y4 Y5 Y6 yn3 yc3 yn4 yc4 yn5 yc5 yn6 yc6, e = .returned (.tuple #[.agg #[.string k, .int .i64 K.kd, .string ⟨#[]⟩, .slice Y3 yn3 yc3, .slice Y4 yn4 yc4, .slice Y5 yn5 yc5, .slice Y6 yn6 yc6, .int .i64 0], .bool true]) ∧ K.V w' x (.slice Y3 yn3 yc3) (.slice Y4 yn4 yc4) (.slice Y5 yn5 yc5) (.slice Y6 yn6 yc6) ∧ (∀ g, Own (.slice Y3 yn3 yc3) (.slice Y4 yn4 yc4) (.slice Y5 yn5 yc5) (.slice Y6 yn6 yc6) g → w.heap.size ≤ g) ∧ Below w.heap.size w w' := by
  obtain ⟨⟨l, hS, hA⟩, hall⟩ := h
  obtain ⟨A3, A4, A5, A6, an3, ac3, an4, ac4, an5, ac5, an6, ac6, hf2, hV2⟩ := AllE.find_some K hA hf
  exact Of_yesG K ok hO bS bM j l k x now vA vl A3 A4 A5 A6 an3 ac3 an4 ac4 an5 ac5 an6 ac6 (hall _ (findD_mem hf)) hf2 w hS hj hV2
/-- A job's Get, over data. -/
theorem JGetD_no {α : Type} (K : Kd α) (ok : ByteArray → α → Prop) (bS bM j : Nat) (D : List (ByteArray × α)) (k : ByteArray) (now : Int) (vA vl : Value) (hf : findD k D = none) (w : World) (h : SPG K ok w bS bM D) (hj : JB w j bS now vA vl) : Calls Tryz.prog 181 #[.pointer (some ⟨j, 0, none⟩), .string k] w fun e w' => e = .returned (.tuple #[.agg #[.string k, .int .i64 0, .string ⟨#[]⟩, .slice none 0 0, .slice none 0 0, .slice none 0 0, .slice none 0 0, .int .i64 0], .bool false]) ∧ Below w.heap.size w w' := by
  obtain ⟨⟨l, hS, hA⟩, _⟩ := h
  exact JGet_no bS bM j l k now vA vl (AllE.find_none K hA hf) w hS hj
theorem JGetD_yes {α : Type} (K : Kd α) (ok : ByteArray → α → Prop) (hO : KdOk K ok) (bS bM j : Nat) (D : List (ByteArray × α)) (k : ByteArray) (x : α) (now : Int) (vA vl : Value) (hf : findD k D = some x) (w : World) (h : SPG K ok w bS bM D) (hj : JB w j bS now vA vl) : Calls Tryz.prog 181 #[.pointer (some ⟨j, 0, none⟩), .string k] w fun e w' => ∃ Y3 Y4 Y5 Y6 yn3 yc3 yn4 yc4 yn5 yc5 yn6 yc6, e = .returned (.tuple #[.agg #[.string k, .int .i64 K.kd, .string ⟨#[]⟩, .slice Y3 yn3 yc3, .slice Y4 yn4 yc4, .slice Y5 yn5 yc5, .slice Y6 yn6 yc6, .int .i64 0], .bool true]) ∧ K.V w' x (.slice Y3 yn3 yc3) (.slice Y4 yn4 yc4) (.slice Y5 yn5 yc5) (.slice Y6 yn6 yc6) ∧ (∀ g, Own (.slice Y3 yn3 yc3) (.slice Y4 yn4 yc4) (.slice Y5 yn5 yc5) (.slice Y6 yn6 yc6) g → w.heap.size ≤ g) ∧ Below w.heap.size w w' := by
  obtain ⟨⟨l, hS, hA⟩, hall⟩ := h
  obtain ⟨A3, A4, A5, A6, an3, ac3, an4, ac4, an5, ac5, an6, ac6, hf2, hV2⟩ := AllE.find_some K hA hf
  exact JGet_yesG K ok hO bS bM j l k x now vA vl A3 A4 A5 A6 an3 ac3 an4 ac4 an5 ac5 an6 ac6 (hall _ (findD_mem hf)) hf2 w hS hj hV2
end Go.Proofs.YticlacjpgjkhcaaGreatDoor

/- A job's Turn over data: which effect it lays behind the others. -/
namespace Go.Proofs.YticlacjpgjkhcaaGreatDoor
open Go.ChangeShapes Go.WideShapes Go.ChangeAt Go.RowKit

/-- A job whose effects are told as data. -/
def JD {α : Type} (K : Kd α) (w : World) (j bS : Nat) (now : Int) (vA : Value) (c : Nat) (vl : Value) (des : List (ByteArray × Option α)) : Prop := (∃ A n cap, vl = .slice A n cap) ∧ JB w j bS now vA vl ∧ ∃ css, EFC w c vl css ∧ ALC K c w des css
theorem JD.nil {α : Type} (K : Kd α) {w : World} {j bS : Nat} {now : Int} {vA : Value} (c : Nat) (h : JB w j bS now vA (.slice none 0 0)) : JD K w j bS now vA c (.slice none 0 0) [] := ⟨⟨_, _, _, rfl⟩, h, [], EFC.nil w c, trivial⟩
theorem JD.below {α : Type} (K : Kd α) {w w' : World} {j bS : Nat} {now : Int} {vA : Value} {c : Nat} {vl : Value} {des : List (ByteArray × Option α)} (h : JD K w j bS now vA c vl des) (hb : Below w.heap.size w w') : JD K w' j bS now vA c vl des := by
  obtain ⟨h1, h2, css, h3, h4⟩ := h
  exact ⟨h1, h2.below hb, css, h3.below hb, ALC.kept K (fun x a b d e hV _ g hg => hb.block g (K.lt hV hg)) h4⟩
/-- The blocks of a kind's values are none of a job's. -/
theorem Kd.far {α : Type} (K : Kd α) {w : World} {x : α} {a b d e : Value} {g : Nat} (hV : K.V w x a b d e) (hg : Own a b d e g) {j bS : Nat} {now : Int} {vA vl : Value} (hj : JB w j bS now vA vl) {c : Nat} {css : List (List Value)} (hE : EFC w c vl css) : g ≠ j ∧ vl.ownBlock ≠ some g := by
  obtain ⟨cs, t, h1, h2, h3, h4, h5, h6⟩ := K.typ hV hg
  refine ⟨fun e => ?_, fun e => ?_⟩
  · subst e
    unfold JB at hj
    rw [hj] at h1
    cases h1
    exact h4 rfl
  · obtain ⟨_, cur, hh⟩ := hE.own g e
    rw [hh] at h1
    cases h1
    exact h3 rfl
theorem JD.step {α : Type} (K : Kd α) {w w' : World} {j bS : Nat} {now : Int} {vA : Value} {c : Nat} {vl : Value} {des : List (ByteArray × Option α)} (hj : JB w j bS now vA vl) {css : List (List Value)} (hE : EFC w c vl css) (hA : ALC K c w des css) {cs : List Value} (h : JE w' j bS now vA c (css ++ [cs])) (hK : Kp w.heap.size (fun i => i ≠ j ∧ vl.ownBlock ≠ some i) w w') {p : ByteArray × Option α} (hp : EC K c w' p cs) : ∃ vl', JD K w' j bS now vA c vl' (des ++ [p]) := by
  obtain ⟨A, n, cap, h1, h2⟩ := h
  exact ⟨_, ⟨_, _, _, rfl⟩, h1, _, h2, ALC.append K hp (ALC.kept K (fun x a b d e hV _ g hg => hK.block g (K.lt hV hg) (K.far hV hg hj hE)) hA)⟩
/-- What more a kind's values must answer. -/
structure KdSame {α : Type} [DecidableEq α] (K : Kd α) where
  len : ∀ (x : α) (A3 A4 A5 A6 : Option Addr) (an3 ac3 an4 ac4 an5 ac5 an6 ac6 : Nat) (w : World), K.V w x (.slice A3 an3 ac3) (.slice A4 an4 ac4) (.slice A5 an5 ac5) (.slice A6 an6 ac6) → ∃ m : Int, ¬ m = 0 ∧ ∀ X, Below w.heap.size w X → Calls Tryz.prog 165 #[.agg #[.int .i64 K.kd, .string ⟨#[]⟩, .slice A3 an3 ac3, .slice A4 an4 ac4, .slice A5 an5 ac5, .slice A6 an6 ac6]] X fun e w' => e = .returned (.int .i64 m) ∧ Below X.heap.size X w'
  len0 : ∀ (w : World), Calls Tryz.prog 165 #[.agg #[.int .i64 K.kd, .string ⟨#[]⟩, .slice none 0 0, .slice none 0 0, .slice none 0 0, .slice none 0 0]] w fun e w' => e = .returned (.int .i64 0) ∧ Below w.heap.size w w'
  same : ∀ (x y : α) (A3 A4 A5 A6 : Option Addr) (an3 ac3 an4 ac4 an5 ac5 an6 ac6 : Nat) (Y3 Y4 Y5 Y6 : Option Addr) (yn3 yc3 yn4 yc4 yn5 yc5 yn6 yc6 : Nat) (w : World), K.V w x (.slice A3 an3 ac3) (.slice A4 an4 ac4) (.slice A5 an5 ac5) (.slice A6 an6 ac6) → K.V w y (.slice Y3 yn3 yc3) (.slice Y4 yn4 yc4) (.slice Y5 yn5 yc5) (.slice Y6 yn6 yc6) → Calls Tryz.prog 211 #[.agg #[.int .i64 K.kd, .string ⟨#[]⟩, .slice A3 an3 ac3, .slice A4 an4 ac4, .slice A5 an5 ac5, .slice A6 an6 ac6], .agg #[.int .i64 K.kd, .string ⟨#[]⟩, .slice Y3 yn3 yc3, .slice Y4 yn4 yc4, .slice Y5 yn5 yc5, .slice Y6 yn6 yc6]] w fun e w' => e = .returned (.bool (decide (x = y))) ∧ Below w.heap.size w w'
/-- The effect of a turned value, as data. -/
def dEff {α : Type} [DecidableEq α] (k : ByteArray) (xo : Option α) (D : List (ByteArray × α)) : List (ByteArray × Option α) :=
  match findD k D, xo with
  | none, none => []
  | some _, none => [(k, none)]
  | none, some x => [(k, some x)]
  | some y, some x => if y = x then [] else [(k, some x)]
/-- Turn of a value. -/
theorem TurnD_some {α : Type} [DecidableEq α] (K : Kd α) (ok : ByteArray → α → Prop) (hO : KdOk K ok) (hS : KdSame K) (bS bM j : Nat) (D : List (ByteArray × α)) (des : List (ByteArray × Option α)) (k : ByteArray) (x : α) (now : Int) (vA vl : Value) (c : Nat) (A3 A4 A5 A6 : Option Addr) (an3 ac3 an4 ac4 an5 ac5 an6 ac6 : Nat) (hk : ok k x) (w : World) (h : SPG K ok w bS bM D) (hj : JD K w j bS now vA c vl des) (hc : c ≤ w.heap.size) (hl : des.length ≤ 100000) (hV : K.V w x (.slice A3 an3 ac3) (.slice A4 an4 ac4) (.slice A5 an5 ac5) (.slice A6 an6 ac6)) (hg : ∀ g, Own (.slice A3 an3 ac3) (.slice A4 an4 ac4) (.slice A5 an5 ac5) (.slice A6 an6 ac6) g → c ≤ g) : Calls Tryz.prog 161 #[.pointer (some ⟨j, 0, none⟩), .agg #[.string k, .int .i64 K.kd, .string ⟨#[]⟩, .slice A3 an3 ac3, .slice A4 an4 ac4, .slice A5 an5 ac5, .slice A6 an6 ac6, .int .i64 0]] w fun e w' => e = .returned (.tuple #[]) ∧ (∃ vl', JD K w' j bS now vA c vl' (des ++ dEff k (some x) D)) ∧ Kp w.heap.size (fun i => i ≠ j ∧ vl.ownBlock ≠ some i) w w' := by
  have hj0 := hj
  obtain ⟨⟨A, n, cap, rfl⟩, hJ, css, hE, hA⟩ := hj
  obtain ⟨m, hm, hLn⟩ := hS.len x A3 A4 A5 A6 an3 ac3 an4 ac4 an5 ac5 an6 ac6 w hV
  have hM := fun X (hX : Below w.heap.size w X) => hO.may k x A3 A4 A5 A6 an3 ac3 an4 ac4 an5 ac5 an6 ac6 X hk (K.below hV hX)
  have hl2 : css.length ≤ 100000 := by rw [ALC.len K hA]; exact hl
  have hend : ∀ w', JE w' j bS now vA c (css ++ [[.string k, .int .i64 K.kd, .string ⟨#[]⟩, .slice A3 an3 ac3, .slice A4 an4 ac4, .slice A5 an5 ac5, .slice A6 an6 ac6, .int .i64 0]]) → Kp w.heap.size (fun i => i ≠ j ∧ (Value.slice A n cap).ownBlock ≠ some i) w w' → ∃ vl', JD K w' j bS now vA c vl' (des ++ [(k, some x)]) := fun w' h1 h2 =>
    JD.step K hJ hE hA h1 h2 ⟨A3, A4, A5, A6, an3, ac3, an4, ac4, an5, ac5, an6, ac6, rfl, K.kept hV (fun g hg => h2.block g (K.lt hV hg) (K.far hV hg hJ hE)), hg⟩
  unfold dEff
  cases hf : findD k D with
  | none =>
    refine (TurnC_new j bS now vA A n cap css c w hJ hE hc hl2 k K.kd ⟨#[]⟩ A3 A4 A5 A6 an3 ac3 an4 ac4 an5 ac5 an6 ac6 0 K.nz.2 (fun X hX => JGetD_no K ok bS bM j D k now vA _ hf X (SPG.below K ok h hX) (hJ.below hX)) m hLn hm hM).mono ?_
    rintro e w' ⟨rfl, h1, h2⟩
    exact ⟨rfl, hend w' h1 h2, h2⟩
  | some y =>
    by_cases hy : y = x
    · simp only [hy, if_true, List.append_nil]
      refine (TurnC_same j w k K.kd ⟨#[]⟩ A3 A4 A5 A6 an3 ac3 an4 ac4 an5 ac5 an6 ac6 0 K.nz.2 (fun X hX => ?_) m hLn hm).mono ?_
      · refine (JGetD_yes K ok hO bS bM j D k y now vA _ hf X (SPG.below K ok h hX) (hJ.below hX)).mono ?_
        rintro e w' ⟨Y3, Y4, Y5, Y6, yn3, yc3, yn4, yc4, yn5, yc5, yn6, yc6, rfl, h1, _, h2⟩
        refine ⟨K.kd, ⟨#[]⟩, Y3, Y4, Y5, Y6, yn3, yc3, yn4, yc4, yn5, yc5, yn6, yc6, rfl, h2, fun Y hY => ?_⟩
        have := hS.same y x Y3 Y4 Y5 Y6 yn3 yc3 yn4 yc4 yn5 yc5 yn6 yc6 A3 A4 A5 A6 an3 ac3 an4 ac4 an5 ac5 an6 ac6 Y (K.below h1 hY) (K.below hV ((hX.trans (h2.mono (Below.size hX))).trans (hY.mono (Nat.le_trans (Below.size hX) (Below.size h2)))))
        rw [decide_eq_true hy] at this
        exact this
      · rintro e w' ⟨rfl, h1⟩
        exact ⟨rfl, ⟨_, JD.below K hj0 h1⟩, .of h1⟩
    · simp only [hy, if_false]
      refine (TurnC_diff j bS now vA A n cap css c w hJ hE hc hl2 k K.kd ⟨#[]⟩ A3 A4 A5 A6 an3 ac3 an4 ac4 an5 ac5 an6 ac6 0 K.nz.2 (fun X hX => ?_) m hLn hm hM).mono ?_
      · refine (JGetD_yes K ok hO bS bM j D k y now vA _ hf X (SPG.below K ok h hX) (hJ.below hX)).mono ?_
        rintro e w' ⟨Y3, Y4, Y5, Y6, yn3, yc3, yn4, yc4, yn5, yc5, yn6, yc6, rfl, h1, _, h2⟩
        refine ⟨K.kd, ⟨#[]⟩, Y3, Y4, Y5, Y6, yn3, yc3, yn4, yc4, yn5, yc5, yn6, yc6, rfl, h2, fun Y hY => ?_⟩
        have := hS.same y x Y3 Y4 Y5 Y6 yn3 yc3 yn4 yc4 yn5 yc5 yn6 yc6 A3 A4 A5 A6 an3 ac3 an4 ac4 an5 ac5 an6 ac6 Y (K.below h1 hY) (K.below hV ((hX.trans (h2.mono (Below.size hX))).trans (hY.mono (Nat.le_trans (Below.size hX) (Below.size h2)))))
        rw [decide_eq_false hy] at this
        exact this
      · rintro e w' ⟨rfl, h1, h2⟩
        exact ⟨rfl, hend w' h1 h2, h2⟩
/-- Turn of a value without elements. -/
theorem TurnD_none {α : Type} [DecidableEq α] (K : Kd α) (ok : ByteArray → α → Prop) (hO : KdOk K ok) (hS : KdSame K) (bS bM j : Nat) (D : List (ByteArray × α)) (des : List (ByteArray × Option α)) (k : ByteArray) (now : Int) (vA vl : Value) (c : Nat) (w : World) (h : SPG K ok w bS bM D) (hj : JD K w j bS now vA c vl des) (hc : c ≤ w.heap.size) (hl : des.length ≤ 100000) : Calls Tryz.prog 161 #[.pointer (some ⟨j, 0, none⟩), .agg #[.string k, .int .i64 K.kd, .string ⟨#[]⟩, .slice none 0 0, .slice none 0 0, .slice none 0 0, .slice none 0 0, .int .i64 0]] w fun e w' => e = .returned (.tuple #[]) ∧ (∃ vl', JD K w' j bS now vA c vl' (des ++ dEff k none D)) ∧ Kp w.heap.size (fun i => i ≠ j ∧ vl.ownBlock ≠ some i) w w' := by
  have hj0 := hj
  obtain ⟨⟨A, n, cap, rfl⟩, hJ, css, hE, hA⟩ := hj
  have hl2 : css.length ≤ 100000 := by rw [ALC.len K hA]; exact hl
  unfold dEff
  cases hf : findD k D with
  | none =>
    simp only [List.append_nil]
    refine (TurnC_none j w k K.kd ⟨#[]⟩ none none none none 0 0 0 0 0 0 0 0 0 K.nz.2 (fun X hX => JGetD_no K ok bS bM j D k now vA _ hf X (SPG.below K ok h hX) (hJ.below hX)) 0 (fun X _ => hS.len0 X) rfl).mono ?_
    rintro e w' ⟨rfl, h1⟩
    exact ⟨rfl, ⟨_, JD.below K hj0 h1⟩, .of h1⟩
  | some y =>
    refine (TurnC_gone j bS now vA A n cap css c w hJ hE hc hl2 k K.kd ⟨#[]⟩ none none none none 0 0 0 0 0 0 0 0 0 K.nz.2 (fun X hX => ?_) 0 (fun X _ => hS.len0 X) rfl).mono ?_
    · refine (JGetD_yes K ok hO bS bM j D k y now vA _ hf X (SPG.below K ok h hX) (hJ.below hX)).mono ?_
      rintro e w' ⟨Y3, Y4, Y5, Y6, yn3, yc3, yn4, yc4, yn5, yc5, yn6, yc6, rfl, h1, _, h2⟩
      exact ⟨K.kd, ⟨#[]⟩, 0, Y3, Y4, Y5, Y6, yn3, yc3, yn4, yc4, yn5, yc5, yn6, yc6, rfl, h2⟩
    · rintro e w' ⟨rfl, h1, h2⟩
      exact ⟨rfl, JD.step K hJ hE hA h1 h2 (show EC K c w' (k, none) _ from rfl), h2⟩
end Go.Proofs.YticlacjpgjkhcaaGreatDoor

/- Rows of the call's own: what any kind asks. -/
namespace Go.Proofs.YticlacjpgjkhcaaGreatDoor
open Go.ChangeShapes Go.WideShapes Go.ChangeAt Go.RowKit

theorem row_typ {w : World} {c : Nat} {e : TypeId} {m : Nat} {v : Value} {n : Nat} {xs : List Value} (h : w.ownsRow c e m v n xs) : ∀ g, v.ownBlock = some g → ∃ cs, w.heap[g]? = some (.cells cs e) := by
  intro g hg
  unfold World.ownsRow at h
  obtain ⟨_, ⟨rfl, _⟩ | ⟨g', cap, cur, rfl, h1, h2, _⟩⟩ := h
  · cases hg
  · cases hg
    exact ⟨cur, h2⟩
theorem row_form {w : World} {c : Nat} {e : TypeId} {m : Nat} {v : Value} {n : Nat} {xs : List Value} (h : w.ownsRow c e m v n xs) : ∃ A C, v = .slice A n C ∧ (n = 0 ∨ ∃ g, A = some ⟨g, 0, none⟩) ∧ n ≤ C := by
  unfold World.ownsRow at h
  obtain ⟨_, ⟨rfl, rfl⟩ | ⟨g', cap, cur, rfl, h1, h2, h3, _⟩⟩ := h
  · exact ⟨none, 0, rfl, .inl rfl, Nat.le_refl _⟩
  · exact ⟨_, cap, rfl, .inr ⟨g', rfl⟩, h3⟩
end Go.Proofs.YticlacjpgjkhcaaGreatDoor

/- A table in memory; where a name stands. -/
namespace Go.Proofs.YticlacjpgjkhcaaGreatDoor
open Go.ChangeShapes Go.WideShapes Go.ChangeAt Go.RowKit

def pairC (p : ByteArray × Nat) : List Value := [.string p.1, .int .i64 (p.2 : Int)]
theorem pairC_len (l : List (ByteArray × Nat)) : (l.flatMap pairC).length = l.length * 2 := by
  induction l with
  | nil => rfl
  | cons p r ih => rw [List.flatMap_cons, List.length_append, ih, List.length_cons]; simp [pairC]; omega
theorem pairC_at (l : List (ByteArray × Nat)) (i j : Nat) (p : ByteArray × Nat) (v : Value) (hi : l[i]? = some p) (hv : (pairC p)[j]? = some v) : (l.flatMap pairC)[i * 2 + j]? = some v := by
  induction l generalizing i with
  | nil => simp at hi
  | cons q r ih =>
    rw [List.flatMap_cons]
    have hj : j < 2 := by have := (List.getElem?_eq_some_iff.1 hv).1; simpa [pairC] using this
    cases i with
    | zero =>
      simp at hi
      subst hi
      rw [Nat.zero_mul, Nat.zero_add, List.getElem?_append_left (by simpa [pairC] using hj)]
      exact hv
    | succ i =>
      rw [List.getElem?_append_right (by simp [pairC]; omega)]
      have e : (i + 1) * 2 + j - (pairC q).length = i * 2 + j := by simp [pairC]; omega
      rw [e]
      exact ih i (by simpa using hi)
/-- A table: slots with names and numbers, in one row. -/
structure TabT (c : Nat) (w : World) (p g : Nat) (f : Nat → Value) (D : List (ByteArray × Nat)) : Prop where
  hp : c ≤ p
  hg : c ≤ g
  tab : w.heap[p]? = some (.cells #[.slice (some ⟨g, 0, none⟩) 8 8, .slice none 0 0, .int .i64 0, .int .i64 (D.length : Int), .int .i64 0] 221)
  slots : w.heap[g]? = some (.cells #[f 0, f 1, f 2, f 3, f 4, f 5, f 6, f 7] 217)
  row : ∀ j, j < 8 → w.ownsRow c 216 2 (f j) (rowT slotT D j).length ((rowT slotT D j).flatMap pairC)
  dist : ∀ i j b, i < 8 → j < 8 → (f i).ownBlock = some b → (f j).ownBlock = some b → i = j
  few : D.length ≤ 16
  nd : (namesD D).Nodup
def isTab (t : TypeId) : Prop := t = 221 ∨ t = 217 ∨ t = 216
theorem TabT.kept {c : Nat} {w w' : World} {p g : Nat} {f : Nat → Value} {D : List (ByteArray × Nat)} (h : TabT c w p g f D) (hk : ∀ (i : Nat) (cs : Array Value) (t : TypeId), w.heap[i]? = some (.cells cs t) → isTab t → w'.heap[i]? = w.heap[i]?) : TabT c w' p g f D :=
  ⟨h.hp, h.hg, (hk _ _ _ h.tab (.inl rfl)).trans h.tab, (hk _ _ _ h.slots (.inr (.inl rfl))).trans h.slots, fun j hj => row_kept (h.row j hj) fun b hb => by
    obtain ⟨cs, hc⟩ := row_typ (h.row j hj) b hb
    exact hk _ _ _ hc (.inr (.inr rfl)), h.dist, h.few, h.nd⟩
theorem TabT.below {c : Nat} {w w' : World} {p g : Nat} {f : Nat → Value} {D : List (ByteArray × Nat)} (h : TabT c w p g f D) (hb : Below w.heap.size w w') : TabT c w' p g f D :=
  h.kept fun _ _ _ hi _ => hb.block _ (lt_blk hi)
theorem cells5 {w : World} {b : Nat} {v0 v1 v2 v3 v4 : Value} {t : TypeId} (h : w.heap[b]? = some (.cells #[v0, v1, v2, v3, v4] t)) : (w.cell? ⟨b, 0, none⟩ = some v0 ∧ w.cell? ⟨b, 1, none⟩ = some v1 ∧ w.cell? ⟨b, 2, none⟩ = some v2 ∧ w.cell? ⟨b, 3, none⟩ = some v3 ∧ w.cell? ⟨b, 4, none⟩ = some v4) ∧ ∀ i, w.frozen? ⟨b, i, none⟩ = false := by
  refine ⟨⟨?_, ?_, ?_, ?_, ?_⟩, fun i => frozen_of_row w b i _ t h⟩ <;> (rw [cell_of_row _ b _ _ t (0, 0) h]; rfl)
theorem TabT.slot {c : Nat} {w : World} {p g : Nat} {f : Nat → Value} {D : List (ByteArray × Nat)} (h : TabT c w p g f D) (j : Nat) (hj : j < 8) : w.cell? ⟨g, j, none⟩ = some (f j) := by
  rw [cell_of_row _ g _ _ 217 (0, 0) h.slots]
  match j, hj with
  | 0, _ => rfl
  | 1, _ => rfl
  | 2, _ => rfl
  | 3, _ => rfl
  | 4, _ => rfl
  | 5, _ => rfl
  | 6, _ => rfl
  | 7, _ => rfl
/-- Where a name stands in its slot. -/
def placeI (k : ByteArray) (D : List (ByteArray × Nat)) : Int := match idxD k (rowT slotT D (slotT k)) with | some i => i | none => -1
theorem idx_hit (l : List (ByteArray × Nat)) (i : Nat) (k : ByteArray) (u : Nat) (h : l[i]? = some (k, u)) (hn : ∀ (q : Nat) (y : ByteArray) (u : Nat), q < i → l[q]? = some (y, u) → y ≠ k) : idxD k l = some i := by
  induction l generalizing i with
  | nil => simp at h
  | cons p r ih =>
    obtain ⟨y, v⟩ := p
    cases i with
    | zero =>
      simp at h
      simp [idxD, h.1]
    | succ i =>
      have hy : y ≠ k := hn 0 y v (by omega) rfl
      simp only [idxD, hy, if_false]
      rw [ih i (by simpa using h) (fun q z w hq hz => hn (q + 1) z w (by omega) (by simpa using hz))]
      rfl
theorem idx_miss (l : List (ByteArray × Nat)) (k : ByteArray) (hn : ∀ (q : Nat) (y : ByteArray) (u : Nat), q < l.length → l[q]? = some (y, u) → y ≠ k) : idxD k l = none := by
  induction l with
  | nil => rfl
  | cons p r ih =>
    obtain ⟨y, v⟩ := p
    have hy : y ≠ k := hn 0 y v (by simp) rfl
    simp only [idxD, hy, if_false]
    rw [ih (fun q z w hq hz => hn (q + 1) z w (by simpa using hq) (by simpa using hz))]
    rfl
set_option maxRecDepth 100000 in
set_option maxHeartbeats 4000000 in
theorem find_T (c p g : Nat) (f : Nat → Value) (D : List (ByteArray × Nat)) (k : ByteArray) (hk : k.size ≤ 1000000) (w : World) (h : TabT c w p g f D) : Calls Tryz.prog 187 #[.pointer (some ⟨p, 0, none⟩), .string k] w fun e w' => e = .returned (.tuple #[.pointer (some ⟨g, slotT k, none⟩), .int .i64 (placeI k D)]) ∧ Below w.heap.size w w' := by
  have hsl := slot_lt k
  have PL := Lib.hid (place_any g k hk w)
  have TB := Lib.hid h.tab
  obtain ⟨⟨c0, c1, c2, c3, c4⟩, _⟩ := cells5 h.tab
  have s0 := h.slot _ hsl
  have hR := h.row _ hsl
  have hrl : (rowT slotT D (slotT k)).length ≤ 16 := Nat.le_trans (rowT_len _ _ _) h.few
  obtain ⟨l, hl⟩ : ∃ l, rowT slotT D (slotT k) = l := ⟨_, rfl⟩
  have hpl : placeI k D = match idxD k l with | some i => (i : Int) | none => -1 := by unfold placeI; rw [hl]
  rw [hl] at hR hrl
  obtain ⟨A, C, hf, hA, hC⟩ := row_form hR
  rw [hf] at s0 hR
  rw [hpl]
  have HR := Lib.hid hR
  obtain ⟨q, hq⟩ : ∃ q, slotT k = q := ⟨_, rfl⟩
  simp only [hq] at PL s0 hsl ⊢
  have i8 : (q : Int) < 8 := by omega
  have i0 : (0 : Int) ≤ (q : Int) := by omega
  clear h hf hR hpl hl hq
  go_enter Tryz.func187, Tryz.ntmps187
  go_wp2
  refine wp_scope_jumps 0 (fun _ _ => False) (fun _ _ => 0) rfl ?_ (fun _ _ h => h.elim)
  go_wp2
  go_step3
  go_wp2_with (first | (go_at_call 216; (with_reducible refine (PL.out).mono ?_); rintro e w1 ⟨rfl, rfl⟩))
  have NO := Lib.hid (show ∀ (q : Nat) (y : ByteArray) (u : Nat), q < 0 → l[q]? = some (y, u) → y ≠ k from fun q y u h => absurd h (Nat.not_lt_zero _))
  go_loopw [23] (fun iv wr => ∃ i : Nat, i ≤ l.length ∧ iv = .int .i64 i ∧ Hid (∀ (q : Nat) (y : ByteArray) (u : Nat), q < i → l[q]? = some (y, u) → y ≠ k) ∧ Hid (Below w1.heap.size w1 wr)) (fun iv _ => l.length - (intOf iv).toNat)
  case atStart => exact ⟨0, Nat.zero_le _, rfl, NO, Lib.hid (Below.refl _ _)⟩
  case round =>
    obtain ⟨i, hi, rfl, HN, HB⟩ := hrel
    by_cases hlt : i < l.length
    · obtain ⟨⟨y, u⟩, hs⟩ : ∃ x, l[i]? = some x := ⟨_, List.getElem?_eq_getElem hlt⟩
      have q1 : (i : Int) < (l.length : Int) := by omega
      obtain ⟨gA, rfl⟩ : ∃ gA, A = some ⟨gA, 0, none⟩ := hA.resolve_left (by omega)
      have hR1 := row_below HR.out HB.out
      have d0 := row_cell hR1 (i * 2 + 0) (.string y) (pairC_at l i 0 (y, u) _ hs rfl)
      have d1 := row_cell hR1 (i * 2 + 1) (.int .i64 (u : Int)) (pairC_at l i 1 (y, u) _ hs rfl)
      rw [Nat.add_zero] at d0
      have HB2 := Lib.hid (HB.out.trans ((alloc_old (w := wr) (o := .cells #[.string y, .int .i64 (u : Int)] 216)).mono (Below.size HB.out)))
      clear hR1
      by_cases hy : y = k
      · have hb : (y.toList == k.toList) = true := by rw [hy]; simp
        have HE := Lib.hid (idx_hit l i k u (by rw [hs, hy]) HN.out)
        clear hs
        subst hy
        go_wp2
        simp only [Exit.jump]
        exact bodyPost_ret (v := .tuple #[.pointer (some ⟨g, q, none⟩), .int .i64 (i : Int)]) (by simp [results, Tryz.results187, go_sem]) rfl ⟨by rw [HE.out], HB2.out⟩
      · have hb : (y.toList == k.toList) = false := by
          rw [beq_eq_false_iff_ne]
          intro e
          exact hy (Go.WideShapes.bytes_inj (by rw [ByteArray.toList_eq, ByteArray.toList_eq] at e; exact e))
        have HN2 := Lib.hid (show ∀ (q : Nat) (z : ByteArray) (v : Nat), q < i + 1 → l[q]? = some (z, v) → z ≠ k from fun q z v hq hz => by
          rcases Nat.lt_or_ge q i with h | h
          · exact HN.out q z v h hz
          · obtain rfl : q = i := by omega
            rw [hs] at hz
            cases hz
            exact hy)
        clear hs
        go_wp2
        exact ⟨⟨i + 1, hlt, by go_num, HN2, HB2⟩, by simp [intOf]; omega⟩
    · obtain rfl : l.length = i := by omega
      have q1 : ¬ (l.length : Int) < (l.length : Int) := by omega
      have HE := Lib.hid (idx_miss l k HN.out)
      obtain ⟨⟨c0, c1, c2, c3, c4⟩, _⟩ := cells5 (blk_below TB.out HB.out)
      go_wp2
      simp only [Exit.jump]
      exact bodyPost_ret (v := .tuple #[.pointer (some ⟨g, q, none⟩), .int .i64 (-1)]) (by simp [results, Tryz.results187, go_sem]) rfl ⟨by rw [HE.out], HB.out⟩
end Go.Proofs.YticlacjpgjkhcaaGreatDoor
