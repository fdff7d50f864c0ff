/- SET. -/
import Derived.Test.YtaomiglmahklfaaGreatDoorSt26
import Derived.Test.YtaomiglmahklfaaGreatDoorSt28
import Derived.Deep.RegionHeld3
namespace Go.Proofs.YtaomiglmahklfaaGreatDoor
open Go.ChangeShapes Go.WideShapes Go.ChangeAt Go.RowKit

theorem ne_job_str {w : World} {j bS : Nat} {now : Int} {A A' : Option Addr} {m c m' c' : Nat} (h : JB w j bS now (.slice A m c) (.slice A' m' c')) {b i : Nat} {s : ByteArray} (hc : w.cell? ⟨b, i, none⟩ = some (.string s)) : b ≠ j := by
  intro e
  subst e
  unfold JB at h
  rw [show w.cell? ⟨b, i, none⟩ = _ from cell_of_row w b i _ 99 (0, 0) h] at hc
  match i with
  | 0 => simp at hc
  | 1 => simp at hc
  | 2 => simp at hc
  | 3 => simp at hc
  | n + 4 => simp at hc
/-- What is behind the third argument. -/
theorem SSl.tail3 {w : World} {blk off n cap : Nat} {xs : List ByteArray} (h : SSl w (.slice (some ⟨blk, off, none⟩) n cap) xs) (hn : xs.length = n) (h3 : 3 ≤ n) : SSl w (.slice (some ⟨blk, off + 3, none⟩) (n - 3) (cap - 3)) (xs.drop 3) := by
  obtain ⟨A, cap', h1, h2, hm, hc⟩ := h
  cases h1
  have hne : xs ≠ [] := by intro e; rw [e] at h3; simp at h3
  obtain ⟨blk', off', e, hb, hcell⟩ := hc hne
  cases e
  refine ⟨_, _, by rw [List.length_drop, hn], by rw [List.length_drop]; omega, Nat.le_trans (Nat.sub_le _ _) hm, fun _ => ⟨blk, off + 3, rfl, hb, fun i s hs => ?_⟩⟩
  rw [List.getElem?_drop] at hs
  have := hcell (3 + i) s hs
  rwa [show off + (3 + i) = off + 3 + i by omega] at this
theorem set_keep {w w5 w6 : World} {j bS blk off : Nat} {now : Int} {A : Option Addr} {m c : Nat} {Q : Option Addr → Nat → Nat → Prop} {k v : ByteArray} (hb : Below w.heap.size w w5) (hK : Kp w5.heap.size (fun i => i ≠ j) w5 w6)
    (hR : ∃ A' n' c', JB w6 j bS now (.slice A m c) (.slice A' n' c') ∧ Q A' n' c') (hblt : blk < w.heap.size) (hn : blk ≠ j) (h3 : w5.cell? ⟨blk, off + 1, none⟩ = some (.string k)) (h4 : w5.cell? ⟨blk, off + 2, none⟩ = some (.string v)) :
    w6.cell? ⟨j, 2, none⟩ = some (.slice A m c) ∧ w6.cell? ⟨blk, off + 1, none⟩ = some (.string k) ∧ w6.cell? ⟨blk, off + 2, none⟩ = some (.string v) := by
  obtain ⟨A', n', c', hJ, _⟩ := hR
  have := Below.size hb
  exact ⟨hJ.cells.2.2.1, (hK.cell (p := ⟨blk, off + 1, none⟩) (by show blk < _; omega) hn).trans h3, (hK.cell (p := ⟨blk, off + 2, none⟩) (by show blk < _; omega) hn).trans h4⟩
theorem eff_after {w2 w3 w4 : World} {j bS : Nat} {now : Int} {vA : Value} {es : List Ent} {A : Option Addr} {m c : Nat} (hJ : JB w3 j bS now vA (.slice A m c)) (hE : EF w3 w2.heap.size (.slice A m c) es) (hK : Kp w2.heap.size (fun i => i ≠ j) w2 w3) (hb : Below w3.heap.size w3 w4) :
    JB w4 j bS now vA (.slice A m c) ∧ EF w4 w2.heap.size (.slice A m c) es ∧ Kp w2.heap.size (fun i => i ≠ j) w2 w4 :=
  ⟨hJ.below hb, hE.below hb, hK.trans (.of (hb.mono hK.size))⟩
set_option maxRecDepth 100000 in
set_option maxHeartbeats 8000000 in
theorem set_new (W0 : World) (bS bM : Nat) (l : MapT.Ents) (now : Int) (k v : ByteArray) (hk1 : 1 ≤ k.size) (hk : k.size ≤ 512) (hv : v.size ≤ 4096) (hf : MapT.find k l = none) : CmdOk W0 28 bS bM l now [⟨#[83, 69, 84]⟩, k, v] 1 0 ⟨#[79, 75]⟩ R0 [⟨k, 1, v, 0⟩] := by
  intro w j vA _ hS hj hA
  have A1 := Lib.hid (alloc_old (w := w) (o := .cells #[.int .i64 0, .int .i64 0, .string ⟨#[]⟩, .slice none 0 0] 37))
  have hr := Lib.hid (heap_alloc_new w (.cells #[.int .i64 0, .int .i64 0, .string ⟨#[]⟩, .slice none 0 0] 37))
  obtain ⟨aA, cap, hv, p1, p2, p3⟩ := hA
  replace hv : vA = .slice aA 3 cap := hv
  subst hv
  replace p1 : 3 ≤ cap := p1
  obtain ⟨blk, off, rfl, hblt, hc⟩ := p3 (by simp)
  have ca1 := Lib.hid (show ∀ Y, Below w.heap.size w Y → Y.cell? ⟨blk, off + 1, none⟩ = some (.string k) from fun Y hb => (hb.cell (p := ⟨blk, off + 1, none⟩) hblt).trans (hc 1 _ rfl))
  have ca2 := Lib.hid (show ∀ Y, Below w.heap.size w Y → Y.cell? ⟨blk, off + 2, none⟩ = some (.string v) from fun Y hb => (hb.cell (p := ⟨blk, off + 2, none⟩) hblt).trans (hc 2 _ rfl))
  have cj := Lib.hid (show ∀ Y, Below w.heap.size w Y → Y.cell? ⟨j, 2, none⟩ = some (.slice (some ⟨blk, off, none⟩) 3 cap) ∧ Y.cell? ⟨j, 1, none⟩ = some (.int .i64 now) from fun Y hb => ⟨(hj.below hb).cells.2.2.1, (hj.below hb).cells.2.1⟩)
  have nj := Lib.hid (ne_job_str hj (hc 1 _ rfl))
  have HJ := Lib.hid hj
  have HS := Lib.hid hS
  have RD := Lib.hid (fun A c (hc : c ≤ maxLen) => read_none (.slice A 0 c) (w.alloc (.cells #[.int .i64 0, .int .i64 0, .string ⟨#[]⟩, .slice none 0 0] 37)) ⟨A, c, rfl, Nat.zero_le _, hc, fun h => absurd rfl h⟩)
  have hcm : cap - 3 ≤ maxLen := Nat.le_trans (Nat.sub_le _ _) p2
  have i3 : (3 : Int) ≤ (cap : Int) := by omega
  clear p3 hc
  have y2 := (cj.out _ A1.out).1
  have G := Lib.hid (fun X (hX : Below w.heap.size w X) => JGet_no bS bM j l k now _ _ hf X (hS.below hX) (hj.below hX))
  clear hj hS
  have PU := Lib.hid (fun X (hX : Below w.heap.size w X) => Put72 j bS now (.slice (some ⟨blk, off, none⟩) 3 cap) none 0 0 [] X.heap.size X (HJ.out.below hX) (EF.nil _ _) (Nat.le_refl _) (by simp) k v hk1 hk hv 0 (by omega) (by omega))
  have OKK := Lib.hid (fun w => OK74 w)
  have TX := Lib.hid (fun w => text73 v w)
  by_cases hcap : cap = 3
  · subst hcap
    go_enter Tryz.func28, Tryz.ntmps28
    go_wp2_with (first | (go_at_call 68; (with_reducible refine (RD.out _ _ (by first | exact hcm | exact Nat.zero_le _)).mono ?_); rintro e w1 ⟨rfl, h1⟩; have B1 := Lib.hid (A1.out.trans (h1.mono (Below.size A1.out))); have R1 := Lib.hid (blk_below hr.out h1); clear h1; refine Hid.out ?_))
    refine Lib.hid ?_
    have o1 := Lib.hid (heap_alloc_new w1 (.cells #[.int .i64 0, .bool false, .bool false, .bool false, .bool true] 108))
    have B2 := Lib.hid (show Below w.heap.size w (w1.alloc (.cells #[.int .i64 0, .bool false, .bool false, .bool false, .bool true] 108)) from B1.out.trans (alloc_old.mono (Below.size B1.out)))
    have G1 := Lib.hid (G.out _ B2.out)
    have y2 := (cj.out _ B2.out).1
    have z1 := ca1.out _ B2.out
    obtain ⟨⟨o0, o1c, o2, o3, o4⟩, _⟩ := cells5 o1.out
    go_wp2_with (first | (go_at_call 70; (with_reducible refine (G1.out).mono ?_); rintro e w3 ⟨rfl, h3⟩; have B3 := Lib.hid (B2.out.trans (h3.mono (Below.size B2.out))); have O3 := Lib.hid (blk_below o1.out h3); have R3 := Lib.hid (blk_below R1.out (belA (Below.refl _ _) h3)); clear h3; refine Hid.out ?_))
    refine Lib.hid ?_
    clear o0 o1c o2 o3 o4 y2 z1
    have B4 := Lib.hid (show Below w.heap.size w (w3.alloc (.cells #[.string k, .int .i64 0, .string ⟨#[]⟩, .slice none 0 0, .slice none 0 0, .slice none 0 0, .slice none 0 0, .int .i64 0] 33)) from B3.out.trans (alloc_old.mono (Below.size B3.out)))
    have O4 := Lib.hid (blk_below O3.out (alloc_old (o := .cells #[.string k, .int .i64 0, .string ⟨#[]⟩, .slice none 0 0, .slice none 0 0, .slice none 0 0, .slice none 0 0, .int .i64 0] 33)))
    have R4 := Lib.hid (blk_below R3.out (alloc_old (o := .cells #[.string k, .int .i64 0, .string ⟨#[]⟩, .slice none 0 0, .slice none 0 0, .slice none 0 0, .slice none 0 0, .int .i64 0] 33)))
    obtain ⟨⟨o0, o1c, o2, o3, o4⟩, _⟩ := cells5 O4.out
    have E4 := heap_alloc_new w3 (.cells #[.string k, .int .i64 0, .string ⟨#[]⟩, .slice none 0 0, .slice none 0 0, .slice none 0 0, .slice none 0 0, .int .i64 0] 33)
    obtain ⟨⟨e0, e1, e2, e3, e4, e5, e6, e7⟩, _, ez⟩ := cells8 E4
    clear ez E4
    go_wp2
    clear o0 o1c o2 o3 o4 e0 e1 e2 e3 e4 e5 e6 e7
    generalize (w3.alloc (.cells #[.string k, .int .i64 0, .string ⟨#[]⟩, .slice none 0 0, .slice none 0 0, .slice none 0 0, .slice none 0 0, .int .i64 0] 33)) = w4 at B4 R4 O4 ⊢
    have KQ := Lib.hid (show ∀ X, Below w.heap.size w X → (X.cell? ⟨j, 2, none⟩ = some (.slice (some ⟨blk, off, none⟩) 3 3) ∧ X.cell? ⟨blk, off + 1, none⟩ = some (.string k) ∧ X.cell? ⟨blk, off + 2, none⟩ = some (.string v)) from fun X hb => ⟨(cj.out X hb).1, ca1.out X hb, ca2.out X hb⟩)
    have K0 := Lib.hid (KQ.out w4.drew B4.out.drew)
    have T4 := Lib.hid (TX.out w4.drew)
    go_region_held3 (fun X => X.cell? ⟨j, 2, none⟩ = some (.slice (some ⟨blk, off, none⟩) 3 3) ∧ X.cell? ⟨blk, off + 1, none⟩ = some (.string k) ∧ X.cell? ⟨blk, off + 2, none⟩ = some (.string v)) (first | assumption | (with_reducible exact K0.out) | (with_reducible exact KQ.out _ (by assumption))) (first | (go_at_call 73; (with_reducible refine (T4.out).mono ?_); rintro e w5 ⟨rfl, h5⟩; have B5 : Below w.heap.size w w5 := B4.out.trans ((belT (Below.refl w4.heap.size w4).drew h5).mono (Below.size B4.out)); have R5 := Lib.hid (blk_below R4.out (belT (Below.refl w4.heap.size w4).drew h5)); clear h5; have P5 := Lib.hid (PU.out w5 B5)) | (go_at_call 72; (with_reducible refine (P5.out).mono ?_); rintro e w6 ⟨rfl, hR6, hK6⟩; have S6 := set_keep B5 hK6 hR6 hblt nj.out (ca1.out _ B5) (ca2.out _ B5)))
    have B5h := Lib.hid B5
    have HR6 := Lib.hid hR6
    have HK6 := Lib.hid hK6
    have hjw := lt_blk HJ.out
    have R6 := Lib.hid ((hK6.block w.heap.size (lt_blk R5.out) (by omega)).trans R5.out)
    clear B5 hR6 hK6 P5 T4 KQ K0 S6
    go_wp2_with (first | (go_at_call 74; (with_reducible refine (OKK.out _).mono ?_); rintro e w7 ⟨rfl, h7⟩; have B7 := Lib.hid h7; clear h7; obtain ⟨⟨c0, c1, c2, c3⟩, ⟨f0, f1, f2, f3⟩⟩ := cells4 (blk_below R6.out B7.out)))
    obtain ⟨A', n', c', hJ6, hE6⟩ := HR6.out
    obtain ⟨hJ7, hE7, hK7⟩ := eff_after hJ6 hE6 HK6.out B7.out
    exact bodyPost_ret (v := .agg #[.int .i64 1, .int .i64 0, .string ⟨#[79, 75]⟩, .slice none 0 0]) (by simp [results, Tryz.results28, go_sem, c0, c1, c2, c3]) rfl (eff_end hjw (Nat.le_refl _) (lt_blk R5.out) B5h.out hJ7 hE7 hK7 _ _ _ _)
  · go_enter Tryz.func28, Tryz.ntmps28
    go_wp2_with (first | (go_at_call 68; (with_reducible refine (RD.out _ _ (by first | exact hcm | exact Nat.zero_le _)).mono ?_); rintro e w1 ⟨rfl, h1⟩; have B1 := Lib.hid (A1.out.trans (h1.mono (Below.size A1.out))); have R1 := Lib.hid (blk_below hr.out h1); clear h1; refine Hid.out ?_))
    refine Lib.hid ?_
    have o1 := Lib.hid (heap_alloc_new w1 (.cells #[.int .i64 0, .bool false, .bool false, .bool false, .bool true] 108))
    have B2 := Lib.hid (show Below w.heap.size w (w1.alloc (.cells #[.int .i64 0, .bool false, .bool false, .bool false, .bool true] 108)) from B1.out.trans (alloc_old.mono (Below.size B1.out)))
    have G1 := Lib.hid (G.out _ B2.out)
    have y2 := (cj.out _ B2.out).1
    have z1 := ca1.out _ B2.out
    obtain ⟨⟨o0, o1c, o2, o3, o4⟩, _⟩ := cells5 o1.out
    go_wp2_with (first | (go_at_call 70; (with_reducible refine (G1.out).mono ?_); rintro e w3 ⟨rfl, h3⟩; have B3 := Lib.hid (B2.out.trans (h3.mono (Below.size B2.out))); have O3 := Lib.hid (blk_below o1.out h3); have R3 := Lib.hid (blk_below R1.out (belA (Below.refl _ _) h3)); clear h3; refine Hid.out ?_))
    refine Lib.hid ?_
    clear o0 o1c o2 o3 o4 y2 z1
    have B4 := Lib.hid (show Below w.heap.size w (w3.alloc (.cells #[.string k, .int .i64 0, .string ⟨#[]⟩, .slice none 0 0, .slice none 0 0, .slice none 0 0, .slice none 0 0, .int .i64 0] 33)) from B3.out.trans (alloc_old.mono (Below.size B3.out)))
    have O4 := Lib.hid (blk_below O3.out (alloc_old (o := .cells #[.string k, .int .i64 0, .string ⟨#[]⟩, .slice none 0 0, .slice none 0 0, .slice none 0 0, .slice none 0 0, .int .i64 0] 33)))
    have R4 := Lib.hid (blk_below R3.out (alloc_old (o := .cells #[.string k, .int .i64 0, .string ⟨#[]⟩, .slice none 0 0, .slice none 0 0, .slice none 0 0, .slice none 0 0, .int .i64 0] 33)))
    obtain ⟨⟨o0, o1c, o2, o3, o4⟩, _⟩ := cells5 O4.out
    have E4 := heap_alloc_new w3 (.cells #[.string k, .int .i64 0, .string ⟨#[]⟩, .slice none 0 0, .slice none 0 0, .slice none 0 0, .slice none 0 0, .int .i64 0] 33)
    obtain ⟨⟨e0, e1, e2, e3, e4, e5, e6, e7⟩, _, ez⟩ := cells8 E4
    clear ez E4
    go_wp2
    clear o0 o1c o2 o3 o4 e0 e1 e2 e3 e4 e5 e6 e7
    generalize (w3.alloc (.cells #[.string k, .int .i64 0, .string ⟨#[]⟩, .slice none 0 0, .slice none 0 0, .slice none 0 0, .slice none 0 0, .int .i64 0] 33)) = w4 at B4 R4 O4 ⊢
    have KQ := Lib.hid (show ∀ X, Below w.heap.size w X → (X.cell? ⟨j, 2, none⟩ = some (.slice (some ⟨blk, off, none⟩) 3 cap) ∧ X.cell? ⟨blk, off + 1, none⟩ = some (.string k) ∧ X.cell? ⟨blk, off + 2, none⟩ = some (.string v)) from fun X hb => ⟨(cj.out X hb).1, ca1.out X hb, ca2.out X hb⟩)
    have K0 := Lib.hid (KQ.out w4.drew B4.out.drew)
    have T4 := Lib.hid (TX.out w4.drew)
    go_region_held3 (fun X => X.cell? ⟨j, 2, none⟩ = some (.slice (some ⟨blk, off, none⟩) 3 cap) ∧ X.cell? ⟨blk, off + 1, none⟩ = some (.string k) ∧ X.cell? ⟨blk, off + 2, none⟩ = some (.string v)) (first | assumption | (with_reducible exact K0.out) | (with_reducible exact KQ.out _ (by assumption))) (first | (go_at_call 73; (with_reducible refine (T4.out).mono ?_); rintro e w5 ⟨rfl, h5⟩; have B5 : Below w.heap.size w w5 := B4.out.trans ((belT (Below.refl w4.heap.size w4).drew h5).mono (Below.size B4.out)); have R5 := Lib.hid (blk_below R4.out (belT (Below.refl w4.heap.size w4).drew h5)); clear h5; have P5 := Lib.hid (PU.out w5 B5)) | (go_at_call 72; (with_reducible refine (P5.out).mono ?_); rintro e w6 ⟨rfl, hR6, hK6⟩; have S6 := set_keep B5 hK6 hR6 hblt nj.out (ca1.out _ B5) (ca2.out _ B5)))
    have B5h := Lib.hid B5
    have HR6 := Lib.hid hR6
    have HK6 := Lib.hid hK6
    have hjw := lt_blk HJ.out
    have R6 := Lib.hid ((hK6.block w.heap.size (lt_blk R5.out) (by omega)).trans R5.out)
    clear B5 hR6 hK6 P5 T4 KQ K0 S6
    go_wp2_with (first | (go_at_call 74; (with_reducible refine (OKK.out _).mono ?_); rintro e w7 ⟨rfl, h7⟩; have B7 := Lib.hid h7; clear h7; obtain ⟨⟨c0, c1, c2, c3⟩, ⟨f0, f1, f2, f3⟩⟩ := cells4 (blk_below R6.out B7.out)))
    obtain ⟨A', n', c', hJ6, hE6⟩ := HR6.out
    obtain ⟨hJ7, hE7, hK7⟩ := eff_after hJ6 hE6 HK6.out B7.out
    exact bodyPost_ret (v := .agg #[.int .i64 1, .int .i64 0, .string ⟨#[79, 75]⟩, .slice none 0 0]) (by simp [results, Tryz.results28, go_sem, c0, c1, c2, c3]) rfl (eff_end hjw (Nat.le_refl _) (lt_blk R5.out) B5h.out hJ7 hE7 hK7 _ _ _ _)
set_option maxRecDepth 100000 in
set_option maxHeartbeats 8000000 in
theorem set_px (W0 : World) (bS bM : Nat) (l : MapT.Ents) (k v : ByteArray) (hk1 : 1 ≤ k.size) (hk : k.size ≤ 512) (hv : v.size ≤ 4096) (hf : MapT.find k l = none) : CmdOk W0 28 bS bM l 1 [⟨#[83, 69, 84]⟩, k, v, ⟨#[112, 120]⟩, ⟨#[49, 48, 48]⟩, ⟨#[78, 88]⟩] 1 0 ⟨#[79, 75]⟩ R0 [⟨k, 1, v, 101⟩] := by
  intro w j vA _ hS hj hA
  have A1 := Lib.hid (alloc_old (w := w) (o := .cells #[.int .i64 0, .int .i64 0, .string ⟨#[]⟩, .slice none 0 0] 37))
  have hr := Lib.hid (heap_alloc_new w (.cells #[.int .i64 0, .int .i64 0, .string ⟨#[]⟩, .slice none 0 0] 37))
  obtain ⟨aA, cap, hv, p1, p2, p3⟩ := hA
  replace hv : vA = .slice aA 6 cap := hv
  subst hv
  replace p1 : 6 ≤ cap := p1
  obtain ⟨blk, off, rfl, hblt, hc⟩ := p3 (by simp)
  have ca1 := Lib.hid (show ∀ Y, Below w.heap.size w Y → Y.cell? ⟨blk, off + 1, none⟩ = some (.string k) from fun Y hb => (hb.cell (p := ⟨blk, off + 1, none⟩) hblt).trans (hc 1 _ rfl))
  have ca2 := Lib.hid (show ∀ Y, Below w.heap.size w Y → Y.cell? ⟨blk, off + 2, none⟩ = some (.string v) from fun Y hb => (hb.cell (p := ⟨blk, off + 2, none⟩) hblt).trans (hc 2 _ rfl))
  have ca4 := Lib.hid (show ∀ Y, Below w.heap.size w Y → Y.cell? ⟨blk, off + 4, none⟩ = some (.string ⟨#[49, 48, 48]⟩) from fun Y hb => (hb.cell (p := ⟨blk, off + 4, none⟩) hblt).trans (hc 4 _ rfl))
  have cj := Lib.hid (show ∀ Y, Below w.heap.size w Y → Y.cell? ⟨j, 2, none⟩ = some (.slice (some ⟨blk, off, none⟩) 6 cap) ∧ Y.cell? ⟨j, 1, none⟩ = some (.int .i64 1) from fun Y hb => ⟨(hj.below hb).cells.2.2.1, (hj.below hb).cells.2.1⟩)
  have nj := Lib.hid (ne_job_str hj (hc 1 _ rfl))
  have HJ := Lib.hid hj
  have HS := Lib.hid hS
  have hA0 : SSl w (.slice (some ⟨blk, off, none⟩) 6 cap) [⟨#[83, 69, 84]⟩, k, v, ⟨#[112, 120]⟩, ⟨#[49, 48, 48]⟩, ⟨#[78, 88]⟩] := ⟨_, _, rfl, p1, p2, fun _ => ⟨blk, off, rfl, hblt, hc⟩⟩
  have RD := Lib.hid (read_px_NX ⟨#[49, 48, 48]⟩ (.slice (some ⟨blk, off + 3, none⟩) 3 (cap - 3)) _ ((hA0.below A1.out).tail3 rfl (by omega)))
  have hcap : ¬ cap = 3 := by omega
  clear hA0
  have i3 : (3 : Int) ≤ (cap : Int) := by omega
  have hcc := hc
  clear p3 hc
  have y2 := (cj.out _ A1.out).1
  have G := Lib.hid (fun X (hX : Below w.heap.size w X) => JGet_no bS bM j l k 1 _ _ hf X (hS.below hX) (hj.below hX))
  have JI := Lib.hid (fun X (hX : Below w.heap.size w X) => show Calls Tryz.prog 71 #[.pointer (some ⟨j, 0, none⟩), .int .i64 4] X (fun e w' => e = .returned (.int .i64 100) ∧ Below X.heap.size X w') from JInt_ok j bS 1 _ _ [⟨#[83, 69, 84]⟩, k, v, ⟨#[112, 120]⟩, ⟨#[49, 48, 48]⟩, ⟨#[78, 88]⟩] 4 ⟨#[49, 48, 48]⟩ 100 (by decide) (by kernel_rfl) rfl X (hj.below hX) ((show SSl w (.slice (some ⟨blk, off, none⟩) 6 cap) [⟨#[83, 69, 84]⟩, k, v, ⟨#[112, 120]⟩, ⟨#[49, 48, 48]⟩, ⟨#[78, 88]⟩] from ⟨_, _, rfl, p1, p2, fun _ => ⟨blk, off, rfl, hblt, hcc⟩⟩).below hX))
  clear hj hS hcc
  have PU := Lib.hid (fun X (hX : Below w.heap.size w X) => Put72 j bS 1 (.slice (some ⟨blk, off, none⟩) 6 cap) none 0 0 [] X.heap.size X (HJ.out.below hX) (EF.nil _ _) (Nat.le_refl _) (by simp) k v hk1 hk hv 101 (by omega) (by omega))
  have OKK := Lib.hid (fun w => OK74 w)
  have TX := Lib.hid (fun w => text73 v w)
  go_enter Tryz.func28, Tryz.ntmps28
  go_wp2_with (first | (go_at_call 68; (with_reducible refine (RD.out).mono ?_); rintro e w1 ⟨rfl, h1⟩; have B1 := Lib.hid (A1.out.trans (h1.mono (Below.size A1.out))); have R1 := Lib.hid (blk_below hr.out h1); clear h1; refine Hid.out ?_))
  refine Lib.hid ?_
  have o1 := Lib.hid (heap_alloc_new w1 (.cells #[.int .i64 1, .bool true, .bool false, .bool false, .bool true] 108))
  have B2 := Lib.hid (show Below w.heap.size w (w1.alloc (.cells #[.int .i64 1, .bool true, .bool false, .bool false, .bool true] 108)) from B1.out.trans (alloc_old.mono (Below.size B1.out)))
  have G1 := Lib.hid (G.out _ B2.out)
  have y2 := (cj.out _ B2.out).1
  have z1 := ca1.out _ B2.out
  obtain ⟨⟨o0, o1c, o2, o3, o4⟩, _⟩ := cells5 o1.out
  go_wp2_with (first | (go_at_call 70; (with_reducible refine (G1.out).mono ?_); rintro e w3 ⟨rfl, h3⟩; have B3 := Lib.hid (B2.out.trans (h3.mono (Below.size B2.out))); have O3 := Lib.hid (blk_below o1.out h3); have R3 := Lib.hid (blk_below R1.out (belA (Below.refl _ _) h3)); clear h3; refine Hid.out ?_))
  refine Lib.hid ?_
  clear o0 o1c o2 o3 o4 y2 z1
  have B4 := Lib.hid (show Below w.heap.size w (w3.alloc (.cells #[.string k, .int .i64 0, .string ⟨#[]⟩, .slice none 0 0, .slice none 0 0, .slice none 0 0, .slice none 0 0, .int .i64 0] 33)) from B3.out.trans (alloc_old.mono (Below.size B3.out)))
  have O4 := Lib.hid (blk_below O3.out (alloc_old (o := .cells #[.string k, .int .i64 0, .string ⟨#[]⟩, .slice none 0 0, .slice none 0 0, .slice none 0 0, .slice none 0 0, .int .i64 0] 33)))
  have R4 := Lib.hid (blk_below R3.out (alloc_old (o := .cells #[.string k, .int .i64 0, .string ⟨#[]⟩, .slice none 0 0, .slice none 0 0, .slice none 0 0, .slice none 0 0, .int .i64 0] 33)))
  obtain ⟨⟨o0, o1c, o2, o3, o4⟩, _⟩ := cells5 O4.out
  have E4 := heap_alloc_new w3 (.cells #[.string k, .int .i64 0, .string ⟨#[]⟩, .slice none 0 0, .slice none 0 0, .slice none 0 0, .slice none 0 0, .int .i64 0] 33)
  obtain ⟨⟨e0, e1, e2, e3, e4, e5, e6, e7⟩, _, ez⟩ := cells8 E4
  clear ez E4
  have x4 := ca4.out _ B4.out
  have JI4 := Lib.hid (JI.out _ B4.out)
  have wr1 : IntKind.i64.wrap (1125899906842624 - 1) = 1125899906842623 := by decide
  go_wp2_with (first | (go_at_call 71; (with_reducible refine (JI4.out).mono ?_); rintro e w4 ⟨rfl, h4⟩; have B4 := Lib.hid (B4.out.trans (h4.mono (Below.size B4.out))); have R4 := Lib.hid (blk_below R4.out h4); have O4 := Lib.hid (blk_below O4.out h4); clear h4; obtain ⟨⟨o0, o1c, o2, o3, o4⟩, _⟩ := cells5 O4.out; have cj1 := (cj.out _ B4.out).2))
  clear o0 o1c o2 o3 o4 x4 cj1
  have KQ := Lib.hid (show ∀ X, Below w.heap.size w X → (X.cell? ⟨j, 2, none⟩ = some (.slice (some ⟨blk, off, none⟩) 6 cap) ∧ X.cell? ⟨blk, off + 1, none⟩ = some (.string k) ∧ X.cell? ⟨blk, off + 2, none⟩ = some (.string v)) from fun X hb => ⟨(cj.out X hb).1, ca1.out X hb, ca2.out X hb⟩)
  have K0 := Lib.hid (KQ.out w4.drew B4.out.drew)
  have T4 := Lib.hid (TX.out w4.drew)
  go_region_held3 (fun X => X.cell? ⟨j, 2, none⟩ = some (.slice (some ⟨blk, off, none⟩) 6 cap) ∧ X.cell? ⟨blk, off + 1, none⟩ = some (.string k) ∧ X.cell? ⟨blk, off + 2, none⟩ = some (.string v)) (first | assumption | (with_reducible exact K0.out) | (with_reducible exact KQ.out _ (by assumption))) (first | (go_at_call 73; (with_reducible refine (T4.out).mono ?_); rintro e w5 ⟨rfl, h5⟩; have B5 : Below w.heap.size w w5 := B4.out.trans ((belT (Below.refl w4.heap.size w4).drew h5).mono (Below.size B4.out)); have R5 := Lib.hid (blk_below R4.out (belT (Below.refl w4.heap.size w4).drew h5)); clear h5; have P5 := Lib.hid (PU.out w5 B5)) | (go_at_call 72; (with_reducible refine (P5.out).mono ?_); rintro e w6 ⟨rfl, hR6, hK6⟩; have S6 := set_keep B5 hK6 hR6 hblt nj.out (ca1.out _ B5) (ca2.out _ B5)))
  have B5h := Lib.hid B5
  have HR6 := Lib.hid hR6
  have HK6 := Lib.hid hK6
  have hjw := lt_blk HJ.out
  have R6 := Lib.hid ((hK6.block w.heap.size (lt_blk R5.out) (by omega)).trans R5.out)
  clear B5 hR6 hK6 P5 T4 KQ K0 S6
  go_wp2_with (first | (go_at_call 74; (with_reducible refine (OKK.out _).mono ?_); rintro e w7 ⟨rfl, h7⟩; have B7 := Lib.hid h7; clear h7; obtain ⟨⟨c0, c1, c2, c3⟩, ⟨f0, f1, f2, f3⟩⟩ := cells4 (blk_below R6.out B7.out)))
  obtain ⟨A', n', c', hJ6, hE6⟩ := HR6.out
  obtain ⟨hJ7, hE7, hK7⟩ := eff_after hJ6 hE6 HK6.out B7.out
  exact bodyPost_ret (v := .agg #[.int .i64 1, .int .i64 0, .string ⟨#[79, 75]⟩, .slice none 0 0]) (by simp [results, Tryz.results28, go_sem, c0, c1, c2, c3]) rfl (eff_end hjw (Nat.le_refl _) (lt_blk R5.out) B5h.out hJ7 hE7 hK7 _ _ _ _)
set_option maxRecDepth 100000 in
set_option maxHeartbeats 8000000 in
theorem set_nx (W0 : World) (bS bM : Nat) (l : MapT.Ents) (now : Int) (k v : ByteArray) (t : ByteArray) (u : Int) (hf : MapT.find k l = some (.agg #[.string k, .int .i64 1, .string t, .slice none 0 0, .slice none 0 0, .slice none 0 0, .slice none 0 0, .int .i64 u])) (hl : Lives u now) : CmdOk W0 28 bS bM l now [⟨#[83, 69, 84]⟩, k, v, ⟨#[78, 88]⟩] 5 0 ⟨#[]⟩ R0 [] := by
  intro w j vA _ hS hj hA
  have A1 := Lib.hid (alloc_old (w := w) (o := .cells #[.int .i64 0, .int .i64 0, .string ⟨#[]⟩, .slice none 0 0] 37))
  have hr := Lib.hid (heap_alloc_new w (.cells #[.int .i64 0, .int .i64 0, .string ⟨#[]⟩, .slice none 0 0] 37))
  obtain ⟨aA, cap, hv, p1, p2, p3⟩ := hA
  replace hv : vA = .slice aA 4 cap := hv
  subst hv
  replace p1 : 4 ≤ cap := p1
  obtain ⟨blk, off, rfl, hblt, hc⟩ := p3 (by simp)
  have ca1 := Lib.hid (show ∀ Y, Below w.heap.size w Y → Y.cell? ⟨blk, off + 1, none⟩ = some (.string k) from fun Y hb => (hb.cell (p := ⟨blk, off + 1, none⟩) hblt).trans (hc 1 _ rfl))
  have ca2 := Lib.hid (show ∀ Y, Below w.heap.size w Y → Y.cell? ⟨blk, off + 2, none⟩ = some (.string v) from fun Y hb => (hb.cell (p := ⟨blk, off + 2, none⟩) hblt).trans (hc 2 _ rfl))
  have cj := Lib.hid (show ∀ Y, Below w.heap.size w Y → Y.cell? ⟨j, 2, none⟩ = some (.slice (some ⟨blk, off, none⟩) 4 cap) ∧ Y.cell? ⟨j, 1, none⟩ = some (.int .i64 now) from fun Y hb => ⟨(hj.below hb).cells.2.2.1, (hj.below hb).cells.2.1⟩)
  have nj := Lib.hid (ne_job_str hj (hc 1 _ rfl))
  have HJ := Lib.hid hj
  have HS := Lib.hid hS
  have hA0 : SSl w (.slice (some ⟨blk, off, none⟩) 4 cap) [⟨#[83, 69, 84]⟩, k, v, ⟨#[78, 88]⟩] := ⟨_, _, rfl, p1, p2, fun _ => ⟨blk, off, rfl, hblt, hc⟩⟩
  have RD := Lib.hid (read_NX (.slice (some ⟨blk, off + 3, none⟩) 1 (cap - 3)) _ ((hA0.below A1.out).tail3 rfl (by omega)))
  have hcap : ¬ cap = 3 := by omega
  clear hA0
  have i3 : (3 : Int) ≤ (cap : Int) := by omega
  clear p3 hc
  have y2 := (cj.out _ A1.out).1
  have G := Lib.hid (fun X (hX : Below w.heap.size w X) => JGet_yes bS bM j l k now _ _ t u 1 hf hl X (hS.below hX) (hj.below hX))
  clear hj hS
  have NIL := Lib.hid (fun w => Nil66 w)
  go_enter Tryz.func28, Tryz.ntmps28
  go_wp2_with (first | (go_at_call 68; (with_reducible refine (RD.out).mono ?_); rintro e w1 ⟨rfl, h1⟩; have B1 := Lib.hid (A1.out.trans (h1.mono (Below.size A1.out))); have R1 := Lib.hid (blk_below hr.out h1); clear h1; refine Hid.out ?_))
  refine Lib.hid ?_
  have o1 := Lib.hid (heap_alloc_new w1 (.cells #[.int .i64 0, .bool true, .bool false, .bool false, .bool true] 108))
  have B2 := Lib.hid (show Below w.heap.size w (w1.alloc (.cells #[.int .i64 0, .bool true, .bool false, .bool false, .bool true] 108)) from B1.out.trans (alloc_old.mono (Below.size B1.out)))
  have G1 := Lib.hid (G.out _ B2.out)
  have y2 := (cj.out _ B2.out).1
  have z1 := ca1.out _ B2.out
  obtain ⟨⟨o0, o1c, o2, o3, o4⟩, _⟩ := cells5 o1.out
  go_wp2_with (first | (go_at_call 70; (with_reducible refine (G1.out).mono ?_); rintro e w3 ⟨rfl, h3⟩; have B3 := Lib.hid (B2.out.trans (h3.mono (Below.size B2.out))); have O3 := Lib.hid (blk_below o1.out h3); have R3 := Lib.hid (blk_below R1.out (belA (Below.refl _ _) h3)); clear h3; refine Hid.out ?_))
  refine Lib.hid ?_
  clear o0 o1c o2 o3 o4 y2 z1
  have B4 := Lib.hid (show Below w.heap.size w (w3.alloc (.cells #[.string k, .int .i64 1, .string t, .slice none 0 0, .slice none 0 0, .slice none 0 0, .slice none 0 0, .int .i64 u] 33)) from B3.out.trans (alloc_old.mono (Below.size B3.out)))
  have O4 := Lib.hid (blk_below O3.out (alloc_old (o := .cells #[.string k, .int .i64 1, .string t, .slice none 0 0, .slice none 0 0, .slice none 0 0, .slice none 0 0, .int .i64 u] 33)))
  have R4 := Lib.hid (blk_below R3.out (alloc_old (o := .cells #[.string k, .int .i64 1, .string t, .slice none 0 0, .slice none 0 0, .slice none 0 0, .slice none 0 0, .int .i64 u] 33)))
  obtain ⟨⟨o0, o1c, o2, o3, o4⟩, _⟩ := cells5 O4.out
  have E4 := heap_alloc_new w3 (.cells #[.string k, .int .i64 1, .string t, .slice none 0 0, .slice none 0 0, .slice none 0 0, .slice none 0 0, .int .i64 u] 33)
  obtain ⟨⟨e0, e1, e2, e3, e4, e5, e6, e7⟩, _, ez⟩ := cells8 E4
  clear ez E4
  go_wp2_with (first | (go_at_call 66; (with_reducible refine (NIL.out _).mono ?_); rintro e w7 ⟨rfl, h7⟩; have B7 := Lib.hid (B4.out.trans (h7.mono (Below.size B4.out))); obtain ⟨⟨c0, c1, c2, c3⟩, ⟨f0, f1, f2, f3⟩⟩ := cells4 (blk_below R4.out h7); clear h7))
  exact bodyPost_ret (v := .agg #[.int .i64 5, .int .i64 0, .string ⟨#[]⟩, .slice none 0 0]) (by simp [results, Tryz.results28, go_sem, c0, c1, c2, c3]) rfl (read_end HJ.out ((((B7.out.setCell (Nat.le_refl _) _).setCell (Nat.le_refl _) _).setCell (Nat.le_refl _) _).setCell (Nat.le_refl _) _))
end Go.Proofs.YtaomiglmahklfaaGreatDoor
