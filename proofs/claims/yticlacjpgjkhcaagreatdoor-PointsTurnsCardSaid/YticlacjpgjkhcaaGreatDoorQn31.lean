/- Texts joined: PN -/
import Derived.Test.YticlacjpgjkhcaaGreatDoorQn30
import Derived.Deep.RegionWith
set_option linter.unusedVariables false
set_option linter.unusedSimpArgs false

/- The law PointsNear: its walk. -/
namespace Go.Proofs.YticlacjpgjkhcaaGreatDoor
open Go.ChangeShapes Go.WideShapes Go.ChangeAt Go.RowKit Go.Fl

set_option linter.unusedSimpArgs false in
set_option linter.unusedVariables false in
set_option maxRecDepth 100000 in
set_option maxHeartbeats 16000000 in
theorem near_main (xs ys : List Int) (v0 v1 : Value) (u v m0 : Int) (w : World) (hT : Tab w) (h0 : ISp w v0 xs) (h1 : ISp w v1 ys) (n l : Nat) (hn : xs.length = n) (hl : ys.length = l) (n1 : 1 ≤ n) (n9 : n ≤ 9) (nl : n ≤ l) : Calls Tryz.prog 4 #[v0, v1, .int .i64 u, .int .i64 v, .int .i64 m0] w fun e w' => e = .returned (.bool true) ∧ Below w.heap.size w w' := by
  have NW := Lib.hid (fun X => New9 X)
  obtain ⟨aA, cap, rfl, p1, p2, p3, p4⟩ := h0
  obtain ⟨bA, cap2, rfl, r1, r2, r3, r4⟩ := h1
  obtain ⟨blk, off, rfl, hblt, hc⟩ := p3 (by intro e; rw [e] at hn; simp at hn; omega)
  obtain ⟨blk2, off2, rfl, hblt2, hc2⟩ := r3 (by intro e; rw [e] at hl; simp at hl; omega)
  simp only [hn, hl]
  have HN := Lib.hid hn
  have HL := Lib.hid hl
  have C1 := Lib.hid (show ∀ i, i < n → ∀ X, Below w.heap.size w X → ∃ z, X.cell? ⟨blk, off + i, none⟩ = some (.int .i64 z) ∧ z.tmod 1001 = prt xs i from fun i hi X hX => by
    obtain ⟨z, hz⟩ : ∃ z, xs[i]? = some z := ⟨_, List.getElem?_eq_getElem (by rw [hn]; exact hi)⟩
    exact ⟨z, (hX.cell (p := ⟨blk, off + i, none⟩) hblt).trans (hc i z hz), by unfold prt; rw [hz]; rfl⟩)
  have C3 := Lib.hid (show ∀ i, i < n → ∃ z, z.tmod 1001 = prt xs i ∧ ∀ X, Below w.heap.size w X → X.cell? ⟨blk, off + i, none⟩ = some (.int .i64 z) from fun i hi => by
    obtain ⟨z, hz⟩ : ∃ z, xs[i]? = some z := ⟨_, List.getElem?_eq_getElem (by rw [hn]; exact hi)⟩
    exact ⟨z, by unfold prt; rw [hz]; rfl, fun X hX => (hX.cell (p := ⟨blk, off + i, none⟩) hblt).trans (hc i z hz)⟩)
  have C2 := Lib.hid (show ∀ i, i < n → ∀ X, Below w.heap.size w X → ∃ z, X.cell? ⟨blk2, off2 + i, none⟩ = some (.int .i64 z) ∧ z.tmod 1001 = prt ys i from fun i hi X hX => by
    obtain ⟨z, hz⟩ : ∃ z, ys[i]? = some z := ⟨_, List.getElem?_eq_getElem (by rw [hl]; omega)⟩
    exact ⟨z, (hX.cell (p := ⟨blk2, off2 + i, none⟩) hblt2).trans (hc2 i z hz), by unfold prt; rw [hz]; rfl⟩)
  have TL := Lib.hid (fun X (hX : Below w.heap.size w X) => toldP (W0 := X) (Tab.at_ hT hX))
  have HT := Lib.hid hT
  obtain ⟨a, ha⟩ : ∃ a, u.tmod 1001 = a := ⟨_, rfl⟩
  obtain ⟨b, hb⟩ : ∃ b, v.tmod 1001 = b := ⟨_, rfl⟩
  obtain ⟨m, hm⟩ : ∃ m, m0.tmod 1001 = m := ⟨_, rfl⟩
  have hab : -1000 ≤ a ∧ a ≤ 1000 := by rw [← ha]; exact tmodB u
  have hbb : -1000 ≤ b ∧ b ≤ 1000 := by rw [← hb]; exact tmodB v
  have hmb : -1000 ≤ m ∧ m ≤ 1000 := by rw [← hm]; exact tmodB m0
  have q1 : ¬ ((n : Int) = 0) := by omega
  have q2 : ¬ (9 : Int) < (n : Int) := by omega
  have q3 : ¬ (l : Int) < (n : Int) := by omega
  clear p1 p2 p3 p4 r1 r2 r3 r4 hn hl hT hc hc2
  go_enter Tryz.func4, Tryz.ntmps4
  go_wp2_with (first | (go_at_call 11; (with_reducible refine (NW.out _).mono ?_); rintro e v0 ⟨bS, bM, rfl, hS0, hbS, hbM, hB0⟩; have L0 := Lib.hid (LD.mk0 KP okP hS0 hB0 hbS hbM); clear hS0 hbS hbM hB0; refine Hid.out ?_))
  refine Lib.hid ?_
  go_wp2
  have HAB := Lib.hid hab
  have HBB := Lib.hid hbb
  have HMB := Lib.hid hmb
  have HM := Lib.hid hm
  clear q1 q2 q3 hab hbb hmb hm
  go_loopw [13, 14, 17] (fun bv fv iv wr => ∃ i : Nat, i ≤ n ∧ bv = .int .i64 (nrP a b (fP (prt xs) (prt ys) n) i).1 ∧ fv = .int .i64 (nrP a b (fP (prt xs) (prt ys) n) i).2 ∧ iv = .int .i64 i ∧ Hid (LDP w wr bS bM (dP (fP (prt xs) (prt ys) i)))) (fun _ _ iv _ => n - (intOf iv).toNat)
  case atStart => exact ⟨0, Nat.zero_le _, rfl, rfl, rfl, L0⟩
  case round =>
    obtain ⟨i, hi, rfl, rfl, rfl, HQ⟩ := hrel
    by_cases hlt : i < n
    · have i0 : (i : Int) < (n : Int) := by omega
      have i2 : (i : Int) < (l : Int) := by omega
      obtain ⟨zx, d0, hx⟩ := C1.out i hlt wr HQ.out.below
      obtain ⟨zy, d1, hy⟩ := C2.out i hlt wr HQ.out.below
      obtain ⟨x, hx9⟩ : ∃ x, prt xs i = x := ⟨_, rfl⟩
      obtain ⟨y, hy9⟩ : ∃ y, prt ys i = y := ⟨_, rfl⟩
      have hxb : -1000 ≤ x ∧ x ≤ 1000 := by rw [← hx9]; exact prt_bd xs i
      have hyb : -1000 ≤ y ∧ y ≤ 1000 := by rw [← hy9]; exact prt_bd ys i
      have HXB := Lib.hid hxb
      have HYB := Lib.hid hyb
      rw [hx9] at hx
      rw [hy9] at hy
      have HX9 := Lib.hid hx9
      have HY9 := Lib.hid hy9
      have HLT := Lib.hid hlt
      have h9 : i < 9 := by omega
      have NRA := nr_at a b (prt xs) (prt ys) n i hlt
      rw [hx9, hy9] at NRA
      obtain ⟨⟨z, f⟩, hzf⟩ : ∃ q, nrP a b (fP (prt xs) (prt ys) n) i = q := ⟨_, rfl⟩
      obtain ⟨d, hd⟩ : ∃ d, dst a b (nP i, x, y) = d := ⟨_, rfl⟩
      rw [hzf, hd] at NRA
      have NRA := Lib.hid NRA
      have HD := Lib.hid hd
      simp only [hzf]
      clear hx9 hy9 hxb hyb hzf hd
      go_wp2
      go_region
      go_wp2_with fail
      have L1 := Lib.hid (HQ.out.old (Below.refl _ _).drew)
      generalize wr.drew = w1 at L1 ⊢
      have hxI : I64 x := by have := HXB.out; exact ⟨by omega, by omega⟩
      have hyI : I64 y := by have := HYB.out; exact ⟨by omega, by omega⟩
      have u1 : IntKind.u8.wrap (i : Int) = (i : Int) := by rw [IntKind.wrap_u8]; omega
      have u2 : IntKind.u8.wrap (97 + (i : Int)) = 97 + (i : Int) := by rw [IntKind.wrap_u8]; omega
      have NX := Lib.hid (fun X (hX : Below w.heap.size w X) => num_any HT.out x hxI X hX)
      have NY := Lib.hid (fun X (hX : Below w.heap.size w X) => num_any HT.out y hyI X hX)
      have B0 := Lib.hid ((Below.refl w1.heap.size w1).drew)
      have Bz := Lib.hid ((alloc_old (w := w1) (o := .cells #[.int .u8 (97 + (i : Int))] 5)).drew)
      have LO := Lib.hid (fun X (hX : Below w1.heap.size w1 X) => L1.out.old hX)
      have BW := Lib.hid (fun X (hX : Below w1.heap.size w1 X) => (L1.out.old hX).below)
      have yz := Lib.hid (show ((w1.alloc (.cells #[.int .u8 (97 + (i : Int))] 5)).drew).heap[w1.heap.size]? = some (.cells #[.int .u8 (97 + (i : Int))] 5) from heap_alloc_new w1 _)
      have cv := Lib.hid (fun X b h => convP i h9 X b h)
      have ca := cv.out (w1.alloc (.cells #[.int .u8 (97 + (i : Int))] 5)).drew w1.heap.size yz.out
      have DD := Lib.hid (fun Z (hZ : Below w1.heap.size w1 Z) q (hq : Z.heap.size = q) => l_padd w bS bM (prt xs) (prt ys) 1000 (by decide) (prt_bd xs) (prt_bd ys) i h9 x y HX9.out HY9.out Z (LO.out Z hZ) q hq)
      have DDF := Lib.hid (fun Z (hZ : Below w1.heap.size w1 Z) => DD.out (Z.alloc (.cells #[.int .u8 (97 + (i : Int))] 5)) (hZ.trans (alloc_old.mono (Below.size hZ))) (Z.heap.size + 1) (by simp))
      clear d0 d1 hx hy i0 i2 hxI hyI hlt hi
      go_region_with (first | (go_at_call 16; (first | ((with_reducible refine (NX.out _ (BW.out _ B0.out)).mono ?_); rintro e x1 ⟨rfl, h1⟩; have B1 := Lib.hid (B0.out.trans h1); have B1z := Lib.hid (B1.out.trans ((alloc_old (w := x1) (o := .cells #[.int .u8 (97 + (i : Int))] 5)).mono (Below.size B1.out))); have y1z := Lib.hid (heap_alloc_new x1 (.cells #[.int .u8 (97 + (i : Int))] 5)); have cb := cv.out (x1.alloc (.cells #[.int .u8 (97 + (i : Int))] 5)) x1.heap.size y1z.out; clear h1) | ((with_reducible refine (NX.out _ (BW.out _ Bz.out)).mono ?_); rintro e x1 ⟨rfl, h1⟩; have B1 := Lib.hid (Bz.out.trans (h1.mono (Below.size Bz.out))); have y1 := Lib.hid (blk_below yz.out h1); have cb := cv.out x1 w1.heap.size y1.out; clear h1) | ((with_reducible refine (NY.out _ (BW.out _ B1.out)).mono ?_); rintro e x2 ⟨rfl, h2⟩; have B2 := Lib.hid (B1.out.trans (h2.mono (Below.size B1.out))); have cc := cv.out (x2.alloc (.cells #[.int .u8 (97 + (i : Int))] 5)) x2.heap.size (heap_alloc_new x2 _); (first | (have y2 := blk_below y1.out h2; have cd := cv.out x2 w1.heap.size y2) | skip); clear h2) | ((with_reducible refine (NY.out _ (BW.out _ B1z.out)).mono ?_); rintro e x2 ⟨rfl, h2⟩; have B2 := Lib.hid (B1z.out.trans (h2.mono (Below.size B1z.out))); have y2 := blk_below y1z.out h2; have cd := cv.out x2 x1.heap.size y2; clear h2))) | (go_at_call 14; (first | ((with_reducible refine (DD.out x2 B2.out _ rfl).mono ?_); rintro e vb ⟨rfl, hL9, hK9⟩) | ((with_reducible refine (DDF.out x2 B2.out).mono ?_); rintro e vb ⟨rfl, hL9, hK9⟩)); have L2 := Lib.hid hL9; clear hL9 hK9))
      all_goals (
        obtain ⟨ex, hex⟩ : ∃ ex, x - a = ex := ⟨_, rfl⟩
        obtain ⟨ey, hey⟩ : ∃ ey, y - b = ey := ⟨_, rfl⟩
        have t1 := (w64d x a (by have := HXB.out; omega) (by have := HAB.out; omega)).trans hex
        have t2 := (w64d y b (by have := HYB.out; omega) (by have := HBB.out; omega)).trans hey
        have t3 := w64q ex (by have := HXB.out; have := HAB.out; omega)
        have t4 := w64q ey (by have := HYB.out; have := HBB.out; omega)
        have hd9 : ex * ex + ey * ey = d := by rw [← hex, ← hey]; exact HD.out
        have t5 := (w64p (ex * ex) (ey * ey) t3.2 t4.2).trans hd9
        have t3' := t3.1
        have t4' := t4.1
        clear t3 t4 hd9 hex hey u1 u2
        by_cases hz0 : z < 0
        · go_wp2_with fail
          exact ⟨⟨i + 1, HLT.out, by rw [NRA.out, if_pos (.inl hz0)], by rw [NRA.out, if_pos (.inl hz0), t5], by go_num, L2⟩, by have := HLT.out; simp [intOf]; omega⟩
        · by_cases hdf : d < f
          · go_wp2_with fail
            exact ⟨⟨i + 1, HLT.out, by rw [NRA.out, if_pos (.inr hdf)], by rw [NRA.out, if_pos (.inr hdf), t5], by go_num, L2⟩, by have := HLT.out; simp [intOf]; omega⟩
          · go_wp2_with fail
            exact ⟨⟨i + 1, HLT.out, by rw [NRA.out, if_neg (by omega)], by rw [NRA.out, if_neg (by omega)], by go_num, L2⟩, by have := HLT.out; simp [intOf]; omega⟩)
    · obtain rfl : i = n := by omega
      have i0 : ¬ (i : Int) < (i : Int) := by omega
      obtain ⟨hr1, hr2⟩ := nr_in a b (fP (prt xs) (prt ys) i) i n1 (by rw [fP_len]; exact Nat.le_refl _)
      obtain ⟨bi, hbi⟩ : ∃ bi : Nat, (nrP a b (fP (prt xs) (prt ys) i) i).1 = bi := ⟨(nrP a b (fP (prt xs) (prt ys) i) i).1.toNat, by omega⟩
      have hbl : bi < i := by omega
      obtain ⟨f, hf⟩ : ∃ f, (nrP a b (fP (prt xs) (prt ys) i) i).2 = f := ⟨_, rfl⟩
      simp only [hbi, hf]
      have hq0 := fP_at (prt xs) (prt ys) i bi hbl
      obtain ⟨x, hx9⟩ : ∃ x, prt xs bi = x := ⟨_, rfl⟩
      obtain ⟨y, hy9⟩ : ∃ y, prt ys bi = y := ⟨_, rfl⟩
      rw [hx9, hy9] at hq0
      have hxb : -1000 ≤ x ∧ x ≤ 1000 := by rw [← hx9]; exact prt_bd xs bi
      obtain ⟨z, hz, CZ⟩ := C3.out bi hbl
      rw [hx9] at hz
      have CZ := Lib.hid CZ
      have hab := HAB.out
      have hbb := HBB.out
      have hmb := HMB.out
      obtain ⟨F, hF⟩ : ∃ F, fP (prt xs) (prt ys) i = F := ⟨_, rfl⟩
      have hFl : F.length = i := by rw [← hF, fP_len]
      have hFn : F ≠ [] := by rw [← hF]; exact fP_ne _ _ _ n1
      have hP1 : PBd F 1000 := by rw [← hF]; exact fP_bd _ _ 1000 (prt_bd xs) (prt_bd ys) i n9
      rw [hF] at hq0 hbi HQ
      have hP2 : PBd (mapP (mvP m (-m)) F) 2000 := hP1.map _ (fun x y hx hy => by unfold mvP; simp only; omega)
      have oka : okI a = true := by simp [okI]; omega
      have okb : okI b = true := by simp [okI]; omega
      have okm : okI m = true := by simp [okI]; omega
      have okn : okI (-m) = true := by simp [okI]; omega
      have ok2 : okI (a + m) = true := by simp [okI]; omega
      have ok3 : okI (b - m) = true := by simp [okI]; omega
      have hN2 : (nrP (a + m) (b - m) (mapP (mvP m (-m)) F) (mapP (mvP m (-m)) F).length).1 = (bi : Int) := by rw [map_len, hFl, Int.sub_eq_add_neg, nr_mv]; exact hbi
      have hN1 : (nrP a b F F.length).1 = (bi : Int) := by rw [hFl]; exact hbi
      have hq2 : (mapP (mvP m (-m)) F)[bi]? = some (nP bi, x + m, y + -m) := by unfold mapP; rw [List.getElem?_map, hq0]; rfl
      have hFn2 := map_ne (f := mvP m (-m)) hFn
      have NA := Lib.hid (fun X (hX : Below w.heap.size w X) => num_any HT.out a ⟨by omega, by omega⟩ X hX)
      have NB := Lib.hid (fun X (hX : Below w.heap.size w X) => num_any HT.out b ⟨by omega, by omega⟩ X hX)
      have NM := Lib.hid (fun X (hX : Below w.heap.size w X) => num_any HT.out m ⟨by omega, by omega⟩ X hX)
      have NN := Lib.hid (fun X (hX : Below w.heap.size w X) => num_any HT.out (-m) ⟨by omega, by omega⟩ X hX)
      have NS := Lib.hid (fun X (hX : Below w.heap.size w X) => num_any HT.out (a + m) ⟨by omega, by omega⟩ X hX)
      have ND := Lib.hid (fun X (hX : Below w.heap.size w X) => num_any HT.out (b - m) ⟨by omega, by omega⟩ X hX)
      have NZ := Lib.hid (fun X (hX : Below w.heap.size w X) => num_any HT.out x ⟨by omega, by omega⟩ X hX)
      have u1 : IntKind.u8.wrap (bi : Int) = (bi : Int) := by rw [IntKind.wrap_u8]; omega
      have u2 : IntKind.u8.wrap (97 + (bi : Int)) = 97 + (bi : Int) := by rw [IntKind.wrap_u8]; omega
      have b9 : bi < 9 := by omega
      have cv := Lib.hid (fun X b h => convP bi b9 X b h)
      have DN1 := Lib.hid (fun X hL q hq => l_pnear w bS bM HT.out F 1000 (by decide) (by decide) hP1 hFn a b oka okb bi hN1 (nP bi, x, y) hq0 X hL q hq)
      have DM := Lib.hid (fun X hL q hq => l_pmove w bS bM F 1000 (by decide) (by decide) hP1 hFn m (-m) okm okn 2000 (by decide) hP2 i hFl X hL q hq)
      have DN2 := Lib.hid (fun X hL q hq => l_pnear w bS bM HT.out (mapP (mvP m (-m)) F) 2000 (by decide) (by decide) hP2 hFn2 (a + m) (b - m) ok2 ok3 bi hN2 (nP bi, x + m, y + -m) hq2 X hL q hq)
      have hm := HM.out
      have bi1 : (bi : Int) < (i : Int) := by omega
      have wmA : wrap64 (-m) = -m ∧ wrap64 (a + m) = a + m ∧ wrap64 (b - m) = b - m := ⟨w64n m hmb, w64a a m hab hmb, w64d b m (by omega) (by omega)⟩
      have FB := Lib.hid (first_bad (fun p => okI (mvP 1048576 (-1048576) p.2.1 p.2.2).1 && okI (mvP 1048576 (-1048576) p.2.1 p.2.2).2) (mapP (mvP m (-m)) F))
      have HP2 := Lib.hid hP2
      have HFN2 := Lib.hid hFn2
      have OK2 := Lib.hid (And.intro ok2 ok3)
      have HFL := Lib.hid (show (mapP (mvP m (-m)) F).length = i by rw [map_len]; exact hFl)
      clear hr1 hr2 hbi hf hq0 hx9 hy9 hxb hab hbb hmb hF hFl hFn hP1 hP2 oka okb okm okn ok2 ok3 hN1 hN2 hq2 hFn2 b9 C1 C2 C3 hi hlt n9
      obtain ⟨wm1, wm2, wm3⟩ := wmA
      go_wp2_with (first | (go_at_call 16; (with_reducible refine (NA.out _ HQ.out.below).mono ?_); rintro e x1 ⟨rfl, hB⟩; have L1 := Lib.hid (HQ.out.old hB); clear hB; refine Hid.out ?_))
      refine Lib.hid ?_
      go_wp2_with (first | (go_at_call 16; (with_reducible refine (NB.out _ L1.out.below).mono ?_); rintro e x2 ⟨rfl, hB⟩; have L2 := Lib.hid (L1.out.old hB); clear hB; refine Hid.out ?_))
      refine Lib.hid ?_
      have D3 := Lib.hid (DN1.out  (x2) L2.out (x2.heap.size) rfl)
      go_wp2_with (first | (go_at_call 14; (with_reducible refine (D3.out).mono ?_); rintro e v3 ⟨A3, m3, c3, rfl, hR3, hL3, hK3⟩; have L3 := Lib.hid hL3; have kR3 := Lib.hid hR3; clear hL3 hK3 hR3; refine Hid.out ?_))
      refine Lib.hid ?_
      have M3 := Lib.hid (L3.out.old (alloc_old (o := .cells #[.int .i64 6, .int .i64 0, .string ⟨#[]⟩, .slice A3 m3 c3] 29)))
      have mR33 := Lib.hid (RO.below kR3.out (alloc_old (o := .cells #[.int .i64 6, .int .i64 0, .string ⟨#[]⟩, .slice A3 m3 c3] 29)))
      have mc3 := Lib.hid (heap_alloc_new v3 (.cells #[.int .i64 6, .int .i64 0, .string ⟨#[]⟩, .slice A3 m3 c3] 29))
      go_wp2_with (first | (go_at_call 16; (with_reducible refine (NM.out _ M3.out.below).mono ?_); rintro e x3 ⟨rfl, hB⟩; have L4 := Lib.hid (M3.out.old hB); have kR34 := Lib.hid (RO.below mR33.out hB); have kc4 := Lib.hid (blk_below mc3.out hB); clear hB; refine Hid.out ?_))
      refine Lib.hid ?_
      go_wp2_with (first | (go_at_call 16; (with_reducible refine (NN.out _ L4.out.below).mono ?_); rintro e x4 ⟨rfl, hB⟩; have L5 := Lib.hid (L4.out.old hB); have kR35 := Lib.hid (RO.below kR34.out hB); have kc5 := Lib.hid (blk_below kc4.out hB); clear hB; refine Hid.out ?_))
      refine Lib.hid ?_
      have D6 := Lib.hid (DM.out  (x4) L5.out (x4.heap.size) rfl)
      go_wp2_with (first | (go_at_call 14; (with_reducible refine (D6.out).mono ?_); rintro e v6 ⟨rfl, hL6, hK6⟩; have L6 := Lib.hid hL6; have kR36 := Lib.hid (RO.keepD hK6 L5.out kR35.out); have kc6 := Lib.hid (keepL hK6 L5.out kc5.out (by decide)); clear hL6 hK6; refine Hid.out ?_))
      refine Lib.hid ?_
      go_wp2_with (first | (go_at_call 16; (with_reducible refine (NS.out _ L6.out.below).mono ?_); rintro e x5 ⟨rfl, hB⟩; have L7 := Lib.hid (L6.out.old hB); have kR37 := Lib.hid (RO.below kR36.out hB); have kc7 := Lib.hid (blk_below kc6.out hB); clear hB; refine Hid.out ?_))
      refine Lib.hid ?_
      go_wp2_with (first | (go_at_call 16; (with_reducible refine (ND.out _ L7.out.below).mono ?_); rintro e x6 ⟨rfl, hB⟩; have L8 := Lib.hid (L7.out.old hB); have kR38 := Lib.hid (RO.below kR37.out hB); have kc8 := Lib.hid (blk_below kc7.out hB); clear hB; refine Hid.out ?_))
      refine Lib.hid ?_
      have D9 := Lib.hid (DN2.out  (x6) L8.out (x6.heap.size) rfl)
      go_wp2_with (first | (go_at_call 14; (with_reducible refine (D9.out).mono ?_); rintro e v9 ⟨A9, m9, c9, rfl, hR9, hL9, hK9⟩; have L9 := Lib.hid hL9; have kR39 := Lib.hid (RO.keepD hK9 L8.out kR38.out); have kc9 := Lib.hid (keepL hK9 L8.out kc8.out (by decide)); have kR9 := Lib.hid hR9; clear hL9 hK9 hR9; refine Hid.out ?_))
      refine Lib.hid ?_
      have M9 := Lib.hid (L9.out.old (alloc_old (o := .cells #[.int .i64 6, .int .i64 0, .string ⟨#[]⟩, .slice A9 m9 c9] 29)))
      have mR39 := Lib.hid (RO.below kR39.out (alloc_old (o := .cells #[.int .i64 6, .int .i64 0, .string ⟨#[]⟩, .slice A9 m9 c9] 29)))
      have mc9 := Lib.hid (blk_below kc9.out (alloc_old (o := .cells #[.int .i64 6, .int .i64 0, .string ⟨#[]⟩, .slice A9 m9 c9] 29)))
      have mR99 := Lib.hid (RO.below kR9.out (alloc_old (o := .cells #[.int .i64 6, .int .i64 0, .string ⟨#[]⟩, .slice A9 m9 c9] 29)))
      have mi9 := Lib.hid (heap_alloc_new v9 (.cells #[.int .i64 6, .int .i64 0, .string ⟨#[]⟩, .slice A9 m9 c9] 29))
      rcases FB.out with hfit | ⟨M, pM, hM, hbad, hlo⟩
      · have hP3 := HP2.out.fit (mvP 1048576 (-1048576)) hfit
        obtain ⟨F3, hF3⟩ : ∃ F3, mapP (mvP 1048576 (-1048576)) (mapP (mvP m (-m)) F) = F3 := ⟨_, rfl⟩
        have hl3 : F3.length = i := by rw [← hF3, map_len]; exact HFL.out
        have hn3 : F3 ≠ [] := by rw [← hF3]; exact map_ne HFN2.out
        have DO := fun X hL q hq => l_over w bS bM (mapP (mvP m (-m)) F) 2000 (by decide) (by decide) HP2.out HFN2.out 1048576 (by decide) hP3 i HFL.out X hL q hq
        rw [hF3] at hP3 DO
        have DO := Lib.hid DO
        obtain ⟨k1, k2⟩ := nr_in (a + m) (b - m) F3 i n1 (by rw [hl3]; exact Nat.le_refl _)
        obtain ⟨b3, hb3⟩ : ∃ b3 : Nat, (nrP (a + m) (b - m) F3 i).1 = b3 := ⟨(nrP (a + m) (b - m) F3 i).1.toNat, by omega⟩
        obtain ⟨q3, hq3⟩ : ∃ q3, F3[b3]? = some q3 := ⟨_, List.getElem?_eq_getElem (by omega)⟩
        have DN3 := Lib.hid (fun X hL q hq => l_pnear w bS bM HT.out F3 1048576 (by decide) (by decide) hP3 hn3 (a + m) (b - m) OK2.out.1 OK2.out.2 b3 (by rw [hl3]; exact hb3) q3 hq3 X hL q hq)
        clear hfit hP3 hF3 hl3 hn3 k1 k2 hb3 hq3
        have D10 := Lib.hid (DO.out  (v9.alloc (.cells #[.int .i64 6, .int .i64 0, .string ⟨#[]⟩, .slice A9 m9 c9] 29)) M9.out (v9.heap.size + 1) (by simp))
        go_wp2_with (first | (go_at_call 14; (with_reducible refine (D10.out).mono ?_); rintro e v10 ⟨rfl, hL10, hK10⟩; have L10 := Lib.hid hL10; have kR310 := Lib.hid (RO.keepD hK10 M9.out mR39.out); have kc10 := Lib.hid (keepL hK10 M9.out mc9.out (by decide)); have kR910 := Lib.hid (RO.keepD hK10 M9.out mR99.out); have ki10 := Lib.hid (keepL hK10 M9.out mi9.out (by decide)); clear hL10 hK10; refine Hid.out ?_))
        refine Lib.hid ?_
        have M10 := Lib.hid (L10.out.old (alloc_old (o := .cells #[.int .i64 3, .int .i64 i, .string ⟨#[]⟩, .slice none 0 0] 29)))
        have mR310 := Lib.hid (RO.below kR310.out (alloc_old (o := .cells #[.int .i64 3, .int .i64 i, .string ⟨#[]⟩, .slice none 0 0] 29)))
        have mc10 := Lib.hid (blk_below kc10.out (alloc_old (o := .cells #[.int .i64 3, .int .i64 i, .string ⟨#[]⟩, .slice none 0 0] 29)))
        have mR910 := Lib.hid (RO.below kR910.out (alloc_old (o := .cells #[.int .i64 3, .int .i64 i, .string ⟨#[]⟩, .slice none 0 0] 29)))
        have mi10 := Lib.hid (blk_below ki10.out (alloc_old (o := .cells #[.int .i64 3, .int .i64 i, .string ⟨#[]⟩, .slice none 0 0] 29)))
        have mj10 := Lib.hid (heap_alloc_new v10 (.cells #[.int .i64 3, .int .i64 i, .string ⟨#[]⟩, .slice none 0 0] 29))
        go_wp2_with (first | (go_at_call 16; (with_reducible refine (NS.out _ M10.out.below).mono ?_); rintro e x9 ⟨rfl, hB⟩; have L11 := Lib.hid (M10.out.old hB); have kR311 := Lib.hid (RO.below mR310.out hB); have kc11 := Lib.hid (blk_below mc10.out hB); have kR911 := Lib.hid (RO.below mR910.out hB); have ki11 := Lib.hid (blk_below mi10.out hB); have kj11 := Lib.hid (blk_below mj10.out hB); clear hB; refine Hid.out ?_))
        refine Lib.hid ?_
        go_wp2_with (first | (go_at_call 16; (with_reducible refine (ND.out _ L11.out.below).mono ?_); rintro e x10 ⟨rfl, hB⟩; have L12 := Lib.hid (L11.out.old hB); have kR312 := Lib.hid (RO.below kR311.out hB); have kc12 := Lib.hid (blk_below kc11.out hB); have kR912 := Lib.hid (RO.below kR911.out hB); have ki12 := Lib.hid (blk_below ki11.out hB); have kj12 := Lib.hid (blk_below kj11.out hB); clear hB; refine Hid.out ?_))
        refine Lib.hid ?_
        have D13 := Lib.hid (DN3.out  (x10) L12.out (x10.heap.size) rfl)
        go_wp2_with (first | (go_at_call 14; (with_reducible refine (D13.out).mono ?_); rintro e v13 ⟨A13, m13, c13, rfl, hR13, hL13, hK13⟩; have L13 := Lib.hid hL13; have kR313 := Lib.hid (RO.keepD hK13 L12.out kR312.out); have kc13 := Lib.hid (keepL hK13 L12.out kc12.out (by decide)); have kR913 := Lib.hid (RO.keepD hK13 L12.out kR912.out); have ki13 := Lib.hid (keepL hK13 L12.out ki12.out (by decide)); have kj13 := Lib.hid (keepL hK13 L12.out kj12.out (by decide)); have kR13 := Lib.hid hR13; clear hL13 hK13 hR13; refine Hid.out ?_))
        refine Lib.hid ?_
        have M13 := Lib.hid (L13.out.old (alloc_old (o := .cells #[.int .i64 6, .int .i64 0, .string ⟨#[]⟩, .slice A13 m13 c13] 29)))
        have mR313 := Lib.hid (RO.below kR313.out (alloc_old (o := .cells #[.int .i64 6, .int .i64 0, .string ⟨#[]⟩, .slice A13 m13 c13] 29)))
        have mc13 := Lib.hid (blk_below kc13.out (alloc_old (o := .cells #[.int .i64 6, .int .i64 0, .string ⟨#[]⟩, .slice A13 m13 c13] 29)))
        have mR913 := Lib.hid (RO.below kR913.out (alloc_old (o := .cells #[.int .i64 6, .int .i64 0, .string ⟨#[]⟩, .slice A13 m13 c13] 29)))
        have mi13 := Lib.hid (blk_below ki13.out (alloc_old (o := .cells #[.int .i64 6, .int .i64 0, .string ⟨#[]⟩, .slice A13 m13 c13] 29)))
        have mj13 := Lib.hid (blk_below kj13.out (alloc_old (o := .cells #[.int .i64 6, .int .i64 0, .string ⟨#[]⟩, .slice A13 m13 c13] 29)))
        have mR1313 := Lib.hid (RO.below kR13.out (alloc_old (o := .cells #[.int .i64 6, .int .i64 0, .string ⟨#[]⟩, .slice A13 m13 c13] 29)))
        have mm13 := Lib.hid (heap_alloc_new v13 (.cells #[.int .i64 6, .int .i64 0, .string ⟨#[]⟩, .slice A13 m13 c13] 29))
        have cz := cv.out ((v13.alloc (.cells #[.int .i64 6, .int .i64 0, .string ⟨#[]⟩, .slice A13 m13 c13] 29)).alloc (.cells #[.int .u8 (97 + (bi : Int))] 5)) (v13.heap.size + 1) (heap2L v13 _)
        have MW := Lib.hid (M13.out.old (alloc_old (o := .cells #[.int .u8 (97 + (bi : Int))] 5)))
        have nmR313 := Lib.hid (RO.below mR313.out (alloc_old (o := .cells #[.int .u8 (97 + (bi : Int))] 5)))
        have nmc13 := Lib.hid (blk_below mc13.out (alloc_old (o := .cells #[.int .u8 (97 + (bi : Int))] 5)))
        have nmR913 := Lib.hid (RO.below mR913.out (alloc_old (o := .cells #[.int .u8 (97 + (bi : Int))] 5)))
        have nmi13 := Lib.hid (blk_below mi13.out (alloc_old (o := .cells #[.int .u8 (97 + (bi : Int))] 5)))
        have nmj13 := Lib.hid (blk_below mj13.out (alloc_old (o := .cells #[.int .u8 (97 + (bi : Int))] 5)))
        have nmR1313 := Lib.hid (RO.below mR1313.out (alloc_old (o := .cells #[.int .u8 (97 + (bi : Int))] 5)))
        have nmm13 := Lib.hid (blk_below mm13.out (alloc_old (o := .cells #[.int .u8 (97 + (bi : Int))] 5)))
        obtain ⟨⟨ov0, ov1, ov2, ov3⟩, _⟩ := cells4 nmj13.out
        go_wp2_with fail
        clear ov0 ov1 ov2 ov3 cz
        generalize ((v13.alloc (.cells #[.int .i64 6, .int .i64 0, .string ⟨#[]⟩, .slice A13 m13 c13] 29)).alloc (.cells #[.int .u8 (97 + (bi : Int))] 5)) = y1 at MW nmR313 nmc13 nmR913 nmi13 nmj13 nmR1313 nmm13 ⊢
        obtain ⟨hm3, ⟨g3, rfl⟩, hcc3⟩ := nmR313.out.form (by simp)
        have hm3 : m3 = 3 := hm3
        subst hm3
        obtain ⟨hm9, ⟨g9, rfl⟩, hcc9⟩ := nmR913.out.form (by simp)
        have hm9 : m9 = 3 := hm9
        subst hm9
        obtain ⟨hm13, ⟨g13, rfl⟩, hcc13⟩ := nmR1313.out.form (by simp)
        have hm13 : m13 = 3 := hm13
        subst hm13
        have SX := Lib.hid (show ∀ Y, Below y1.heap.size y1 Y → (Y.cell? ⟨v3.heap.size, 3, none⟩ = some (.slice (some ⟨g3, 0, none⟩) 3 c3) ∧ Y.cell? ⟨g3, 2, none⟩ = some (.string (nP bi)) ∧ Y.cell? ⟨g3, 6, none⟩ = some (.string (numT x)) ∧ Y.cell? ⟨blk, off + bi, none⟩ = some (.int .i64 z) ∧ Y.cell? ⟨v9.heap.size, 3, none⟩ = some (.slice (some ⟨g9, 0, none⟩) 3 c9) ∧ Y.cell? ⟨g9, 2, none⟩ = some (.string (nP bi))) from fun Y hY => ⟨(cells4 (blk_below nmc13.out hY)).1.2.2.2, row_cell (RO.below nmR313.out hY) 2 (.string (nP bi)) rfl, row_cell (RO.below nmR313.out hY) 6 (.string (numT x)) rfl, CZ.out Y (MW.out.old hY).below, (cells4 (blk_below nmi13.out hY)).1.2.2.2, row_cell (RO.below nmR913.out hY) 2 (.string (nP bi)) rfl⟩)
        have BY1 := Lib.hid (fun Y (hY : Below y1.heap.size y1 Y) => (MW.out.old hY).below)
        have TLc := Lib.hid (TL.out y1.drew (BY1.out _ (Below.refl _ _).drew))
        try clear hcc13
        try clear hcc9
        try clear hcc3
        try clear wm3
        try clear wm2
        try clear wm1
        try clear q3
        try clear q2
        try clear q1
        try clear hb
        try clear ha
        try clear hblt2
        try clear hblt
        try clear n1
        try clear nl
        try clear L0
        try clear HT
        try clear TL
        try clear HL
        try clear HN
        try clear HM
        try clear HMB
        try clear HBB
        try clear HAB
        try clear NW
        try clear HQ
        try clear hr2
        try clear hr1
        try clear hm
        try clear hm13
        try clear hm9
        try clear hm3
        try clear nmm13
        try clear nmR1313
        try clear nmj13
        try clear nmi13
        try clear nmR913
        try clear nmc13
        try clear nmR313
        try clear MW
        try clear cz
        try clear mm13
        try clear mR1313
        try clear mj13
        try clear mi13
        try clear mR913
        try clear mc13
        try clear mR313
        try clear M13
        try clear kR13
        try clear kj13
        try clear ki13
        try clear kR913
        try clear kc13
        try clear kR313
        try clear L13
        try clear D13
        try clear kj12
        try clear ki12
        try clear kR912
        try clear kc12
        try clear kR312
        try clear L12
        try clear kj11
        try clear ki11
        try clear kR911
        try clear kc11
        try clear kR311
        try clear L11
        try clear mj10
        try clear mi10
        try clear mR910
        try clear mc10
        try clear mR310
        try clear M10
        try clear ki10
        try clear kR910
        try clear kc10
        try clear kR310
        try clear L10
        try clear D10
        try clear DN3
        try clear DO
        try clear hn3
        try clear hl3
        try clear hP3
        try clear mi9
        try clear mR99
        try clear mc9
        try clear mR39
        try clear M9
        try clear kR9
        try clear kc9
        try clear kR39
        try clear L9
        try clear D9
        try clear kc8
        try clear kR38
        try clear L8
        try clear kc7
        try clear kR37
        try clear L7
        try clear kc6
        try clear kR36
        try clear L6
        try clear D6
        try clear kc5
        try clear kR35
        try clear L5
        try clear kc4
        try clear kR34
        try clear L4
        try clear mc3
        try clear mR33
        try clear M3
        try clear kR3
        try clear L3
        try clear D3
        try clear L2
        try clear L1
        try clear HFL
        try clear OK2
        try clear HFN2
        try clear HP2
        try clear FB
        try clear wmA
        try clear hm
        try clear DN2
        try clear DM
        try clear DN1
        try clear cv
        try clear b9
        try clear u2
        try clear u1
        try clear ND
        try clear NS
        try clear NN
        try clear NM
        try clear NB
        try clear NA
        try clear hFn2
        try clear hq2
        try clear hN1
        try clear hN2
        try clear ok3
        try clear ok2
        try clear okn
        try clear okm
        try clear okb
        try clear oka
        try clear hP2
        try clear hP1
        try clear hFn
        try clear hFl
        try clear hmb
        try clear hbb
        try clear hab
        try clear CZ
        try clear hxb
        try clear hq0
        try clear hbl
        try clear i0
        dsimp only [List.append]
        refine wp_region_held_drew (S := fun X => X.cell? ⟨v3.heap.size, 3, none⟩ = some (.slice (some ⟨g3, 0, none⟩) 3 c3) ∧ X.cell? ⟨g3, 2, none⟩ = some (.string (nP bi)) ∧ X.cell? ⟨g3, 6, none⟩ = some (.string (numT x)) ∧ X.cell? ⟨blk, off + bi, none⟩ = some (.int .i64 z) ∧ X.cell? ⟨v9.heap.size, 3, none⟩ = some (.slice (some ⟨g9, 0, none⟩) 3 c9) ∧ X.cell? ⟨g9, 2, none⟩ = some (.string (nP bi))) (by kernel_rfl) (SX.out _ (Below.refl _ _).drew) (fun hH0 => ?_)
        refine wpAnyH_ready (rs := [0]) (by as_aux_lemma => kernel_rfl) (by simp) ?_
        refine AllReadyH.cons rfl (fun K hK => ?_) AllReadyH.nil
        go_simp
        go_at_call 10
        refine (TLc.out).mono ?_
        rintro e z1 ⟨rfl, h1⟩
        have Bz1 := Lib.hid ((Below.refl y1.heap.size y1).drew.trans h1)
        clear h1
        refine hK.out _ _ (SX.out _ Bz1.out) (fun hH1 => ?_)
        clear hK K hH0
        try simp only [Act.put, List.getElem_toArray, List.getElem_cons_zero, List.getElem_cons_succ, List.setIfInBounds_toArray, List.set_cons_zero, List.set_cons_succ]
        refine wpAnyH_take (i := 1) (v := .bool true) rfl (by as_aux_lemma => kernel_rfl) (by as_aux_lemma => kernel_rfl) (by as_aux_lemma => kernel_rfl) (fun _ _ _ h => h) (Or.inl ⟨by kernel_rfl, fun w hSw => by (try dsimp only at hSw); go_simp⟩) hH1 ?_
        try simp only [Act.put, List.getElem_toArray, List.getElem_cons_zero, List.getElem_cons_succ, List.setIfInBounds_toArray, List.set_cons_zero, List.set_cons_succ]
        refine wpAnyH_take (i := 2) (v := .pointer (some ⟨v3.heap.size, 3, none⟩)) rfl (by as_aux_lemma => kernel_rfl) (by as_aux_lemma => kernel_rfl) (by as_aux_lemma => kernel_rfl) (fun _ _ _ h => h) (Or.inl ⟨by kernel_rfl, fun w hSw => by (try dsimp only at hSw); go_simp⟩) hH1 ?_
        try simp only [Act.put, List.getElem_toArray, List.getElem_cons_zero, List.getElem_cons_succ, List.setIfInBounds_toArray, List.set_cons_zero, List.set_cons_succ]
        refine wpAnyH_take (i := 3) (v := .slice (some ⟨g3, 0, none⟩) 3 c3) rfl (by as_aux_lemma => kernel_rfl) (by as_aux_lemma => kernel_rfl) (by as_aux_lemma => kernel_rfl) (fun _ _ _ h => h) (Or.inl ⟨by kernel_rfl, fun w hSw => by (try dsimp only at hSw); go_simp⟩) hH1 ?_
        try simp only [Act.put, List.getElem_toArray, List.getElem_cons_zero, List.getElem_cons_succ, List.setIfInBounds_toArray, List.set_cons_zero, List.set_cons_succ]
        refine wpAnyH_take (i := 4) (v := .int .i64 3) rfl (by as_aux_lemma => kernel_rfl) (by as_aux_lemma => kernel_rfl) (by as_aux_lemma => kernel_rfl) (fun _ _ _ h => h) (Or.inl ⟨by kernel_rfl, fun w hSw => by (try dsimp only at hSw); go_simp⟩) hH1 ?_
        try simp only [Act.put, List.getElem_toArray, List.getElem_cons_zero, List.getElem_cons_succ, List.setIfInBounds_toArray, List.set_cons_zero, List.set_cons_succ]
        refine wpAnyH_take (i := 5) (v := .bool true) rfl (by as_aux_lemma => kernel_rfl) (by as_aux_lemma => kernel_rfl) (by as_aux_lemma => kernel_rfl) (fun _ _ _ h => h) (Or.inl ⟨by kernel_rfl, fun w hSw => by (try dsimp only at hSw); go_simp⟩) hH1 ?_
        try simp only [Act.put, List.getElem_toArray, List.getElem_cons_zero, List.getElem_cons_succ, List.setIfInBounds_toArray, List.set_cons_zero, List.set_cons_succ]
        refine wpAnyH_take (i := 6) (v := .bool true) rfl (by as_aux_lemma => kernel_rfl) (by as_aux_lemma => kernel_rfl) (by as_aux_lemma => kernel_rfl) (fun _ _ _ h => h) (Or.inl ⟨by kernel_rfl, fun w hSw => by (try dsimp only at hSw); go_simp⟩) hH1 ?_
        try simp only [Act.put, List.getElem_toArray, List.getElem_cons_zero, List.getElem_cons_succ, List.setIfInBounds_toArray, List.set_cons_zero, List.set_cons_succ]
        refine wpAnyH_take (i := 7) (v := .bool true) rfl (by as_aux_lemma => kernel_rfl) (by as_aux_lemma => kernel_rfl) (by as_aux_lemma => kernel_rfl) (fun _ _ _ h => h) (Or.inl ⟨by kernel_rfl, fun w hSw => by (try dsimp only at hSw); go_simp⟩) hH1 ?_
        try simp only [Act.put, List.getElem_toArray, List.getElem_cons_zero, List.getElem_cons_succ, List.setIfInBounds_toArray, List.set_cons_zero, List.set_cons_succ]
        refine wpAnyH_take (i := 8) (v := .pointer (some ⟨v3.heap.size, 3, none⟩)) rfl (by as_aux_lemma => kernel_rfl) (by as_aux_lemma => kernel_rfl) (by as_aux_lemma => kernel_rfl) (fun _ _ _ h => h) (Or.inl ⟨by kernel_rfl, fun w hSw => by (try dsimp only at hSw); go_simp⟩) hH1 ?_
        try simp only [Act.put, List.getElem_toArray, List.getElem_cons_zero, List.getElem_cons_succ, List.setIfInBounds_toArray, List.set_cons_zero, List.set_cons_succ]
        refine wpAnyH_take (i := 9) (v := .slice (some ⟨g3, 0, none⟩) 3 c3) rfl (by as_aux_lemma => kernel_rfl) (by as_aux_lemma => kernel_rfl) (by as_aux_lemma => kernel_rfl) (fun _ _ _ h => h) (Or.inl ⟨by kernel_rfl, fun w hSw => by (try dsimp only at hSw); go_simp⟩) hH1 ?_
        try simp only [Act.put, List.getElem_toArray, List.getElem_cons_zero, List.getElem_cons_succ, List.setIfInBounds_toArray, List.set_cons_zero, List.set_cons_succ]
        refine wpAnyH_take (i := 10) (v := .pointer (some ⟨g3, 0, none⟩)) rfl (by as_aux_lemma => kernel_rfl) (by as_aux_lemma => kernel_rfl) (by as_aux_lemma => kernel_rfl) (fun _ _ _ h => h) (Or.inl ⟨by kernel_rfl, fun w hSw => by (try dsimp only at hSw); go_simp⟩) hH1 ?_
        try simp only [Act.put, List.getElem_toArray, List.getElem_cons_zero, List.getElem_cons_succ, List.setIfInBounds_toArray, List.set_cons_zero, List.set_cons_succ]
        refine wpAnyH_take (i := 11) (v := .pointer (some ⟨g3, 2, none⟩)) rfl (by as_aux_lemma => kernel_rfl) (by as_aux_lemma => kernel_rfl) (by as_aux_lemma => kernel_rfl) (fun _ _ _ h => h) (Or.inl ⟨by kernel_rfl, fun w hSw => by (try dsimp only at hSw); go_simp⟩) hH1 ?_
        try simp only [Act.put, List.getElem_toArray, List.getElem_cons_zero, List.getElem_cons_succ, List.setIfInBounds_toArray, List.set_cons_zero, List.set_cons_succ]
        refine wpAnyH_take (i := 12) (v := .string (nP bi)) rfl (by as_aux_lemma => kernel_rfl) (by as_aux_lemma => kernel_rfl) (by as_aux_lemma => kernel_rfl) (fun _ _ _ h => h) (Or.inl ⟨by kernel_rfl, fun w hSw => by (try dsimp only at hSw); go_simp⟩) hH1 ?_
        try simp only [Act.put, List.getElem_toArray, List.getElem_cons_zero, List.getElem_cons_succ, List.setIfInBounds_toArray, List.set_cons_zero, List.set_cons_succ]
        refine wpAnyH_take (i := 13) (v := .string (nP bi)) rfl (by as_aux_lemma => kernel_rfl) (by as_aux_lemma => kernel_rfl) (by as_aux_lemma => kernel_rfl) (fun _ _ _ h => h) (Or.inl ⟨by kernel_rfl, fun w hSw => by (try dsimp only at hSw); go_simp⟩) hH1 ?_
        try simp only [Act.put, List.getElem_toArray, List.getElem_cons_zero, List.getElem_cons_succ, List.setIfInBounds_toArray, List.set_cons_zero, List.set_cons_succ]
        refine wpAnyH_take (i := 14) (v := .bool true) rfl (by as_aux_lemma => kernel_rfl) (by as_aux_lemma => kernel_rfl) (by as_aux_lemma => kernel_rfl) (fun _ _ _ h => h) (Or.inl ⟨by kernel_rfl, fun w hSw => by (try dsimp only at hSw); go_simp⟩) hH1 ?_
        try simp only [Act.put, List.getElem_toArray, List.getElem_cons_zero, List.getElem_cons_succ, List.setIfInBounds_toArray, List.set_cons_zero, List.set_cons_succ]
        refine wpAnyH_take (i := 15) (v := .bool true) rfl (by as_aux_lemma => kernel_rfl) (by as_aux_lemma => kernel_rfl) (by as_aux_lemma => kernel_rfl) (fun _ _ _ h => h) (Or.inl ⟨by kernel_rfl, fun w hSw => by (try dsimp only at hSw); go_simp⟩) hH1 ?_
        try simp only [Act.put, List.getElem_toArray, List.getElem_cons_zero, List.getElem_cons_succ, List.setIfInBounds_toArray, List.set_cons_zero, List.set_cons_succ]
        refine wpAnyH_take (i := 16) (v := .bool true) rfl (by as_aux_lemma => kernel_rfl) (by as_aux_lemma => kernel_rfl) (by as_aux_lemma => kernel_rfl) (fun _ _ _ h => h) (Or.inl ⟨by kernel_rfl, fun w hSw => by (try dsimp only at hSw); go_simp⟩) hH1 ?_
        try simp only [Act.put, List.getElem_toArray, List.getElem_cons_zero, List.getElem_cons_succ, List.setIfInBounds_toArray, List.set_cons_zero, List.set_cons_succ]
        refine wpAnyH_take (i := 17) (v := .pointer (some ⟨v3.heap.size, 3, none⟩)) rfl (by as_aux_lemma => kernel_rfl) (by as_aux_lemma => kernel_rfl) (by as_aux_lemma => kernel_rfl) (fun _ _ _ h => h) (Or.inl ⟨by kernel_rfl, fun w hSw => by (try dsimp only at hSw); go_simp⟩) hH1 ?_
        try simp only [Act.put, List.getElem_toArray, List.getElem_cons_zero, List.getElem_cons_succ, List.setIfInBounds_toArray, List.set_cons_zero, List.set_cons_succ]
        refine wpAnyH_take (i := 18) (v := .slice (some ⟨g3, 0, none⟩) 3 c3) rfl (by as_aux_lemma => kernel_rfl) (by as_aux_lemma => kernel_rfl) (by as_aux_lemma => kernel_rfl) (fun _ _ _ h => h) (Or.inl ⟨by kernel_rfl, fun w hSw => by (try dsimp only at hSw); go_simp⟩) hH1 ?_
        try simp only [Act.put, List.getElem_toArray, List.getElem_cons_zero, List.getElem_cons_succ, List.setIfInBounds_toArray, List.set_cons_zero, List.set_cons_succ]
        refine wpAnyH_take (i := 19) (v := .pointer (some ⟨g3, 4, none⟩)) rfl (by as_aux_lemma => kernel_rfl) (by as_aux_lemma => kernel_rfl) (by as_aux_lemma => kernel_rfl) (fun _ _ _ h => h) (Or.inl ⟨by kernel_rfl, fun w hSw => by (try dsimp only at hSw); go_simp⟩) hH1 ?_
        try simp only [Act.put, List.getElem_toArray, List.getElem_cons_zero, List.getElem_cons_succ, List.setIfInBounds_toArray, List.set_cons_zero, List.set_cons_succ]
        refine wpAnyH_take (i := 20) (v := .pointer (some ⟨g3, 6, none⟩)) rfl (by as_aux_lemma => kernel_rfl) (by as_aux_lemma => kernel_rfl) (by as_aux_lemma => kernel_rfl) (fun _ _ _ h => h) (Or.inl ⟨by kernel_rfl, fun w hSw => by (try dsimp only at hSw); go_simp⟩) hH1 ?_
        try simp only [Act.put, List.getElem_toArray, List.getElem_cons_zero, List.getElem_cons_succ, List.setIfInBounds_toArray, List.set_cons_zero, List.set_cons_succ]
        refine wpAnyH_take (i := 21) (v := .string (numT x)) rfl (by as_aux_lemma => kernel_rfl) (by as_aux_lemma => kernel_rfl) (by as_aux_lemma => kernel_rfl) (fun _ _ _ h => h) (Or.inl ⟨by kernel_rfl, fun w hSw => by (try dsimp only at hSw); go_simp⟩) hH1 ?_
        try simp only [Act.put, List.getElem_toArray, List.getElem_cons_zero, List.getElem_cons_succ, List.setIfInBounds_toArray, List.set_cons_zero, List.set_cons_succ]
        refine wpAnyH_take (i := 22) (v := .func (.func 16) #[] #[]) rfl (by as_aux_lemma => kernel_rfl) (by as_aux_lemma => kernel_rfl) (by as_aux_lemma => kernel_rfl) (fun _ _ _ h => h) (Or.inl ⟨by kernel_rfl, fun w hSw => by (try dsimp only at hSw); go_simp⟩) hH1 ?_
        try simp only [Act.put, List.getElem_toArray, List.getElem_cons_zero, List.getElem_cons_succ, List.setIfInBounds_toArray, List.set_cons_zero, List.set_cons_succ]
        refine wpAnyH_take (i := 23) (v := .slice (some ⟨blk, off, none⟩) i cap) rfl (by as_aux_lemma => kernel_rfl) (by as_aux_lemma => kernel_rfl) (by as_aux_lemma => kernel_rfl) (fun _ _ _ h => h) (Or.inl ⟨by kernel_rfl, fun w hSw => by (try dsimp only at hSw); go_simp⟩) hH1 ?_
        try simp only [Act.put, List.getElem_toArray, List.getElem_cons_zero, List.getElem_cons_succ, List.setIfInBounds_toArray, List.set_cons_zero, List.set_cons_succ]
        refine wpAnyH_take (i := 24) (v := .int .i64 bi) rfl (by as_aux_lemma => kernel_rfl) (by as_aux_lemma => kernel_rfl) (by as_aux_lemma => kernel_rfl) (fun _ _ _ h => h) (Or.inl ⟨by kernel_rfl, fun w hSw => by (try dsimp only at hSw); go_simp⟩) hH1 ?_
        try simp only [Act.put, List.getElem_toArray, List.getElem_cons_zero, List.getElem_cons_succ, List.setIfInBounds_toArray, List.set_cons_zero, List.set_cons_succ]
        refine wpAnyH_take (i := 25) (v := .pointer (some ⟨blk, off + bi, none⟩)) rfl (by as_aux_lemma => kernel_rfl) (by as_aux_lemma => kernel_rfl) (by as_aux_lemma => kernel_rfl) (fun _ _ _ h => h) (Or.inl ⟨by kernel_rfl, fun w hSw => by (try dsimp only at hSw); go_simp⟩) hH1 ?_
        try simp only [Act.put, List.getElem_toArray, List.getElem_cons_zero, List.getElem_cons_succ, List.setIfInBounds_toArray, List.set_cons_zero, List.set_cons_succ]
        refine wpAnyH_take (i := 26) (v := .int .i64 z) rfl (by as_aux_lemma => kernel_rfl) (by as_aux_lemma => kernel_rfl) (by as_aux_lemma => kernel_rfl) (fun _ _ _ h => h) (Or.inl ⟨by kernel_rfl, fun w hSw => by (try dsimp only at hSw); go_simp⟩) hH1 ?_
        try simp only [Act.put, List.getElem_toArray, List.getElem_cons_zero, List.getElem_cons_succ, List.setIfInBounds_toArray, List.set_cons_zero, List.set_cons_succ]
        refine wpAnyH_take (i := 27) (v := .int .i64 x) rfl (by as_aux_lemma => kernel_rfl) (by as_aux_lemma => kernel_rfl) (by as_aux_lemma => kernel_rfl) (fun _ _ _ h => h) (Or.inl ⟨by kernel_rfl, fun w hSw => by (try dsimp only at hSw); go_simp⟩) hH1 ?_
        try simp only [Act.put, List.getElem_toArray, List.getElem_cons_zero, List.getElem_cons_succ, List.setIfInBounds_toArray, List.set_cons_zero, List.set_cons_succ]
        refine wpAnyH_ready (rs := [28]) (by as_aux_lemma => kernel_rfl) (by simp) ?_
        refine AllReadyH.cons rfl (fun K hK => ?_) AllReadyH.nil
        go_simp
        go_at_call 16
        refine (NZ.out _ (BY1.out _ Bz1.out)).mono ?_
        rintro e z2 ⟨rfl, h1⟩
        have Bz2 := Lib.hid (Bz1.out.trans (h1.mono (Below.size Bz1.out)))
        clear h1
        refine hK.out _ _ (SX.out _ Bz2.out) (fun hH2 => ?_)
        clear hK K hH1
        try simp only [Act.put, List.getElem_toArray, List.getElem_cons_zero, List.getElem_cons_succ, List.setIfInBounds_toArray, List.set_cons_zero, List.set_cons_succ]
        refine wpAnyH_take (i := 29) (v := .bool true) rfl (by as_aux_lemma => kernel_rfl) (by as_aux_lemma => kernel_rfl) (by as_aux_lemma => kernel_rfl) (fun _ _ _ h => h) (Or.inl ⟨by kernel_rfl, fun w hSw => by (try dsimp only at hSw); go_simp⟩) hH2 ?_
        try simp only [Act.put, List.getElem_toArray, List.getElem_cons_zero, List.getElem_cons_succ, List.setIfInBounds_toArray, List.set_cons_zero, List.set_cons_succ]
        refine wpAnyH_take (i := 30) (v := .bool true) rfl (by as_aux_lemma => kernel_rfl) (by as_aux_lemma => kernel_rfl) (by as_aux_lemma => kernel_rfl) (fun _ _ _ h => h) (Or.inl ⟨by kernel_rfl, fun w hSw => by (try dsimp only at hSw); go_simp⟩) hH2 ?_
        try simp only [Act.put, List.getElem_toArray, List.getElem_cons_zero, List.getElem_cons_succ, List.setIfInBounds_toArray, List.set_cons_zero, List.set_cons_succ]
        refine wpAnyH_take (i := 31) (v := .bool true) rfl (by as_aux_lemma => kernel_rfl) (by as_aux_lemma => kernel_rfl) (by as_aux_lemma => kernel_rfl) (fun _ _ _ h => h) (Or.inl ⟨by kernel_rfl, fun w hSw => by (try dsimp only at hSw); go_simp⟩) hH2 ?_
        try simp only [Act.put, List.getElem_toArray, List.getElem_cons_zero, List.getElem_cons_succ, List.setIfInBounds_toArray, List.set_cons_zero, List.set_cons_succ]
        refine wpAnyH_take (i := 32) (v := .pointer (some ⟨v9.heap.size, 3, none⟩)) rfl (by as_aux_lemma => kernel_rfl) (by as_aux_lemma => kernel_rfl) (by as_aux_lemma => kernel_rfl) (fun _ _ _ h => h) (Or.inl ⟨by kernel_rfl, fun w hSw => by (try dsimp only at hSw); go_simp⟩) hH2 ?_
        try simp only [Act.put, List.getElem_toArray, List.getElem_cons_zero, List.getElem_cons_succ, List.setIfInBounds_toArray, List.set_cons_zero, List.set_cons_succ]
        refine wpAnyH_take (i := 33) (v := .slice (some ⟨g9, 0, none⟩) 3 c9) rfl (by as_aux_lemma => kernel_rfl) (by as_aux_lemma => kernel_rfl) (by as_aux_lemma => kernel_rfl) (fun _ _ _ h => h) (Or.inl ⟨by kernel_rfl, fun w hSw => by (try dsimp only at hSw); go_simp⟩) hH2 ?_
        try simp only [Act.put, List.getElem_toArray, List.getElem_cons_zero, List.getElem_cons_succ, List.setIfInBounds_toArray, List.set_cons_zero, List.set_cons_succ]
        refine wpAnyH_take (i := 34) (v := .int .i64 3) rfl (by as_aux_lemma => kernel_rfl) (by as_aux_lemma => kernel_rfl) (by as_aux_lemma => kernel_rfl) (fun _ _ _ h => h) (Or.inl ⟨by kernel_rfl, fun w hSw => by (try dsimp only at hSw); go_simp⟩) hH2 ?_
        try simp only [Act.put, List.getElem_toArray, List.getElem_cons_zero, List.getElem_cons_succ, List.setIfInBounds_toArray, List.set_cons_zero, List.set_cons_succ]
        refine wpAnyH_take (i := 35) (v := .bool true) rfl (by as_aux_lemma => kernel_rfl) (by as_aux_lemma => kernel_rfl) (by as_aux_lemma => kernel_rfl) (fun _ _ _ h => h) (Or.inl ⟨by kernel_rfl, fun w hSw => by (try dsimp only at hSw); go_simp⟩) hH2 ?_
        try simp only [Act.put, List.getElem_toArray, List.getElem_cons_zero, List.getElem_cons_succ, List.setIfInBounds_toArray, List.set_cons_zero, List.set_cons_succ]
        refine wpAnyH_take (i := 36) (v := .bool true) rfl (by as_aux_lemma => kernel_rfl) (by as_aux_lemma => kernel_rfl) (by as_aux_lemma => kernel_rfl) (fun _ _ _ h => h) (Or.inl ⟨by kernel_rfl, fun w hSw => by (try dsimp only at hSw); go_simp⟩) hH2 ?_
        try simp only [Act.put, List.getElem_toArray, List.getElem_cons_zero, List.getElem_cons_succ, List.setIfInBounds_toArray, List.set_cons_zero, List.set_cons_succ]
        refine wpAnyH_take (i := 37) (v := .bool true) rfl (by as_aux_lemma => kernel_rfl) (by as_aux_lemma => kernel_rfl) (by as_aux_lemma => kernel_rfl) (fun _ _ _ h => h) (Or.inl ⟨by kernel_rfl, fun w hSw => by (try dsimp only at hSw); go_simp⟩) hH2 ?_
        try simp only [Act.put, List.getElem_toArray, List.getElem_cons_zero, List.getElem_cons_succ, List.setIfInBounds_toArray, List.set_cons_zero, List.set_cons_succ]
        refine wpAnyH_take (i := 38) (v := .pointer (some ⟨v9.heap.size, 3, none⟩)) rfl (by as_aux_lemma => kernel_rfl) (by as_aux_lemma => kernel_rfl) (by as_aux_lemma => kernel_rfl) (fun _ _ _ h => h) (Or.inl ⟨by kernel_rfl, fun w hSw => by (try dsimp only at hSw); go_simp⟩) hH2 ?_
        try simp only [Act.put, List.getElem_toArray, List.getElem_cons_zero, List.getElem_cons_succ, List.setIfInBounds_toArray, List.set_cons_zero, List.set_cons_succ]
        refine wpAnyH_take (i := 39) (v := .slice (some ⟨g9, 0, none⟩) 3 c9) rfl (by as_aux_lemma => kernel_rfl) (by as_aux_lemma => kernel_rfl) (by as_aux_lemma => kernel_rfl) (fun _ _ _ h => h) (Or.inl ⟨by kernel_rfl, fun w hSw => by (try dsimp only at hSw); go_simp⟩) hH2 ?_
        try simp only [Act.put, List.getElem_toArray, List.getElem_cons_zero, List.getElem_cons_succ, List.setIfInBounds_toArray, List.set_cons_zero, List.set_cons_succ]
        refine wpAnyH_take (i := 40) (v := .pointer (some ⟨g9, 0, none⟩)) rfl (by as_aux_lemma => kernel_rfl) (by as_aux_lemma => kernel_rfl) (by as_aux_lemma => kernel_rfl) (fun _ _ _ h => h) (Or.inl ⟨by kernel_rfl, fun w hSw => by (try dsimp only at hSw); go_simp⟩) hH2 ?_
        try simp only [Act.put, List.getElem_toArray, List.getElem_cons_zero, List.getElem_cons_succ, List.setIfInBounds_toArray, List.set_cons_zero, List.set_cons_succ]
        refine wpAnyH_take (i := 41) (v := .pointer (some ⟨g9, 2, none⟩)) rfl (by as_aux_lemma => kernel_rfl) (by as_aux_lemma => kernel_rfl) (by as_aux_lemma => kernel_rfl) (fun _ _ _ h => h) (Or.inl ⟨by kernel_rfl, fun w hSw => by (try dsimp only at hSw); go_simp⟩) hH2 ?_
        try simp only [Act.put, List.getElem_toArray, List.getElem_cons_zero, List.getElem_cons_succ, List.setIfInBounds_toArray, List.set_cons_zero, List.set_cons_succ]
        refine wpAnyH_take (i := 42) (v := .string (nP bi)) rfl (by as_aux_lemma => kernel_rfl) (by as_aux_lemma => kernel_rfl) (by as_aux_lemma => kernel_rfl) (fun _ _ _ h => h) (Or.inl ⟨by kernel_rfl, fun w hSw => by (try dsimp only at hSw); go_simp⟩) hH2 ?_
        try simp only [Act.put, List.getElem_toArray, List.getElem_cons_zero, List.getElem_cons_succ, List.setIfInBounds_toArray, List.set_cons_zero, List.set_cons_succ]
        refine wpAnyH_take (i := 43) (v := .string (nP bi)) rfl (by as_aux_lemma => kernel_rfl) (by as_aux_lemma => kernel_rfl) (by as_aux_lemma => kernel_rfl) (fun _ _ _ h => h) (Or.inl ⟨by kernel_rfl, fun w hSw => by (try dsimp only at hSw); go_simp⟩) hH2 ?_
        try simp only [Act.put, List.getElem_toArray, List.getElem_cons_zero, List.getElem_cons_succ, List.setIfInBounds_toArray, List.set_cons_zero, List.set_cons_succ]
        refine wpAnyH_take (i := 44) (v := .bool true) rfl (by as_aux_lemma => kernel_rfl) (by as_aux_lemma => kernel_rfl) (by as_aux_lemma => kernel_rfl) (fun _ _ _ h => h) (Or.inl ⟨by kernel_rfl, fun w hSw => by (try dsimp only at hSw); go_simp⟩) hH2 ?_
        try simp only [Act.put, List.getElem_toArray, List.getElem_cons_zero, List.getElem_cons_succ, List.setIfInBounds_toArray, List.set_cons_zero, List.set_cons_succ]
        refine wpAnyH_take (i := 45) (v := .bool true) rfl (by as_aux_lemma => kernel_rfl) (by as_aux_lemma => kernel_rfl) (by as_aux_lemma => kernel_rfl) (fun _ _ _ h => h) (Or.inl ⟨by kernel_rfl, fun w hSw => by (try dsimp only at hSw); go_simp⟩) hH2 ?_
        try simp only [Act.put, List.getElem_toArray, List.getElem_cons_zero, List.getElem_cons_succ, List.setIfInBounds_toArray, List.set_cons_zero, List.set_cons_succ]
        refine wpAnyH_take (i := 46) (v := .bool true) rfl (by as_aux_lemma => kernel_rfl) (by as_aux_lemma => kernel_rfl) (by as_aux_lemma => kernel_rfl) (fun _ _ _ h => h) (Or.inl ⟨by kernel_rfl, fun w hSw => by (try dsimp only at hSw); go_simp⟩) hH2 ?_
        try simp only [Act.put, List.getElem_toArray, List.getElem_cons_zero, List.getElem_cons_succ, List.setIfInBounds_toArray, List.set_cons_zero, List.set_cons_succ]
        refine wpAnyH_take (i := 47) (v := .bool true) rfl (by as_aux_lemma => kernel_rfl) (by as_aux_lemma => kernel_rfl) (by as_aux_lemma => kernel_rfl) (fun _ _ _ h => h) (Or.inl ⟨by kernel_rfl, fun w hSw => by (try dsimp only at hSw); go_simp⟩) hH2 ?_
        try simp only [Act.put, List.getElem_toArray, List.getElem_cons_zero, List.getElem_cons_succ, List.setIfInBounds_toArray, List.set_cons_zero, List.set_cons_succ]
        refine wpAnyH_take (i := 48) (v := .bool true) rfl (by as_aux_lemma => kernel_rfl) (by as_aux_lemma => kernel_rfl) (by as_aux_lemma => kernel_rfl) (fun _ _ _ h => h) (Or.inl ⟨by kernel_rfl, fun w hSw => by (try dsimp only at hSw); go_simp⟩) hH2 ?_
        try simp only [Act.put, List.getElem_toArray, List.getElem_cons_zero, List.getElem_cons_succ, List.setIfInBounds_toArray, List.set_cons_zero, List.set_cons_succ]
        refine wpAnyH_take (i := 49) (v := undef) rfl (by as_aux_lemma => kernel_rfl) (by as_aux_lemma => kernel_rfl) (by as_aux_lemma => kernel_rfl) (fun _ _ _ h => h) (Or.inr ⟨by kernel_rfl, rfl⟩) hH2 ?_
        try simp only [Act.put, List.getElem_toArray, List.getElem_cons_zero, List.getElem_cons_succ, List.setIfInBounds_toArray, List.set_cons_zero, List.set_cons_succ]
        refine wpAnyH_take (i := 50) (v := undef) rfl (by as_aux_lemma => kernel_rfl) (by as_aux_lemma => kernel_rfl) (by as_aux_lemma => kernel_rfl) (fun _ _ _ h => h) (Or.inr ⟨by kernel_rfl, rfl⟩) hH2 ?_
        try simp only [Act.put, List.getElem_toArray, List.getElem_cons_zero, List.getElem_cons_succ, List.setIfInBounds_toArray, List.set_cons_zero, List.set_cons_succ]
        refine wpAnyH_take (i := 51) (v := undef) rfl (by as_aux_lemma => kernel_rfl) (by as_aux_lemma => kernel_rfl) (by as_aux_lemma => kernel_rfl) (fun _ _ _ h => h) (Or.inr ⟨by kernel_rfl, rfl⟩) hH2 ?_
        try simp only [Act.put, List.getElem_toArray, List.getElem_cons_zero, List.getElem_cons_succ, List.setIfInBounds_toArray, List.set_cons_zero, List.set_cons_succ]
        refine wpAnyH_take (i := 52) (v := undef) rfl (by as_aux_lemma => kernel_rfl) (by as_aux_lemma => kernel_rfl) (by as_aux_lemma => kernel_rfl) (fun _ _ _ h => h) (Or.inr ⟨by kernel_rfl, rfl⟩) hH2 ?_
        try simp only [Act.put, List.getElem_toArray, List.getElem_cons_zero, List.getElem_cons_succ, List.setIfInBounds_toArray, List.set_cons_zero, List.set_cons_succ]
        refine wpAnyH_take (i := 53) (v := undef) rfl (by as_aux_lemma => kernel_rfl) (by as_aux_lemma => kernel_rfl) (by as_aux_lemma => kernel_rfl) (fun _ _ _ h => h) (Or.inr ⟨by kernel_rfl, rfl⟩) hH2 ?_
        try simp only [Act.put, List.getElem_toArray, List.getElem_cons_zero, List.getElem_cons_succ, List.setIfInBounds_toArray, List.set_cons_zero, List.set_cons_succ]
        refine wpAnyH_take (i := 54) (v := undef) rfl (by as_aux_lemma => kernel_rfl) (by as_aux_lemma => kernel_rfl) (by as_aux_lemma => kernel_rfl) (fun _ _ _ h => h) (Or.inr ⟨by kernel_rfl, rfl⟩) hH2 ?_
        try simp only [Act.put, List.getElem_toArray, List.getElem_cons_zero, List.getElem_cons_succ, List.setIfInBounds_toArray, List.set_cons_zero, List.set_cons_succ]
        refine wpAnyH_take (i := 55) (v := undef) rfl (by as_aux_lemma => kernel_rfl) (by as_aux_lemma => kernel_rfl) (by as_aux_lemma => kernel_rfl) (fun _ _ _ h => h) (Or.inr ⟨by kernel_rfl, rfl⟩) hH2 ?_
        try simp only [Act.put, List.getElem_toArray, List.getElem_cons_zero, List.getElem_cons_succ, List.setIfInBounds_toArray, List.set_cons_zero, List.set_cons_succ]
        refine wpAnyH_take (i := 56) (v := undef) rfl (by as_aux_lemma => kernel_rfl) (by as_aux_lemma => kernel_rfl) (by as_aux_lemma => kernel_rfl) (fun _ _ _ h => h) (Or.inr ⟨by kernel_rfl, rfl⟩) hH2 ?_
        try simp only [Act.put, List.getElem_toArray, List.getElem_cons_zero, List.getElem_cons_succ, List.setIfInBounds_toArray, List.set_cons_zero, List.set_cons_succ]
        refine wpAnyH_take (i := 57) (v := undef) rfl (by as_aux_lemma => kernel_rfl) (by as_aux_lemma => kernel_rfl) (by as_aux_lemma => kernel_rfl) (fun _ _ _ h => h) (Or.inr ⟨by kernel_rfl, rfl⟩) hH2 ?_
        try simp only [Act.put, List.getElem_toArray, List.getElem_cons_zero, List.getElem_cons_succ, List.setIfInBounds_toArray, List.set_cons_zero, List.set_cons_succ]
        refine wpAnyH_take (i := 58) (v := undef) rfl (by as_aux_lemma => kernel_rfl) (by as_aux_lemma => kernel_rfl) (by as_aux_lemma => kernel_rfl) (fun _ _ _ h => h) (Or.inr ⟨by kernel_rfl, rfl⟩) hH2 ?_
        try simp only [Act.put, List.getElem_toArray, List.getElem_cons_zero, List.getElem_cons_succ, List.setIfInBounds_toArray, List.set_cons_zero, List.set_cons_succ]
        refine wpAnyH_take (i := 59) (v := undef) rfl (by as_aux_lemma => kernel_rfl) (by as_aux_lemma => kernel_rfl) (by as_aux_lemma => kernel_rfl) (fun _ _ _ h => h) (Or.inr ⟨by kernel_rfl, rfl⟩) hH2 ?_
        try simp only [Act.put, List.getElem_toArray, List.getElem_cons_zero, List.getElem_cons_succ, List.setIfInBounds_toArray, List.set_cons_zero, List.set_cons_succ]
        refine wpAnyH_take (i := 60) (v := undef) rfl (by as_aux_lemma => kernel_rfl) (by as_aux_lemma => kernel_rfl) (by as_aux_lemma => kernel_rfl) (fun _ _ _ h => h) (Or.inr ⟨by kernel_rfl, rfl⟩) hH2 ?_
        try simp only [Act.put, List.getElem_toArray, List.getElem_cons_zero, List.getElem_cons_succ, List.setIfInBounds_toArray, List.set_cons_zero, List.set_cons_succ]
        refine wpAnyH_take (i := 61) (v := undef) rfl (by as_aux_lemma => kernel_rfl) (by as_aux_lemma => kernel_rfl) (by as_aux_lemma => kernel_rfl) (fun _ _ _ h => h) (Or.inr ⟨by kernel_rfl, rfl⟩) hH2 ?_
        try simp only [Act.put, List.getElem_toArray, List.getElem_cons_zero, List.getElem_cons_succ, List.setIfInBounds_toArray, List.set_cons_zero, List.set_cons_succ]
        refine wpAnyH_take (i := 62) (v := undef) rfl (by as_aux_lemma => kernel_rfl) (by as_aux_lemma => kernel_rfl) (by as_aux_lemma => kernel_rfl) (fun _ _ _ h => h) (Or.inr ⟨by kernel_rfl, rfl⟩) hH2 ?_
        try simp only [Act.put, List.getElem_toArray, List.getElem_cons_zero, List.getElem_cons_succ, List.setIfInBounds_toArray, List.set_cons_zero, List.set_cons_succ]
        refine wpAnyH_take (i := 63) (v := undef) rfl (by as_aux_lemma => kernel_rfl) (by as_aux_lemma => kernel_rfl) (by as_aux_lemma => kernel_rfl) (fun _ _ _ h => h) (Or.inr ⟨by kernel_rfl, rfl⟩) hH2 ?_
        try simp only [Act.put, List.getElem_toArray, List.getElem_cons_zero, List.getElem_cons_succ, List.setIfInBounds_toArray, List.set_cons_zero, List.set_cons_succ]
        refine wpAnyH_take (i := 64) (v := undef) rfl (by as_aux_lemma => kernel_rfl) (by as_aux_lemma => kernel_rfl) (by as_aux_lemma => kernel_rfl) (fun _ _ _ h => h) (Or.inr ⟨by kernel_rfl, rfl⟩) hH2 ?_
        try simp only [Act.put, List.getElem_toArray, List.getElem_cons_zero, List.getElem_cons_succ, List.setIfInBounds_toArray, List.set_cons_zero, List.set_cons_succ]
        refine wpAnyH_take (i := 65) (v := undef) rfl (by as_aux_lemma => kernel_rfl) (by as_aux_lemma => kernel_rfl) (by as_aux_lemma => kernel_rfl) (fun _ _ _ h => h) (Or.inr ⟨by kernel_rfl, rfl⟩) hH2 ?_
        try simp only [Act.put, List.getElem_toArray, List.getElem_cons_zero, List.getElem_cons_succ, List.setIfInBounds_toArray, List.set_cons_zero, List.set_cons_succ]
        refine wpAnyH_take (i := 66) (v := undef) rfl (by as_aux_lemma => kernel_rfl) (by as_aux_lemma => kernel_rfl) (by as_aux_lemma => kernel_rfl) (fun _ _ _ h => h) (Or.inr ⟨by kernel_rfl, rfl⟩) hH2 ?_
        try simp only [Act.put, List.getElem_toArray, List.getElem_cons_zero, List.getElem_cons_succ, List.setIfInBounds_toArray, List.set_cons_zero, List.set_cons_succ]
        refine wpAnyH_take (i := 67) (v := .bool true) rfl (by as_aux_lemma => kernel_rfl) (by as_aux_lemma => kernel_rfl) (by as_aux_lemma => kernel_rfl) (fun _ _ _ h => h) (Or.inl ⟨by kernel_rfl, fun w hSw => by (try dsimp only at hSw); go_simp⟩) hH2 ?_
        try simp only [Act.put, List.getElem_toArray, List.getElem_cons_zero, List.getElem_cons_succ, List.setIfInBounds_toArray, List.set_cons_zero, List.set_cons_succ]
        refine wpAnyH_take (i := 68) (v := .bool true) rfl (by as_aux_lemma => kernel_rfl) (by as_aux_lemma => kernel_rfl) (by as_aux_lemma => kernel_rfl) (fun _ _ _ h => h) (Or.inl ⟨by kernel_rfl, fun w hSw => by (try dsimp only at hSw); go_simp⟩) hH2 ?_
        try simp only [Act.put, List.getElem_toArray, List.getElem_cons_zero, List.getElem_cons_succ, List.setIfInBounds_toArray, List.set_cons_zero, List.set_cons_succ]
        refine wpAnyH_take (i := 69) (v := .bool true) rfl (by as_aux_lemma => kernel_rfl) (by as_aux_lemma => kernel_rfl) (by as_aux_lemma => kernel_rfl) (fun _ _ _ h => h) (Or.inl ⟨by kernel_rfl, fun w hSw => by (try dsimp only at hSw); go_simp⟩) hH2 ?_
        try simp only [Act.put, List.getElem_toArray, List.getElem_cons_zero, List.getElem_cons_succ, List.setIfInBounds_toArray, List.set_cons_zero, List.set_cons_succ]
        refine wpAnyH_done (by as_aux_lemma => kernel_rfl) ?_ _
        go_wp2
        go_ret
        exact ⟨by first | rfl | kernel_rfl | simp, BY1.out _ Bz2.out⟩
      · have DO := Lib.hid (fun X hL q hq => l_overf w bS bM (mapP (mvP m (-m)) F) 2000 (by decide) (by decide) HP2.out HFN2.out M pM hM hlo hbad X hL q hq)
        clear hM hbad hlo
        have D10 := Lib.hid (DO.out  (v9.alloc (.cells #[.int .i64 6, .int .i64 0, .string ⟨#[]⟩, .slice A9 m9 c9] 29)) M9.out (v9.heap.size + 1) (by simp))
        go_wp2_with (first | (go_at_call 14; (with_reducible refine (D10.out).mono ?_); rintro e v10 ⟨rfl, hL10, hK10⟩; have L10 := Lib.hid hL10; have kR310 := Lib.hid (RO.keepD hK10 M9.out mR39.out); have kc10 := Lib.hid (keepL hK10 M9.out mc9.out (by decide)); have kR910 := Lib.hid (RO.keepD hK10 M9.out mR99.out); have ki10 := Lib.hid (keepL hK10 M9.out mi9.out (by decide)); clear hL10 hK10; refine Hid.out ?_))
        refine Lib.hid ?_
        have M10 := Lib.hid (L10.out.old (alloc_old (o := .cells #[.int .i64 2, .int .i64 7, .string ⟨#[]⟩, .slice none 0 0] 29)))
        have mR310 := Lib.hid (RO.below kR310.out (alloc_old (o := .cells #[.int .i64 2, .int .i64 7, .string ⟨#[]⟩, .slice none 0 0] 29)))
        have mc10 := Lib.hid (blk_below kc10.out (alloc_old (o := .cells #[.int .i64 2, .int .i64 7, .string ⟨#[]⟩, .slice none 0 0] 29)))
        have mR910 := Lib.hid (RO.below kR910.out (alloc_old (o := .cells #[.int .i64 2, .int .i64 7, .string ⟨#[]⟩, .slice none 0 0] 29)))
        have mi10 := Lib.hid (blk_below ki10.out (alloc_old (o := .cells #[.int .i64 2, .int .i64 7, .string ⟨#[]⟩, .slice none 0 0] 29)))
        have mj10 := Lib.hid (heap_alloc_new v10 (.cells #[.int .i64 2, .int .i64 7, .string ⟨#[]⟩, .slice none 0 0] 29))
        go_wp2_with (first | (go_at_call 16; (with_reducible refine (NS.out _ M10.out.below).mono ?_); rintro e x9 ⟨rfl, hB⟩; have L11 := Lib.hid (M10.out.old hB); have kR311 := Lib.hid (RO.below mR310.out hB); have kc11 := Lib.hid (blk_below mc10.out hB); have kR911 := Lib.hid (RO.below mR910.out hB); have ki11 := Lib.hid (blk_below mi10.out hB); have kj11 := Lib.hid (blk_below mj10.out hB); clear hB; refine Hid.out ?_))
        refine Lib.hid ?_
        go_wp2_with (first | (go_at_call 16; (with_reducible refine (ND.out _ L11.out.below).mono ?_); rintro e x10 ⟨rfl, hB⟩; have L12 := Lib.hid (L11.out.old hB); have kR312 := Lib.hid (RO.below kR311.out hB); have kc12 := Lib.hid (blk_below kc11.out hB); have kR912 := Lib.hid (RO.below kR911.out hB); have ki12 := Lib.hid (blk_below ki11.out hB); have kj12 := Lib.hid (blk_below kj11.out hB); clear hB; refine Hid.out ?_))
        refine Lib.hid ?_
        have D13 := Lib.hid (DN2.out  (x10) L12.out (x10.heap.size) rfl)
        go_wp2_with (first | (go_at_call 14; (with_reducible refine (D13.out).mono ?_); rintro e v13 ⟨A13, m13, c13, rfl, hR13, hL13, hK13⟩; have L13 := Lib.hid hL13; have kR313 := Lib.hid (RO.keepD hK13 L12.out kR312.out); have kc13 := Lib.hid (keepL hK13 L12.out kc12.out (by decide)); have kR913 := Lib.hid (RO.keepD hK13 L12.out kR912.out); have ki13 := Lib.hid (keepL hK13 L12.out ki12.out (by decide)); have kj13 := Lib.hid (keepL hK13 L12.out kj12.out (by decide)); have kR13 := Lib.hid hR13; clear hL13 hK13 hR13; refine Hid.out ?_))
        refine Lib.hid ?_
        have M13 := Lib.hid (L13.out.old (alloc_old (o := .cells #[.int .i64 6, .int .i64 0, .string ⟨#[]⟩, .slice A13 m13 c13] 29)))
        have mR313 := Lib.hid (RO.below kR313.out (alloc_old (o := .cells #[.int .i64 6, .int .i64 0, .string ⟨#[]⟩, .slice A13 m13 c13] 29)))
        have mc13 := Lib.hid (blk_below kc13.out (alloc_old (o := .cells #[.int .i64 6, .int .i64 0, .string ⟨#[]⟩, .slice A13 m13 c13] 29)))
        have mR913 := Lib.hid (RO.below kR913.out (alloc_old (o := .cells #[.int .i64 6, .int .i64 0, .string ⟨#[]⟩, .slice A13 m13 c13] 29)))
        have mi13 := Lib.hid (blk_below ki13.out (alloc_old (o := .cells #[.int .i64 6, .int .i64 0, .string ⟨#[]⟩, .slice A13 m13 c13] 29)))
        have mj13 := Lib.hid (blk_below kj13.out (alloc_old (o := .cells #[.int .i64 6, .int .i64 0, .string ⟨#[]⟩, .slice A13 m13 c13] 29)))
        have mR1313 := Lib.hid (RO.below kR13.out (alloc_old (o := .cells #[.int .i64 6, .int .i64 0, .string ⟨#[]⟩, .slice A13 m13 c13] 29)))
        have mm13 := Lib.hid (heap_alloc_new v13 (.cells #[.int .i64 6, .int .i64 0, .string ⟨#[]⟩, .slice A13 m13 c13] 29))
        have cz := cv.out ((v13.alloc (.cells #[.int .i64 6, .int .i64 0, .string ⟨#[]⟩, .slice A13 m13 c13] 29)).alloc (.cells #[.int .u8 (97 + (bi : Int))] 5)) (v13.heap.size + 1) (heap2L v13 _)
        have MW := Lib.hid (M13.out.old (alloc_old (o := .cells #[.int .u8 (97 + (bi : Int))] 5)))
        have nmR313 := Lib.hid (RO.below mR313.out (alloc_old (o := .cells #[.int .u8 (97 + (bi : Int))] 5)))
        have nmc13 := Lib.hid (blk_below mc13.out (alloc_old (o := .cells #[.int .u8 (97 + (bi : Int))] 5)))
        have nmR913 := Lib.hid (RO.below mR913.out (alloc_old (o := .cells #[.int .u8 (97 + (bi : Int))] 5)))
        have nmi13 := Lib.hid (blk_below mi13.out (alloc_old (o := .cells #[.int .u8 (97 + (bi : Int))] 5)))
        have nmj13 := Lib.hid (blk_below mj13.out (alloc_old (o := .cells #[.int .u8 (97 + (bi : Int))] 5)))
        have nmR1313 := Lib.hid (RO.below mR1313.out (alloc_old (o := .cells #[.int .u8 (97 + (bi : Int))] 5)))
        have nmm13 := Lib.hid (blk_below mm13.out (alloc_old (o := .cells #[.int .u8 (97 + (bi : Int))] 5)))
        obtain ⟨⟨ov0, ov1, ov2, ov3⟩, _⟩ := cells4 nmj13.out
        go_wp2_with fail
        clear ov0 ov1 ov2 ov3 cz
        generalize ((v13.alloc (.cells #[.int .i64 6, .int .i64 0, .string ⟨#[]⟩, .slice A13 m13 c13] 29)).alloc (.cells #[.int .u8 (97 + (bi : Int))] 5)) = y1 at MW nmR313 nmc13 nmR913 nmi13 nmj13 nmR1313 nmm13 ⊢
        obtain ⟨hm3, ⟨g3, rfl⟩, hcc3⟩ := nmR313.out.form (by simp)
        have hm3 : m3 = 3 := hm3
        subst hm3
        obtain ⟨hm9, ⟨g9, rfl⟩, hcc9⟩ := nmR913.out.form (by simp)
        have hm9 : m9 = 3 := hm9
        subst hm9
        obtain ⟨hm13, ⟨g13, rfl⟩, hcc13⟩ := nmR1313.out.form (by simp)
        have hm13 : m13 = 3 := hm13
        subst hm13
        have SX := Lib.hid (show ∀ Y, Below y1.heap.size y1 Y → (Y.cell? ⟨v3.heap.size, 3, none⟩ = some (.slice (some ⟨g3, 0, none⟩) 3 c3) ∧ Y.cell? ⟨g3, 2, none⟩ = some (.string (nP bi)) ∧ Y.cell? ⟨g3, 6, none⟩ = some (.string (numT x)) ∧ Y.cell? ⟨blk, off + bi, none⟩ = some (.int .i64 z) ∧ Y.cell? ⟨v9.heap.size, 3, none⟩ = some (.slice (some ⟨g9, 0, none⟩) 3 c9) ∧ Y.cell? ⟨g9, 2, none⟩ = some (.string (nP bi)) ∧ Y.cell? ⟨v10.heap.size, 1, none⟩ = some (.int .i64 7) ∧ Y.cell? ⟨v13.heap.size, 3, none⟩ = some (.slice (some ⟨g13, 0, none⟩) 3 c13) ∧ Y.cell? ⟨g13, 2, none⟩ = some (.string (nP bi))) from fun Y hY => ⟨(cells4 (blk_below nmc13.out hY)).1.2.2.2, row_cell (RO.below nmR313.out hY) 2 (.string (nP bi)) rfl, row_cell (RO.below nmR313.out hY) 6 (.string (numT x)) rfl, CZ.out Y (MW.out.old hY).below, (cells4 (blk_below nmi13.out hY)).1.2.2.2, row_cell (RO.below nmR913.out hY) 2 (.string (nP bi)) rfl, (cells4 (blk_below nmj13.out hY)).1.2.1, (cells4 (blk_below nmm13.out hY)).1.2.2.2, row_cell (RO.below nmR1313.out hY) 2 (.string (nP bi)) rfl⟩)
        have BY1 := Lib.hid (fun Y (hY : Below y1.heap.size y1 Y) => (MW.out.old hY).below)
        have TLc := Lib.hid (TL.out y1.drew (BY1.out _ (Below.refl _ _).drew))
        try clear hcc13
        try clear hcc9
        try clear hcc3
        try clear wm3
        try clear wm2
        try clear wm1
        try clear q3
        try clear q2
        try clear q1
        try clear hb
        try clear ha
        try clear hblt2
        try clear hblt
        try clear n1
        try clear nl
        try clear L0
        try clear HT
        try clear TL
        try clear HL
        try clear HN
        try clear HM
        try clear HMB
        try clear HBB
        try clear HAB
        try clear NW
        try clear HQ
        try clear hr2
        try clear hr1
        try clear hm
        try clear hm13
        try clear hm9
        try clear hm3
        try clear nmm13
        try clear nmR1313
        try clear nmj13
        try clear nmi13
        try clear nmR913
        try clear nmc13
        try clear nmR313
        try clear MW
        try clear cz
        try clear mm13
        try clear mR1313
        try clear mj13
        try clear mi13
        try clear mR913
        try clear mc13
        try clear mR313
        try clear M13
        try clear kR13
        try clear kj13
        try clear ki13
        try clear kR913
        try clear kc13
        try clear kR313
        try clear L13
        try clear D13
        try clear kj12
        try clear ki12
        try clear kR912
        try clear kc12
        try clear kR312
        try clear L12
        try clear kj11
        try clear ki11
        try clear kR911
        try clear kc11
        try clear kR311
        try clear L11
        try clear mj10
        try clear mi10
        try clear mR910
        try clear mc10
        try clear mR310
        try clear M10
        try clear ki10
        try clear kR910
        try clear kc10
        try clear kR310
        try clear L10
        try clear D10
        try clear DO
        try clear mi9
        try clear mR99
        try clear mc9
        try clear mR39
        try clear M9
        try clear kR9
        try clear kc9
        try clear kR39
        try clear L9
        try clear D9
        try clear kc8
        try clear kR38
        try clear L8
        try clear kc7
        try clear kR37
        try clear L7
        try clear kc6
        try clear kR36
        try clear L6
        try clear D6
        try clear kc5
        try clear kR35
        try clear L5
        try clear kc4
        try clear kR34
        try clear L4
        try clear mc3
        try clear mR33
        try clear M3
        try clear kR3
        try clear L3
        try clear D3
        try clear L2
        try clear L1
        try clear HFL
        try clear OK2
        try clear HFN2
        try clear HP2
        try clear FB
        try clear wmA
        try clear hm
        try clear DN2
        try clear DM
        try clear DN1
        try clear cv
        try clear b9
        try clear u2
        try clear u1
        try clear ND
        try clear NS
        try clear NN
        try clear NM
        try clear NB
        try clear NA
        try clear hFn2
        try clear hq2
        try clear hN1
        try clear hN2
        try clear ok3
        try clear ok2
        try clear okn
        try clear okm
        try clear okb
        try clear oka
        try clear hP2
        try clear hP1
        try clear hFn
        try clear hFl
        try clear hmb
        try clear hbb
        try clear hab
        try clear CZ
        try clear hxb
        try clear hq0
        try clear hbl
        try clear i0
        dsimp only [List.append]
        refine wp_region_held_drew (S := fun X => X.cell? ⟨v3.heap.size, 3, none⟩ = some (.slice (some ⟨g3, 0, none⟩) 3 c3) ∧ X.cell? ⟨g3, 2, none⟩ = some (.string (nP bi)) ∧ X.cell? ⟨g3, 6, none⟩ = some (.string (numT x)) ∧ X.cell? ⟨blk, off + bi, none⟩ = some (.int .i64 z) ∧ X.cell? ⟨v9.heap.size, 3, none⟩ = some (.slice (some ⟨g9, 0, none⟩) 3 c9) ∧ X.cell? ⟨g9, 2, none⟩ = some (.string (nP bi)) ∧ X.cell? ⟨v10.heap.size, 1, none⟩ = some (.int .i64 7) ∧ X.cell? ⟨v13.heap.size, 3, none⟩ = some (.slice (some ⟨g13, 0, none⟩) 3 c13) ∧ X.cell? ⟨g13, 2, none⟩ = some (.string (nP bi))) (by kernel_rfl) (SX.out _ (Below.refl _ _).drew) (fun hH0 => ?_)
        refine wpAnyH_ready (rs := [0]) (by as_aux_lemma => kernel_rfl) (by simp) ?_
        refine AllReadyH.cons rfl (fun K hK => ?_) AllReadyH.nil
        go_simp
        go_at_call 10
        refine (TLc.out).mono ?_
        rintro e z1 ⟨rfl, h1⟩
        have Bz1 := Lib.hid ((Below.refl y1.heap.size y1).drew.trans h1)
        clear h1
        refine hK.out _ _ (SX.out _ Bz1.out) (fun hH1 => ?_)
        clear hK K hH0
        try simp only [Act.put, List.getElem_toArray, List.getElem_cons_zero, List.getElem_cons_succ, List.setIfInBounds_toArray, List.set_cons_zero, List.set_cons_succ]
        refine wpAnyH_take (i := 1) (v := .bool true) rfl (by as_aux_lemma => kernel_rfl) (by as_aux_lemma => kernel_rfl) (by as_aux_lemma => kernel_rfl) (fun _ _ _ h => h) (Or.inl ⟨by kernel_rfl, fun w hSw => by (try dsimp only at hSw); go_simp⟩) hH1 ?_
        try simp only [Act.put, List.getElem_toArray, List.getElem_cons_zero, List.getElem_cons_succ, List.setIfInBounds_toArray, List.set_cons_zero, List.set_cons_succ]
        refine wpAnyH_take (i := 2) (v := .pointer (some ⟨v3.heap.size, 3, none⟩)) rfl (by as_aux_lemma => kernel_rfl) (by as_aux_lemma => kernel_rfl) (by as_aux_lemma => kernel_rfl) (fun _ _ _ h => h) (Or.inl ⟨by kernel_rfl, fun w hSw => by (try dsimp only at hSw); go_simp⟩) hH1 ?_
        try simp only [Act.put, List.getElem_toArray, List.getElem_cons_zero, List.getElem_cons_succ, List.setIfInBounds_toArray, List.set_cons_zero, List.set_cons_succ]
        refine wpAnyH_take (i := 3) (v := .slice (some ⟨g3, 0, none⟩) 3 c3) rfl (by as_aux_lemma => kernel_rfl) (by as_aux_lemma => kernel_rfl) (by as_aux_lemma => kernel_rfl) (fun _ _ _ h => h) (Or.inl ⟨by kernel_rfl, fun w hSw => by (try dsimp only at hSw); go_simp⟩) hH1 ?_
        try simp only [Act.put, List.getElem_toArray, List.getElem_cons_zero, List.getElem_cons_succ, List.setIfInBounds_toArray, List.set_cons_zero, List.set_cons_succ]
        refine wpAnyH_take (i := 4) (v := .int .i64 3) rfl (by as_aux_lemma => kernel_rfl) (by as_aux_lemma => kernel_rfl) (by as_aux_lemma => kernel_rfl) (fun _ _ _ h => h) (Or.inl ⟨by kernel_rfl, fun w hSw => by (try dsimp only at hSw); go_simp⟩) hH1 ?_
        try simp only [Act.put, List.getElem_toArray, List.getElem_cons_zero, List.getElem_cons_succ, List.setIfInBounds_toArray, List.set_cons_zero, List.set_cons_succ]
        refine wpAnyH_take (i := 5) (v := .bool true) rfl (by as_aux_lemma => kernel_rfl) (by as_aux_lemma => kernel_rfl) (by as_aux_lemma => kernel_rfl) (fun _ _ _ h => h) (Or.inl ⟨by kernel_rfl, fun w hSw => by (try dsimp only at hSw); go_simp⟩) hH1 ?_
        try simp only [Act.put, List.getElem_toArray, List.getElem_cons_zero, List.getElem_cons_succ, List.setIfInBounds_toArray, List.set_cons_zero, List.set_cons_succ]
        refine wpAnyH_take (i := 6) (v := .bool true) rfl (by as_aux_lemma => kernel_rfl) (by as_aux_lemma => kernel_rfl) (by as_aux_lemma => kernel_rfl) (fun _ _ _ h => h) (Or.inl ⟨by kernel_rfl, fun w hSw => by (try dsimp only at hSw); go_simp⟩) hH1 ?_
        try simp only [Act.put, List.getElem_toArray, List.getElem_cons_zero, List.getElem_cons_succ, List.setIfInBounds_toArray, List.set_cons_zero, List.set_cons_succ]
        refine wpAnyH_take (i := 7) (v := .bool true) rfl (by as_aux_lemma => kernel_rfl) (by as_aux_lemma => kernel_rfl) (by as_aux_lemma => kernel_rfl) (fun _ _ _ h => h) (Or.inl ⟨by kernel_rfl, fun w hSw => by (try dsimp only at hSw); go_simp⟩) hH1 ?_
        try simp only [Act.put, List.getElem_toArray, List.getElem_cons_zero, List.getElem_cons_succ, List.setIfInBounds_toArray, List.set_cons_zero, List.set_cons_succ]
        refine wpAnyH_take (i := 8) (v := .pointer (some ⟨v3.heap.size, 3, none⟩)) rfl (by as_aux_lemma => kernel_rfl) (by as_aux_lemma => kernel_rfl) (by as_aux_lemma => kernel_rfl) (fun _ _ _ h => h) (Or.inl ⟨by kernel_rfl, fun w hSw => by (try dsimp only at hSw); go_simp⟩) hH1 ?_
        try simp only [Act.put, List.getElem_toArray, List.getElem_cons_zero, List.getElem_cons_succ, List.setIfInBounds_toArray, List.set_cons_zero, List.set_cons_succ]
        refine wpAnyH_take (i := 9) (v := .slice (some ⟨g3, 0, none⟩) 3 c3) rfl (by as_aux_lemma => kernel_rfl) (by as_aux_lemma => kernel_rfl) (by as_aux_lemma => kernel_rfl) (fun _ _ _ h => h) (Or.inl ⟨by kernel_rfl, fun w hSw => by (try dsimp only at hSw); go_simp⟩) hH1 ?_
        try simp only [Act.put, List.getElem_toArray, List.getElem_cons_zero, List.getElem_cons_succ, List.setIfInBounds_toArray, List.set_cons_zero, List.set_cons_succ]
        refine wpAnyH_take (i := 10) (v := .pointer (some ⟨g3, 0, none⟩)) rfl (by as_aux_lemma => kernel_rfl) (by as_aux_lemma => kernel_rfl) (by as_aux_lemma => kernel_rfl) (fun _ _ _ h => h) (Or.inl ⟨by kernel_rfl, fun w hSw => by (try dsimp only at hSw); go_simp⟩) hH1 ?_
        try simp only [Act.put, List.getElem_toArray, List.getElem_cons_zero, List.getElem_cons_succ, List.setIfInBounds_toArray, List.set_cons_zero, List.set_cons_succ]
        refine wpAnyH_take (i := 11) (v := .pointer (some ⟨g3, 2, none⟩)) rfl (by as_aux_lemma => kernel_rfl) (by as_aux_lemma => kernel_rfl) (by as_aux_lemma => kernel_rfl) (fun _ _ _ h => h) (Or.inl ⟨by kernel_rfl, fun w hSw => by (try dsimp only at hSw); go_simp⟩) hH1 ?_
        try simp only [Act.put, List.getElem_toArray, List.getElem_cons_zero, List.getElem_cons_succ, List.setIfInBounds_toArray, List.set_cons_zero, List.set_cons_succ]
        refine wpAnyH_take (i := 12) (v := .string (nP bi)) rfl (by as_aux_lemma => kernel_rfl) (by as_aux_lemma => kernel_rfl) (by as_aux_lemma => kernel_rfl) (fun _ _ _ h => h) (Or.inl ⟨by kernel_rfl, fun w hSw => by (try dsimp only at hSw); go_simp⟩) hH1 ?_
        try simp only [Act.put, List.getElem_toArray, List.getElem_cons_zero, List.getElem_cons_succ, List.setIfInBounds_toArray, List.set_cons_zero, List.set_cons_succ]
        refine wpAnyH_take (i := 13) (v := .string (nP bi)) rfl (by as_aux_lemma => kernel_rfl) (by as_aux_lemma => kernel_rfl) (by as_aux_lemma => kernel_rfl) (fun _ _ _ h => h) (Or.inl ⟨by kernel_rfl, fun w hSw => by (try dsimp only at hSw); go_simp⟩) hH1 ?_
        try simp only [Act.put, List.getElem_toArray, List.getElem_cons_zero, List.getElem_cons_succ, List.setIfInBounds_toArray, List.set_cons_zero, List.set_cons_succ]
        refine wpAnyH_take (i := 14) (v := .bool true) rfl (by as_aux_lemma => kernel_rfl) (by as_aux_lemma => kernel_rfl) (by as_aux_lemma => kernel_rfl) (fun _ _ _ h => h) (Or.inl ⟨by kernel_rfl, fun w hSw => by (try dsimp only at hSw); go_simp⟩) hH1 ?_
        try simp only [Act.put, List.getElem_toArray, List.getElem_cons_zero, List.getElem_cons_succ, List.setIfInBounds_toArray, List.set_cons_zero, List.set_cons_succ]
        refine wpAnyH_take (i := 15) (v := .bool true) rfl (by as_aux_lemma => kernel_rfl) (by as_aux_lemma => kernel_rfl) (by as_aux_lemma => kernel_rfl) (fun _ _ _ h => h) (Or.inl ⟨by kernel_rfl, fun w hSw => by (try dsimp only at hSw); go_simp⟩) hH1 ?_
        try simp only [Act.put, List.getElem_toArray, List.getElem_cons_zero, List.getElem_cons_succ, List.setIfInBounds_toArray, List.set_cons_zero, List.set_cons_succ]
        refine wpAnyH_take (i := 16) (v := .bool true) rfl (by as_aux_lemma => kernel_rfl) (by as_aux_lemma => kernel_rfl) (by as_aux_lemma => kernel_rfl) (fun _ _ _ h => h) (Or.inl ⟨by kernel_rfl, fun w hSw => by (try dsimp only at hSw); go_simp⟩) hH1 ?_
        try simp only [Act.put, List.getElem_toArray, List.getElem_cons_zero, List.getElem_cons_succ, List.setIfInBounds_toArray, List.set_cons_zero, List.set_cons_succ]
        refine wpAnyH_take (i := 17) (v := .pointer (some ⟨v3.heap.size, 3, none⟩)) rfl (by as_aux_lemma => kernel_rfl) (by as_aux_lemma => kernel_rfl) (by as_aux_lemma => kernel_rfl) (fun _ _ _ h => h) (Or.inl ⟨by kernel_rfl, fun w hSw => by (try dsimp only at hSw); go_simp⟩) hH1 ?_
        try simp only [Act.put, List.getElem_toArray, List.getElem_cons_zero, List.getElem_cons_succ, List.setIfInBounds_toArray, List.set_cons_zero, List.set_cons_succ]
        refine wpAnyH_take (i := 18) (v := .slice (some ⟨g3, 0, none⟩) 3 c3) rfl (by as_aux_lemma => kernel_rfl) (by as_aux_lemma => kernel_rfl) (by as_aux_lemma => kernel_rfl) (fun _ _ _ h => h) (Or.inl ⟨by kernel_rfl, fun w hSw => by (try dsimp only at hSw); go_simp⟩) hH1 ?_
        try simp only [Act.put, List.getElem_toArray, List.getElem_cons_zero, List.getElem_cons_succ, List.setIfInBounds_toArray, List.set_cons_zero, List.set_cons_succ]
        refine wpAnyH_take (i := 19) (v := .pointer (some ⟨g3, 4, none⟩)) rfl (by as_aux_lemma => kernel_rfl) (by as_aux_lemma => kernel_rfl) (by as_aux_lemma => kernel_rfl) (fun _ _ _ h => h) (Or.inl ⟨by kernel_rfl, fun w hSw => by (try dsimp only at hSw); go_simp⟩) hH1 ?_
        try simp only [Act.put, List.getElem_toArray, List.getElem_cons_zero, List.getElem_cons_succ, List.setIfInBounds_toArray, List.set_cons_zero, List.set_cons_succ]
        refine wpAnyH_take (i := 20) (v := .pointer (some ⟨g3, 6, none⟩)) rfl (by as_aux_lemma => kernel_rfl) (by as_aux_lemma => kernel_rfl) (by as_aux_lemma => kernel_rfl) (fun _ _ _ h => h) (Or.inl ⟨by kernel_rfl, fun w hSw => by (try dsimp only at hSw); go_simp⟩) hH1 ?_
        try simp only [Act.put, List.getElem_toArray, List.getElem_cons_zero, List.getElem_cons_succ, List.setIfInBounds_toArray, List.set_cons_zero, List.set_cons_succ]
        refine wpAnyH_take (i := 21) (v := .string (numT x)) rfl (by as_aux_lemma => kernel_rfl) (by as_aux_lemma => kernel_rfl) (by as_aux_lemma => kernel_rfl) (fun _ _ _ h => h) (Or.inl ⟨by kernel_rfl, fun w hSw => by (try dsimp only at hSw); go_simp⟩) hH1 ?_
        try simp only [Act.put, List.getElem_toArray, List.getElem_cons_zero, List.getElem_cons_succ, List.setIfInBounds_toArray, List.set_cons_zero, List.set_cons_succ]
        refine wpAnyH_take (i := 22) (v := .func (.func 16) #[] #[]) rfl (by as_aux_lemma => kernel_rfl) (by as_aux_lemma => kernel_rfl) (by as_aux_lemma => kernel_rfl) (fun _ _ _ h => h) (Or.inl ⟨by kernel_rfl, fun w hSw => by (try dsimp only at hSw); go_simp⟩) hH1 ?_
        try simp only [Act.put, List.getElem_toArray, List.getElem_cons_zero, List.getElem_cons_succ, List.setIfInBounds_toArray, List.set_cons_zero, List.set_cons_succ]
        refine wpAnyH_take (i := 23) (v := .slice (some ⟨blk, off, none⟩) i cap) rfl (by as_aux_lemma => kernel_rfl) (by as_aux_lemma => kernel_rfl) (by as_aux_lemma => kernel_rfl) (fun _ _ _ h => h) (Or.inl ⟨by kernel_rfl, fun w hSw => by (try dsimp only at hSw); go_simp⟩) hH1 ?_
        try simp only [Act.put, List.getElem_toArray, List.getElem_cons_zero, List.getElem_cons_succ, List.setIfInBounds_toArray, List.set_cons_zero, List.set_cons_succ]
        refine wpAnyH_take (i := 24) (v := .int .i64 bi) rfl (by as_aux_lemma => kernel_rfl) (by as_aux_lemma => kernel_rfl) (by as_aux_lemma => kernel_rfl) (fun _ _ _ h => h) (Or.inl ⟨by kernel_rfl, fun w hSw => by (try dsimp only at hSw); go_simp⟩) hH1 ?_
        try simp only [Act.put, List.getElem_toArray, List.getElem_cons_zero, List.getElem_cons_succ, List.setIfInBounds_toArray, List.set_cons_zero, List.set_cons_succ]
        refine wpAnyH_take (i := 25) (v := .pointer (some ⟨blk, off + bi, none⟩)) rfl (by as_aux_lemma => kernel_rfl) (by as_aux_lemma => kernel_rfl) (by as_aux_lemma => kernel_rfl) (fun _ _ _ h => h) (Or.inl ⟨by kernel_rfl, fun w hSw => by (try dsimp only at hSw); go_simp⟩) hH1 ?_
        try simp only [Act.put, List.getElem_toArray, List.getElem_cons_zero, List.getElem_cons_succ, List.setIfInBounds_toArray, List.set_cons_zero, List.set_cons_succ]
        refine wpAnyH_take (i := 26) (v := .int .i64 z) rfl (by as_aux_lemma => kernel_rfl) (by as_aux_lemma => kernel_rfl) (by as_aux_lemma => kernel_rfl) (fun _ _ _ h => h) (Or.inl ⟨by kernel_rfl, fun w hSw => by (try dsimp only at hSw); go_simp⟩) hH1 ?_
        try simp only [Act.put, List.getElem_toArray, List.getElem_cons_zero, List.getElem_cons_succ, List.setIfInBounds_toArray, List.set_cons_zero, List.set_cons_succ]
        refine wpAnyH_take (i := 27) (v := .int .i64 x) rfl (by as_aux_lemma => kernel_rfl) (by as_aux_lemma => kernel_rfl) (by as_aux_lemma => kernel_rfl) (fun _ _ _ h => h) (Or.inl ⟨by kernel_rfl, fun w hSw => by (try dsimp only at hSw); go_simp⟩) hH1 ?_
        try simp only [Act.put, List.getElem_toArray, List.getElem_cons_zero, List.getElem_cons_succ, List.setIfInBounds_toArray, List.set_cons_zero, List.set_cons_succ]
        refine wpAnyH_ready (rs := [28]) (by as_aux_lemma => kernel_rfl) (by simp) ?_
        refine AllReadyH.cons rfl (fun K hK => ?_) AllReadyH.nil
        go_simp
        go_at_call 16
        refine (NZ.out _ (BY1.out _ Bz1.out)).mono ?_
        rintro e z2 ⟨rfl, h1⟩
        have Bz2 := Lib.hid (Bz1.out.trans (h1.mono (Below.size Bz1.out)))
        clear h1
        refine hK.out _ _ (SX.out _ Bz2.out) (fun hH2 => ?_)
        clear hK K hH1
        try simp only [Act.put, List.getElem_toArray, List.getElem_cons_zero, List.getElem_cons_succ, List.setIfInBounds_toArray, List.set_cons_zero, List.set_cons_succ]
        refine wpAnyH_take (i := 29) (v := .bool true) rfl (by as_aux_lemma => kernel_rfl) (by as_aux_lemma => kernel_rfl) (by as_aux_lemma => kernel_rfl) (fun _ _ _ h => h) (Or.inl ⟨by kernel_rfl, fun w hSw => by (try dsimp only at hSw); go_simp⟩) hH2 ?_
        try simp only [Act.put, List.getElem_toArray, List.getElem_cons_zero, List.getElem_cons_succ, List.setIfInBounds_toArray, List.set_cons_zero, List.set_cons_succ]
        refine wpAnyH_take (i := 30) (v := .bool true) rfl (by as_aux_lemma => kernel_rfl) (by as_aux_lemma => kernel_rfl) (by as_aux_lemma => kernel_rfl) (fun _ _ _ h => h) (Or.inl ⟨by kernel_rfl, fun w hSw => by (try dsimp only at hSw); go_simp⟩) hH2 ?_
        try simp only [Act.put, List.getElem_toArray, List.getElem_cons_zero, List.getElem_cons_succ, List.setIfInBounds_toArray, List.set_cons_zero, List.set_cons_succ]
        refine wpAnyH_take (i := 31) (v := .bool true) rfl (by as_aux_lemma => kernel_rfl) (by as_aux_lemma => kernel_rfl) (by as_aux_lemma => kernel_rfl) (fun _ _ _ h => h) (Or.inl ⟨by kernel_rfl, fun w hSw => by (try dsimp only at hSw); go_simp⟩) hH2 ?_
        try simp only [Act.put, List.getElem_toArray, List.getElem_cons_zero, List.getElem_cons_succ, List.setIfInBounds_toArray, List.set_cons_zero, List.set_cons_succ]
        refine wpAnyH_take (i := 32) (v := .pointer (some ⟨v9.heap.size, 3, none⟩)) rfl (by as_aux_lemma => kernel_rfl) (by as_aux_lemma => kernel_rfl) (by as_aux_lemma => kernel_rfl) (fun _ _ _ h => h) (Or.inl ⟨by kernel_rfl, fun w hSw => by (try dsimp only at hSw); go_simp⟩) hH2 ?_
        try simp only [Act.put, List.getElem_toArray, List.getElem_cons_zero, List.getElem_cons_succ, List.setIfInBounds_toArray, List.set_cons_zero, List.set_cons_succ]
        refine wpAnyH_take (i := 33) (v := .slice (some ⟨g9, 0, none⟩) 3 c9) rfl (by as_aux_lemma => kernel_rfl) (by as_aux_lemma => kernel_rfl) (by as_aux_lemma => kernel_rfl) (fun _ _ _ h => h) (Or.inl ⟨by kernel_rfl, fun w hSw => by (try dsimp only at hSw); go_simp⟩) hH2 ?_
        try simp only [Act.put, List.getElem_toArray, List.getElem_cons_zero, List.getElem_cons_succ, List.setIfInBounds_toArray, List.set_cons_zero, List.set_cons_succ]
        refine wpAnyH_take (i := 34) (v := .int .i64 3) rfl (by as_aux_lemma => kernel_rfl) (by as_aux_lemma => kernel_rfl) (by as_aux_lemma => kernel_rfl) (fun _ _ _ h => h) (Or.inl ⟨by kernel_rfl, fun w hSw => by (try dsimp only at hSw); go_simp⟩) hH2 ?_
        try simp only [Act.put, List.getElem_toArray, List.getElem_cons_zero, List.getElem_cons_succ, List.setIfInBounds_toArray, List.set_cons_zero, List.set_cons_succ]
        refine wpAnyH_take (i := 35) (v := .bool true) rfl (by as_aux_lemma => kernel_rfl) (by as_aux_lemma => kernel_rfl) (by as_aux_lemma => kernel_rfl) (fun _ _ _ h => h) (Or.inl ⟨by kernel_rfl, fun w hSw => by (try dsimp only at hSw); go_simp⟩) hH2 ?_
        try simp only [Act.put, List.getElem_toArray, List.getElem_cons_zero, List.getElem_cons_succ, List.setIfInBounds_toArray, List.set_cons_zero, List.set_cons_succ]
        refine wpAnyH_take (i := 36) (v := .bool true) rfl (by as_aux_lemma => kernel_rfl) (by as_aux_lemma => kernel_rfl) (by as_aux_lemma => kernel_rfl) (fun _ _ _ h => h) (Or.inl ⟨by kernel_rfl, fun w hSw => by (try dsimp only at hSw); go_simp⟩) hH2 ?_
        try simp only [Act.put, List.getElem_toArray, List.getElem_cons_zero, List.getElem_cons_succ, List.setIfInBounds_toArray, List.set_cons_zero, List.set_cons_succ]
        refine wpAnyH_take (i := 37) (v := .bool true) rfl (by as_aux_lemma => kernel_rfl) (by as_aux_lemma => kernel_rfl) (by as_aux_lemma => kernel_rfl) (fun _ _ _ h => h) (Or.inl ⟨by kernel_rfl, fun w hSw => by (try dsimp only at hSw); go_simp⟩) hH2 ?_
        try simp only [Act.put, List.getElem_toArray, List.getElem_cons_zero, List.getElem_cons_succ, List.setIfInBounds_toArray, List.set_cons_zero, List.set_cons_succ]
        refine wpAnyH_take (i := 38) (v := .pointer (some ⟨v9.heap.size, 3, none⟩)) rfl (by as_aux_lemma => kernel_rfl) (by as_aux_lemma => kernel_rfl) (by as_aux_lemma => kernel_rfl) (fun _ _ _ h => h) (Or.inl ⟨by kernel_rfl, fun w hSw => by (try dsimp only at hSw); go_simp⟩) hH2 ?_
        try simp only [Act.put, List.getElem_toArray, List.getElem_cons_zero, List.getElem_cons_succ, List.setIfInBounds_toArray, List.set_cons_zero, List.set_cons_succ]
        refine wpAnyH_take (i := 39) (v := .slice (some ⟨g9, 0, none⟩) 3 c9) rfl (by as_aux_lemma => kernel_rfl) (by as_aux_lemma => kernel_rfl) (by as_aux_lemma => kernel_rfl) (fun _ _ _ h => h) (Or.inl ⟨by kernel_rfl, fun w hSw => by (try dsimp only at hSw); go_simp⟩) hH2 ?_
        try simp only [Act.put, List.getElem_toArray, List.getElem_cons_zero, List.getElem_cons_succ, List.setIfInBounds_toArray, List.set_cons_zero, List.set_cons_succ]
        refine wpAnyH_take (i := 40) (v := .pointer (some ⟨g9, 0, none⟩)) rfl (by as_aux_lemma => kernel_rfl) (by as_aux_lemma => kernel_rfl) (by as_aux_lemma => kernel_rfl) (fun _ _ _ h => h) (Or.inl ⟨by kernel_rfl, fun w hSw => by (try dsimp only at hSw); go_simp⟩) hH2 ?_
        try simp only [Act.put, List.getElem_toArray, List.getElem_cons_zero, List.getElem_cons_succ, List.setIfInBounds_toArray, List.set_cons_zero, List.set_cons_succ]
        refine wpAnyH_take (i := 41) (v := .pointer (some ⟨g9, 2, none⟩)) rfl (by as_aux_lemma => kernel_rfl) (by as_aux_lemma => kernel_rfl) (by as_aux_lemma => kernel_rfl) (fun _ _ _ h => h) (Or.inl ⟨by kernel_rfl, fun w hSw => by (try dsimp only at hSw); go_simp⟩) hH2 ?_
        try simp only [Act.put, List.getElem_toArray, List.getElem_cons_zero, List.getElem_cons_succ, List.setIfInBounds_toArray, List.set_cons_zero, List.set_cons_succ]
        refine wpAnyH_take (i := 42) (v := .string (nP bi)) rfl (by as_aux_lemma => kernel_rfl) (by as_aux_lemma => kernel_rfl) (by as_aux_lemma => kernel_rfl) (fun _ _ _ h => h) (Or.inl ⟨by kernel_rfl, fun w hSw => by (try dsimp only at hSw); go_simp⟩) hH2 ?_
        try simp only [Act.put, List.getElem_toArray, List.getElem_cons_zero, List.getElem_cons_succ, List.setIfInBounds_toArray, List.set_cons_zero, List.set_cons_succ]
        refine wpAnyH_take (i := 43) (v := .string (nP bi)) rfl (by as_aux_lemma => kernel_rfl) (by as_aux_lemma => kernel_rfl) (by as_aux_lemma => kernel_rfl) (fun _ _ _ h => h) (Or.inl ⟨by kernel_rfl, fun w hSw => by (try dsimp only at hSw); go_simp⟩) hH2 ?_
        try simp only [Act.put, List.getElem_toArray, List.getElem_cons_zero, List.getElem_cons_succ, List.setIfInBounds_toArray, List.set_cons_zero, List.set_cons_succ]
        refine wpAnyH_take (i := 44) (v := .bool true) rfl (by as_aux_lemma => kernel_rfl) (by as_aux_lemma => kernel_rfl) (by as_aux_lemma => kernel_rfl) (fun _ _ _ h => h) (Or.inl ⟨by kernel_rfl, fun w hSw => by (try dsimp only at hSw); go_simp⟩) hH2 ?_
        try simp only [Act.put, List.getElem_toArray, List.getElem_cons_zero, List.getElem_cons_succ, List.setIfInBounds_toArray, List.set_cons_zero, List.set_cons_succ]
        refine wpAnyH_take (i := 45) (v := .bool true) rfl (by as_aux_lemma => kernel_rfl) (by as_aux_lemma => kernel_rfl) (by as_aux_lemma => kernel_rfl) (fun _ _ _ h => h) (Or.inl ⟨by kernel_rfl, fun w hSw => by (try dsimp only at hSw); go_simp⟩) hH2 ?_
        try simp only [Act.put, List.getElem_toArray, List.getElem_cons_zero, List.getElem_cons_succ, List.setIfInBounds_toArray, List.set_cons_zero, List.set_cons_succ]
        refine wpAnyH_take (i := 46) (v := .bool true) rfl (by as_aux_lemma => kernel_rfl) (by as_aux_lemma => kernel_rfl) (by as_aux_lemma => kernel_rfl) (fun _ _ _ h => h) (Or.inl ⟨by kernel_rfl, fun w hSw => by (try dsimp only at hSw); go_simp⟩) hH2 ?_
        try simp only [Act.put, List.getElem_toArray, List.getElem_cons_zero, List.getElem_cons_succ, List.setIfInBounds_toArray, List.set_cons_zero, List.set_cons_succ]
        refine wpAnyH_take (i := 47) (v := .bool false) rfl (by as_aux_lemma => kernel_rfl) (by as_aux_lemma => kernel_rfl) (by as_aux_lemma => kernel_rfl) (fun _ _ _ h => h) (Or.inl ⟨by kernel_rfl, fun w hSw => by (try dsimp only at hSw); go_simp⟩) hH2 ?_
        try simp only [Act.put, List.getElem_toArray, List.getElem_cons_zero, List.getElem_cons_succ, List.setIfInBounds_toArray, List.set_cons_zero, List.set_cons_succ]
        refine wpAnyH_take (i := 48) (v := .bool false) rfl (by as_aux_lemma => kernel_rfl) (by as_aux_lemma => kernel_rfl) (by as_aux_lemma => kernel_rfl) (fun _ _ _ h => h) (Or.inl ⟨by kernel_rfl, fun w hSw => by (try dsimp only at hSw); go_simp⟩) hH2 ?_
        try simp only [Act.put, List.getElem_toArray, List.getElem_cons_zero, List.getElem_cons_succ, List.setIfInBounds_toArray, List.set_cons_zero, List.set_cons_succ]
        refine wpAnyH_take (i := 49) (v := .pointer (some ⟨v10.heap.size, 1, none⟩)) rfl (by as_aux_lemma => kernel_rfl) (by as_aux_lemma => kernel_rfl) (by as_aux_lemma => kernel_rfl) (fun _ _ _ h => h) (Or.inl ⟨by kernel_rfl, fun w hSw => by (try dsimp only at hSw); go_simp⟩) hH2 ?_
        try simp only [Act.put, List.getElem_toArray, List.getElem_cons_zero, List.getElem_cons_succ, List.setIfInBounds_toArray, List.set_cons_zero, List.set_cons_succ]
        refine wpAnyH_take (i := 50) (v := .int .i64 7) rfl (by as_aux_lemma => kernel_rfl) (by as_aux_lemma => kernel_rfl) (by as_aux_lemma => kernel_rfl) (fun _ _ _ h => h) (Or.inl ⟨by kernel_rfl, fun w hSw => by (try dsimp only at hSw); go_simp⟩) hH2 ?_
        try simp only [Act.put, List.getElem_toArray, List.getElem_cons_zero, List.getElem_cons_succ, List.setIfInBounds_toArray, List.set_cons_zero, List.set_cons_succ]
        refine wpAnyH_take (i := 51) (v := .bool true) rfl (by as_aux_lemma => kernel_rfl) (by as_aux_lemma => kernel_rfl) (by as_aux_lemma => kernel_rfl) (fun _ _ _ h => h) (Or.inl ⟨by kernel_rfl, fun w hSw => by (try dsimp only at hSw); go_simp⟩) hH2 ?_
        try simp only [Act.put, List.getElem_toArray, List.getElem_cons_zero, List.getElem_cons_succ, List.setIfInBounds_toArray, List.set_cons_zero, List.set_cons_succ]
        refine wpAnyH_take (i := 52) (v := .bool true) rfl (by as_aux_lemma => kernel_rfl) (by as_aux_lemma => kernel_rfl) (by as_aux_lemma => kernel_rfl) (fun _ _ _ h => h) (Or.inl ⟨by kernel_rfl, fun w hSw => by (try dsimp only at hSw); go_simp⟩) hH2 ?_
        try simp only [Act.put, List.getElem_toArray, List.getElem_cons_zero, List.getElem_cons_succ, List.setIfInBounds_toArray, List.set_cons_zero, List.set_cons_succ]
        refine wpAnyH_take (i := 53) (v := .pointer (some ⟨v13.heap.size, 3, none⟩)) rfl (by as_aux_lemma => kernel_rfl) (by as_aux_lemma => kernel_rfl) (by as_aux_lemma => kernel_rfl) (fun _ _ _ h => h) (Or.inl ⟨by kernel_rfl, fun w hSw => by (try dsimp only at hSw); go_simp⟩) hH2 ?_
        try simp only [Act.put, List.getElem_toArray, List.getElem_cons_zero, List.getElem_cons_succ, List.setIfInBounds_toArray, List.set_cons_zero, List.set_cons_succ]
        refine wpAnyH_take (i := 54) (v := .slice (some ⟨g13, 0, none⟩) 3 c13) rfl (by as_aux_lemma => kernel_rfl) (by as_aux_lemma => kernel_rfl) (by as_aux_lemma => kernel_rfl) (fun _ _ _ h => h) (Or.inl ⟨by kernel_rfl, fun w hSw => by (try dsimp only at hSw); go_simp⟩) hH2 ?_
        try simp only [Act.put, List.getElem_toArray, List.getElem_cons_zero, List.getElem_cons_succ, List.setIfInBounds_toArray, List.set_cons_zero, List.set_cons_succ]
        refine wpAnyH_take (i := 55) (v := .int .i64 3) rfl (by as_aux_lemma => kernel_rfl) (by as_aux_lemma => kernel_rfl) (by as_aux_lemma => kernel_rfl) (fun _ _ _ h => h) (Or.inl ⟨by kernel_rfl, fun w hSw => by (try dsimp only at hSw); go_simp⟩) hH2 ?_
        try simp only [Act.put, List.getElem_toArray, List.getElem_cons_zero, List.getElem_cons_succ, List.setIfInBounds_toArray, List.set_cons_zero, List.set_cons_succ]
        refine wpAnyH_take (i := 56) (v := .bool true) rfl (by as_aux_lemma => kernel_rfl) (by as_aux_lemma => kernel_rfl) (by as_aux_lemma => kernel_rfl) (fun _ _ _ h => h) (Or.inl ⟨by kernel_rfl, fun w hSw => by (try dsimp only at hSw); go_simp⟩) hH2 ?_
        try simp only [Act.put, List.getElem_toArray, List.getElem_cons_zero, List.getElem_cons_succ, List.setIfInBounds_toArray, List.set_cons_zero, List.set_cons_succ]
        refine wpAnyH_take (i := 57) (v := .bool true) rfl (by as_aux_lemma => kernel_rfl) (by as_aux_lemma => kernel_rfl) (by as_aux_lemma => kernel_rfl) (fun _ _ _ h => h) (Or.inl ⟨by kernel_rfl, fun w hSw => by (try dsimp only at hSw); go_simp⟩) hH2 ?_
        try simp only [Act.put, List.getElem_toArray, List.getElem_cons_zero, List.getElem_cons_succ, List.setIfInBounds_toArray, List.set_cons_zero, List.set_cons_succ]
        refine wpAnyH_take (i := 58) (v := .bool true) rfl (by as_aux_lemma => kernel_rfl) (by as_aux_lemma => kernel_rfl) (by as_aux_lemma => kernel_rfl) (fun _ _ _ h => h) (Or.inl ⟨by kernel_rfl, fun w hSw => by (try dsimp only at hSw); go_simp⟩) hH2 ?_
        try simp only [Act.put, List.getElem_toArray, List.getElem_cons_zero, List.getElem_cons_succ, List.setIfInBounds_toArray, List.set_cons_zero, List.set_cons_succ]
        refine wpAnyH_take (i := 59) (v := .pointer (some ⟨v13.heap.size, 3, none⟩)) rfl (by as_aux_lemma => kernel_rfl) (by as_aux_lemma => kernel_rfl) (by as_aux_lemma => kernel_rfl) (fun _ _ _ h => h) (Or.inl ⟨by kernel_rfl, fun w hSw => by (try dsimp only at hSw); go_simp⟩) hH2 ?_
        try simp only [Act.put, List.getElem_toArray, List.getElem_cons_zero, List.getElem_cons_succ, List.setIfInBounds_toArray, List.set_cons_zero, List.set_cons_succ]
        refine wpAnyH_take (i := 60) (v := .slice (some ⟨g13, 0, none⟩) 3 c13) rfl (by as_aux_lemma => kernel_rfl) (by as_aux_lemma => kernel_rfl) (by as_aux_lemma => kernel_rfl) (fun _ _ _ h => h) (Or.inl ⟨by kernel_rfl, fun w hSw => by (try dsimp only at hSw); go_simp⟩) hH2 ?_
        try simp only [Act.put, List.getElem_toArray, List.getElem_cons_zero, List.getElem_cons_succ, List.setIfInBounds_toArray, List.set_cons_zero, List.set_cons_succ]
        refine wpAnyH_take (i := 61) (v := .pointer (some ⟨g13, 0, none⟩)) rfl (by as_aux_lemma => kernel_rfl) (by as_aux_lemma => kernel_rfl) (by as_aux_lemma => kernel_rfl) (fun _ _ _ h => h) (Or.inl ⟨by kernel_rfl, fun w hSw => by (try dsimp only at hSw); go_simp⟩) hH2 ?_
        try simp only [Act.put, List.getElem_toArray, List.getElem_cons_zero, List.getElem_cons_succ, List.setIfInBounds_toArray, List.set_cons_zero, List.set_cons_succ]
        refine wpAnyH_take (i := 62) (v := .pointer (some ⟨g13, 2, none⟩)) rfl (by as_aux_lemma => kernel_rfl) (by as_aux_lemma => kernel_rfl) (by as_aux_lemma => kernel_rfl) (fun _ _ _ h => h) (Or.inl ⟨by kernel_rfl, fun w hSw => by (try dsimp only at hSw); go_simp⟩) hH2 ?_
        try simp only [Act.put, List.getElem_toArray, List.getElem_cons_zero, List.getElem_cons_succ, List.setIfInBounds_toArray, List.set_cons_zero, List.set_cons_succ]
        refine wpAnyH_take (i := 63) (v := .string (nP bi)) rfl (by as_aux_lemma => kernel_rfl) (by as_aux_lemma => kernel_rfl) (by as_aux_lemma => kernel_rfl) (fun _ _ _ h => h) (Or.inl ⟨by kernel_rfl, fun w hSw => by (try dsimp only at hSw); go_simp⟩) hH2 ?_
        try simp only [Act.put, List.getElem_toArray, List.getElem_cons_zero, List.getElem_cons_succ, List.setIfInBounds_toArray, List.set_cons_zero, List.set_cons_succ]
        refine wpAnyH_take (i := 64) (v := .string (nP bi)) rfl (by as_aux_lemma => kernel_rfl) (by as_aux_lemma => kernel_rfl) (by as_aux_lemma => kernel_rfl) (fun _ _ _ h => h) (Or.inl ⟨by kernel_rfl, fun w hSw => by (try dsimp only at hSw); go_simp⟩) hH2 ?_
        try simp only [Act.put, List.getElem_toArray, List.getElem_cons_zero, List.getElem_cons_succ, List.setIfInBounds_toArray, List.set_cons_zero, List.set_cons_succ]
        refine wpAnyH_take (i := 65) (v := .bool true) rfl (by as_aux_lemma => kernel_rfl) (by as_aux_lemma => kernel_rfl) (by as_aux_lemma => kernel_rfl) (fun _ _ _ h => h) (Or.inl ⟨by kernel_rfl, fun w hSw => by (try dsimp only at hSw); go_simp⟩) hH2 ?_
        try simp only [Act.put, List.getElem_toArray, List.getElem_cons_zero, List.getElem_cons_succ, List.setIfInBounds_toArray, List.set_cons_zero, List.set_cons_succ]
        refine wpAnyH_take (i := 66) (v := .bool true) rfl (by as_aux_lemma => kernel_rfl) (by as_aux_lemma => kernel_rfl) (by as_aux_lemma => kernel_rfl) (fun _ _ _ h => h) (Or.inl ⟨by kernel_rfl, fun w hSw => by (try dsimp only at hSw); go_simp⟩) hH2 ?_
        try simp only [Act.put, List.getElem_toArray, List.getElem_cons_zero, List.getElem_cons_succ, List.setIfInBounds_toArray, List.set_cons_zero, List.set_cons_succ]
        refine wpAnyH_take (i := 67) (v := .bool true) rfl (by as_aux_lemma => kernel_rfl) (by as_aux_lemma => kernel_rfl) (by as_aux_lemma => kernel_rfl) (fun _ _ _ h => h) (Or.inl ⟨by kernel_rfl, fun w hSw => by (try dsimp only at hSw); go_simp⟩) hH2 ?_
        try simp only [Act.put, List.getElem_toArray, List.getElem_cons_zero, List.getElem_cons_succ, List.setIfInBounds_toArray, List.set_cons_zero, List.set_cons_succ]
        refine wpAnyH_take (i := 68) (v := .bool true) rfl (by as_aux_lemma => kernel_rfl) (by as_aux_lemma => kernel_rfl) (by as_aux_lemma => kernel_rfl) (fun _ _ _ h => h) (Or.inl ⟨by kernel_rfl, fun w hSw => by (try dsimp only at hSw); go_simp⟩) hH2 ?_
        try simp only [Act.put, List.getElem_toArray, List.getElem_cons_zero, List.getElem_cons_succ, List.setIfInBounds_toArray, List.set_cons_zero, List.set_cons_succ]
        refine wpAnyH_take (i := 69) (v := .bool true) rfl (by as_aux_lemma => kernel_rfl) (by as_aux_lemma => kernel_rfl) (by as_aux_lemma => kernel_rfl) (fun _ _ _ h => h) (Or.inl ⟨by kernel_rfl, fun w hSw => by (try dsimp only at hSw); go_simp⟩) hH2 ?_
        try simp only [Act.put, List.getElem_toArray, List.getElem_cons_zero, List.getElem_cons_succ, List.setIfInBounds_toArray, List.set_cons_zero, List.set_cons_succ]
        refine wpAnyH_done (by as_aux_lemma => kernel_rfl) ?_ _
        go_wp2
        go_ret
        exact ⟨by first | rfl | kernel_rfl | simp, BY1.out _ Bz2.out⟩
end Go.Proofs.YticlacjpgjkhcaaGreatDoor
