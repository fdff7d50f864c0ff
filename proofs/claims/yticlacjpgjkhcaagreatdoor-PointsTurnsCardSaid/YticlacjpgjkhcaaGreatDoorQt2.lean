/- Texts joined: PS -/
import Derived.Test.YticlacjpgjkhcaaGreatDoorQn30
import Derived.Test.YticlacjpgjkhcaaGreatDoorQt1
import Derived.Deep.RegionWith
set_option linter.unusedVariables false
set_option linter.unusedSimpArgs false

/- The law PointsTurns: its walk. -/
namespace Go.Proofs.YticlacjpgjkhcaaGreatDoor
open Go.ChangeShapes Go.WideShapes Go.ChangeAt Go.RowKit Go.Fl

/-- The law's num. -/
theorem num_anyT {W0 : World} (hT : Tab W0) (x : Int) (hx : I64 x) (w : World) (hi : Below W0.heap.size W0 w) : Calls Tryz.prog 12 #[.int .i64 x] w fun e w' => e = .returned (.string (numT x)) ∧ Below w.heap.size w w' := by
  have NU := Lib.hid (Number13 hT x hx w hi)
  clear hT hx hi
  go_enter Tryz.func12, Tryz.ntmps12
  go_wp2_with (first | (go_at_call 13; (with_reducible refine (NU.out).mono ?_); rintro e w1 ⟨rfl, h1⟩; have B1 := Lib.hid h1; clear h1))
  go_ret
  exact ⟨rfl, B1.out⟩
/-- The sums' bounds. -/
theorem sXY_bd (X Y : Nat → Int) (hX : ∀ j, -1000 ≤ X j ∧ X j ≤ 1000) (hY : ∀ j, -1000 ≤ Y j ∧ Y j ≤ 1000) : ∀ i : Nat, (-(1000 * (i : Int)) ≤ sX (fP X Y i) ∧ sX (fP X Y i) ≤ 1000 * (i : Int)) ∧ (-(1000 * (i : Int)) ≤ sY (fP X Y i) ∧ sY (fP X Y i) ≤ 1000 * (i : Int))
  | 0 => by simp [fP, sX, sY]
  | i + 1 => by
    have ih := sXY_bd X Y hX hY i
    have h1 := hX i
    have h2 := hY i
    obtain ⟨e1, e2⟩ := sX_fP X Y i
    rw [e1, e2]
    have e : ((i + 1 : Nat) : Int) = (i : Int) + 1 := by omega
    rw [e]
    omega
theorem tmodK (a : Int) : -999 ≤ a.tmod 1000 ∧ a.tmod 1000 ≤ 999 := by
  have := tmod_bd a 1000 (by decide)
  omega
theorem mul_bd (f s : Int) (hf : 1 ≤ f ∧ f ≤ 10) (hs : -8000 ≤ s ∧ s ≤ 8000) : -80000 ≤ f * s ∧ f * s ≤ 80000 := by
  have h3 : f.natAbs * s.natAbs ≤ 10 * 8000 := Nat.mul_le_mul (by omega) (by omega)
  rw [← Int.natAbs_mul] at h3
  omega
theorem mlP_bd (f : Int) (hf : 1 ≤ f ∧ f ≤ 10) (x y : Int) (hx : -1000 ≤ x ∧ x ≤ 1000) (hy : -1000 ≤ y ∧ y ≤ 1000) : (-10000 ≤ (mlP f 0 x y).1 ∧ (mlP f 0 x y).1 ≤ 10000) ∧ (-10000 ≤ (mlP f 0 x y).2 ∧ (mlP f 0 x y).2 ≤ 10000) := by
  have h3 : f.natAbs * x.natAbs ≤ 10 * 1000 := Nat.mul_le_mul (by omega) (by omega)
  have h4 : f.natAbs * y.natAbs ≤ 10 * 1000 := Nat.mul_le_mul (by omega) (by omega)
  rw [← Int.natAbs_mul] at h3 h4
  have h5 := Int.mul_comm f x
  have h6 := Int.mul_comm f y
  unfold mlP
  simp only [Int.mul_zero, Int.sub_zero, Int.zero_add, Int.zero_mul, Int.add_zero]
  rw [← h5, ← h6]
  omega
theorem unP_bd (x y : Int) (hx : -10000 ≤ x ∧ x ≤ 10000) (hy : -10000 ≤ y ∧ y ≤ 10000) : (-10000 ≤ (mlP 0 1 x y).1 ∧ (mlP 0 1 x y).1 ≤ 10000) ∧ (-10000 ≤ (mlP 0 1 x y).2 ∧ (mlP 0 1 x y).2 ≤ 10000) := by
  unfold mlP
  simp only [Int.mul_zero, Int.mul_one, Int.zero_sub, Int.zero_add, Int.zero_mul, Int.one_mul, Int.add_zero]
  omega
theorem uk_bd (k : Int) : ∃ t : Nat, (IntKind.u64.wrap k).tmod 1000 = (t : Int) ∧ t < 1000 := by
  refine ⟨((IntKind.u64.wrap k).tmod 1000).toNat, ?_, ?_⟩ <;> rw [IntKind.wrap_u64] <;> rw [Int.tmod_eq_emod_of_nonneg (by omega)] <;> omega
set_option linter.unusedSimpArgs false in
set_option linter.unusedVariables false in
set_option maxRecDepth 100000 in
set_option maxHeartbeats 16000000 in
theorem turns_main (xs ys : List Int) (v0 v1 : Value) (k0 n0 : Int) (w : World) (hT : Tab w) (h0 : ISp w v0 xs) (h1 : ISp w v1 ys) (n l : Nat) (hn : xs.length = n) (hl : ys.length = l) (n1 : 1 ≤ n) (n8 : n ≤ 8) (nl : n ≤ l) : Calls Tryz.prog 3 #[v0, v1, .int .i64 k0, .int .i64 n0] w fun e w' => e = .returned (.bool true) ∧ Below w.heap.size w w' := by
  have NW := Lib.hid (fun X => New9 X)
  obtain ⟨aA, cap, rfl, p1, p2, p3, p4⟩ := h0
  obtain ⟨bA, cap2, rfl, r1, r2, r3, r4⟩ := h1
  obtain ⟨blk, off, rfl, hblt, hc⟩ := p3 (by intro e; rw [e] at hn; simp at hn; omega)
  obtain ⟨blk2, off2, rfl, hblt2, hc2⟩ := r3 (by intro e; rw [e] at hl; simp at hl; omega)
  simp only [hn, hl]
  have HN := Lib.hid hn
  have HL := Lib.hid hl
  have C1 := Lib.hid (show ∀ i, i < n → ∀ X, Below w.heap.size w X → ∃ z, X.cell? ⟨blk, off + i, none⟩ = some (.int .i64 z) ∧ z.tmod 1001 = prt xs i from fun i hi X hX => by
    obtain ⟨z, hz⟩ : ∃ z, xs[i]? = some z := ⟨_, List.getElem?_eq_getElem (by rw [hn]; exact hi)⟩
    exact ⟨z, (hX.cell (p := ⟨blk, off + i, none⟩) hblt).trans (hc i z hz), by unfold prt; rw [hz]; rfl⟩)
  have C2 := Lib.hid (show ∀ i, i < n → ∀ X, Below w.heap.size w X → ∃ z, X.cell? ⟨blk2, off2 + i, none⟩ = some (.int .i64 z) ∧ z.tmod 1001 = prt ys i from fun i hi X hX => by
    obtain ⟨z, hz⟩ : ∃ z, ys[i]? = some z := ⟨_, List.getElem?_eq_getElem (by rw [hl]; omega)⟩
    exact ⟨z, (hX.cell (p := ⟨blk2, off2 + i, none⟩) hblt2).trans (hc2 i z hz), by unfold prt; rw [hz]; rfl⟩)
  have TL := Lib.hid (fun X (hX : Below w.heap.size w X) => toldP (W0 := X) (Tab.at_ hT hX))
  have HT := Lib.hid hT
  have hfd : ∀ (a b : Int) (c : ByteArray) (A : Option Addr) (m cc : Nat) (w : World), (Instr.field 29 (.agg #[.int .i64 a, .int .i64 b, .string c, .slice A m cc]) 1).run Tryz.prog w = .ok (.int .i64 b) w := fun _ _ _ _ _ _ _ => by kernel_rfl
  have q1 : ¬ ((n : Int) = 0) := by omega
  have q2 : ¬ (8 : Int) < (n : Int) := by omega
  have q3 : ¬ (l : Int) < (n : Int) := by omega
  clear p1 p2 p3 p4 r1 r2 r3 r4 hn hl hT hc hc2
  go_enter Tryz.func3, Tryz.ntmps3
  go_wp2_with (first | (go_at_call 11; (with_reducible refine (NW.out _).mono ?_); rintro e v0 ⟨bS, bM, rfl, hS0, hbS, hbM, hB0⟩; have L0 := Lib.hid (LD.mk0 KP okP hS0 hB0 hbS hbM); clear hS0 hbS hbM hB0; refine Hid.out ?_))
  refine Lib.hid ?_
  go_wp2
  clear q1 q2 q3
  go_loopw [11, 12, 13] (fun sv tv iv wr => ∃ i : Nat, i ≤ n ∧ sv = .int .i64 (sX (fP (prt xs) (prt ys) i)) ∧ tv = .int .i64 (sY (fP (prt xs) (prt ys) i)) ∧ iv = .int .i64 i ∧ Hid (LDP w wr bS bM (dP (fP (prt xs) (prt ys) i)))) (fun _ _ iv _ => n - (intOf iv).toNat)
  case atStart => exact ⟨0, Nat.zero_le _, rfl, rfl, rfl, L0⟩
  case round =>
    obtain ⟨i, hi, rfl, rfl, rfl, HQ⟩ := hrel
    by_cases hlt : i < n
    · have i0 : (i : Int) < (n : Int) := by omega
      have i2 : (i : Int) < (l : Int) := by omega
      obtain ⟨zx, d0, hx⟩ := C1.out i hlt wr HQ.out.below
      obtain ⟨zy, d1, hy⟩ := C2.out i hlt wr HQ.out.below
      obtain ⟨x, hx9⟩ : ∃ x, prt xs i = x := ⟨_, rfl⟩
      obtain ⟨y, hy9⟩ : ∃ y, prt ys i = y := ⟨_, rfl⟩
      have hxb : -1000 ≤ x ∧ x ≤ 1000 := by rw [← hx9]; exact prt_bd xs i
      have hyb : -1000 ≤ y ∧ y ≤ 1000 := by rw [← hy9]; exact prt_bd ys i
      have HXB := Lib.hid hxb
      have HYB := Lib.hid hyb
      rw [hx9] at hx
      rw [hy9] at hy
      have HX9 := Lib.hid hx9
      have HY9 := Lib.hid hy9
      have HLT := Lib.hid hlt
      have h9 : i < 9 := by omega
      have HBD := sXY_bd (prt xs) (prt ys) (prt_bd xs) (prt_bd ys) i
      have HSX := sX_fP (prt xs) (prt ys) i
      rw [hx9, hy9] at HSX
      obtain ⟨sa, hsa⟩ : ∃ sa, sX (fP (prt xs) (prt ys) i) = sa := ⟨_, rfl⟩
      obtain ⟨sb, hsb⟩ : ∃ sb, sY (fP (prt xs) (prt ys) i) = sb := ⟨_, rfl⟩
      rw [hsa, hsb] at HBD HSX
      simp only [hsa, hsb]
      have wsa : IntKind.i64.wrap (sa + x) = sa + x := by rw [IntKind.wrap_i64]; omega
      have wsb : IntKind.i64.wrap (sb + y) = sb + y := by rw [IntKind.wrap_i64]; omega
      have HSX := Lib.hid HSX
      clear hx9 hy9 hxb hyb hsa hsb HBD
      go_wp2
      go_region
      go_wp2_with fail
      have L1 := Lib.hid (HQ.out.old (Below.refl _ _).drew)
      generalize wr.drew = w1 at L1 ⊢
      have hxI : I64 x := by have := HXB.out; exact ⟨by omega, by omega⟩
      have hyI : I64 y := by have := HYB.out; exact ⟨by omega, by omega⟩
      have u1 : IntKind.u8.wrap (i : Int) = (i : Int) := by rw [IntKind.wrap_u8]; omega
      have u2 : IntKind.u8.wrap (97 + (i : Int)) = 97 + (i : Int) := by rw [IntKind.wrap_u8]; omega
      have NX := Lib.hid (fun X (hX : Below w.heap.size w X) => num_anyT HT.out x hxI X hX)
      have NY := Lib.hid (fun X (hX : Below w.heap.size w X) => num_anyT HT.out y hyI X hX)
      have B0 := Lib.hid ((Below.refl w1.heap.size w1).drew)
      have Bz := Lib.hid ((alloc_old (w := w1) (o := .cells #[.int .u8 (97 + (i : Int))] 5)).drew)
      have LO := Lib.hid (fun X (hX : Below w1.heap.size w1 X) => L1.out.old hX)
      have BW := Lib.hid (fun X (hX : Below w1.heap.size w1 X) => (L1.out.old hX).below)
      have yz := Lib.hid (show ((w1.alloc (.cells #[.int .u8 (97 + (i : Int))] 5)).drew).heap[w1.heap.size]? = some (.cells #[.int .u8 (97 + (i : Int))] 5) from heap_alloc_new w1 _)
      have cv := Lib.hid (fun X b h => convP i h9 X b h)
      have ca := cv.out (w1.alloc (.cells #[.int .u8 (97 + (i : Int))] 5)).drew w1.heap.size yz.out
      have DD := Lib.hid (fun Z (hZ : Below w1.heap.size w1 Z) q (hq : Z.heap.size = q) => l_padd w bS bM (prt xs) (prt ys) 1000 (by decide) (prt_bd xs) (prt_bd ys) i h9 x y HX9.out HY9.out Z (LO.out Z hZ) q hq)
      have DDF := Lib.hid (fun Z (hZ : Below w1.heap.size w1 Z) => DD.out (Z.alloc (.cells #[.int .u8 (97 + (i : Int))] 5)) (hZ.trans (alloc_old.mono (Below.size hZ))) (Z.heap.size + 1) (by simp))
      clear d0 d1 hx hy i0 i2 hxI hyI hlt hi wsa wsb
      go_region_with (first | (go_at_call 12; (first | ((with_reducible refine (NX.out _ (BW.out _ B0.out)).mono ?_); rintro e x1 ⟨rfl, h1⟩; have B1 := Lib.hid (B0.out.trans h1); have B1z := Lib.hid (B1.out.trans ((alloc_old (w := x1) (o := .cells #[.int .u8 (97 + (i : Int))] 5)).mono (Below.size B1.out))); have y1z := Lib.hid (heap_alloc_new x1 (.cells #[.int .u8 (97 + (i : Int))] 5)); have cb := cv.out (x1.alloc (.cells #[.int .u8 (97 + (i : Int))] 5)) x1.heap.size y1z.out; clear h1) | ((with_reducible refine (NX.out _ (BW.out _ Bz.out)).mono ?_); rintro e x1 ⟨rfl, h1⟩; have B1 := Lib.hid (Bz.out.trans (h1.mono (Below.size Bz.out))); have y1 := Lib.hid (blk_below yz.out h1); have cb := cv.out x1 w1.heap.size y1.out; clear h1) | ((with_reducible refine (NY.out _ (BW.out _ B1.out)).mono ?_); rintro e x2 ⟨rfl, h2⟩; have B2 := Lib.hid (B1.out.trans (h2.mono (Below.size B1.out))); have cc := cv.out (x2.alloc (.cells #[.int .u8 (97 + (i : Int))] 5)) x2.heap.size (heap_alloc_new x2 _); (first | (have y2 := blk_below y1.out h2; have cd := cv.out x2 w1.heap.size y2) | skip); clear h2) | ((with_reducible refine (NY.out _ (BW.out _ B1z.out)).mono ?_); rintro e x2 ⟨rfl, h2⟩; have B2 := Lib.hid (B1z.out.trans (h2.mono (Below.size B1z.out))); have y2 := blk_below y1z.out h2; have cd := cv.out x2 x1.heap.size y2; clear h2))) | (go_at_call 14; (first | ((with_reducible refine (DD.out x2 B2.out _ rfl).mono ?_); rintro e vb ⟨rfl, hL9, hK9⟩) | ((with_reducible refine (DDF.out x2 B2.out).mono ?_); rintro e vb ⟨rfl, hL9, hK9⟩)); have L2 := Lib.hid hL9; clear hL9 hK9))
      all_goals (
        clear u1 u2
        go_wp2_with fail
        exact ⟨⟨i + 1, HLT.out, by rw [HSX.out.1], by rw [HSX.out.2], by go_num, L2⟩, by have := HLT.out; simp [intOf]; omega⟩)
    · obtain rfl : i = n := by omega
      have i0 : ¬ (i : Int) < (i : Int) := by omega
      obtain ⟨t, ht, htl⟩ := uk_bd k0
      have wt1 : IntKind.u64.wrap (t : Int) = (t : Int) := by rw [IntKind.wrap_u64]; omega
      have wt2 : IntKind.i64.wrap (t : Int) = (t : Int) := by rw [IntKind.wrap_i64]; omega
      obtain ⟨g, hg⟩ : ∃ g, n0.tmod 1000 = g := ⟨_, rfl⟩
      have hgb : -999 ≤ g ∧ g ≤ 999 := by rw [← hg]; exact tmodK n0
      obtain ⟨f, hf⟩ : ∃ f : Int, 1 + (t : Int) % 10 = f := ⟨_, rfl⟩
      have hfb : 1 ≤ f ∧ f ≤ 10 := by rw [← hf]; omega
      have hsb := sXY_bd (prt xs) (prt ys) (prt_bd xs) (prt_bd ys) i
      obtain ⟨F, hF⟩ : ∃ F, fP (prt xs) (prt ys) i = F := ⟨_, rfl⟩
      have hFl : F.length = i := by rw [← hF, fP_len]
      have hFn : F ≠ [] := by rw [← hF]; exact fP_ne _ _ _ n1
      have hP1 : PBd F 1000 := by rw [← hF]; exact fP_bd _ _ 1000 (prt_bd xs) (prt_bd ys) i (by omega)
      rw [hF] at hsb HQ
      simp only [hF]
      obtain ⟨sx, hsx⟩ : ∃ sx, sX F = sx := ⟨_, rfl⟩
      obtain ⟨sy, hsy⟩ : ∃ sy, sY F = sy := ⟨_, rfl⟩
      rw [hsx, hsy] at hsb
      simp only [hsx, hsy]
      obtain ⟨p, hp⟩ : ∃ p, f * sx = p := ⟨_, rfl⟩
      obtain ⟨r, hr⟩ : ∃ r, f * sy = r := ⟨_, rfl⟩
      have hpb : -80000 ≤ p ∧ p ≤ 80000 := by rw [← hp]; exact mul_bd f sx hfb (by omega)
      have hrb : -80000 ≤ r ∧ r ≤ 80000 := by rw [← hr]; exact mul_bd f sy hfb (by omega)
      have hPt : PBd (mapP (trn ((t : Int) % 4)) F) 1000 := hP1.map _ (fun x y hx hy => trn_bd _ 1000 x y hx hy)
      have hPm : PBd (mapP (mvP g t) F) 2000 := hP1.map _ (fun x y hx hy => by unfold mvP; simp only; omega)
      have hPf : PBd (mapP (mlP f 0) F) 10000 := hP1.map _ (fun x y hx hy => mlP_bd f hfb x y hx hy)
      have hPu : PBd (mapP (mlP 0 1) (mapP (mlP f 0) F)) 10000 := hPf.map _ (fun x y hx hy => unP_bd x y hx hy)
      have hs4 : sX (mapP (mlP f 0) F) = p ∧ sY (mapP (mlP f 0) F) = r := by obtain ⟨e1, e2⟩ := scale_sum f F; rw [e1, e2, hsx, hsy, hp, hr]; exact ⟨rfl, rfl⟩
      have hs5 : sX (mapP (mlP 0 1) (mapP (mlP f 0) F)) = -r ∧ sY (mapP (mlP 0 1) (mapP (mlP f 0) F)) = p := by obtain ⟨e1, e2⟩ := unit_sum (mapP (mlP f 0) F); rw [e1, e2, hs4.1, hs4.2]; exact ⟨rfl, rfl⟩
      have okg : okI g = true := by simp [okI]; omega
      have okgn : okI (-g) = true := by simp [okI]; omega
      have okt : okI (t : Int) = true := by simp [okI]; omega
      have oktn : okI (-(t : Int)) = true := by simp [okI]; omega
      have okf : okI f = true := by simp [okI]; omega
      have NT := Lib.hid (fun X (hX : Below w.heap.size w X) => num_anyT HT.out (t : Int) ⟨by omega, by omega⟩ X hX)
      have NTn := Lib.hid (fun X (hX : Below w.heap.size w X) => num_anyT HT.out (-(t : Int)) ⟨by omega, by omega⟩ X hX)
      have NG := Lib.hid (fun X (hX : Below w.heap.size w X) => num_anyT HT.out g ⟨by omega, by omega⟩ X hX)
      have NGn := Lib.hid (fun X (hX : Below w.heap.size w X) => num_anyT HT.out (-g) ⟨by omega, by omega⟩ X hX)
      have NF := Lib.hid (fun X (hX : Below w.heap.size w X) => num_anyT HT.out f ⟨by omega, by omega⟩ X hX)
      have NP := Lib.hid (fun X (hX : Below w.heap.size w X) => num_anyT HT.out p ⟨by omega, by omega⟩ X hX)
      have NR := Lib.hid (fun X (hX : Below w.heap.size w X) => num_anyT HT.out r ⟨by omega, by omega⟩ X hX)
      have NRn := Lib.hid (fun X (hX : Below w.heap.size w X) => num_anyT HT.out (-r) ⟨by omega, by omega⟩ X hX)
      have DA := Lib.hid (fun X hL q hq => l_pall w bS bM HT.out F 1000 (by decide) (by decide) hP1 hFn X hL q hq)
      have DT1 := Lib.hid (fun X hL q hq => l_pturn w bS bM F 1000 (by decide) (by decide) hP1 hFn (t : Int) ⟨by omega, by omega⟩ 1000 (by decide) hPt i hFl X hL q hq)
      have DT2 := fun X hL q hq => l_pturn w bS bM (mapP (trn ((t : Int) % 4)) F) 1000 (by decide) (by decide) hPt (map_ne hFn) (-(t : Int)) ⟨by omega, by omega⟩ 1000 (by decide) (by rw [turn_back]; exact hP1) i (by rw [map_len]; exact hFl) X hL q hq
      simp only [turn_back] at DT2
      have DT2 := Lib.hid DT2
      have DM1 := Lib.hid (fun X hL q hq => l_pmove w bS bM F 1000 (by decide) (by decide) hP1 hFn g (t : Int) okg okt 2000 (by decide) hPm i hFl X hL q hq)
      have DM2 := fun X hL q hq => l_pmove w bS bM (mapP (mvP g t) F) 2000 (by decide) (by decide) hPm (map_ne hFn) (-g) (-(t : Int)) okgn oktn 1000 (by decide) (by rw [move_back]; exact hP1) i (by rw [map_len]; exact hFl) X hL q hq
      simp only [move_back] at DM2
      have DM2 := Lib.hid DM2
      have DF := Lib.hid (fun X hL q hq => l_pscale w bS bM F 1000 (by decide) (by decide) hP1 hFn f okf 10000 (by decide) hPf i hFl X hL q hq)
      have DS := fun X hL q hq => l_psum w bS bM HT.out (mapP (mlP f 0) F) 10000 (by decide) (by decide) hPf (map_ne hFn) (by decide) X hL q hq
      rw [hs4.1, hs4.2] at DS
      have DS := Lib.hid DS
      have DU := Lib.hid (fun X hL q hq => l_punit w bS bM (mapP (mlP f 0) F) 10000 (by decide) (by decide) hPf (map_ne hFn) 10000 (by decide) hPu i (by rw [map_len]; exact hFl) X hL q hq)
      have DV := fun X hL q hq => l_psum w bS bM HT.out (mapP (mlP 0 1) (mapP (mlP f 0) F)) 10000 (by decide) (by decide) hPu (map_ne (map_ne hFn)) (by decide) X hL q hq
      rw [hs5.1, hs5.2] at DV
      have DV := Lib.hid DV
      obtain ⟨zs, hzs⟩ : ∃ zs, allP F = zs := ⟨_, rfl⟩
      rw [hzs] at DA
      obtain ⟨N3, hN3⟩ : ∃ N3 : Nat, 3 * i = N3 := ⟨_, rfl⟩
      have hzl : zs.length = N3 := by have h9 := allP_len F; rw [hzs, hFl] at h9; omega
      have HZL := Lib.hid (And.intro hzl (show 1 ≤ N3 ∧ N3 ≤ 1000 by omega))
      have hzn : zs.map some ≠ [] := by intro e; have h9 := congrArg List.length e; rw [List.length_map, hzl] at h9; simp at h9; omega
      have HZN := Lib.hid hzn
      have w3n : IntKind.i64.wrap (3 * (i : Int)) = (N3 : Int) := by rw [IntKind.wrap_i64]; omega
      have wfp : IntKind.i64.wrap (f * sx) = p := by rw [hp, IntKind.wrap_i64]; omega
      have wfr : IntKind.i64.wrap (f * sy) = r := by rw [hr, IntKind.wrap_i64]; omega
      have wfn : IntKind.i64.wrap (-f) = -f := by rw [IntKind.wrap_i64]; omega
      have wfq : IntKind.i64.wrap (-f * sy) = -r := by rw [Int.neg_mul, hr, IntKind.wrap_i64]; omega
      have HW := Lib.hid (show IntKind.i64.wrap (3 * (i : Int)) = (N3 : Int) ∧ IntKind.i64.wrap (f * sx) = p ∧ IntKind.i64.wrap (f * sy) = r ∧ IntKind.i64.wrap (-f) = -f ∧ IntKind.i64.wrap (-f * sy) = -r from ⟨w3n, wfp, wfr, wfn, wfq⟩)
      have wg : wrap64 (-g) = -g := w64n g (by omega)
      have wtn : wrap64 (-(t : Int)) = -(t : Int) := w64n t (by omega)
      have wf1 : wrap64 f = f := by unfold wrap64; omega
      have wf2 : IntKind.i64.wrap f = f := by rw [IntKind.wrap_i64]; omega
      have HI := Lib.hid i0
      clear hgb hfb hsb hF hFl hFn hP1 hsx hsy hp hr hpb hrb hPt hPm hPf hPu hs4 hs5 okg okgn okt oktn okf hzs hN3 hzl hzn w3n wfp wfr wfn wfq C1 C2 hi hlt n8 htl
      have D1 := Lib.hid (DA.out  (wr) HQ.out (wr.heap.size) rfl)
      go_wp2_with (first | (go_at_call 14; (with_reducible refine (D1.out).mono ?_); rintro e v1 ⟨A1, m1, c1, rfl, hR1, hL1, hK1⟩; have L1 := Lib.hid hL1; have kR1 := Lib.hid hR1; clear hL1 hK1 hR1; refine Hid.out ?_))
      refine Lib.hid ?_
      have M1 := Lib.hid (L1.out.old (alloc_old (o := .cells #[.int .i64 6, .int .i64 0, .string ⟨#[]⟩, .slice A1 m1 c1] 29)))
      have mR11 := Lib.hid (RO.below kR1.out (alloc_old (o := .cells #[.int .i64 6, .int .i64 0, .string ⟨#[]⟩, .slice A1 m1 c1] 29)))
      have ma1 := Lib.hid (heap_alloc_new v1 (.cells #[.int .i64 6, .int .i64 0, .string ⟨#[]⟩, .slice A1 m1 c1] 29))
      go_wp2_with (first | (go_at_call 12; (with_reducible refine (NT.out _ M1.out.below).mono ?_); rintro e x2 ⟨rfl, hB⟩; have L2 := Lib.hid (M1.out.old hB); have kR12 := Lib.hid (RO.below mR11.out hB); have ka2 := Lib.hid (blk_below ma1.out hB); clear hB; refine Hid.out ?_))
      refine Lib.hid ?_
      have D3 := Lib.hid (DT1.out  (x2) L2.out (x2.heap.size) rfl)
      go_wp2_with (first | (go_at_call 14; (with_reducible refine (D3.out).mono ?_); rintro e v3 ⟨rfl, hL3, hK3⟩; have L3 := Lib.hid hL3; have kR13 := Lib.hid (RO.keepD hK3 L2.out kR12.out); have ka3 := Lib.hid (keepL hK3 L2.out ka2.out (by decide)); clear hL3 hK3; refine Hid.out ?_))
      refine Lib.hid ?_
      go_wp2_with (first | (go_at_call 12; (with_reducible refine (NTn.out _ L3.out.below).mono ?_); rintro e x4 ⟨rfl, hB⟩; have L4 := Lib.hid (L3.out.old hB); have kR14 := Lib.hid (RO.below kR13.out hB); have ka4 := Lib.hid (blk_below ka3.out hB); clear hB; refine Hid.out ?_))
      refine Lib.hid ?_
      have D5 := Lib.hid (DT2.out  (x4) L4.out (x4.heap.size) rfl)
      go_wp2_with (first | (go_at_call 14; (with_reducible refine (D5.out).mono ?_); rintro e v5 ⟨rfl, hL5, hK5⟩; have L5 := Lib.hid hL5; have kR15 := Lib.hid (RO.keepD hK5 L4.out kR14.out); have ka5 := Lib.hid (keepL hK5 L4.out ka4.out (by decide)); clear hL5 hK5; refine Hid.out ?_))
      refine Lib.hid ?_
      have D6 := Lib.hid (DA.out  (v5) L5.out (v5.heap.size) rfl)
      go_wp2_with (first | (go_at_call 14; (with_reducible refine (D6.out).mono ?_); rintro e v6 ⟨A6, m6, c6, rfl, hR6, hL6, hK6⟩; have L6 := Lib.hid hL6; have kR16 := Lib.hid (RO.keepD hK6 L5.out kR15.out); have ka6 := Lib.hid (keepL hK6 L5.out ka5.out (by decide)); have kR6 := Lib.hid hR6; clear hL6 hK6 hR6; refine Hid.out ?_))
      refine Lib.hid ?_
      have M6 := Lib.hid (L6.out.old (alloc_old (o := .cells #[.int .i64 6, .int .i64 0, .string ⟨#[]⟩, .slice A6 m6 c6] 29)))
      have mR16 := Lib.hid (RO.below kR16.out (alloc_old (o := .cells #[.int .i64 6, .int .i64 0, .string ⟨#[]⟩, .slice A6 m6 c6] 29)))
      have ma6 := Lib.hid (blk_below ka6.out (alloc_old (o := .cells #[.int .i64 6, .int .i64 0, .string ⟨#[]⟩, .slice A6 m6 c6] 29)))
      have mR66 := Lib.hid (RO.below kR6.out (alloc_old (o := .cells #[.int .i64 6, .int .i64 0, .string ⟨#[]⟩, .slice A6 m6 c6] 29)))
      have mf6 := Lib.hid (heap_alloc_new v6 (.cells #[.int .i64 6, .int .i64 0, .string ⟨#[]⟩, .slice A6 m6 c6] 29))
      go_wp2_with (first | (go_at_call 12; (with_reducible refine (NG.out _ M6.out.below).mono ?_); rintro e x7 ⟨rfl, hB⟩; have L7 := Lib.hid (M6.out.old hB); have kR17 := Lib.hid (RO.below mR16.out hB); have ka7 := Lib.hid (blk_below ma6.out hB); have kR67 := Lib.hid (RO.below mR66.out hB); have kf7 := Lib.hid (blk_below mf6.out hB); clear hB; refine Hid.out ?_))
      refine Lib.hid ?_
      go_wp2_with (first | (go_at_call 12; (with_reducible refine (NT.out _ L7.out.below).mono ?_); rintro e x8 ⟨rfl, hB⟩; have L8 := Lib.hid (L7.out.old hB); have kR18 := Lib.hid (RO.below kR17.out hB); have ka8 := Lib.hid (blk_below ka7.out hB); have kR68 := Lib.hid (RO.below kR67.out hB); have kf8 := Lib.hid (blk_below kf7.out hB); clear hB; refine Hid.out ?_))
      refine Lib.hid ?_
      have D9 := Lib.hid (DM1.out  (x8) L8.out (x8.heap.size) rfl)
      go_wp2_with (first | (go_at_call 14; (with_reducible refine (D9.out).mono ?_); rintro e v9 ⟨rfl, hL9, hK9⟩; have L9 := Lib.hid hL9; have kR19 := Lib.hid (RO.keepD hK9 L8.out kR18.out); have ka9 := Lib.hid (keepL hK9 L8.out ka8.out (by decide)); have kR69 := Lib.hid (RO.keepD hK9 L8.out kR68.out); have kf9 := Lib.hid (keepL hK9 L8.out kf8.out (by decide)); clear hL9 hK9; refine Hid.out ?_))
      refine Lib.hid ?_
      go_wp2_with (first | (go_at_call 12; (with_reducible refine (NGn.out _ L9.out.below).mono ?_); rintro e xa ⟨rfl, hB⟩; have L10 := Lib.hid (L9.out.old hB); have kR110 := Lib.hid (RO.below kR19.out hB); have ka10 := Lib.hid (blk_below ka9.out hB); have kR610 := Lib.hid (RO.below kR69.out hB); have kf10 := Lib.hid (blk_below kf9.out hB); clear hB; refine Hid.out ?_))
      refine Lib.hid ?_
      go_wp2_with (first | (go_at_call 12; (with_reducible refine (NTn.out _ L10.out.below).mono ?_); rintro e xb ⟨rfl, hB⟩; have L11 := Lib.hid (L10.out.old hB); have kR111 := Lib.hid (RO.below kR110.out hB); have ka11 := Lib.hid (blk_below ka10.out hB); have kR611 := Lib.hid (RO.below kR610.out hB); have kf11 := Lib.hid (blk_below kf10.out hB); clear hB; refine Hid.out ?_))
      refine Lib.hid ?_
      have D12 := Lib.hid (DM2.out  (xb) L11.out (xb.heap.size) rfl)
      go_wp2_with (first | (go_at_call 14; (with_reducible refine (D12.out).mono ?_); rintro e v12 ⟨rfl, hL12, hK12⟩; have L12 := Lib.hid hL12; have kR112 := Lib.hid (RO.keepD hK12 L11.out kR111.out); have ka12 := Lib.hid (keepL hK12 L11.out ka11.out (by decide)); have kR612 := Lib.hid (RO.keepD hK12 L11.out kR611.out); have kf12 := Lib.hid (keepL hK12 L11.out kf11.out (by decide)); clear hL12 hK12; refine Hid.out ?_))
      refine Lib.hid ?_
      have D13 := Lib.hid (DA.out  (v12) L12.out (v12.heap.size) rfl)
      go_wp2_with (first | (go_at_call 14; (with_reducible refine (D13.out).mono ?_); rintro e v13 ⟨A13, m13, c13, rfl, hR13, hL13, hK13⟩; have L13 := Lib.hid hL13; have kR113 := Lib.hid (RO.keepD hK13 L12.out kR112.out); have ka13 := Lib.hid (keepL hK13 L12.out ka12.out (by decide)); have kR613 := Lib.hid (RO.keepD hK13 L12.out kR612.out); have kf13 := Lib.hid (keepL hK13 L12.out kf12.out (by decide)); have kR13 := Lib.hid hR13; clear hL13 hK13 hR13; refine Hid.out ?_))
      refine Lib.hid ?_
      have M13 := Lib.hid (L13.out.old (alloc_old (o := .cells #[.int .i64 6, .int .i64 0, .string ⟨#[]⟩, .slice A13 m13 c13] 29)))
      have mR113 := Lib.hid (RO.below kR113.out (alloc_old (o := .cells #[.int .i64 6, .int .i64 0, .string ⟨#[]⟩, .slice A13 m13 c13] 29)))
      have ma13 := Lib.hid (blk_below ka13.out (alloc_old (o := .cells #[.int .i64 6, .int .i64 0, .string ⟨#[]⟩, .slice A13 m13 c13] 29)))
      have mR613 := Lib.hid (RO.below kR613.out (alloc_old (o := .cells #[.int .i64 6, .int .i64 0, .string ⟨#[]⟩, .slice A13 m13 c13] 29)))
      have mf13 := Lib.hid (blk_below kf13.out (alloc_old (o := .cells #[.int .i64 6, .int .i64 0, .string ⟨#[]⟩, .slice A13 m13 c13] 29)))
      have mR1313 := Lib.hid (RO.below kR13.out (alloc_old (o := .cells #[.int .i64 6, .int .i64 0, .string ⟨#[]⟩, .slice A13 m13 c13] 29)))
      have mm13 := Lib.hid (heap_alloc_new v13 (.cells #[.int .i64 6, .int .i64 0, .string ⟨#[]⟩, .slice A13 m13 c13] 29))
      go_wp2_with (first | (go_at_call 12; (with_reducible refine (NF.out _ M13.out.below).mono ?_); rintro e xe ⟨rfl, hB⟩; have L14 := Lib.hid (M13.out.old hB); have kR114 := Lib.hid (RO.below mR113.out hB); have ka14 := Lib.hid (blk_below ma13.out hB); have kR614 := Lib.hid (RO.below mR613.out hB); have kf14 := Lib.hid (blk_below mf13.out hB); have kR1314 := Lib.hid (RO.below mR1313.out hB); have km14 := Lib.hid (blk_below mm13.out hB); clear hB; refine Hid.out ?_))
      refine Lib.hid ?_
      have D15 := Lib.hid (DF.out  (xe) L14.out (xe.heap.size) rfl)
      go_wp2_with (first | (go_at_call 14; (with_reducible refine (D15.out).mono ?_); rintro e v15 ⟨rfl, hL15, hK15⟩; have L15 := Lib.hid hL15; have kR115 := Lib.hid (RO.keepD hK15 L14.out kR114.out); have ka15 := Lib.hid (keepL hK15 L14.out ka14.out (by decide)); have kR615 := Lib.hid (RO.keepD hK15 L14.out kR614.out); have kf15 := Lib.hid (keepL hK15 L14.out kf14.out (by decide)); have kR1315 := Lib.hid (RO.keepD hK15 L14.out kR1314.out); have km15 := Lib.hid (keepL hK15 L14.out km14.out (by decide)); clear hL15 hK15; refine Hid.out ?_))
      refine Lib.hid ?_
      have D16 := Lib.hid (DS.out  (v15) L15.out (v15.heap.size) rfl)
      go_wp2_with (first | (go_at_call 14; (with_reducible refine (D16.out).mono ?_); rintro e v16 ⟨A16, m16, c16, rfl, hR16, hL16, hK16⟩; have L16 := Lib.hid hL16; have kR116 := Lib.hid (RO.keepD hK16 L15.out kR115.out); have ka16 := Lib.hid (keepL hK16 L15.out ka15.out (by decide)); have kR616 := Lib.hid (RO.keepD hK16 L15.out kR615.out); have kf16 := Lib.hid (keepL hK16 L15.out kf15.out (by decide)); have kR1316 := Lib.hid (RO.keepD hK16 L15.out kR1315.out); have km16 := Lib.hid (keepL hK16 L15.out km15.out (by decide)); have kR16 := Lib.hid hR16; clear hL16 hK16 hR16; refine Hid.out ?_))
      refine Lib.hid ?_
      have M16 := Lib.hid (L16.out.old (alloc_old (o := .cells #[.int .i64 6, .int .i64 0, .string ⟨#[]⟩, .slice A16 m16 c16] 29)))
      have mR116 := Lib.hid (RO.below kR116.out (alloc_old (o := .cells #[.int .i64 6, .int .i64 0, .string ⟨#[]⟩, .slice A16 m16 c16] 29)))
      have ma16 := Lib.hid (blk_below ka16.out (alloc_old (o := .cells #[.int .i64 6, .int .i64 0, .string ⟨#[]⟩, .slice A16 m16 c16] 29)))
      have mR616 := Lib.hid (RO.below kR616.out (alloc_old (o := .cells #[.int .i64 6, .int .i64 0, .string ⟨#[]⟩, .slice A16 m16 c16] 29)))
      have mf16 := Lib.hid (blk_below kf16.out (alloc_old (o := .cells #[.int .i64 6, .int .i64 0, .string ⟨#[]⟩, .slice A16 m16 c16] 29)))
      have mR1316 := Lib.hid (RO.below kR1316.out (alloc_old (o := .cells #[.int .i64 6, .int .i64 0, .string ⟨#[]⟩, .slice A16 m16 c16] 29)))
      have mm16 := Lib.hid (blk_below km16.out (alloc_old (o := .cells #[.int .i64 6, .int .i64 0, .string ⟨#[]⟩, .slice A16 m16 c16] 29)))
      have mR1616 := Lib.hid (RO.below kR16.out (alloc_old (o := .cells #[.int .i64 6, .int .i64 0, .string ⟨#[]⟩, .slice A16 m16 c16] 29)))
      have mp16 := Lib.hid (heap_alloc_new v16 (.cells #[.int .i64 6, .int .i64 0, .string ⟨#[]⟩, .slice A16 m16 c16] 29))
      have D17 := Lib.hid (DU.out  (v16.alloc (.cells #[.int .i64 6, .int .i64 0, .string ⟨#[]⟩, .slice A16 m16 c16] 29)) M16.out (v16.heap.size + 1) (by simp))
      go_wp2_with (first | (go_at_call 14; (with_reducible refine (D17.out).mono ?_); rintro e v17 ⟨rfl, hL17, hK17⟩; have L17 := Lib.hid hL17; have kR117 := Lib.hid (RO.keepD hK17 M16.out mR116.out); have ka17 := Lib.hid (keepL hK17 M16.out ma16.out (by decide)); have kR617 := Lib.hid (RO.keepD hK17 M16.out mR616.out); have kf17 := Lib.hid (keepL hK17 M16.out mf16.out (by decide)); have kR1317 := Lib.hid (RO.keepD hK17 M16.out mR1316.out); have km17 := Lib.hid (keepL hK17 M16.out mm16.out (by decide)); have kR1617 := Lib.hid (RO.keepD hK17 M16.out mR1616.out); have kp17 := Lib.hid (keepL hK17 M16.out mp16.out (by decide)); clear hL17 hK17; refine Hid.out ?_))
      refine Lib.hid ?_
      have D18 := Lib.hid (DV.out  (v17) L17.out (v17.heap.size) rfl)
      go_wp2_with (first | (go_at_call 14; (with_reducible refine (D18.out).mono ?_); rintro e v18 ⟨A18, m18, c18, rfl, hR18, hL18, hK18⟩; have L18 := Lib.hid hL18; have kR118 := Lib.hid (RO.keepD hK18 L17.out kR117.out); have ka18 := Lib.hid (keepL hK18 L17.out ka17.out (by decide)); have kR618 := Lib.hid (RO.keepD hK18 L17.out kR617.out); have kf18 := Lib.hid (keepL hK18 L17.out kf17.out (by decide)); have kR1318 := Lib.hid (RO.keepD hK18 L17.out kR1317.out); have km18 := Lib.hid (keepL hK18 L17.out km17.out (by decide)); have kR1618 := Lib.hid (RO.keepD hK18 L17.out kR1617.out); have kp18 := Lib.hid (keepL hK18 L17.out kp17.out (by decide)); have kR18 := Lib.hid hR18; clear hL18 hK18 hR18; refine Hid.out ?_))
      refine Lib.hid ?_
      have M18 := Lib.hid (L18.out.old (alloc_old (o := .cells #[.int .i64 6, .int .i64 0, .string ⟨#[]⟩, .slice A18 m18 c18] 29)))
      have mR118 := Lib.hid (RO.below kR118.out (alloc_old (o := .cells #[.int .i64 6, .int .i64 0, .string ⟨#[]⟩, .slice A18 m18 c18] 29)))
      have ma18 := Lib.hid (blk_below ka18.out (alloc_old (o := .cells #[.int .i64 6, .int .i64 0, .string ⟨#[]⟩, .slice A18 m18 c18] 29)))
      have mR618 := Lib.hid (RO.below kR618.out (alloc_old (o := .cells #[.int .i64 6, .int .i64 0, .string ⟨#[]⟩, .slice A18 m18 c18] 29)))
      have mf18 := Lib.hid (blk_below kf18.out (alloc_old (o := .cells #[.int .i64 6, .int .i64 0, .string ⟨#[]⟩, .slice A18 m18 c18] 29)))
      have mR1318 := Lib.hid (RO.below kR1318.out (alloc_old (o := .cells #[.int .i64 6, .int .i64 0, .string ⟨#[]⟩, .slice A18 m18 c18] 29)))
      have mm18 := Lib.hid (blk_below km18.out (alloc_old (o := .cells #[.int .i64 6, .int .i64 0, .string ⟨#[]⟩, .slice A18 m18 c18] 29)))
      have mR1618 := Lib.hid (RO.below kR1618.out (alloc_old (o := .cells #[.int .i64 6, .int .i64 0, .string ⟨#[]⟩, .slice A18 m18 c18] 29)))
      have mp18 := Lib.hid (blk_below kp18.out (alloc_old (o := .cells #[.int .i64 6, .int .i64 0, .string ⟨#[]⟩, .slice A18 m18 c18] 29)))
      have mR1818 := Lib.hid (RO.below kR18.out (alloc_old (o := .cells #[.int .i64 6, .int .i64 0, .string ⟨#[]⟩, .slice A18 m18 c18] 29)))
      have mr18 := Lib.hid (heap_alloc_new v18 (.cells #[.int .i64 6, .int .i64 0, .string ⟨#[]⟩, .slice A18 m18 c18] 29))
      go_wp2_with fail
      generalize (v18.alloc (.cells #[.int .i64 6, .int .i64 0, .string ⟨#[]⟩, .slice A18 m18 c18] 29)) = y1 at M18 mR118 ma18 mR618 mf18 mR1318 mm18 mR1618 mp18 mR1818 mr18 ⊢
      obtain ⟨hm1, ⟨g1, rfl⟩, hcc1⟩ := mR118.out.form HZN.out
      have hm1 : N3 = m1 := by rw [hm1, List.length_map]; exact HZL.out.1.symm
      subst hm1
      obtain ⟨hm6, ⟨g6, rfl⟩, hcc6⟩ := mR618.out.form HZN.out
      have hm6 : N3 = m6 := by rw [hm6, List.length_map]; exact HZL.out.1.symm
      subst hm6
      obtain ⟨hm13, ⟨g13, rfl⟩, hcc13⟩ := mR1318.out.form HZN.out
      have hm13 : N3 = m13 := by rw [hm13, List.length_map]; exact HZL.out.1.symm
      subst hm13
      obtain ⟨hm16, ⟨g16, rfl⟩, hcc16⟩ := mR1618.out.form (by simp)
      have hm16 : m16 = 2 := hm16
      subst hm16
      obtain ⟨hm18, ⟨g18, rfl⟩, hcc18⟩ := mR1818.out.form (by simp)
      have hm18 : m18 = 2 := hm18
      subst hm18
      have SX := Lib.hid (show ∀ Y, Below y1.heap.size y1 Y → (Y.cell? ⟨v1.heap.size, 0, none⟩ = some (.int .i64 6) ∧ Y.cell? ⟨v1.heap.size, 1, none⟩ = some (.int .i64 0) ∧ Y.cell? ⟨v1.heap.size, 2, none⟩ = some (.string ⟨#[]⟩) ∧ Y.cell? ⟨v1.heap.size, 3, none⟩ = some (.slice (some ⟨g1, 0, none⟩) N3 c1) ∧ Y.cell? ⟨v6.heap.size, 0, none⟩ = some (.int .i64 6) ∧ Y.cell? ⟨v6.heap.size, 1, none⟩ = some (.int .i64 0) ∧ Y.cell? ⟨v6.heap.size, 2, none⟩ = some (.string ⟨#[]⟩) ∧ Y.cell? ⟨v6.heap.size, 3, none⟩ = some (.slice (some ⟨g6, 0, none⟩) N3 c6) ∧ Y.cell? ⟨v13.heap.size, 0, none⟩ = some (.int .i64 6) ∧ Y.cell? ⟨v13.heap.size, 1, none⟩ = some (.int .i64 0) ∧ Y.cell? ⟨v13.heap.size, 2, none⟩ = some (.string ⟨#[]⟩) ∧ Y.cell? ⟨v13.heap.size, 3, none⟩ = some (.slice (some ⟨g13, 0, none⟩) N3 c13) ∧ Y.cell? ⟨v16.heap.size, 3, none⟩ = some (.slice (some ⟨g16, 0, none⟩) 2 c16) ∧ Y.cell? ⟨v18.heap.size, 3, none⟩ = some (.slice (some ⟨g18, 0, none⟩) 2 c18) ∧ Y.cell? ⟨g16, 2, none⟩ = some (.string (numT p)) ∧ Y.cell? ⟨g16, 6, none⟩ = some (.string (numT r)) ∧ Y.cell? ⟨g18, 2, none⟩ = some (.string (numT (-r))) ∧ Y.cell? ⟨g18, 6, none⟩ = some (.string (numT p))) from fun Y hY => ⟨(cells4 (blk_below ma18.out hY)).1.1, (cells4 (blk_below ma18.out hY)).1.2.1, (cells4 (blk_below ma18.out hY)).1.2.2.1, (cells4 (blk_below ma18.out hY)).1.2.2.2, (cells4 (blk_below mf18.out hY)).1.1, (cells4 (blk_below mf18.out hY)).1.2.1, (cells4 (blk_below mf18.out hY)).1.2.2.1, (cells4 (blk_below mf18.out hY)).1.2.2.2, (cells4 (blk_below mm18.out hY)).1.1, (cells4 (blk_below mm18.out hY)).1.2.1, (cells4 (blk_below mm18.out hY)).1.2.2.1, (cells4 (blk_below mm18.out hY)).1.2.2.2, (cells4 (blk_below mp18.out hY)).1.2.2.2, (cells4 (blk_below mr18.out hY)).1.2.2.2, row_cell (RO.below mR1618.out hY) 2 (.string (numT p)) rfl, row_cell (RO.below mR1618.out hY) 6 (.string (numT r)) rfl, row_cell (RO.below mR1818.out hY) 2 (.string (numT (-r))) rfl, row_cell (RO.below mR1818.out hY) 6 (.string (numT p)) rfl⟩)
      have BY1 := Lib.hid (fun Y (hY : Below y1.heap.size y1 Y) => (M18.out.old hY).below)
      have TLc := Lib.hid (TL.out y1.drew (BY1.out _ (Below.refl _ _).drew))
      have SA := Lib.hid (fun Y (hY : Below y1.heap.size y1 Y) => same_rows zs N3 HZL.out.1 HZL.out.2.1 HZL.out.2.2 _ _ g1 g6 c1 c6 Y (RO.below mR118.out hY) (RO.below mR618.out hY))
      have SB := Lib.hid (fun Y (hY : Below y1.heap.size y1 Y) => same_rows zs N3 HZL.out.1 HZL.out.2.1 HZL.out.2.2 _ _ g1 g13 c1 c13 Y (RO.below mR118.out hY) (RO.below mR1318.out hY))
      obtain ⟨w3n, wfp, wfr, wfn, wfq⟩ := HW.out
      try clear hcc18
      try clear hcc16
      try clear hcc13
      try clear hcc6
      try clear hcc1
      try clear hfd
      try clear HW
      try clear hf
      try clear hg
      try clear ht
      try clear hblt2
      try clear hblt
      try clear n1
      try clear nl
      try clear L0
      try clear HT
      try clear TL
      try clear HL
      try clear HN
      try clear NW
      try clear HQ
      try clear hm18
      try clear hm16
      try clear hm13
      try clear hm6
      try clear hm1
      try clear mr18
      try clear mR1818
      try clear mp18
      try clear mR1618
      try clear mm18
      try clear mR1318
      try clear mf18
      try clear mR618
      try clear ma18
      try clear mR118
      try clear M18
      try clear kp18
      try clear kR1618
      try clear km18
      try clear kR1318
      try clear kf18
      try clear kR618
      try clear ka18
      try clear kR118
      try clear L18
      try clear D18
      try clear kp17
      try clear kR1617
      try clear km17
      try clear kR1317
      try clear kf17
      try clear kR617
      try clear ka17
      try clear kR117
      try clear L17
      try clear D17
      try clear mp16
      try clear mR1616
      try clear mm16
      try clear mR1316
      try clear mf16
      try clear mR616
      try clear ma16
      try clear mR116
      try clear M16
      try clear km16
      try clear kR1316
      try clear kf16
      try clear kR616
      try clear ka16
      try clear kR116
      try clear L16
      try clear D16
      try clear km15
      try clear kR1315
      try clear kf15
      try clear kR615
      try clear ka15
      try clear kR115
      try clear L15
      try clear D15
      try clear km14
      try clear kR1314
      try clear kf14
      try clear kR614
      try clear ka14
      try clear kR114
      try clear L14
      try clear mm13
      try clear mR1313
      try clear mf13
      try clear mR613
      try clear ma13
      try clear mR113
      try clear M13
      try clear kf13
      try clear kR613
      try clear ka13
      try clear kR113
      try clear L13
      try clear D13
      try clear kf12
      try clear kR612
      try clear ka12
      try clear kR112
      try clear L12
      try clear D12
      try clear kf11
      try clear kR611
      try clear ka11
      try clear kR111
      try clear L11
      try clear kf10
      try clear kR610
      try clear ka10
      try clear kR110
      try clear L10
      try clear kf9
      try clear kR69
      try clear ka9
      try clear kR19
      try clear L9
      try clear D9
      try clear kf8
      try clear kR68
      try clear ka8
      try clear kR18
      try clear L8
      try clear kf7
      try clear kR67
      try clear ka7
      try clear kR17
      try clear L7
      try clear mf6
      try clear mR66
      try clear ma6
      try clear mR16
      try clear M6
      try clear kR6
      try clear ka6
      try clear kR16
      try clear L6
      try clear D6
      try clear ka5
      try clear kR15
      try clear L5
      try clear D5
      try clear ka4
      try clear kR14
      try clear L4
      try clear ka3
      try clear kR13
      try clear L3
      try clear D3
      try clear ka2
      try clear kR12
      try clear L2
      try clear ma1
      try clear mR11
      try clear M1
      try clear kR1
      try clear L1
      try clear D1
      try clear HI
      try clear wf2
      try clear wf1
      try clear wtn
      try clear wg
      try clear HW
      try clear HZN
      try clear hzn
      try clear HZL
      try clear h9
      try clear hzl
      try clear DV
      try clear DU
      try clear DS
      try clear DF
      try clear DM2
      try clear DM1
      try clear DT2
      try clear DT1
      try clear DA
      try clear NF
      try clear NGn
      try clear NG
      try clear NTn
      try clear NT
      try clear okf
      try clear oktn
      try clear okt
      try clear okgn
      try clear okg
      try clear hs5
      try clear hs4
      try clear hPu
      try clear hPf
      try clear hPm
      try clear hPt
      try clear hrb
      try clear hpb
      try clear hP1
      try clear hFn
      try clear hFl
      try clear hsb
      try clear hfb
      try clear hgb
      try clear wt2
      try clear wt1
      try clear i0
      dsimp only [List.append]
      refine wp_region_held_drew (S := fun X => X.cell? ⟨v1.heap.size, 0, none⟩ = some (.int .i64 6) ∧ X.cell? ⟨v1.heap.size, 1, none⟩ = some (.int .i64 0) ∧ X.cell? ⟨v1.heap.size, 2, none⟩ = some (.string ⟨#[]⟩) ∧ X.cell? ⟨v1.heap.size, 3, none⟩ = some (.slice (some ⟨g1, 0, none⟩) N3 c1) ∧ X.cell? ⟨v6.heap.size, 0, none⟩ = some (.int .i64 6) ∧ X.cell? ⟨v6.heap.size, 1, none⟩ = some (.int .i64 0) ∧ X.cell? ⟨v6.heap.size, 2, none⟩ = some (.string ⟨#[]⟩) ∧ X.cell? ⟨v6.heap.size, 3, none⟩ = some (.slice (some ⟨g6, 0, none⟩) N3 c6) ∧ X.cell? ⟨v13.heap.size, 0, none⟩ = some (.int .i64 6) ∧ X.cell? ⟨v13.heap.size, 1, none⟩ = some (.int .i64 0) ∧ X.cell? ⟨v13.heap.size, 2, none⟩ = some (.string ⟨#[]⟩) ∧ X.cell? ⟨v13.heap.size, 3, none⟩ = some (.slice (some ⟨g13, 0, none⟩) N3 c13) ∧ X.cell? ⟨v16.heap.size, 3, none⟩ = some (.slice (some ⟨g16, 0, none⟩) 2 c16) ∧ X.cell? ⟨v18.heap.size, 3, none⟩ = some (.slice (some ⟨g18, 0, none⟩) 2 c18) ∧ X.cell? ⟨g16, 2, none⟩ = some (.string (numT p)) ∧ X.cell? ⟨g16, 6, none⟩ = some (.string (numT r)) ∧ X.cell? ⟨g18, 2, none⟩ = some (.string (numT (-r))) ∧ X.cell? ⟨g18, 6, none⟩ = some (.string (numT p))) (by kernel_rfl) (SX.out _ (Below.refl _ _).drew) (fun hH0 => ?_)
      refine wpAnyH_ready (rs := [0]) (by as_aux_lemma => kernel_rfl) (by simp) ?_
      refine AllReadyH.cons rfl (fun K hK => ?_) AllReadyH.nil
      go_simp
      go_at_call 10
      refine (TLc.out).mono ?_
      rintro e z1 ⟨rfl, h1⟩
      have Bz1 := Lib.hid ((Below.refl y1.heap.size y1).drew.trans h1)
      clear h1
      refine hK.out _ _ (SX.out _ Bz1.out) (fun hH1 => ?_)
      clear hK K hH0
      try simp only [Act.put, List.getElem_toArray, List.getElem_cons_zero, List.getElem_cons_succ, List.setIfInBounds_toArray, List.set_cons_zero, List.set_cons_succ]
      refine wpAnyH_take (i := 1) (v := .bool true) rfl (by as_aux_lemma => kernel_rfl) (by as_aux_lemma => kernel_rfl) (by as_aux_lemma => kernel_rfl) (fun _ _ _ h => h) (Or.inl ⟨by kernel_rfl, fun w hSw => by (try dsimp only at hSw); go_simp⟩) hH1 ?_
      try simp only [Act.put, List.getElem_toArray, List.getElem_cons_zero, List.getElem_cons_succ, List.setIfInBounds_toArray, List.set_cons_zero, List.set_cons_succ]
      refine wpAnyH_take (i := 2) (v := .pointer (some ⟨v1.heap.size, 3, none⟩)) rfl (by as_aux_lemma => kernel_rfl) (by as_aux_lemma => kernel_rfl) (by as_aux_lemma => kernel_rfl) (fun _ _ _ h => h) (Or.inl ⟨by kernel_rfl, fun w hSw => by (try dsimp only at hSw); go_simp⟩) hH1 ?_
      try simp only [Act.put, List.getElem_toArray, List.getElem_cons_zero, List.getElem_cons_succ, List.setIfInBounds_toArray, List.set_cons_zero, List.set_cons_succ]
      refine wpAnyH_take (i := 3) (v := .slice (some ⟨g1, 0, none⟩) N3 c1) rfl (by as_aux_lemma => kernel_rfl) (by as_aux_lemma => kernel_rfl) (by as_aux_lemma => kernel_rfl) (fun _ _ _ h => h) (Or.inl ⟨by kernel_rfl, fun w hSw => by (try dsimp only at hSw); go_simp⟩) hH1 ?_
      try simp only [Act.put, List.getElem_toArray, List.getElem_cons_zero, List.getElem_cons_succ, List.setIfInBounds_toArray, List.set_cons_zero, List.set_cons_succ]
      refine wpAnyH_take (i := 4) (v := .int .i64 N3) rfl (by as_aux_lemma => kernel_rfl) (by as_aux_lemma => kernel_rfl) (by as_aux_lemma => kernel_rfl) (fun _ _ _ h => h) (Or.inl ⟨by kernel_rfl, fun w hSw => by (try dsimp only at hSw); go_simp⟩) hH1 ?_
      try simp only [Act.put, List.getElem_toArray, List.getElem_cons_zero, List.getElem_cons_succ, List.setIfInBounds_toArray, List.set_cons_zero, List.set_cons_succ]
      refine wpAnyH_take (i := 5) (v := .slice (some ⟨blk, off, none⟩) i cap) rfl (by as_aux_lemma => kernel_rfl) (by as_aux_lemma => kernel_rfl) (by as_aux_lemma => kernel_rfl) (fun _ _ _ h => h) (Or.inl ⟨by kernel_rfl, fun w hSw => by (try dsimp only at hSw); go_simp⟩) hH1 ?_
      try simp only [Act.put, List.getElem_toArray, List.getElem_cons_zero, List.getElem_cons_succ, List.setIfInBounds_toArray, List.set_cons_zero, List.set_cons_succ]
      refine wpAnyH_take (i := 6) (v := .int .i64 i) rfl (by as_aux_lemma => kernel_rfl) (by as_aux_lemma => kernel_rfl) (by as_aux_lemma => kernel_rfl) (fun _ _ _ h => h) (Or.inl ⟨by kernel_rfl, fun w hSw => by (try dsimp only at hSw); go_simp⟩) hH1 ?_
      try simp only [Act.put, List.getElem_toArray, List.getElem_cons_zero, List.getElem_cons_succ, List.setIfInBounds_toArray, List.set_cons_zero, List.set_cons_succ]
      refine wpAnyH_take (i := 7) (v := .int .i64 N3) rfl (by as_aux_lemma => kernel_rfl) (by as_aux_lemma => kernel_rfl) (by as_aux_lemma => kernel_rfl) (fun _ _ _ h => h) (Or.inl ⟨by kernel_rfl, fun w hSw => by (try dsimp only at hSw); go_simp⟩) hH1 ?_
      try simp only [Act.put, List.getElem_toArray, List.getElem_cons_zero, List.getElem_cons_succ, List.setIfInBounds_toArray, List.set_cons_zero, List.set_cons_succ]
      refine wpAnyH_take (i := 8) (v := .bool true) rfl (by as_aux_lemma => kernel_rfl) (by as_aux_lemma => kernel_rfl) (by as_aux_lemma => kernel_rfl) (fun _ _ _ h => h) (Or.inl ⟨by kernel_rfl, fun w hSw => by (try dsimp only at hSw); go_simp⟩) hH1 ?_
      try simp only [Act.put, List.getElem_toArray, List.getElem_cons_zero, List.getElem_cons_succ, List.setIfInBounds_toArray, List.set_cons_zero, List.set_cons_succ]
      refine wpAnyH_take (i := 9) (v := .bool true) rfl (by as_aux_lemma => kernel_rfl) (by as_aux_lemma => kernel_rfl) (by as_aux_lemma => kernel_rfl) (fun _ _ _ h => h) (Or.inl ⟨by kernel_rfl, fun w hSw => by (try dsimp only at hSw); go_simp⟩) hH1 ?_
      try simp only [Act.put, List.getElem_toArray, List.getElem_cons_zero, List.getElem_cons_succ, List.setIfInBounds_toArray, List.set_cons_zero, List.set_cons_succ]
      refine wpAnyH_take (i := 10) (v := .bool true) rfl (by as_aux_lemma => kernel_rfl) (by as_aux_lemma => kernel_rfl) (by as_aux_lemma => kernel_rfl) (fun _ _ _ h => h) (Or.inl ⟨by kernel_rfl, fun w hSw => by (try dsimp only at hSw); go_simp⟩) hH1 ?_
      try simp only [Act.put, List.getElem_toArray, List.getElem_cons_zero, List.getElem_cons_succ, List.setIfInBounds_toArray, List.set_cons_zero, List.set_cons_succ]
      refine wpAnyH_take (i := 11) (v := .agg #[.int .i64 6, .int .i64 0, .string ⟨#[]⟩, .slice (some ⟨g1, 0, none⟩) N3 c1]) rfl (by as_aux_lemma => kernel_rfl) (by as_aux_lemma => kernel_rfl) (by as_aux_lemma => kernel_rfl) (fun _ _ _ h => h) (Or.inl ⟨by kernel_rfl, fun w hSw => by (try dsimp only at hSw); go_simp⟩) hH1 ?_
      try simp only [Act.put, List.getElem_toArray, List.getElem_cons_zero, List.getElem_cons_succ, List.setIfInBounds_toArray, List.set_cons_zero, List.set_cons_succ]
      refine wpAnyH_take (i := 12) (v := .agg #[.int .i64 6, .int .i64 0, .string ⟨#[]⟩, .slice (some ⟨g6, 0, none⟩) N3 c6]) rfl (by as_aux_lemma => kernel_rfl) (by as_aux_lemma => kernel_rfl) (by as_aux_lemma => kernel_rfl) (fun _ _ _ h => h) (Or.inl ⟨by kernel_rfl, fun w hSw => by (try dsimp only at hSw); go_simp⟩) hH1 ?_
      try simp only [Act.put, List.getElem_toArray, List.getElem_cons_zero, List.getElem_cons_succ, List.setIfInBounds_toArray, List.set_cons_zero, List.set_cons_succ]
      refine wpAnyH_ready (rs := [13]) (by as_aux_lemma => kernel_rfl) (by simp) ?_
      refine AllReadyH.cons rfl (fun K hK => ?_) AllReadyH.nil
      go_simp
      go_at_call 15
      refine (SA.out _ Bz1.out).mono ?_
      rintro e z2 ⟨rfl, h1⟩
      have Bz2 := Lib.hid (Bz1.out.trans (h1.mono (Below.size Bz1.out)))
      clear h1
      refine hK.out _ _ (SX.out _ Bz2.out) (fun hH2 => ?_)
      clear hK K hH1
      try simp only [Act.put, List.getElem_toArray, List.getElem_cons_zero, List.getElem_cons_succ, List.setIfInBounds_toArray, List.set_cons_zero, List.set_cons_succ]
      refine wpAnyH_take (i := 14) (v := .bool true) rfl (by as_aux_lemma => kernel_rfl) (by as_aux_lemma => kernel_rfl) (by as_aux_lemma => kernel_rfl) (fun _ _ _ h => h) (Or.inl ⟨by kernel_rfl, fun w hSw => by (try dsimp only at hSw); go_simp⟩) hH2 ?_
      try simp only [Act.put, List.getElem_toArray, List.getElem_cons_zero, List.getElem_cons_succ, List.setIfInBounds_toArray, List.set_cons_zero, List.set_cons_succ]
      refine wpAnyH_take (i := 15) (v := .bool true) rfl (by as_aux_lemma => kernel_rfl) (by as_aux_lemma => kernel_rfl) (by as_aux_lemma => kernel_rfl) (fun _ _ _ h => h) (Or.inl ⟨by kernel_rfl, fun w hSw => by (try dsimp only at hSw); go_simp⟩) hH2 ?_
      try simp only [Act.put, List.getElem_toArray, List.getElem_cons_zero, List.getElem_cons_succ, List.setIfInBounds_toArray, List.set_cons_zero, List.set_cons_succ]
      refine wpAnyH_take (i := 16) (v := .agg #[.int .i64 6, .int .i64 0, .string ⟨#[]⟩, .slice (some ⟨g1, 0, none⟩) N3 c1]) rfl (by as_aux_lemma => kernel_rfl) (by as_aux_lemma => kernel_rfl) (by as_aux_lemma => kernel_rfl) (fun _ _ _ h => h) (Or.inl ⟨by kernel_rfl, fun w hSw => by (try dsimp only at hSw); go_simp⟩) hH2 ?_
      try simp only [Act.put, List.getElem_toArray, List.getElem_cons_zero, List.getElem_cons_succ, List.setIfInBounds_toArray, List.set_cons_zero, List.set_cons_succ]
      refine wpAnyH_take (i := 17) (v := .agg #[.int .i64 6, .int .i64 0, .string ⟨#[]⟩, .slice (some ⟨g13, 0, none⟩) N3 c13]) rfl (by as_aux_lemma => kernel_rfl) (by as_aux_lemma => kernel_rfl) (by as_aux_lemma => kernel_rfl) (fun _ _ _ h => h) (Or.inl ⟨by kernel_rfl, fun w hSw => by (try dsimp only at hSw); go_simp⟩) hH2 ?_
      try simp only [Act.put, List.getElem_toArray, List.getElem_cons_zero, List.getElem_cons_succ, List.setIfInBounds_toArray, List.set_cons_zero, List.set_cons_succ]
      refine wpAnyH_ready (rs := [18]) (by as_aux_lemma => kernel_rfl) (by simp) ?_
      refine AllReadyH.cons rfl (fun K hK => ?_) AllReadyH.nil
      go_simp
      go_at_call 15
      refine (SB.out _ Bz2.out).mono ?_
      rintro e z3 ⟨rfl, h1⟩
      have Bz3 := Lib.hid (Bz2.out.trans (h1.mono (Below.size Bz2.out)))
      clear h1
      refine hK.out _ _ (SX.out _ Bz3.out) (fun hH3 => ?_)
      clear hK K hH2
      try simp only [Act.put, List.getElem_toArray, List.getElem_cons_zero, List.getElem_cons_succ, List.setIfInBounds_toArray, List.set_cons_zero, List.set_cons_succ]
      refine wpAnyH_take (i := 19) (v := .bool true) rfl (by as_aux_lemma => kernel_rfl) (by as_aux_lemma => kernel_rfl) (by as_aux_lemma => kernel_rfl) (fun _ _ _ h => h) (Or.inl ⟨by kernel_rfl, fun w hSw => by (try dsimp only at hSw); go_simp⟩) hH3 ?_
      try simp only [Act.put, List.getElem_toArray, List.getElem_cons_zero, List.getElem_cons_succ, List.setIfInBounds_toArray, List.set_cons_zero, List.set_cons_succ]
      refine wpAnyH_take (i := 20) (v := .bool true) rfl (by as_aux_lemma => kernel_rfl) (by as_aux_lemma => kernel_rfl) (by as_aux_lemma => kernel_rfl) (fun _ _ _ h => h) (Or.inl ⟨by kernel_rfl, fun w hSw => by (try dsimp only at hSw); go_simp⟩) hH3 ?_
      try simp only [Act.put, List.getElem_toArray, List.getElem_cons_zero, List.getElem_cons_succ, List.setIfInBounds_toArray, List.set_cons_zero, List.set_cons_succ]
      refine wpAnyH_take (i := 21) (v := .pointer (some ⟨v16.heap.size, 3, none⟩)) rfl (by as_aux_lemma => kernel_rfl) (by as_aux_lemma => kernel_rfl) (by as_aux_lemma => kernel_rfl) (fun _ _ _ h => h) (Or.inl ⟨by kernel_rfl, fun w hSw => by (try dsimp only at hSw); go_simp⟩) hH3 ?_
      try simp only [Act.put, List.getElem_toArray, List.getElem_cons_zero, List.getElem_cons_succ, List.setIfInBounds_toArray, List.set_cons_zero, List.set_cons_succ]
      refine wpAnyH_take (i := 22) (v := .slice (some ⟨g16, 0, none⟩) 2 c16) rfl (by as_aux_lemma => kernel_rfl) (by as_aux_lemma => kernel_rfl) (by as_aux_lemma => kernel_rfl) (fun _ _ _ h => h) (Or.inl ⟨by kernel_rfl, fun w hSw => by (try dsimp only at hSw); go_simp⟩) hH3 ?_
      try simp only [Act.put, List.getElem_toArray, List.getElem_cons_zero, List.getElem_cons_succ, List.setIfInBounds_toArray, List.set_cons_zero, List.set_cons_succ]
      refine wpAnyH_take (i := 23) (v := .int .i64 2) rfl (by as_aux_lemma => kernel_rfl) (by as_aux_lemma => kernel_rfl) (by as_aux_lemma => kernel_rfl) (fun _ _ _ h => h) (Or.inl ⟨by kernel_rfl, fun w hSw => by (try dsimp only at hSw); go_simp⟩) hH3 ?_
      try simp only [Act.put, List.getElem_toArray, List.getElem_cons_zero, List.getElem_cons_succ, List.setIfInBounds_toArray, List.set_cons_zero, List.set_cons_succ]
      refine wpAnyH_take (i := 24) (v := .bool true) rfl (by as_aux_lemma => kernel_rfl) (by as_aux_lemma => kernel_rfl) (by as_aux_lemma => kernel_rfl) (fun _ _ _ h => h) (Or.inl ⟨by kernel_rfl, fun w hSw => by (try dsimp only at hSw); go_simp⟩) hH3 ?_
      try simp only [Act.put, List.getElem_toArray, List.getElem_cons_zero, List.getElem_cons_succ, List.setIfInBounds_toArray, List.set_cons_zero, List.set_cons_succ]
      refine wpAnyH_take (i := 25) (v := .bool true) rfl (by as_aux_lemma => kernel_rfl) (by as_aux_lemma => kernel_rfl) (by as_aux_lemma => kernel_rfl) (fun _ _ _ h => h) (Or.inl ⟨by kernel_rfl, fun w hSw => by (try dsimp only at hSw); go_simp⟩) hH3 ?_
      try simp only [Act.put, List.getElem_toArray, List.getElem_cons_zero, List.getElem_cons_succ, List.setIfInBounds_toArray, List.set_cons_zero, List.set_cons_succ]
      refine wpAnyH_take (i := 26) (v := .bool true) rfl (by as_aux_lemma => kernel_rfl) (by as_aux_lemma => kernel_rfl) (by as_aux_lemma => kernel_rfl) (fun _ _ _ h => h) (Or.inl ⟨by kernel_rfl, fun w hSw => by (try dsimp only at hSw); go_simp⟩) hH3 ?_
      try simp only [Act.put, List.getElem_toArray, List.getElem_cons_zero, List.getElem_cons_succ, List.setIfInBounds_toArray, List.set_cons_zero, List.set_cons_succ]
      refine wpAnyH_take (i := 27) (v := .pointer (some ⟨v16.heap.size, 3, none⟩)) rfl (by as_aux_lemma => kernel_rfl) (by as_aux_lemma => kernel_rfl) (by as_aux_lemma => kernel_rfl) (fun _ _ _ h => h) (Or.inl ⟨by kernel_rfl, fun w hSw => by (try dsimp only at hSw); go_simp⟩) hH3 ?_
      try simp only [Act.put, List.getElem_toArray, List.getElem_cons_zero, List.getElem_cons_succ, List.setIfInBounds_toArray, List.set_cons_zero, List.set_cons_succ]
      refine wpAnyH_take (i := 28) (v := .slice (some ⟨g16, 0, none⟩) 2 c16) rfl (by as_aux_lemma => kernel_rfl) (by as_aux_lemma => kernel_rfl) (by as_aux_lemma => kernel_rfl) (fun _ _ _ h => h) (Or.inl ⟨by kernel_rfl, fun w hSw => by (try dsimp only at hSw); go_simp⟩) hH3 ?_
      try simp only [Act.put, List.getElem_toArray, List.getElem_cons_zero, List.getElem_cons_succ, List.setIfInBounds_toArray, List.set_cons_zero, List.set_cons_succ]
      refine wpAnyH_take (i := 29) (v := .pointer (some ⟨g16, 0, none⟩)) rfl (by as_aux_lemma => kernel_rfl) (by as_aux_lemma => kernel_rfl) (by as_aux_lemma => kernel_rfl) (fun _ _ _ h => h) (Or.inl ⟨by kernel_rfl, fun w hSw => by (try dsimp only at hSw); go_simp⟩) hH3 ?_
      try simp only [Act.put, List.getElem_toArray, List.getElem_cons_zero, List.getElem_cons_succ, List.setIfInBounds_toArray, List.set_cons_zero, List.set_cons_succ]
      refine wpAnyH_take (i := 30) (v := .pointer (some ⟨g16, 2, none⟩)) rfl (by as_aux_lemma => kernel_rfl) (by as_aux_lemma => kernel_rfl) (by as_aux_lemma => kernel_rfl) (fun _ _ _ h => h) (Or.inl ⟨by kernel_rfl, fun w hSw => by (try dsimp only at hSw); go_simp⟩) hH3 ?_
      try simp only [Act.put, List.getElem_toArray, List.getElem_cons_zero, List.getElem_cons_succ, List.setIfInBounds_toArray, List.set_cons_zero, List.set_cons_succ]
      refine wpAnyH_take (i := 31) (v := .string (numT p)) rfl (by as_aux_lemma => kernel_rfl) (by as_aux_lemma => kernel_rfl) (by as_aux_lemma => kernel_rfl) (fun _ _ _ h => h) (Or.inl ⟨by kernel_rfl, fun w hSw => by (try dsimp only at hSw); go_simp⟩) hH3 ?_
      try simp only [Act.put, List.getElem_toArray, List.getElem_cons_zero, List.getElem_cons_succ, List.setIfInBounds_toArray, List.set_cons_zero, List.set_cons_succ]
      refine wpAnyH_take (i := 32) (v := .func (.func 12) #[] #[]) rfl (by as_aux_lemma => kernel_rfl) (by as_aux_lemma => kernel_rfl) (by as_aux_lemma => kernel_rfl) (fun _ _ _ h => h) (Or.inl ⟨by kernel_rfl, fun w hSw => by (try dsimp only at hSw); go_simp⟩) hH3 ?_
      try simp only [Act.put, List.getElem_toArray, List.getElem_cons_zero, List.getElem_cons_succ, List.setIfInBounds_toArray, List.set_cons_zero, List.set_cons_succ]
      refine wpAnyH_take (i := 33) (v := .int .i64 f) rfl (by as_aux_lemma => kernel_rfl) (by as_aux_lemma => kernel_rfl) (by as_aux_lemma => kernel_rfl) (fun _ _ _ h => h) (Or.inl ⟨by kernel_rfl, fun w hSw => by (try dsimp only at hSw); go_simp⟩) hH3 ?_
      try simp only [Act.put, List.getElem_toArray, List.getElem_cons_zero, List.getElem_cons_succ, List.setIfInBounds_toArray, List.set_cons_zero, List.set_cons_succ]
      refine wpAnyH_take (i := 34) (v := .int .i64 sx) rfl (by as_aux_lemma => kernel_rfl) (by as_aux_lemma => kernel_rfl) (by as_aux_lemma => kernel_rfl) (fun _ _ _ h => h) (Or.inl ⟨by kernel_rfl, fun w hSw => by (try dsimp only at hSw); go_simp⟩) hH3 ?_
      try simp only [Act.put, List.getElem_toArray, List.getElem_cons_zero, List.getElem_cons_succ, List.setIfInBounds_toArray, List.set_cons_zero, List.set_cons_succ]
      refine wpAnyH_take (i := 35) (v := .int .i64 p) rfl (by as_aux_lemma => kernel_rfl) (by as_aux_lemma => kernel_rfl) (by as_aux_lemma => kernel_rfl) (fun _ _ _ h => h) (Or.inl ⟨by kernel_rfl, fun w hSw => by (try dsimp only at hSw); go_simp⟩) hH3 ?_
      try simp only [Act.put, List.getElem_toArray, List.getElem_cons_zero, List.getElem_cons_succ, List.setIfInBounds_toArray, List.set_cons_zero, List.set_cons_succ]
      refine wpAnyH_ready (rs := [36]) (by as_aux_lemma => kernel_rfl) (by simp) ?_
      refine AllReadyH.cons rfl (fun K hK => ?_) AllReadyH.nil
      go_simp
      go_at_call 12
      refine (NP.out _ (BY1.out _ Bz3.out)).mono ?_
      rintro e z4 ⟨rfl, h1⟩
      have Bz4 := Lib.hid (Bz3.out.trans (h1.mono (Below.size Bz3.out)))
      clear h1
      refine hK.out _ _ (SX.out _ Bz4.out) (fun hH4 => ?_)
      clear hK K hH3
      try simp only [Act.put, List.getElem_toArray, List.getElem_cons_zero, List.getElem_cons_succ, List.setIfInBounds_toArray, List.set_cons_zero, List.set_cons_succ]
      refine wpAnyH_take (i := 37) (v := .bool true) rfl (by as_aux_lemma => kernel_rfl) (by as_aux_lemma => kernel_rfl) (by as_aux_lemma => kernel_rfl) (fun _ _ _ h => h) (Or.inl ⟨by kernel_rfl, fun w hSw => by (try dsimp only at hSw); go_simp⟩) hH4 ?_
      try simp only [Act.put, List.getElem_toArray, List.getElem_cons_zero, List.getElem_cons_succ, List.setIfInBounds_toArray, List.set_cons_zero, List.set_cons_succ]
      refine wpAnyH_take (i := 38) (v := .bool true) rfl (by as_aux_lemma => kernel_rfl) (by as_aux_lemma => kernel_rfl) (by as_aux_lemma => kernel_rfl) (fun _ _ _ h => h) (Or.inl ⟨by kernel_rfl, fun w hSw => by (try dsimp only at hSw); go_simp⟩) hH4 ?_
      try simp only [Act.put, List.getElem_toArray, List.getElem_cons_zero, List.getElem_cons_succ, List.setIfInBounds_toArray, List.set_cons_zero, List.set_cons_succ]
      refine wpAnyH_take (i := 39) (v := .bool true) rfl (by as_aux_lemma => kernel_rfl) (by as_aux_lemma => kernel_rfl) (by as_aux_lemma => kernel_rfl) (fun _ _ _ h => h) (Or.inl ⟨by kernel_rfl, fun w hSw => by (try dsimp only at hSw); go_simp⟩) hH4 ?_
      try simp only [Act.put, List.getElem_toArray, List.getElem_cons_zero, List.getElem_cons_succ, List.setIfInBounds_toArray, List.set_cons_zero, List.set_cons_succ]
      refine wpAnyH_take (i := 40) (v := .pointer (some ⟨v16.heap.size, 3, none⟩)) rfl (by as_aux_lemma => kernel_rfl) (by as_aux_lemma => kernel_rfl) (by as_aux_lemma => kernel_rfl) (fun _ _ _ h => h) (Or.inl ⟨by kernel_rfl, fun w hSw => by (try dsimp only at hSw); go_simp⟩) hH4 ?_
      try simp only [Act.put, List.getElem_toArray, List.getElem_cons_zero, List.getElem_cons_succ, List.setIfInBounds_toArray, List.set_cons_zero, List.set_cons_succ]
      refine wpAnyH_take (i := 41) (v := .slice (some ⟨g16, 0, none⟩) 2 c16) rfl (by as_aux_lemma => kernel_rfl) (by as_aux_lemma => kernel_rfl) (by as_aux_lemma => kernel_rfl) (fun _ _ _ h => h) (Or.inl ⟨by kernel_rfl, fun w hSw => by (try dsimp only at hSw); go_simp⟩) hH4 ?_
      try simp only [Act.put, List.getElem_toArray, List.getElem_cons_zero, List.getElem_cons_succ, List.setIfInBounds_toArray, List.set_cons_zero, List.set_cons_succ]
      refine wpAnyH_take (i := 42) (v := .pointer (some ⟨g16, 4, none⟩)) rfl (by as_aux_lemma => kernel_rfl) (by as_aux_lemma => kernel_rfl) (by as_aux_lemma => kernel_rfl) (fun _ _ _ h => h) (Or.inl ⟨by kernel_rfl, fun w hSw => by (try dsimp only at hSw); go_simp⟩) hH4 ?_
      try simp only [Act.put, List.getElem_toArray, List.getElem_cons_zero, List.getElem_cons_succ, List.setIfInBounds_toArray, List.set_cons_zero, List.set_cons_succ]
      refine wpAnyH_take (i := 43) (v := .pointer (some ⟨g16, 6, none⟩)) rfl (by as_aux_lemma => kernel_rfl) (by as_aux_lemma => kernel_rfl) (by as_aux_lemma => kernel_rfl) (fun _ _ _ h => h) (Or.inl ⟨by kernel_rfl, fun w hSw => by (try dsimp only at hSw); go_simp⟩) hH4 ?_
      try simp only [Act.put, List.getElem_toArray, List.getElem_cons_zero, List.getElem_cons_succ, List.setIfInBounds_toArray, List.set_cons_zero, List.set_cons_succ]
      refine wpAnyH_take (i := 44) (v := .string (numT r)) rfl (by as_aux_lemma => kernel_rfl) (by as_aux_lemma => kernel_rfl) (by as_aux_lemma => kernel_rfl) (fun _ _ _ h => h) (Or.inl ⟨by kernel_rfl, fun w hSw => by (try dsimp only at hSw); go_simp⟩) hH4 ?_
      try simp only [Act.put, List.getElem_toArray, List.getElem_cons_zero, List.getElem_cons_succ, List.setIfInBounds_toArray, List.set_cons_zero, List.set_cons_succ]
      refine wpAnyH_take (i := 45) (v := .func (.func 12) #[] #[]) rfl (by as_aux_lemma => kernel_rfl) (by as_aux_lemma => kernel_rfl) (by as_aux_lemma => kernel_rfl) (fun _ _ _ h => h) (Or.inl ⟨by kernel_rfl, fun w hSw => by (try dsimp only at hSw); go_simp⟩) hH4 ?_
      try simp only [Act.put, List.getElem_toArray, List.getElem_cons_zero, List.getElem_cons_succ, List.setIfInBounds_toArray, List.set_cons_zero, List.set_cons_succ]
      refine wpAnyH_take (i := 46) (v := .int .i64 f) rfl (by as_aux_lemma => kernel_rfl) (by as_aux_lemma => kernel_rfl) (by as_aux_lemma => kernel_rfl) (fun _ _ _ h => h) (Or.inl ⟨by kernel_rfl, fun w hSw => by (try dsimp only at hSw); go_simp⟩) hH4 ?_
      try simp only [Act.put, List.getElem_toArray, List.getElem_cons_zero, List.getElem_cons_succ, List.setIfInBounds_toArray, List.set_cons_zero, List.set_cons_succ]
      refine wpAnyH_take (i := 47) (v := .int .i64 sy) rfl (by as_aux_lemma => kernel_rfl) (by as_aux_lemma => kernel_rfl) (by as_aux_lemma => kernel_rfl) (fun _ _ _ h => h) (Or.inl ⟨by kernel_rfl, fun w hSw => by (try dsimp only at hSw); go_simp⟩) hH4 ?_
      try simp only [Act.put, List.getElem_toArray, List.getElem_cons_zero, List.getElem_cons_succ, List.setIfInBounds_toArray, List.set_cons_zero, List.set_cons_succ]
      refine wpAnyH_take (i := 48) (v := .int .i64 r) rfl (by as_aux_lemma => kernel_rfl) (by as_aux_lemma => kernel_rfl) (by as_aux_lemma => kernel_rfl) (fun _ _ _ h => h) (Or.inl ⟨by kernel_rfl, fun w hSw => by (try dsimp only at hSw); go_simp⟩) hH4 ?_
      try simp only [Act.put, List.getElem_toArray, List.getElem_cons_zero, List.getElem_cons_succ, List.setIfInBounds_toArray, List.set_cons_zero, List.set_cons_succ]
      refine wpAnyH_ready (rs := [49]) (by as_aux_lemma => kernel_rfl) (by simp) ?_
      refine AllReadyH.cons rfl (fun K hK => ?_) AllReadyH.nil
      go_simp
      go_at_call 12
      refine (NR.out _ (BY1.out _ Bz4.out)).mono ?_
      rintro e z5 ⟨rfl, h1⟩
      have Bz5 := Lib.hid (Bz4.out.trans (h1.mono (Below.size Bz4.out)))
      clear h1
      refine hK.out _ _ (SX.out _ Bz5.out) (fun hH5 => ?_)
      clear hK K hH4
      try simp only [Act.put, List.getElem_toArray, List.getElem_cons_zero, List.getElem_cons_succ, List.setIfInBounds_toArray, List.set_cons_zero, List.set_cons_succ]
      refine wpAnyH_take (i := 50) (v := .bool true) rfl (by as_aux_lemma => kernel_rfl) (by as_aux_lemma => kernel_rfl) (by as_aux_lemma => kernel_rfl) (fun _ _ _ h => h) (Or.inl ⟨by kernel_rfl, fun w hSw => by (try dsimp only at hSw); go_simp⟩) hH5 ?_
      try simp only [Act.put, List.getElem_toArray, List.getElem_cons_zero, List.getElem_cons_succ, List.setIfInBounds_toArray, List.set_cons_zero, List.set_cons_succ]
      refine wpAnyH_take (i := 51) (v := .bool true) rfl (by as_aux_lemma => kernel_rfl) (by as_aux_lemma => kernel_rfl) (by as_aux_lemma => kernel_rfl) (fun _ _ _ h => h) (Or.inl ⟨by kernel_rfl, fun w hSw => by (try dsimp only at hSw); go_simp⟩) hH5 ?_
      try simp only [Act.put, List.getElem_toArray, List.getElem_cons_zero, List.getElem_cons_succ, List.setIfInBounds_toArray, List.set_cons_zero, List.set_cons_succ]
      refine wpAnyH_take (i := 52) (v := .bool true) rfl (by as_aux_lemma => kernel_rfl) (by as_aux_lemma => kernel_rfl) (by as_aux_lemma => kernel_rfl) (fun _ _ _ h => h) (Or.inl ⟨by kernel_rfl, fun w hSw => by (try dsimp only at hSw); go_simp⟩) hH5 ?_
      try simp only [Act.put, List.getElem_toArray, List.getElem_cons_zero, List.getElem_cons_succ, List.setIfInBounds_toArray, List.set_cons_zero, List.set_cons_succ]
      refine wpAnyH_take (i := 53) (v := .pointer (some ⟨v18.heap.size, 3, none⟩)) rfl (by as_aux_lemma => kernel_rfl) (by as_aux_lemma => kernel_rfl) (by as_aux_lemma => kernel_rfl) (fun _ _ _ h => h) (Or.inl ⟨by kernel_rfl, fun w hSw => by (try dsimp only at hSw); go_simp⟩) hH5 ?_
      try simp only [Act.put, List.getElem_toArray, List.getElem_cons_zero, List.getElem_cons_succ, List.setIfInBounds_toArray, List.set_cons_zero, List.set_cons_succ]
      refine wpAnyH_take (i := 54) (v := .slice (some ⟨g18, 0, none⟩) 2 c18) rfl (by as_aux_lemma => kernel_rfl) (by as_aux_lemma => kernel_rfl) (by as_aux_lemma => kernel_rfl) (fun _ _ _ h => h) (Or.inl ⟨by kernel_rfl, fun w hSw => by (try dsimp only at hSw); go_simp⟩) hH5 ?_
      try simp only [Act.put, List.getElem_toArray, List.getElem_cons_zero, List.getElem_cons_succ, List.setIfInBounds_toArray, List.set_cons_zero, List.set_cons_succ]
      refine wpAnyH_take (i := 55) (v := .int .i64 2) rfl (by as_aux_lemma => kernel_rfl) (by as_aux_lemma => kernel_rfl) (by as_aux_lemma => kernel_rfl) (fun _ _ _ h => h) (Or.inl ⟨by kernel_rfl, fun w hSw => by (try dsimp only at hSw); go_simp⟩) hH5 ?_
      try simp only [Act.put, List.getElem_toArray, List.getElem_cons_zero, List.getElem_cons_succ, List.setIfInBounds_toArray, List.set_cons_zero, List.set_cons_succ]
      refine wpAnyH_take (i := 56) (v := .bool true) rfl (by as_aux_lemma => kernel_rfl) (by as_aux_lemma => kernel_rfl) (by as_aux_lemma => kernel_rfl) (fun _ _ _ h => h) (Or.inl ⟨by kernel_rfl, fun w hSw => by (try dsimp only at hSw); go_simp⟩) hH5 ?_
      try simp only [Act.put, List.getElem_toArray, List.getElem_cons_zero, List.getElem_cons_succ, List.setIfInBounds_toArray, List.set_cons_zero, List.set_cons_succ]
      refine wpAnyH_take (i := 57) (v := .bool true) rfl (by as_aux_lemma => kernel_rfl) (by as_aux_lemma => kernel_rfl) (by as_aux_lemma => kernel_rfl) (fun _ _ _ h => h) (Or.inl ⟨by kernel_rfl, fun w hSw => by (try dsimp only at hSw); go_simp⟩) hH5 ?_
      try simp only [Act.put, List.getElem_toArray, List.getElem_cons_zero, List.getElem_cons_succ, List.setIfInBounds_toArray, List.set_cons_zero, List.set_cons_succ]
      refine wpAnyH_take (i := 58) (v := .bool true) rfl (by as_aux_lemma => kernel_rfl) (by as_aux_lemma => kernel_rfl) (by as_aux_lemma => kernel_rfl) (fun _ _ _ h => h) (Or.inl ⟨by kernel_rfl, fun w hSw => by (try dsimp only at hSw); go_simp⟩) hH5 ?_
      try simp only [Act.put, List.getElem_toArray, List.getElem_cons_zero, List.getElem_cons_succ, List.setIfInBounds_toArray, List.set_cons_zero, List.set_cons_succ]
      refine wpAnyH_take (i := 59) (v := .pointer (some ⟨v18.heap.size, 3, none⟩)) rfl (by as_aux_lemma => kernel_rfl) (by as_aux_lemma => kernel_rfl) (by as_aux_lemma => kernel_rfl) (fun _ _ _ h => h) (Or.inl ⟨by kernel_rfl, fun w hSw => by (try dsimp only at hSw); go_simp⟩) hH5 ?_
      try simp only [Act.put, List.getElem_toArray, List.getElem_cons_zero, List.getElem_cons_succ, List.setIfInBounds_toArray, List.set_cons_zero, List.set_cons_succ]
      refine wpAnyH_take (i := 60) (v := .slice (some ⟨g18, 0, none⟩) 2 c18) rfl (by as_aux_lemma => kernel_rfl) (by as_aux_lemma => kernel_rfl) (by as_aux_lemma => kernel_rfl) (fun _ _ _ h => h) (Or.inl ⟨by kernel_rfl, fun w hSw => by (try dsimp only at hSw); go_simp⟩) hH5 ?_
      try simp only [Act.put, List.getElem_toArray, List.getElem_cons_zero, List.getElem_cons_succ, List.setIfInBounds_toArray, List.set_cons_zero, List.set_cons_succ]
      refine wpAnyH_take (i := 61) (v := .pointer (some ⟨g18, 0, none⟩)) rfl (by as_aux_lemma => kernel_rfl) (by as_aux_lemma => kernel_rfl) (by as_aux_lemma => kernel_rfl) (fun _ _ _ h => h) (Or.inl ⟨by kernel_rfl, fun w hSw => by (try dsimp only at hSw); go_simp⟩) hH5 ?_
      try simp only [Act.put, List.getElem_toArray, List.getElem_cons_zero, List.getElem_cons_succ, List.setIfInBounds_toArray, List.set_cons_zero, List.set_cons_succ]
      refine wpAnyH_take (i := 62) (v := .pointer (some ⟨g18, 2, none⟩)) rfl (by as_aux_lemma => kernel_rfl) (by as_aux_lemma => kernel_rfl) (by as_aux_lemma => kernel_rfl) (fun _ _ _ h => h) (Or.inl ⟨by kernel_rfl, fun w hSw => by (try dsimp only at hSw); go_simp⟩) hH5 ?_
      try simp only [Act.put, List.getElem_toArray, List.getElem_cons_zero, List.getElem_cons_succ, List.setIfInBounds_toArray, List.set_cons_zero, List.set_cons_succ]
      refine wpAnyH_take (i := 63) (v := .string (numT (-r))) rfl (by as_aux_lemma => kernel_rfl) (by as_aux_lemma => kernel_rfl) (by as_aux_lemma => kernel_rfl) (fun _ _ _ h => h) (Or.inl ⟨by kernel_rfl, fun w hSw => by (try dsimp only at hSw); go_simp⟩) hH5 ?_
      try simp only [Act.put, List.getElem_toArray, List.getElem_cons_zero, List.getElem_cons_succ, List.setIfInBounds_toArray, List.set_cons_zero, List.set_cons_succ]
      refine wpAnyH_take (i := 64) (v := .func (.func 12) #[] #[]) rfl (by as_aux_lemma => kernel_rfl) (by as_aux_lemma => kernel_rfl) (by as_aux_lemma => kernel_rfl) (fun _ _ _ h => h) (Or.inl ⟨by kernel_rfl, fun w hSw => by (try dsimp only at hSw); go_simp⟩) hH5 ?_
      try simp only [Act.put, List.getElem_toArray, List.getElem_cons_zero, List.getElem_cons_succ, List.setIfInBounds_toArray, List.set_cons_zero, List.set_cons_succ]
      refine wpAnyH_take (i := 65) (v := .int .i64 f) rfl (by as_aux_lemma => kernel_rfl) (by as_aux_lemma => kernel_rfl) (by as_aux_lemma => kernel_rfl) (fun _ _ _ h => h) (Or.inl ⟨by kernel_rfl, fun w hSw => by (try dsimp only at hSw); go_simp⟩) hH5 ?_
      try simp only [Act.put, List.getElem_toArray, List.getElem_cons_zero, List.getElem_cons_succ, List.setIfInBounds_toArray, List.set_cons_zero, List.set_cons_succ]
      refine wpAnyH_take (i := 66) (v := .int .i64 (-f)) rfl (by as_aux_lemma => kernel_rfl) (by as_aux_lemma => kernel_rfl) (by as_aux_lemma => kernel_rfl) (fun _ _ _ h => h) (Or.inl ⟨by kernel_rfl, fun w hSw => by (try dsimp only at hSw); go_simp⟩) hH5 ?_
      try simp only [Act.put, List.getElem_toArray, List.getElem_cons_zero, List.getElem_cons_succ, List.setIfInBounds_toArray, List.set_cons_zero, List.set_cons_succ]
      refine wpAnyH_take (i := 67) (v := .int .i64 sy) rfl (by as_aux_lemma => kernel_rfl) (by as_aux_lemma => kernel_rfl) (by as_aux_lemma => kernel_rfl) (fun _ _ _ h => h) (Or.inl ⟨by kernel_rfl, fun w hSw => by (try dsimp only at hSw); go_simp⟩) hH5 ?_
      try simp only [Act.put, List.getElem_toArray, List.getElem_cons_zero, List.getElem_cons_succ, List.setIfInBounds_toArray, List.set_cons_zero, List.set_cons_succ]
      refine wpAnyH_take (i := 68) (v := .int .i64 (-r)) rfl (by as_aux_lemma => kernel_rfl) (by as_aux_lemma => kernel_rfl) (by as_aux_lemma => kernel_rfl) (fun _ _ _ h => h) (Or.inl ⟨by kernel_rfl, fun w hSw => by (try dsimp only at hSw); go_simp⟩) hH5 ?_
      try simp only [Act.put, List.getElem_toArray, List.getElem_cons_zero, List.getElem_cons_succ, List.setIfInBounds_toArray, List.set_cons_zero, List.set_cons_succ]
      refine wpAnyH_ready (rs := [69]) (by as_aux_lemma => kernel_rfl) (by simp) ?_
      refine AllReadyH.cons rfl (fun K hK => ?_) AllReadyH.nil
      go_simp
      go_at_call 12
      refine (NRn.out _ (BY1.out _ Bz5.out)).mono ?_
      rintro e z6 ⟨rfl, h1⟩
      have Bz6 := Lib.hid (Bz5.out.trans (h1.mono (Below.size Bz5.out)))
      clear h1
      refine hK.out _ _ (SX.out _ Bz6.out) (fun hH6 => ?_)
      clear hK K hH5
      try simp only [Act.put, List.getElem_toArray, List.getElem_cons_zero, List.getElem_cons_succ, List.setIfInBounds_toArray, List.set_cons_zero, List.set_cons_succ]
      refine wpAnyH_take (i := 70) (v := .bool true) rfl (by as_aux_lemma => kernel_rfl) (by as_aux_lemma => kernel_rfl) (by as_aux_lemma => kernel_rfl) (fun _ _ _ h => h) (Or.inl ⟨by kernel_rfl, fun w hSw => by (try dsimp only at hSw); go_simp⟩) hH6 ?_
      try simp only [Act.put, List.getElem_toArray, List.getElem_cons_zero, List.getElem_cons_succ, List.setIfInBounds_toArray, List.set_cons_zero, List.set_cons_succ]
      refine wpAnyH_take (i := 71) (v := .bool true) rfl (by as_aux_lemma => kernel_rfl) (by as_aux_lemma => kernel_rfl) (by as_aux_lemma => kernel_rfl) (fun _ _ _ h => h) (Or.inl ⟨by kernel_rfl, fun w hSw => by (try dsimp only at hSw); go_simp⟩) hH6 ?_
      try simp only [Act.put, List.getElem_toArray, List.getElem_cons_zero, List.getElem_cons_succ, List.setIfInBounds_toArray, List.set_cons_zero, List.set_cons_succ]
      refine wpAnyH_take (i := 72) (v := .bool true) rfl (by as_aux_lemma => kernel_rfl) (by as_aux_lemma => kernel_rfl) (by as_aux_lemma => kernel_rfl) (fun _ _ _ h => h) (Or.inl ⟨by kernel_rfl, fun w hSw => by (try dsimp only at hSw); go_simp⟩) hH6 ?_
      try simp only [Act.put, List.getElem_toArray, List.getElem_cons_zero, List.getElem_cons_succ, List.setIfInBounds_toArray, List.set_cons_zero, List.set_cons_succ]
      refine wpAnyH_take (i := 73) (v := .pointer (some ⟨v18.heap.size, 3, none⟩)) rfl (by as_aux_lemma => kernel_rfl) (by as_aux_lemma => kernel_rfl) (by as_aux_lemma => kernel_rfl) (fun _ _ _ h => h) (Or.inl ⟨by kernel_rfl, fun w hSw => by (try dsimp only at hSw); go_simp⟩) hH6 ?_
      try simp only [Act.put, List.getElem_toArray, List.getElem_cons_zero, List.getElem_cons_succ, List.setIfInBounds_toArray, List.set_cons_zero, List.set_cons_succ]
      refine wpAnyH_take (i := 74) (v := .slice (some ⟨g18, 0, none⟩) 2 c18) rfl (by as_aux_lemma => kernel_rfl) (by as_aux_lemma => kernel_rfl) (by as_aux_lemma => kernel_rfl) (fun _ _ _ h => h) (Or.inl ⟨by kernel_rfl, fun w hSw => by (try dsimp only at hSw); go_simp⟩) hH6 ?_
      try simp only [Act.put, List.getElem_toArray, List.getElem_cons_zero, List.getElem_cons_succ, List.setIfInBounds_toArray, List.set_cons_zero, List.set_cons_succ]
      refine wpAnyH_take (i := 75) (v := .pointer (some ⟨g18, 4, none⟩)) rfl (by as_aux_lemma => kernel_rfl) (by as_aux_lemma => kernel_rfl) (by as_aux_lemma => kernel_rfl) (fun _ _ _ h => h) (Or.inl ⟨by kernel_rfl, fun w hSw => by (try dsimp only at hSw); go_simp⟩) hH6 ?_
      try simp only [Act.put, List.getElem_toArray, List.getElem_cons_zero, List.getElem_cons_succ, List.setIfInBounds_toArray, List.set_cons_zero, List.set_cons_succ]
      refine wpAnyH_take (i := 76) (v := .pointer (some ⟨g18, 6, none⟩)) rfl (by as_aux_lemma => kernel_rfl) (by as_aux_lemma => kernel_rfl) (by as_aux_lemma => kernel_rfl) (fun _ _ _ h => h) (Or.inl ⟨by kernel_rfl, fun w hSw => by (try dsimp only at hSw); go_simp⟩) hH6 ?_
      try simp only [Act.put, List.getElem_toArray, List.getElem_cons_zero, List.getElem_cons_succ, List.setIfInBounds_toArray, List.set_cons_zero, List.set_cons_succ]
      refine wpAnyH_take (i := 77) (v := .string (numT p)) rfl (by as_aux_lemma => kernel_rfl) (by as_aux_lemma => kernel_rfl) (by as_aux_lemma => kernel_rfl) (fun _ _ _ h => h) (Or.inl ⟨by kernel_rfl, fun w hSw => by (try dsimp only at hSw); go_simp⟩) hH6 ?_
      try simp only [Act.put, List.getElem_toArray, List.getElem_cons_zero, List.getElem_cons_succ, List.setIfInBounds_toArray, List.set_cons_zero, List.set_cons_succ]
      refine wpAnyH_take (i := 78) (v := .func (.func 12) #[] #[]) rfl (by as_aux_lemma => kernel_rfl) (by as_aux_lemma => kernel_rfl) (by as_aux_lemma => kernel_rfl) (fun _ _ _ h => h) (Or.inl ⟨by kernel_rfl, fun w hSw => by (try dsimp only at hSw); go_simp⟩) hH6 ?_
      try simp only [Act.put, List.getElem_toArray, List.getElem_cons_zero, List.getElem_cons_succ, List.setIfInBounds_toArray, List.set_cons_zero, List.set_cons_succ]
      refine wpAnyH_take (i := 79) (v := .int .i64 f) rfl (by as_aux_lemma => kernel_rfl) (by as_aux_lemma => kernel_rfl) (by as_aux_lemma => kernel_rfl) (fun _ _ _ h => h) (Or.inl ⟨by kernel_rfl, fun w hSw => by (try dsimp only at hSw); go_simp⟩) hH6 ?_
      try simp only [Act.put, List.getElem_toArray, List.getElem_cons_zero, List.getElem_cons_succ, List.setIfInBounds_toArray, List.set_cons_zero, List.set_cons_succ]
      refine wpAnyH_take (i := 80) (v := .int .i64 sx) rfl (by as_aux_lemma => kernel_rfl) (by as_aux_lemma => kernel_rfl) (by as_aux_lemma => kernel_rfl) (fun _ _ _ h => h) (Or.inl ⟨by kernel_rfl, fun w hSw => by (try dsimp only at hSw); go_simp⟩) hH6 ?_
      try simp only [Act.put, List.getElem_toArray, List.getElem_cons_zero, List.getElem_cons_succ, List.setIfInBounds_toArray, List.set_cons_zero, List.set_cons_succ]
      refine wpAnyH_take (i := 81) (v := .int .i64 p) rfl (by as_aux_lemma => kernel_rfl) (by as_aux_lemma => kernel_rfl) (by as_aux_lemma => kernel_rfl) (fun _ _ _ h => h) (Or.inl ⟨by kernel_rfl, fun w hSw => by (try dsimp only at hSw); go_simp⟩) hH6 ?_
      try simp only [Act.put, List.getElem_toArray, List.getElem_cons_zero, List.getElem_cons_succ, List.setIfInBounds_toArray, List.set_cons_zero, List.set_cons_succ]
      refine wpAnyH_ready (rs := [82]) (by as_aux_lemma => kernel_rfl) (by simp) ?_
      refine AllReadyH.cons rfl (fun K hK => ?_) AllReadyH.nil
      go_simp
      go_at_call 12
      refine (NP.out _ (BY1.out _ Bz6.out)).mono ?_
      rintro e z7 ⟨rfl, h1⟩
      have Bz7 := Lib.hid (Bz6.out.trans (h1.mono (Below.size Bz6.out)))
      clear h1
      refine hK.out _ _ (SX.out _ Bz7.out) (fun hH7 => ?_)
      clear hK K hH6
      try simp only [Act.put, List.getElem_toArray, List.getElem_cons_zero, List.getElem_cons_succ, List.setIfInBounds_toArray, List.set_cons_zero, List.set_cons_succ]
      refine wpAnyH_take (i := 83) (v := .bool true) rfl (by as_aux_lemma => kernel_rfl) (by as_aux_lemma => kernel_rfl) (by as_aux_lemma => kernel_rfl) (fun _ _ _ h => h) (Or.inl ⟨by kernel_rfl, fun w hSw => by (try dsimp only at hSw); go_simp⟩) hH7 ?_
      try simp only [Act.put, List.getElem_toArray, List.getElem_cons_zero, List.getElem_cons_succ, List.setIfInBounds_toArray, List.set_cons_zero, List.set_cons_succ]
      refine wpAnyH_take (i := 84) (v := .bool true) rfl (by as_aux_lemma => kernel_rfl) (by as_aux_lemma => kernel_rfl) (by as_aux_lemma => kernel_rfl) (fun _ _ _ h => h) (Or.inl ⟨by kernel_rfl, fun w hSw => by (try dsimp only at hSw); go_simp⟩) hH7 ?_
      try simp only [Act.put, List.getElem_toArray, List.getElem_cons_zero, List.getElem_cons_succ, List.setIfInBounds_toArray, List.set_cons_zero, List.set_cons_succ]
      refine wpAnyH_take (i := 85) (v := .bool true) rfl (by as_aux_lemma => kernel_rfl) (by as_aux_lemma => kernel_rfl) (by as_aux_lemma => kernel_rfl) (fun _ _ _ h => h) (Or.inl ⟨by kernel_rfl, fun w hSw => by (try dsimp only at hSw); go_simp⟩) hH7 ?_
      try simp only [Act.put, List.getElem_toArray, List.getElem_cons_zero, List.getElem_cons_succ, List.setIfInBounds_toArray, List.set_cons_zero, List.set_cons_succ]
      refine wpAnyH_done (by as_aux_lemma => kernel_rfl) ?_ _
      go_wp2
      go_ret
      exact ⟨by first | rfl | kernel_rfl | simp, BY1.out _ Bz7.out⟩
end Go.Proofs.YticlacjpgjkhcaaGreatDoor
