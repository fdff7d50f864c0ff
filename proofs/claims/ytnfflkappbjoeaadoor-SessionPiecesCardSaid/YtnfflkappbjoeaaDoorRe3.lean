/- The contract of resp.Read for every row of bytes that is not empty. -/
import Derived.Test.YtnfflkappbjoeaaDoorRe2
import Derived.OwnWalk
import Derived.Maps.AppendAt
import Derived.Laws.IdiomStrings
namespace Go.Proofs.YtnfflkappbjoeaaDoor
open Go.ChangeShapes Go.WideShapes Go.ChangeAt Go.RowKit Go.Resp

theorem Tryd.info9 : (Tryd.prog.info? 9).map (fun i => (i.zero, i.size, i.bytes)) = some (some (.string ByteArray.empty), 1, 16) := by kernel_rfl
theorem readS_bad {l : List UInt8} {m p q st : Nat} {sz : Int} {out : List (List UInt8)} (h : numL l p 36 0 16384 = (sz, q, st)) (hst : ¬ st = 0) : readS l (m + 1) p out = ([], 0, st) := by
  unfold readS; simp only [h]; rw [if_pos hst]
theorem readS_short {l : List UInt8} {m p q : Nat} {sz : Int} {out : List (List UInt8)} (h : numL l p 36 0 16384 = (sz, q, 0)) (hs : l.length < q + sz.toNat + 2) :
    readS l (m + 1) p out = if l.length = q + sz.toNat + 1 ∧ (l.getD (q + sz.toNat) 0).toNat ≠ 13 then ([], 0, 2) else ([], 0, 1) := by
  unfold readS; simp only [h]; rw [if_neg (by simp), if_pos hs]
theorem readS_mark {l : List UInt8} {m p q : Nat} {sz : Int} {out : List (List UInt8)} (h : numL l p 36 0 16384 = (sz, q, 0)) (hs : ¬ l.length < q + sz.toNat + 2) (hm : (l.getD (q + sz.toNat) 0).toNat ≠ 13 ∨ (l.getD (q + sz.toNat + 1) 0).toNat ≠ 10) :
    readS l (m + 1) p out = ([], 0, 2) := by
  unfold readS; simp only [h]; rw [if_neg (by simp), if_neg hs, if_pos hm]
theorem readS_next {l : List UInt8} {m p q : Nat} {sz : Int} {out : List (List UInt8)} (h : numL l p 36 0 16384 = (sz, q, 0)) (hs : ¬ l.length < q + sz.toNat + 2) (hm : ¬ ((l.getD (q + sz.toNat) 0).toNat ≠ 13 ∨ (l.getD (q + sz.toNat + 1) 0).toNat ≠ 10)) :
    readS l (m + 1) p out = readS l m (q + sz.toNat + 2) (out ++ [(l.drop q).take sz.toNat]) := by
  conv => lhs; unfold readS
  simp only [h]; rw [if_neg (by simp), if_neg hs, if_neg hm]
theorem getD_of {l : List UInt8} {i : Nat} {c : UInt8} (h : l[i]? = some c) : l.getD i 0 = c := by rw [List.getD, h]; rfl

/-- Read's loop, at a round's head. -/
def AtRound (sl : Value) (B : Nat) (w0 : World) (l : List UInt8) (N : Nat) (a' : Act) (wr : World) : Prop := ∃ (k p : Nat) (out : List (List UInt8)) (o : Value), k ≤ N ∧ p ≤ l.length ∧ out.length = k ∧ readS l (N - k) p out = readT l ∧
  wr.ownsRow B 9 1 o out.length (out.map strV) ∧ Below B w0 wr ∧ a'.defers = [] ∧ a'.tmps.size = 87 ∧ a'.tmps.getD 0 undef = sl ∧ a'.tmps.getD 1 undef = undef ∧ a'.tmps.getD 2 undef = .slice none 0 0 ∧ a'.tmps.getD 3 undef = .int .i64 0 ∧ a'.tmps.getD 4 undef = .int .i64 0 ∧
  a'.tmps.getD 5 undef = o ∧ a'.tmps.getD 6 undef = .int .i64 (p : Int) ∧ a'.tmps.getD 19 undef = .int .i64 (N : Int) ∧ a'.tmps.getD 20 undef = .int .i64 (k : Int)
theorem AtRound.open_ {sl : Value} {B : Nat} {w0 : World} {l : List UInt8} {N : Nat} {a' : Act} {wr : World} (h : AtRound sl B w0 l N a' wr) : ∃ (k p : Nat) (out : List (List UInt8)) (o : Value) (f : Nat → Value), k ≤ N ∧ p ≤ l.length ∧ out.length = k ∧ readS l (N - k) p out = readT l ∧
    wr.ownsRow B 9 1 o out.length (out.map strV) ∧ Below B w0 wr ∧ a' = { tmps := #[sl, undef, .slice none 0 0, .int .i64 0, .int .i64 0, o, .int .i64 (p : Int), f 7, f 8, f 9, f 10, f 11, f 12, f 13, f 14, f 15, f 16, f 17, f 18, .int .i64 (N : Int), .int .i64 (k : Int), f 21, f 22, f 23, f 24, f 25, f 26, f 27, f 28, f 29, f 30, f 31, f 32, f 33, f 34, f 35, f 36, f 37, f 38, f 39, f 40, f 41, f 42, f 43, f 44, f 45, f 46, f 47, f 48, f 49, f 50, f 51, f 52, f 53, f 54, f 55, f 56, f 57, f 58, f 59, f 60, f 61, f 62, f 63, f 64, f 65, f 66, f 67, f 68, f 69, f 70, f 71, f 72, f 73, f 74, f 75, f 76, f 77, f 78, f 79, f 80, f 81, f 82, f 83, f 84, f 85, f 86], defers := [] } := by
  obtain ⟨k, p, out, o, h1, h2, h3, h4, h5, h6, hd, hs, e0, e1, e2, e3, e4, e5, e6, e19, e20⟩ := h
  refine ⟨k, p, out, o, fun i => a'.tmps.getD i undef, h1, h2, h3, h4, h5, h6, ?_⟩
  have ht := tmps_fn a'.tmps 87 hs
  rw [tmps87] at ht
  obtain ⟨t, d⟩ := a'
  simp only at *
  subst hd
  congr 1
  rw [e0, e1, e2, e3, e4, e5, e6, e19, e20] at ht
  exact ht

set_option maxRecDepth 100000 in
set_option maxHeartbeats 20000000 in
theorem read_some (blk off : Nat) (l : List UInt8) (cap : Nat) (hcap : l.length ≤ cap) (hmaxc : cap ≤ maxLen) (w : World) (hblk : blk < w.heap.size) (hB : Bytes w blk off l) :
    Calls Tryd.prog 18 #[.slice (some ⟨blk, off, none⟩) l.length cap] w (Back w.heap.size w l) := by
  unfold maxLen at hmaxc
  have hmaxl : l.length ≤ maxLen := by unfold maxLen; omega
  have C := number_any blk off l cap 0 hmaxl 0 42 1 1024 (by omega) (by omega) rfl (Nat.zero_le _) w hB
  have hbd := numL_bd l 0 (Nat.zero_le _) 42 1 1024 (by omega)
  obtain ⟨i0, hi, hz0, hz1, hz2⟩ := info_parts Tryd.info9
  cases hR : numL l 0 42 1 1024 with
  | mk n r =>
  obtain ⟨p, st⟩ := r
  rw [hR] at C hbd
  obtain ⟨n0, n1, p1, st2⟩ := hbd
  simp only at n0 n1 p1 st2
  rw [show num3 (n, p, st) = .tuple #[.int .i64 n, .int .i64 (p : Int), .int .i64 (st : Int)] from rfl] at C
  have C' := Lib.hid C
  clear C
  have hbel := Below.refl w.heap.size w
  have HB0 := Lib.hid hB
  have HI := Lib.hid (And.intro hi (And.intro hz0 (And.intro hz1 hz2)))
  clear hB hi hz0 hz1 hz2
  by_cases hst : st = 0
  · subst hst
    have hread : readT l = readS l n.toNat p [] := by unfold readT; simp only [hR]; rw [if_neg (by simp)]
    obtain ⟨N, rfl⟩ := Int.eq_ofNat_of_zero_le n0
    rw [Int.toNat_natCast] at hread
    have HREAD := Lib.hid hread
    clear hread hR
    go_enter Tryd.func18, Tryd.ntmps18
    go_wp2
    refine wp_scope_jumps 0 (AtEnd (.slice (some ⟨blk, off, none⟩) l.length cap) w.heap.size w l) (fun _ _ => 0) rfl ?_ ?_
    · go_wp2_with (go_at_call 25; refine (C'.out).mono ?_; rintro e w' ⟨rfl, rfl⟩)
      refine wp_loop (AtRound (.slice (some ⟨blk, off, none⟩) l.length cap) w.heap.size w l N) (fun a' _ => N - (intOf (a'.tmps.getD 20 undef)).toNat) ?_ ?_
      · exact ⟨0, p, [], _, Nat.zero_le _, p1, rfl, HREAD.out.symm, World.ownsRow_nil _ _ _ _, hbel, rfl, rfl, rfl, rfl, rfl, rfl, rfl, rfl, rfl, rfl, rfl⟩
      · clear hbel
        intro a' wr hJ
        obtain ⟨k, p, out, o, f, hk, hp, hout, hs', hown', hbel', rfl⟩ := hJ.open_
        have HS := Lib.hid hs'
        have HOWN := Lib.hid hown'
        have HBEL := Lib.hid hbel'
        clear hJ hs' hown' hbel'
        have HO := Lib.hid hout
        clear hout
        by_cases hkN : k < N
        · have hB' := HB0.out.below HBEL.out hblk
          have C2 := number_any blk off l cap p hmaxl (p : Int) 36 0 16384 (by omega) (by omega) rfl hp wr hB'
          have hbd := numL_bd l p hp 36 0 16384 (by omega)
          obtain ⟨m, hm⟩ : ∃ m, N - k = m + 1 := ⟨N - k - 1, by omega⟩
          cases hR2 : numL l p 36 0 16384 with
          | mk sz r2 =>
          obtain ⟨q, s2⟩ := r2
          rw [hR2] at C2 hbd
          obtain ⟨z0, z1, q1, s22⟩ := hbd
          simp only at z0 z1 q1 s22
          rw [show num3 (sz, q, s2) = .tuple #[.int .i64 sz, .int .i64 (q : Int), .int .i64 (s2 : Int)] from rfl] at C2
          have C2' := Lib.hid C2
          have HB2 := Lib.hid hB'
          clear C2 hB'
          have HM := Lib.hid hm
          clear hm
          by_cases hs0 : s2 = 0
          · subst hs0
            obtain ⟨z, rfl⟩ := Int.eq_ofNat_of_zero_le z0
            have HL := Lib.hid hR2
            clear hR2
            by_cases hsh : l.length < q + z + 2
            · have hsh' : ((l.length - q : Nat) : Int) < (z : Int) + 2 := by omega
              have hR3 := readS_short (m := m) (out := out) HL.out (by simpa using hsh)
              rw [Int.toNat_natCast] at hR3
              by_cases hs1 : l.length = q + z + 1
              · obtain ⟨c, hc⟩ : ∃ c, l[q + z]? = some c := ⟨_, List.getElem?_eq_getElem (by omega)⟩
                have hcell := HB2.out (q + z) c hc
                have hcell' : wr.cell? ⟨blk, off + q + z, none⟩ = some (.int .u8 (c.toNat : Int)) := by rw [Nat.add_assoc]; exact hcell
                have hg := getD_of hc
                rw [hg] at hR3
                have y0 : ¬ cap = q := by omega
                have y1 : (((l.length - q : Nat) : Int) == (z : Int) + 1) = true := by rw [beq_iff_eq]; omega
                have y3 : z < l.length - q := by omega
                obtain ⟨ci, hci⟩ : ∃ ci : Int, (c.toNat : Int) = ci := ⟨_, rfl⟩
                rw [hci] at hcell hcell'
                by_cases h13 : ci = 13
                · rw [if_neg (by omega)] at hR3
                  have HR := Lib.hid (show readT l = ([], 0, 1) by rw [← HS.out, HM.out]; exact hR3)
                  have HC := Lib.hid hci
                  subst h13
                  have HX := Lib.hid (And.intro hs1 (And.intro hc hg))
                  clear hR3 hci hc hg hs1 hsh
                  go_wp2_with (go_at_call 25; refine (C2'.out).mono ?_; rintro e w' ⟨rfl, rfl⟩)
                  go_step3
                  exact ⟨rfl, 1, .inl rfl, HR.out, HBEL.out, rfl, rfl, rfl, rfl, rfl, rfl, rfl, rfl⟩
                · rw [if_pos (by omega)] at hR3
                  have HR := Lib.hid (show readT l = ([], 0, 2) by rw [← HS.out, HM.out]; exact hR3)
                  have HC := Lib.hid hci
                  have z13 : (ci != 13) = true := by rw [bne_iff_ne]; exact h13
                  have HX := Lib.hid (And.intro hs1 (And.intro hc hg))
                  clear hR3 hci hc hg hs1 hsh h13
                  go_wp2_with (go_at_call 25; refine (C2'.out).mono ?_; rintro e w' ⟨rfl, rfl⟩)
                  go_step3
                  exact ⟨rfl, 2, .inr rfl, HR.out, HBEL.out, rfl, rfl, rfl, rfl, rfl, rfl, rfl, rfl⟩
              · rw [if_neg (fun g => hs1 g.1)] at hR3
                have HR := Lib.hid (show readT l = ([], 0, 1) by rw [← HS.out, HM.out]; exact hR3)
                have y1 : (((l.length - q : Nat) : Int) == (z : Int) + 1) = false := by rw [beq_eq_false_iff_ne]; omega
                have HX := Lib.hid hs1
                clear hR3 hs1 hsh
                by_cases hq : cap = q
                · subst hq
                  go_wp2_with (go_at_call 25; refine (C2'.out).mono ?_; rintro e w' ⟨rfl, rfl⟩)
                  go_step3
                  exact ⟨rfl, 1, .inl rfl, HR.out, HBEL.out, rfl, rfl, rfl, rfl, rfl, rfl, rfl, rfl⟩
                · go_wp2_with (go_at_call 25; refine (C2'.out).mono ?_; rintro e w' ⟨rfl, rfl⟩)
                  go_step3
                  exact ⟨rfl, 1, .inl rfl, HR.out, HBEL.out, rfl, rfl, rfl, rfl, rfl, rfl, rfl, rfl⟩
            · have hsh' : ¬ ((l.length - q : Nat) : Int) < (z : Int) + 2 := by omega
              have y0 : ¬ cap = q := by omega
              obtain ⟨c, hc⟩ : ∃ c, l[q + z]? = some c := ⟨_, List.getElem?_eq_getElem (by omega)⟩
              obtain ⟨d, hd⟩ : ∃ d, l[q + z + 1]? = some d := ⟨_, List.getElem?_eq_getElem (by omega)⟩
              have hcell := HB2.out (q + z) c hc
              have hcelld := HB2.out (q + z + 1) d hd
              have hg := getD_of hc
              have hgd := getD_of hd
              obtain ⟨ci, hci⟩ : ∃ ci : Int, (c.toNat : Int) = ci := ⟨_, rfl⟩
              obtain ⟨di, hdi⟩ : ∃ di : Int, (d.toNat : Int) = di := ⟨_, rfl⟩
              rw [hci] at hcell
              rw [hdi] at hcelld
              have y5 : q + z < l.length := by omega
              have y6 : q + z + 1 < l.length := by omega
              by_cases h13 : ci = 13
              · subst h13
                by_cases h10 : di = 10
                · subst h10
                  have hR3 := readS_next (m := m) (out := out) HL.out (by simpa using hsh) (by rw [Int.toNat_natCast, hg, hgd]; omega)
                  rw [Int.toNat_natCast] at hR3
                  have hR4 : readS l (N - (k + 1)) (q + z + 2) (out ++ [(l.drop q).take z]) = readT l := by
                    rw [show N - (k + 1) = m by have := HM.out; omega, ← hR3, ← HM.out]; exact HS.out
                  have hlen : ((l.drop q).take z).length = z := by rw [List.length_take, List.length_drop]; omega
                  have hconv := run_convert_bytes_back (P := Tryd.prog) wr 24 9 5 ⟨blk, off + q, none⟩ (cap - q) ((l.drop q).take z) Tryd.underlying24 Tryd.underlying5 Tryd.underlying9 (fun j hj => by
                    have hj' : j < z := by omega
                    have e : ((l.drop q).take z)[j] = l[q + j]'(by omega) := by simp
                    have hcl := HB2.out (q + j) _ (List.getElem?_eq_getElem (by omega))
                    rw [e, ← hcl]
                    unfold Addr.add
                    by_cases h0 : j = 0
                    · subst h0; simp
                    · simp [h0, Nat.add_assoc])
                  rw [hlen] at hconv
                  obtain ⟨t, ht⟩ : ∃ t : ByteArray, (⟨((l.drop q).take z).toArray⟩ : ByteArray) = t := ⟨_, rfl⟩
                  rw [ht] at hconv
                  have hsize : w.heap.size ≤ wr.heap.size := HBEL.out.size
                  have hol : out.length ≤ 1024 := by have := HO.out; omega
                  have HX := Lib.hid (And.intro hci (And.intro hc (And.intro hg (And.intro hdi (And.intro hd (And.intro hgd (And.intro hlen ht)))))))
                  have HR4 := Lib.hid hR4
                  clear hR3 hR4 hci hc hg hdi hd hgd hlen ht
                  go_wp2_with (first
                    | (go_at_call 25; refine (C2'.out).mono ?_; rintro e w' ⟨rfl, rfl⟩)
                    | (at_builtin; refine wpList_append_own _ rfl _ _ 26 rfl w.heap.size 9 i0 (.string ByteArray.empty) 1 16 Tryd.underlying26 HI.out.1 HI.out.2.1 HI.out.2.2.1 HI.out.2.2.2 rfl (by decide) _ _ _ rfl (HOWN.out.alloc _) ⟨wr.heap.size, 0, none⟩ 1 1 [.string t] rfl rfl (cell_one_new _ _ _) (fun x hx => by simp at hx; subst hx; rfl) (by unfold maxLen; omega) (by omega) (by simp; omega) ?_; intro v' w3 hown' hgrow3 hnil3))
                  have hown2 : w3.ownsRow w.heap.size 9 1 v' (out ++ [(l.drop q).take z]).length ((out ++ [(l.drop q).take z]).map strV) := by
                    have ht := HX.out.2.2.2.2.2.2.2
                    rw [List.length_append, List.map_append, List.length_singleton, List.map_singleton]
                    unfold strV at hown' ⊢
                    rw [ht]
                    exact hown'
                  refine ⟨⟨k + 1, q + z + 2, out ++ [(l.drop q).take z], v', by omega, by omega, by rw [List.length_append, HO.out]; rfl, HR4.out, hown2,
                    (HBEL.out.alloc hsize _).grown hgrow3 (by simp; omega) (fun g hg => (HOWN.out.lt g hg).1), rfl, rfl, rfl, rfl, rfl, rfl, rfl, rfl, ?_, rfl, ?_⟩, ?_⟩
                  · simp
                  · simp
                  · simp [intOf]; omega
                · have hR3 := readS_mark (m := m) (out := out) HL.out (by simpa using hsh) (by rw [Int.toNat_natCast, hg, hgd]; omega)
                  have HR := Lib.hid (show readT l = ([], 0, 2) by rw [← HS.out, HM.out]; exact hR3)
                  have z10 : (di != 10) = true := by rw [bne_iff_ne]; exact h10
                  have HX := Lib.hid (And.intro hci (And.intro hc (And.intro hg (And.intro hdi (And.intro hd hgd)))))
                  clear hR3 hci hc hg hdi hd hgd h10
                  go_wp2_with (go_at_call 25; refine (C2'.out).mono ?_; rintro e w' ⟨rfl, rfl⟩)
                  go_step3
                  exact ⟨rfl, 2, .inr rfl, HR.out, HBEL.out, rfl, rfl, rfl, rfl, rfl, rfl, rfl, rfl⟩
              · have hR3 := readS_mark (m := m) (out := out) HL.out (by simpa using hsh) (by rw [Int.toNat_natCast, hg, hgd]; omega)
                have HR := Lib.hid (show readT l = ([], 0, 2) by rw [← HS.out, HM.out]; exact hR3)
                have z13 : (ci != 13) = true := by rw [bne_iff_ne]; exact h13
                have HX := Lib.hid (And.intro hci (And.intro hc (And.intro hg (And.intro hdi (And.intro hd hgd)))))
                clear hR3 hci hc hg hdi hd hgd h13 hcelld
                go_wp2_with (go_at_call 25; refine (C2'.out).mono ?_; rintro e w' ⟨rfl, rfl⟩)
                go_step3
                exact ⟨rfl, 2, .inr rfl, HR.out, HBEL.out, rfl, rfl, rfl, rfl, rfl, rfl, rfl, rfl⟩
          · have hr : readT l = ([], 0, s2) := by rw [← HS.out, HM.out]; exact readS_bad hR2 hs0
            have z3 : ((s2 : Int) != 0) = true := by rw [bne_iff_ne]; omega
            have H2 := Lib.hid (show s2 = 1 ∨ s2 = 2 by omega)
            have HR := Lib.hid hr
            clear hr hR2 hs0 s22
            go_wp2_with (go_at_call 25; refine (C2'.out).mono ?_; rintro e w' ⟨rfl, rfl⟩)
            go_step3
            exact ⟨rfl, s2, H2.out, HR.out, HBEL.out, rfl, rfl, rfl, rfl, rfl, rfl, rfl, rfl⟩
        · have hkN' : N - k = 0 := by omega
          have HF := Lib.hid (show readT l = (out, p, 0) by rw [← HS.out, hkN']; rfl)
          clear hkN'
          go_wp2_with fail
          simp only [Exit.jump]
          go_ret3
          exact ⟨_, out, p, 0, HF.out, by simp [codeOf], HOWN.out, HBEL.out⟩
    · intro a' w' hJ
      obtain ⟨st, f, hst, hr, hb', rfl⟩ := hJ.open_
      clear hJ
      have HR := Lib.hid hr
      have HBB := Lib.hid hb'
      clear hr hb' hbel
      rcases hst with rfl | rfl
      · go_wp2_with fail
        simp only [Exit.jump]
        go_ret3
        exact back_none HR.out HBB.out
      · go_wp2_with fail
        simp only [Exit.jump]
        go_ret3
        exact back_none HR.out HBB.out
  · have hr : readT l = ([], 0, st) := by unfold readT; simp only [hR]; rw [if_pos hst]
    have z3 : ((st : Int) != 0) = true := by rw [bne_iff_ne]; omega
    have H2 := Lib.hid (show st = 1 ∨ st = 2 by omega)
    have HR := Lib.hid hr
    clear hr hR hst st2
    go_enter Tryd.func18, Tryd.ntmps18
    go_wp2
    refine wp_scope_jumps 0 (AtEnd (.slice (some ⟨blk, off, none⟩) l.length cap) w.heap.size w l) (fun _ _ => 0) rfl ?_ ?_
    · go_wp2_with (go_at_call 25; refine (C'.out).mono ?_; rintro e w' ⟨rfl, rfl⟩)
      go_step3
      exact ⟨rfl, st, H2.out, HR.out, hbel, rfl, rfl, rfl, rfl, rfl, rfl, rfl, rfl⟩
    · intro a' w' hJ
      obtain ⟨st, f, hst, hr, hb', rfl⟩ := hJ.open_
      clear hJ
      have HR := Lib.hid hr
      have HBB := Lib.hid hb'
      clear hr hb' hbel
      rcases hst with rfl | rfl
      · go_wp2_with fail
        simp only [Exit.jump]
        go_ret3
        exact back_none HR.out HBB.out
      · go_wp2_with fail
        simp only [Exit.jump]
        go_ret3
        exact back_none HR.out HBB.out
end Go.Proofs.YtnfflkappbjoeaaDoor
