/- The contract of the reference's Read: as the program's own. -/
import Derived.Test.YtennkagolgbamaaDoorRe17
import Derived.LoopN
namespace Go.Proofs.YtennkagolgbamaaDoor
open Go.ChangeShapes Go.WideShapes Go.ChangeAt Go.RowKit Go.Resp

theorem numS_pos (most : Int) : ∀ (r : List UInt8) (at_ : Nat) (n : Int) (d : Nat), (0 < d → 1 ≤ n) → (numS 1 most r at_ n d).2.2 = 0 → 1 ≤ (numS 1 most r at_ n d).1 := by
  intro r
  induction r with
  | nil => intro at_ n d _ h; cases h
  | cons c r ih =>
    intro at_ n d hn h
    unfold numS at h ⊢
    split
    · rename_i h1
      rw [if_pos h1] at h
      split
      · rename_i h2; rw [if_pos h2] at h; cases h
      · rename_i h2
        rw [if_neg h2] at h
        exact ih _ _ _ (fun _ => by omega) h
    · rename_i h1
      rw [if_neg h1] at h
      split
      · rename_i h2
        rw [if_pos h2] at h
        split
        · cases h
        · rename_i e r'
          simp only at h
          split
          · exact hn h2.2
          · rename_i h3; rw [if_neg h3] at h; cases h
      · rename_i h2; rw [if_neg h2] at h; cases h
theorem numL_pos (l : List UInt8) (at_ : Nat) (m most : Int) (h : (numL l at_ m 1 most).2.2 = 0) : 1 ≤ (numL l at_ m 1 most).1 := by
  unfold numL at h ⊢
  split
  · rename_i hd; rw [hd] at h; cases h
  · rename_i c r hd
    rw [hd] at h
    simp only at h
    split
    · rename_i hm; rw [if_pos hm] at h
      exact numS_pos _ _ _ _ _ (fun h => by omega) h
    · rename_i hm; rw [if_neg hm] at h; cases h
/-- The reference's Read, at a round's head. -/
def RR (B : Nat) (w0 : World) (l : List UInt8) (N : Nat) (a o i : Value) (wr : World) : Prop := ∃ (k p : Nat) (out : List (List UInt8)), k ≤ N ∧ p ≤ l.length ∧ out.length = k ∧ readS l (N - k) p out = readT l ∧
  wr.ownsRow B 9 1 o out.length (out.map strV) ∧ Below B w0 wr ∧ a = .int .i64 (p : Int) ∧ i = .int .i64 (k : Int)
/-- The two bytes behind a text, at a round's head: so many stand as they must. -/
def RJ (wo : World) (l : List UInt8) (x : Nat) (j : Value) (wr : World) : Prop := ∃ (k : Nat), k ≤ 2 ∧ j = .int .i64 (k : Int) ∧ (∃ n, wr = wo.drewN n) ∧ (0 < k → x < l.length → (l.getD x 0).toNat = 13) ∧ (1 < k → x + 1 < l.length → (l.getD (x + 1) 0).toNat = 10)
theorem idx_at (s : ByteArray) (i : Int) (k : Nat) (hk : i = (k : Int)) (h : k < s.size) (c : Int) (hc : (s[k].toNat : Int) = c) (w : World) : (Instr.index 9 (.string s) (.int .i64 i)).run Tryd.prog w = .ok (.int .u8 c) w := by
  subst hk
  rw [run_index_string (P := Tryd.prog) w 9 s .i64 (k : Int) Tryd.underlying9, dif_pos ⟨by omega, by omega⟩]
  simp [hc]
theorem rn0 (w : World) : (Instr.index 9 (.string ⟨#[13, 10]⟩) (.int .i64 0)).run Tryd.prog w = .ok (.int .u8 13) w := by kernel_rfl
theorem rn1 (w : World) : (Instr.index 9 (.string ⟨#[13, 10]⟩) (.int .i64 1)).run Tryd.prog w = .ok (.int .u8 10) w := by kernel_rfl
set_option maxRecDepth 100000 in
set_option maxHeartbeats 8000000 in
theorem RefRead19 (s : ByteArray) (hs : s.size ≤ 100000) (w : World) : Calls Tryd.prog 19 #[.string s] w (Back w.heap.size w s.data.toList) := by
  obtain ⟨l, hl⟩ : ∃ l, s.data.toList = l := ⟨_, rfl⟩
  rw [hl]
  have hll : l.length = s.size := by rw [← hl]; simp
  have C := fun (w : World) => refnum s hs 0 0 42 1 1024 (by omega) (by omega) (.inl ⟨rfl, rfl⟩) rfl w
  have hbd := numL_bd l 0 (Nat.zero_le _) 42 1 1024 (by omega)
  obtain ⟨i0, hi, hz0, hz1, hz2⟩ := info_parts Tryd.info9
  rw [hl] at C
  have HLL := Lib.hid (And.intro hl hll)
  clear hl hll
  cases hR : numL l 0 42 1 1024 with
  | mk n r =>
  obtain ⟨p, st⟩ := r
  have hpos := numL_pos l 0 42 1024
  rw [hR] at C hbd hpos
  obtain ⟨n0, n1, p1, st2⟩ := hbd
  simp only at n0 n1 p1 st2 hpos
  have hbel := Lib.hid (Below.refl w.heap.size w)
  have HI := Lib.hid (And.intro hi (And.intro hz0 (And.intro hz1 hz2)))
  clear hi hz0 hz1 hz2
  by_cases hst : st = 0
  · subst hst
    have hread : readT l = readS l n.toNat p [] := by unfold readT; simp only [hR]; rw [if_neg (by simp)]
    have hn1 := hpos rfl
    obtain ⟨N, rfl⟩ := Int.eq_ofNat_of_zero_le n0
    rw [Int.toNat_natCast] at hread
    have HREAD := Lib.hid hread
    rw [show ref3 ((N : Int), p, 0) = .tuple #[.int .i64 (N : Int), .int .i64 (p : Int), .int .i64 0] from rfl] at C
    have C' := Lib.hid C
    clear hread hR C hpos
    go_enter Tryd.func19, Tryd.ntmps19
    go_wp2_with (go_at_call 26; (with_reducible refine (C'.out _).mono ?_); rintro e w' ⟨rfl, rfl⟩)
    go_loopw [6, 8, 9] (fun a o i wr => RR w.heap.size w l N a o i wr) (fun _ _ i _ => N - (intOf i).toNat)
    case atStart => exact ⟨0, p, [], Nat.zero_le _, p1, rfl, HREAD.out.symm, World.ownsRow_nil _ _ _ _, hbel.out, rfl, rfl⟩
    case round =>
      obtain ⟨k, p, out, hk, hp, hout, hs', hown', hbel', rfl, rfl⟩ := hrel
      have HS := Lib.hid hs'
      have HOWN := Lib.hid hown'
      have HBEL := Lib.hid hbel'
      have HO := Lib.hid hout
      clear hs' hown' hbel' hout p1
      by_cases hkN : k < N
      · have hkN' : (k : Int) < (N : Int) := by omega
        have C2 := fun (w : World) => refnum s hs p (p : Int) 36 0 16384 (by omega) (by omega) (.inr ⟨rfl, rfl⟩) rfl w
        rw [HLL.out.1] at C2
        have hbd := numL_bd l p hp 36 0 16384 (by omega)
        obtain ⟨m, hm⟩ : ∃ m, N - k = m + 1 := ⟨N - k - 1, by omega⟩
        cases hR2 : numL l p 36 0 16384 with
        | mk sz r2 =>
        obtain ⟨q, s2⟩ := r2
        rw [hR2] at C2 hbd
        obtain ⟨z0, z1, q1, s22⟩ := hbd
        simp only at z0 z1 q1 s22
        have HM := Lib.hid hm
        clear hm
        by_cases hs0 : s2 = 0
        · subst hs0
          obtain ⟨z, rfl⟩ := Int.eq_ofNat_of_zero_le z0
          rw [show ref3 ((z : Int), q, 0) = .tuple #[.int .i64 (z : Int), .int .i64 (q : Int), .int .i64 0] from rfl] at C2
          have C2' := Lib.hid C2
          have HL := Lib.hid hR2
          clear hR2 C2
          obtain ⟨wo, rfl⟩ : ∃ wo : World, wo = wr := ⟨_, rfl⟩
          go_wp2_with (go_at_call 26; (with_reducible refine (C2'.out _).mono ?_); rintro e w' ⟨rfl, rfl⟩)
          go_loopw [13] (fun j wr => RJ wo l (q + z) j wr) (fun j _ => 2 - (intOf j).toNat)
          case atStart => exact ⟨0, by omega, rfl, ⟨0, rfl⟩, fun h => by omega, fun h => by omega⟩
          case round =>
            obtain ⟨j, hj, rfl, ⟨nd, rfl⟩, hj1, hj2⟩ := hrel
            have hb : ∀ i, (hi : i < s.size) → l.getD i 0 = s[i] := fun i hi => by
              rw [← HLL.out.1, List.getD, List.getElem?_eq_getElem (by simpa using hi)]; rfl
            have hB2 := Lib.hid hb
            clear hb
            have hqb : q ≤ 100000 := by have := HLL.out.2; omega
            have hj012 : j = 0 ∨ j = 1 ∨ j = 2 := by omega
            rcases hj012 with rfl | rfl | rfl
            · by_cases g : q + z < s.size
              · have g' : (q : Int) + (z : Int) < (s.size : Int) := by omega
                obtain ⟨ci, hci⟩ : ∃ ci : Int, ((s[q + z]).toNat : Int) = ci := ⟨_, rfl⟩
                have hcg : (l.getD (q + z) 0).toNat = ci.toNat := by rw [hB2.out _ g]; omega
                have HCI := Lib.hid (show 0 ≤ ci by omega)
                have hx1 := fun w => idx_at s ((q : Int) + (z : Int)) (q + z) (by omega) g ci hci w
                have hx2 := rn0
                by_cases h13 : ci = 13
                · have t13 : (ci != 13) = false := by simp [h13]
                  have HG := Lib.hid (And.intro hcg h13)
                  clear h13 hcg hci
                  go_wp2_with fail
                  go_quiet (fail)
                  go_wp2
                  exact ⟨⟨1, by omega, by go_num, ⟨nd + nq, by simp⟩, fun _ _ => by rw [HG.out.1, HG.out.2]; rfl, fun h => by omega⟩, by simp [intOf]⟩
                · have t13 : (ci != 13) = true := by simp [h13]
                  have HG := Lib.hid (And.intro hcg h13)
                  clear h13 hcg hci
                  go_wp2_with fail
                  go_quiet (fail)
                  go_wp2
                  have hr : readT l = ([], 0, 2) := by
                    rw [← HS.out, HM.out]
                    by_cases hsh : l.length < q + z + 2
                    · rw [readS_short HL.out (by simpa using hsh), Int.toNat_natCast, if_pos ⟨by have := HLL.out.2; omega, by rw [HG.out.1]; have := HG.out.2; have := HCI.out; omega⟩]
                    · exact readS_mark HL.out (by simpa using hsh) (.inl (by rw [Int.toNat_natCast, HG.out.1]; have := HG.out.2; have := HCI.out; omega))
                  go_ret3
                  exact back_none hr (below_drewN (below_drewN HBEL.out nd) nq)
              · have g' : decide ((q : Int) + (z : Int) < (s.size : Int)) = false := by simp; omega
                have HG := Lib.hid g
                go_wp2_with fail
                go_quiet (fail)
                go_wp2
                exact ⟨⟨1, by omega, by go_num, ⟨nd + nq, by simp⟩, fun _ h => absurd h (by have := HG.out; have := HLL.out.2; omega), fun h => by omega⟩, by simp [intOf]⟩
            · have hj1' := Lib.hid (hj1 (by omega))
              by_cases g : q + z + 1 < s.size
              · have g' : (q : Int) + (z : Int) + 1 < (s.size : Int) := by omega
                obtain ⟨ci, hci⟩ : ∃ ci : Int, ((s[q + z + 1]).toNat : Int) = ci := ⟨_, rfl⟩
                have hcg : (l.getD (q + z + 1) 0).toNat = ci.toNat := by rw [hB2.out _ g]; omega
                have HCI := Lib.hid (show 0 ≤ ci by omega)
                have hx1 := fun w => idx_at s ((q : Int) + (z : Int) + 1) (q + z + 1) (by omega) g ci hci w
                have hx2 := rn1
                by_cases h13 : ci = 10
                · have t13 : (ci != 10) = false := by simp [h13]
                  have HG := Lib.hid (And.intro hcg h13)
                  clear h13 hcg hci hj1 hj2
                  go_wp2_with fail
                  go_quiet (fail)
                  go_wp2
                  exact ⟨⟨2, by omega, by go_num, ⟨nd + nq, by simp⟩, fun _ h => hj1'.out h, fun _ _ => by rw [HG.out.1, HG.out.2]; rfl⟩, by simp [intOf]⟩
                · have t13 : (ci != 10) = true := by simp [h13]
                  have HG := Lib.hid (And.intro hcg (And.intro h13 g))
                  clear h13 hcg hci hj1 hj2
                  go_wp2_with fail
                  go_quiet (fail)
                  go_wp2
                  have hr : readT l = ([], 0, 2) := by
                    rw [← HS.out, HM.out]
                    have h1 := HG.out.2.2
                    have h2 := HLL.out.2
                    exact readS_mark HL.out (by rw [Int.toNat_natCast]; omega) (.inr (by rw [Int.toNat_natCast, HG.out.1]; have := HG.out.2.1; have := HCI.out; omega))
                  go_ret3
                  exact back_none hr (below_drewN (below_drewN HBEL.out nd) nq)
              · have g' : decide ((q : Int) + (z : Int) + 1 < (s.size : Int)) = false := by simp; omega
                have HG := Lib.hid g
                clear hj1 hj2
                go_wp2_with fail
                go_quiet (fail)
                go_wp2
                exact ⟨⟨2, by omega, by go_num, ⟨nd + nq, by simp⟩, fun _ h => hj1'.out h, fun _ h => absurd h (by have := HG.out; have := HLL.out.2; omega)⟩, by simp [intOf]⟩
            · have hb13 := Lib.hid (hj1 (by omega))
              have hb10 := Lib.hid (hj2 (by omega))
              clear hj1 hj2
              have HZ := Lib.hid HLL.out.2
              by_cases hsh : s.size < q + z + 2
              · have hsh' : (s.size : Int) < (q : Int) + (z : Int) + 2 := by omega
                have HSH := Lib.hid hsh
                go_wp2
                have hr : readT l = ([], 0, 1) := by
                  rw [← HS.out, HM.out]
                  have h1 := HSH.out
                  have h2 := HZ.out
                  rw [readS_short HL.out (by rw [Int.toNat_natCast]; omega), Int.toNat_natCast, if_neg (fun h => h.2 (hb13.out (by omega)))]
                go_ret3
                exact back_none hr (below_drewN HBEL.out nd)
              · have hsh' : ¬ (s.size : Int) < (q : Int) + (z : Int) + 2 := by omega
                have h1 : q + z < l.length := by have := HZ.out; omega
                have h2 : q + z + 1 < l.length := by have := HZ.out; omega
                have hR3 := readS_next (m := m) (out := out) HL.out (by rw [Int.toNat_natCast]; have := HZ.out; omega) (by rw [Int.toNat_natCast, hb13.out h1, hb10.out h2]; omega)
                rw [Int.toNat_natCast] at hR3
                have hR4 : readS l (N - (k + 1)) (q + z + 2) (out ++ [(l.drop q).take z]) = readT l := by
                  rw [show N - (k + 1) = m by have := HM.out; omega, ← hR3, ← HM.out]; exact HS.out
                have HR4 := Lib.hid hR4
                have hsize : w.heap.size ≤ (wo.drewN nd).heap.size := HBEL.out.size
                have hol : out.length ≤ 1024 := by have := HO.out; omega
                have e1 : (s.extract q (q + z)).data.toList = (l.drop q).take z := by rw [Lib.extract_data, HLL.out.1, Nat.add_sub_cancel_left]
                obtain ⟨t, ht⟩ : ∃ t : ByteArray, s.extract q (q + z) = t := ⟨_, rfl⟩
                have HT := Lib.hid (And.intro ht e1)
                have OWN := Lib.hid (show (wo.drewN nd).ownsRow w.heap.size 9 1 u8 out.length (out.map strV) from HOWN.out)
                have b1 : (q : Int) + (z : Int) ≤ (s.size : Int) := by omega
                have b2 : q + z ≤ s.size := by omega
                have hsl : ∀ wx, (Instr.slice 9 (.string s) (some (.int .i64 (q : Int))) (some (.int .i64 ((q : Int) + (z : Int)))) none).run Tryd.prog wx = .ok (.string t) wx := fun wx => by
                  have := Go.run_slice_string (P := Tryd.prog) wx 9 s .i64 .i64 (q : Int) ((q : Int) + (z : Int)) Tryd.underlying9 (by omega) (by omega) (by omega)
                  rw [this, ← ht, show ((q : Int)).toNat = q by omega, show ((q : Int) + (z : Int)).toNat = q + z by omega]
                clear hR3 hR4 e1 h1 h2 ht
                obtain ⟨wq, hwq⟩ : ∃ wq, wo.drewN nd = wq := ⟨_, rfl⟩
                have HBQ := Lib.hid (show Below w.heap.size w wq by rw [← hwq]; exact below_drewN HBEL.out nd)
                rw [hwq] at OWN hsize ⊢
                clear hwq
                go_wp2_with (at_builtin; refine wpList_append_own _ rfl _ _ 32 rfl w.heap.size 9 i0 (.string ByteArray.empty) 1 16 Tryd.underlying32 HI.out.1 HI.out.2.1 HI.out.2.2.1 HI.out.2.2.2 rfl (by decide) _ _ _ rfl (OWN.out.alloc _) ⟨wq.heap.size, 0, none⟩ 1 1 [.string t] rfl rfl (cell_one_new _ _ _) (fun x hx => by simp at hx; subst hx; rfl) (by unfold maxLen; omega) (by omega) (by simp; omega) ?_; intro v' w3 hown' hgrow3 hnil3)
                have hown2 : w3.ownsRow w.heap.size 9 1 v' (out ++ [(l.drop q).take z]).length ((out ++ [(l.drop q).take z]).map strV) := by
                  have e2 : strV ((l.drop q).take z) = .string t := by
                    unfold strV
                    rw [← HT.out.2, HT.out.1]
                  rw [List.length_append, List.map_append, List.length_singleton, List.map_singleton, e2]
                  exact hown'
                have hB3 : Below w.heap.size w w3 := (HBQ.out.alloc hsize _).grown hgrow3 (by simp; omega) (fun g hg => (OWN.out.lt g hg).1)
                have HF := Lib.hid (And.intro hown2 hB3)
                clear hown' hgrow3 hnil3 hown2 hB3
                go_wp2
                exact ⟨⟨k + 1, q + z + 2, out ++ [(l.drop q).take z], by omega, by have := HZ.out; omega, by rw [List.length_append, HO.out]; rfl, HR4.out, HF.out.1, HF.out.2, by go_num, by go_num⟩, by simp [intOf]; omega⟩
        · have hr : readT l = ([], 0, s2) := by rw [← HS.out, HM.out]; exact readS_bad hR2 hs0
          have HR := Lib.hid hr
          clear hr
          have h12 : s2 = 1 ∨ s2 = 2 := by omega
          rcases h12 with rfl | rfl
          · rw [show ref3 (sz, q, 1) = .tuple #[.int .i64 0, .int .i64 0, .int .i64 25] from rfl] at C2
            have C2' := Lib.hid C2
            clear C2 hR2
            go_wp2_with (go_at_call 26; (with_reducible refine (C2'.out _).mono ?_); rintro e w' ⟨rfl, rfl⟩)
            go_ret3
            exact back_none HR.out HBEL.out
          · rw [show ref3 (sz, q, 2) = .tuple #[.int .i64 0, .int .i64 0, .int .i64 22] from rfl] at C2
            have C2' := Lib.hid C2
            clear C2 hR2
            go_wp2_with (go_at_call 26; (with_reducible refine (C2'.out _).mono ?_); rintro e w' ⟨rfl, rfl⟩)
            go_ret3
            exact back_none HR.out HBEL.out
      · have hkN0 : N - k = 0 := by omega
        have HF := Lib.hid (show readT l = (out, p, 0) by rw [← HS.out, hkN0]; rfl)
        have hkN' : ¬ (k : Int) < (N : Int) := by omega
        clear hkN0
        go_wp2
        go_ret3
        exact ⟨_, out, p, 0, HF.out, by simp [codeOf], HOWN.out, HBEL.out⟩
  · have hr : readT l = ([], 0, st) := by unfold readT; simp only [hR]; rw [if_pos hst]
    have HR := Lib.hid hr
    clear hr hR hpos
    have h12 : st = 1 ∨ st = 2 := by omega
    rcases h12 with rfl | rfl
    · rw [show ref3 (n, p, 1) = .tuple #[.int .i64 0, .int .i64 0, .int .i64 25] from rfl] at C
      have C' := Lib.hid C
      clear C
      go_enter Tryd.func19, Tryd.ntmps19
      go_wp2_with (go_at_call 26; (with_reducible refine (C'.out _).mono ?_); rintro e w' ⟨rfl, rfl⟩)
      go_ret3
      exact back_none HR.out hbel.out
    · rw [show ref3 (n, p, 2) = .tuple #[.int .i64 0, .int .i64 0, .int .i64 22] from rfl] at C
      have C' := Lib.hid C
      clear C
      go_enter Tryd.func19, Tryd.ntmps19
      go_wp2_with (go_at_call 26; (with_reducible refine (C'.out _).mono ?_); rintro e w' ⟨rfl, rfl⟩)
      go_ret3
      exact back_none HR.out hbel.out
end Go.Proofs.YtennkagolgbamaaDoor
