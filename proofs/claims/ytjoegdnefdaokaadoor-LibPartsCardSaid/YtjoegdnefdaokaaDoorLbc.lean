/- The law LibParts. -/
import Derived.Test.YtjoegdnefdaokaaDoorLbb
namespace Go.Proofs.YtjoegdnefdaokaaDoor
open Go.ChangeShapes Go.WideShapes Go.ChangeAt Go.RowKit

theorem small_sum (a b n : Nat) (ha : a ≤ n) (hb : b ≤ n) (hn : n ≤ 1000) : ¬ (a + b > 9223372036854775807) := by omega
theorem iq_1 (q : Nat) : ¬ (q : Int) + 1 < 1 := by omega
theorem iq_2 (n q : Nat) (h : q ≤ n) : ¬ (n : Int) + 1 < (q : Int) + 1 := by omega
theorem hx_1 (q : Nat) : (q : Int) + 1 - 1 = (q : Int) := by omega
set_option maxRecDepth 100000 in
set_option maxHeartbeats 8000000 in
theorem parts_walk (w0 : World) (hT : Tab w0) (m : Int) (hm : w0.cell? ⟨0, 0, none⟩ = some (.int .i64 m)) (h0 : 0 < w0.heap.size) (s t : ByteArray) (hs : s.size ≤ maxLen) (ht : t.size ≤ maxLen) (i : Int) : Calls Tryd.prog 3 #[.string s, .int .i64 i, .string t] w0 fun e w' => e = .returned (.bool true) ∧ Below w0.heap.size w0 w' := by
  have TO := Lib.hid (fun w (hi : Inv w0 w) => told6 w0 hT w hi)
  have b0 := Lib.hid (show Inv w0 w0 from Below.refl _ _)
  unfold maxLen at hs ht
  by_cases hg : 300 < s.size
  · have z1 : (300 : Int) < (s.size : Int) := by omega
    clear hT hm
    go_enter Tryd.func3, Tryd.ntmps3
    go_wp2_with (first | (go_at_call 6; (with_reducible refine (TO.out _ b0.out).mono ?_); rintro e w1 ⟨rfl, h1⟩; have B1 := Lib.hid h1; clear h1))
    go_ret
    exact ⟨rfl, B1.out⟩
  have z1 : ¬ (300 : Int) < (s.size : Int) := by omega
  by_cases hg2 : 300 < t.size
  · have z2 : (300 : Int) < (t.size : Int) := by omega
    clear hT hm
    go_enter Tryd.func3, Tryd.ntmps3
    go_wp2_with (first | (go_at_call 6; (with_reducible refine (TO.out _ b0.out).mono ?_); rintro e w1 ⟨rfl, h1⟩; have B1 := Lib.hid h1; clear h1))
    go_ret
    exact ⟨rfl, B1.out⟩
  have z2 : ¬ (300 : Int) < (t.size : Int) := by omega
  obtain ⟨k, hk0, hk2⟩ := cut_of i (s.size + 1) (by omega) (by omega)
  have hk : wrap64 ((IntKind.u64.wrap i).tmod ((s.size : Int) + 1)) = (k : Int) := by simpa using hk0
  have q0 : IntKind.u64.wrap ((s.size : Int) + 1) = (s.size : Int) + 1 := by rw [IntKind.wrap_u64]; omega
  have S8 := Lib.hid (fun w => str8 s w)
  have S8t := Lib.hid (fun w => str8 t w)
  obtain ⟨k1, hk1⟩ : ∃ k1, k + 1 = k1 := ⟨_, rfl⟩
  have e2 : (k : Int) + 1 = (k1 : Int) := by omega
  have ew : wrap64 (k1 : Int) = (k1 : Int) := IntWalk.wrap64_in _ (by omega)
  have N1 := Lib.hid (fun w => num9 1 ⟨by decide, by decide⟩ w)
  have Nk := Lib.hid (fun w => num9 (k : Int) ⟨by omega, by omega⟩ w)
  have Nk1 := Lib.hid (fun w => num9 (k1 : Int) ⟨by omega, by omega⟩ w)
  have TH := Lib.hid (fun w => text_head s (by omega) k (by omega) w)
  have TT := Lib.hid (fun w => text_tail s (by omega) k1 (by omega) w)
  have J0 := parts_join s k
  have ek : k1 - 1 = k := by omega
  rw [ek] at TT
  have sz1 : (s.extract 0 k).size ≤ 300 := by
    have : (s.extract 0 k).data.toList.length = (s.extract 0 k).size := by simp
    rw [← this, Lib.extract_data, List.length_take]; omega
  have sz2 : (s.extract k s.size).size ≤ 300 := by
    have : (s.extract k s.size).data.toList.length = (s.extract k s.size).size := by simp
    rw [← this, Lib.extract_data, List.length_take]; omega
  have TR1 := Lib.hid (fun w => text_reverse s (by omega) w)
  have TR2 := Lib.hid (fun w => text_reverse (revT s) (by have : (revT s).size = s.size := mk_size _ _; omega) w)
  rw [rev_rev] at TR2
  have TU := Lib.hid (fun w => text_upper s (by omega) w)
  have TL1 := Lib.hid (fun w => text_lower (upT s) (by have : (upT s).size = s.size := mk_size _ _; omega) w)
  rw [low_up] at TL1
  have TL2 := Lib.hid (fun w => text_lower s (by omega) w)
  have S8r := Lib.hid (fun w => str8 (revT s) w)
  have S8u := Lib.hid (fun w => str8 (upT s) w)
  generalize revT s = rv at TR1 TR2 S8r
  generalize upT s = up at TU TL1 S8u
  generalize lowT s = lw at TL1 TL2
  obtain ⟨q, hq1, hq2, hq3, hq4⟩ := place s t
  have hszt : (s ++ t).size = s.size + t.size := ByteArray.size_append
  have CF := Lib.hid (fun w (hi : Inv w0 w) => call_place (s ++ t) t (by omega) w0 m hm h0 q (by omega) hq2 w hi)
  have hslq : ∀ w, (Instr.slice 9 (.string (s ++ t)) (some (.int .i64 (q : Int))) (some (.int .i64 ((q : Int) + (t.size : Int)))) none).run Tryd.prog w = .ok (.string t) w := fun w => by
    rw [run_slice_string w 9 (s ++ t) .i64 .i64 _ _ Tryd.underlying9 (by omega) (by omega) (by rw [hszt]; push_cast; omega)]
    have g1 : ((q : Int)).toNat = q := by omega
    have g2 : ((q : Int) + (t.size : Int)).toNat = q + t.size := by omega
    rw [g1, g2, hq3]
  have HN := Lib.hid (show ∀ j : Nat, j < q → ∃ X : ByteArray, ¬ X = t ∧ ∀ w, (Instr.slice 9 (.string (s ++ t)) (some (.int .i64 (j : Int))) (some (.int .i64 ((j : Int) + (t.size : Int)))) none).run Tryd.prog w = .ok (.string X) w from fun j hj => ⟨(s ++ t).extract j (j + t.size), hq4 j hj, fun w => by
    rw [run_slice_string w 9 (s ++ t) .i64 .i64 _ _ Tryd.underlying9 (by omega) (by omega) (by rw [hszt]; push_cast; omega)]
    have g1 : ((j : Int)).toNat = j := by omega
    have g2 : ((j : Int) + (t.size : Int)).toNat = j + t.size := by omega
    rw [g1, g2]⟩)
  have S8st := Lib.hid (fun w => str8 (s ++ t) w)
  obtain ⟨st, hst⟩ : ∃ st, s ++ t = st := ⟨_, rfl⟩
  rw [hst] at hszt
  simp only [hst] at CF hslq HN S8st
  have mst := small_sum s.size t.size 300 (by omega) (by omega) (by decide)
  have hw1 : wrap64 ((q : Int) + 1) = (q : Int) + 1 := IntWalk.wrap64_in _ (by omega)
  have iq1 := iq_1 q
  have iq2 := iq_2 s.size q hq1
  have hx1 := hx_1 q
  have Q1 := Lib.hid hq1
  have Q0 := Lib.hid hT
  by_cases hz : k = 0
  · have zk : ((k : Int) == 0) = true := by simp [hz]
    have hpb : s.extract k s.size = s := by have := J0; rw [hz, ext_empty s 0 0 (Nat.le_refl _)] at this; rw [hz]; simp
    rw [hpb] at TT
    have J1 : (⟨#[]⟩ : ByteArray) ++ s = s := by apply bytes_inj; rw [data_app]; rfl
    clear J0 hk0 hk1 hk2 ek hg hg2 hT hm hq1 hq2 hq3 hq4 hz
    go_enter Tryd.func3, Tryd.ntmps3
    go_wp2_with (first | (go_at_call 8; (with_reducible refine (S8.out _).mono ?_); rintro e w1 ⟨rfl, h1⟩; have B1 := Lib.hid h1; clear h1) | (go_at_call 9; (with_reducible refine (N1.out _).mono ?_); rintro e w2 ⟨rfl, h2⟩; have B2 := Lib.hid (belT B1.out h2); clear h2) | (go_at_call 9; (with_reducible refine (Nk.out _).mono ?_); rintro e w3 ⟨rfl, h3⟩; have B3 := Lib.hid (belT B2.out h3); clear h3) | (go_at_call 7; (with_reducible refine (TH.out _).mono ?_); rintro e w4 ⟨rfl, h4⟩; have B4 := Lib.hid (belT B3.out h4); clear h4; refine Hid.out ?_))
    refine Lib.hid ?_
    go_wp2_with (first | (go_at_call 8; (with_reducible refine (S8.out _).mono ?_); rintro e w5 ⟨rfl, h5⟩; have B5 := Lib.hid (belT B4.out h5); clear h5) | (go_at_call 9; (with_reducible refine (Nk1.out _).mono ?_); rintro e w6 ⟨rfl, h6⟩; have B6 := Lib.hid (belT B5.out h6); clear h6) | (go_at_call 7; (with_reducible refine (TT.out _).mono ?_); rintro e w7 ⟨rfl, h7⟩; have B7 := Lib.hid (belT B6.out h7); clear h7; refine Hid.out ?_))
    refine Lib.hid ?_
    go_wp2_with (first | (go_at_call 8; (with_reducible refine (S8.out _).mono ?_); rintro e w8 ⟨rfl, h8⟩; have B8 := Lib.hid (belT B7.out h8); clear h8) | (go_at_call 7; (with_reducible refine (TR1.out _).mono ?_); rintro e w9 ⟨rfl, h9⟩; have B9 := Lib.hid (belT B8.out h9); clear h9; refine Hid.out ?_))
    refine Lib.hid ?_
    go_wp2_with (first | (go_at_call 8; (with_reducible refine (S8r.out _).mono ?_); rintro e w10 ⟨rfl, h10⟩; have B10 := Lib.hid (belT B9.out h10); clear h10) | (go_at_call 7; (with_reducible refine (TR2.out _).mono ?_); rintro e w11 ⟨rfl, h11⟩; have B11 := Lib.hid (belT B10.out h11); clear h11; refine Hid.out ?_))
    refine Lib.hid ?_
    go_wp2_with (first | (go_at_call 8; (with_reducible refine (S8.out _).mono ?_); rintro e w12 ⟨rfl, h12⟩; have B12 := Lib.hid (belT B11.out h12); clear h12) | (go_at_call 7; (with_reducible refine (TU.out _).mono ?_); rintro e w13 ⟨rfl, h13⟩; have B13 := Lib.hid (belT B12.out h13); clear h13; refine Hid.out ?_))
    refine Lib.hid ?_
    go_wp2_with (first | (go_at_call 8; (with_reducible refine (S8u.out _).mono ?_); rintro e w14 ⟨rfl, h14⟩; have B14 := Lib.hid (belT B13.out h14); clear h14) | (go_at_call 7; (with_reducible refine (TL1.out _).mono ?_); rintro e w15 ⟨rfl, h15⟩; have B15 := Lib.hid (belT B14.out h15); clear h15; refine Hid.out ?_))
    refine Lib.hid ?_
    go_wp2_with (first | (go_at_call 8; (with_reducible refine (S8.out _).mono ?_); rintro e w16 ⟨rfl, h16⟩; have B16 := Lib.hid (belT B15.out h16); clear h16) | (go_at_call 7; (with_reducible refine (TL2.out _).mono ?_); rintro e w17 ⟨rfl, h17⟩; have B17 := Lib.hid (belT B16.out h17); clear h17; refine Hid.out ?_))
    refine Lib.hid ?_
    clear B1 B2 B3 B4 B5 B6 B7 B8 B9 B10 B11 B12 B13 B14 B15 B16
    go_wp2_with (first | (go_at_call 8; (with_reducible refine (S8st.out _).mono ?_); rintro e w18 ⟨rfl, h18⟩; have B18 := Lib.hid (belT B17.out h18); clear h18; refine Hid.out ?_))
    refine Lib.hid ?_
    go_wp2_with (first | (go_at_call 8; (with_reducible refine (S8t.out _).mono ?_); rintro e w19 ⟨rfl, h19⟩; have B19 := Lib.hid (belT B18.out h19); clear h19; have I19 := Lib.hid (show Inv w0 w19 from B19.out)) | (go_at_call 10; (with_reducible refine (CF.out _ I19.out).mono ?_); rintro e w20 ⟨rfl, h20⟩; have B20 := Lib.hid (belT B19.out h20); clear h20; refine Hid.out ?_))
    refine Lib.hid ?_
    have I20 := Lib.hid (fun o => show Inv w0 (w20.alloc o) from belT B20.out (alloc_old (w := w20) (o := o)))
    clear B17 B18 B19 B20 I19
    go_wp2_with fail
    clear hslq hx1 iq1 iq2 zk J1 TR1 TR2 TU TL1 TL2 S8r S8u S8st S8t S8 Nk Nk1 N1 TH TT CF hk q0 e2 ew
    go_loop [26] (fun j => ∃ x : Nat, x ≤ q ∧ j = .int .i64 x) (fun j => q - (intOf j).toNat)
    case atStart => exact ⟨0, Nat.zero_le _, rfl⟩
    case round =>
      obtain ⟨x, hx, rfl⟩ := hrel
      have hx1 := hx_1 q
      by_cases hlt : x < q
      · obtain ⟨X, hX, hsl⟩ := HN.out x hlt
        have n1 : ¬ X.toList = t.toList := fun e => hX (bytes_inj (by rw [← ByteArray.toList_eq, ← ByteArray.toList_eq]; exact e))
        have n2 : (X.toList == t.toList) = false := by rw [beq_eq_false_iff_ne]; exact n1
        have i1 : (x : Int) < (q : Int) := by omega
        clear hX
        have hqs := Q1.out
        go_wp2
        exact ⟨⟨x + 1, by omega, by go_num⟩, by simp [intOf]; omega⟩
      · have i1 : ¬ (x : Int) < (q : Int) := by omega
        go_wp2_with (first | (go_at_call 6; (with_reducible refine (TO.out _ (I20.out _)).mono ?_); rintro e w21 ⟨rfl, h21⟩; have B21 := Lib.hid h21; clear h21))
        go_ret
        exact ⟨rfl, Below.trans (I20.out _) (B21.out.mono (Inv.size (I20.out _)))⟩
  · have zk : ((k : Int) == 0) = false := by rw [beq_eq_false_iff_ne]; omega
    generalize s.extract 0 k = pa at TH J0 sz1
    generalize s.extract k s.size = pb at TT J0 sz2
    have J1 : pa ++ pb = s := J0
    have J2 := small_sum pa.size pb.size 300 sz1 sz2 (by decide)
    clear J0 hk0 hk1 hk2 ek hg hg2 hT hm hq1 hq2 hq3 hq4 hz
    go_enter Tryd.func3, Tryd.ntmps3
    go_wp2_with (first | (go_at_call 8; (with_reducible refine (S8.out _).mono ?_); rintro e w1 ⟨rfl, h1⟩; have B1 := Lib.hid h1; clear h1) | (go_at_call 9; (with_reducible refine (N1.out _).mono ?_); rintro e w2 ⟨rfl, h2⟩; have B2 := Lib.hid (belT B1.out h2); clear h2) | (go_at_call 9; (with_reducible refine (Nk.out _).mono ?_); rintro e w3 ⟨rfl, h3⟩; have B3 := Lib.hid (belT B2.out h3); clear h3) | (go_at_call 7; (with_reducible refine (TH.out _).mono ?_); rintro e w4 ⟨rfl, h4⟩; have B4 := Lib.hid (belT B3.out h4); clear h4; refine Hid.out ?_))
    refine Lib.hid ?_
    go_wp2_with (first | (go_at_call 8; (with_reducible refine (S8.out _).mono ?_); rintro e w5 ⟨rfl, h5⟩; have B5 := Lib.hid (belT B4.out h5); clear h5) | (go_at_call 9; (with_reducible refine (Nk1.out _).mono ?_); rintro e w6 ⟨rfl, h6⟩; have B6 := Lib.hid (belT B5.out h6); clear h6) | (go_at_call 7; (with_reducible refine (TT.out _).mono ?_); rintro e w7 ⟨rfl, h7⟩; have B7 := Lib.hid (belT B6.out h7); clear h7; refine Hid.out ?_))
    refine Lib.hid ?_
    go_wp2_with (first | (go_at_call 8; (with_reducible refine (S8.out _).mono ?_); rintro e w8 ⟨rfl, h8⟩; have B8 := Lib.hid (belT B7.out h8); clear h8) | (go_at_call 7; (with_reducible refine (TR1.out _).mono ?_); rintro e w9 ⟨rfl, h9⟩; have B9 := Lib.hid (belT B8.out h9); clear h9; refine Hid.out ?_))
    refine Lib.hid ?_
    go_wp2_with (first | (go_at_call 8; (with_reducible refine (S8r.out _).mono ?_); rintro e w10 ⟨rfl, h10⟩; have B10 := Lib.hid (belT B9.out h10); clear h10) | (go_at_call 7; (with_reducible refine (TR2.out _).mono ?_); rintro e w11 ⟨rfl, h11⟩; have B11 := Lib.hid (belT B10.out h11); clear h11; refine Hid.out ?_))
    refine Lib.hid ?_
    go_wp2_with (first | (go_at_call 8; (with_reducible refine (S8.out _).mono ?_); rintro e w12 ⟨rfl, h12⟩; have B12 := Lib.hid (belT B11.out h12); clear h12) | (go_at_call 7; (with_reducible refine (TU.out _).mono ?_); rintro e w13 ⟨rfl, h13⟩; have B13 := Lib.hid (belT B12.out h13); clear h13; refine Hid.out ?_))
    refine Lib.hid ?_
    go_wp2_with (first | (go_at_call 8; (with_reducible refine (S8u.out _).mono ?_); rintro e w14 ⟨rfl, h14⟩; have B14 := Lib.hid (belT B13.out h14); clear h14) | (go_at_call 7; (with_reducible refine (TL1.out _).mono ?_); rintro e w15 ⟨rfl, h15⟩; have B15 := Lib.hid (belT B14.out h15); clear h15; refine Hid.out ?_))
    refine Lib.hid ?_
    go_wp2_with (first | (go_at_call 8; (with_reducible refine (S8.out _).mono ?_); rintro e w16 ⟨rfl, h16⟩; have B16 := Lib.hid (belT B15.out h16); clear h16) | (go_at_call 7; (with_reducible refine (TL2.out _).mono ?_); rintro e w17 ⟨rfl, h17⟩; have B17 := Lib.hid (belT B16.out h17); clear h17; refine Hid.out ?_))
    refine Lib.hid ?_
    clear B1 B2 B3 B4 B5 B6 B7 B8 B9 B10 B11 B12 B13 B14 B15 B16
    go_wp2_with (first | (go_at_call 8; (with_reducible refine (S8st.out _).mono ?_); rintro e w18 ⟨rfl, h18⟩; have B18 := Lib.hid (belT B17.out h18); clear h18; refine Hid.out ?_))
    refine Lib.hid ?_
    go_wp2_with (first | (go_at_call 8; (with_reducible refine (S8t.out _).mono ?_); rintro e w19 ⟨rfl, h19⟩; have B19 := Lib.hid (belT B18.out h19); clear h19; have I19 := Lib.hid (show Inv w0 w19 from B19.out)) | (go_at_call 10; (with_reducible refine (CF.out _ I19.out).mono ?_); rintro e w20 ⟨rfl, h20⟩; have B20 := Lib.hid (belT B19.out h20); clear h20; refine Hid.out ?_))
    refine Lib.hid ?_
    have I20 := Lib.hid (fun o => show Inv w0 (w20.alloc o) from belT B20.out (alloc_old (w := w20) (o := o)))
    clear B17 B18 B19 B20 I19
    go_wp2_with fail
    clear hslq hx1 iq1 iq2 zk J1 TR1 TR2 TU TL1 TL2 S8r S8u S8st S8t S8 Nk Nk1 N1 TH TT CF hk q0 e2 ew
    go_loop [26] (fun j => ∃ x : Nat, x ≤ q ∧ j = .int .i64 x) (fun j => q - (intOf j).toNat)
    case atStart => exact ⟨0, Nat.zero_le _, rfl⟩
    case round =>
      obtain ⟨x, hx, rfl⟩ := hrel
      have hx1 := hx_1 q
      by_cases hlt : x < q
      · obtain ⟨X, hX, hsl⟩ := HN.out x hlt
        have n1 : ¬ X.toList = t.toList := fun e => hX (bytes_inj (by rw [← ByteArray.toList_eq, ← ByteArray.toList_eq]; exact e))
        have n2 : (X.toList == t.toList) = false := by rw [beq_eq_false_iff_ne]; exact n1
        have i1 : (x : Int) < (q : Int) := by omega
        clear hX
        have hqs := Q1.out
        go_wp2
        exact ⟨⟨x + 1, by omega, by go_num⟩, by simp [intOf]; omega⟩
      · have i1 : ¬ (x : Int) < (q : Int) := by omega
        go_wp2_with (first | (go_at_call 6; (with_reducible refine (TO.out _ (I20.out _)).mono ?_); rintro e w21 ⟨rfl, h21⟩; have B21 := Lib.hid h21; clear h21))
        go_ret
        exact ⟨rfl, Below.trans (I20.out _) (B21.out.mono (Inv.size (I20.out _)))⟩
end Go.Proofs.YtjoegdnefdaokaaDoor
