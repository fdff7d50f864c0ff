/- The law LibTimes. -/
import Derived.Test.YtjoegdnefdaokaaDoorLb7
namespace Go.Proofs.YtjoegdnefdaokaaDoor
open Go.ChangeShapes Go.WideShapes Go.ChangeAt Go.RowKit

theorem cut_of (cut : Int) (n : Nat) (h : 0 < n) (h2 : n ≤ 10000000) : ∃ k : Nat, wrap64 ((IntKind.u64.wrap cut).tmod (n : Int)) = (k : Int) ∧ k < n := by
  have e : IntKind.u64.wrap cut = cut % 18446744073709551616 := IntKind.wrap_u64 cut
  have hm : (IntKind.u64.wrap cut).tmod (n : Int) = (cut % 18446744073709551616) % (n : Int) := by
    rw [e]; exact Int.tmod_eq_emod_of_nonneg (Int.emod_nonneg _ (by decide))
  have h3 := Int.emod_nonneg (cut % 18446744073709551616) (show (n : Int) ≠ 0 by omega)
  have h4 := Int.emod_lt_of_pos (cut % 18446744073709551616) (show (0 : Int) < (n : Int) by omega)
  rw [hm, IntWalk.wrap64_in _ (by omega)]
  exact ⟨(cut % 18446744073709551616 % (n : Int)).toNat, by omega, by omega⟩
set_option maxRecDepth 100000 in
set_option maxHeartbeats 8000000 in
theorem times_walk (w0 : World) (hT : Tab w0) (s : ByteArray) (hs : s.size ≤ maxLen) (n : Int) : Calls Tryd.prog 5 #[.string s, .int .i64 n] w0 fun e w' => e = .returned (.bool true) ∧ Below w0.heap.size w0 w' := by
  have TO := Lib.hid (fun w (hi : Inv w0 w) => told6 w0 hT w hi)
  have b0 := Lib.hid (show Inv w0 w0 from Below.refl _ _)
  unfold maxLen at hs
  clear hT
  by_cases hz : s.size = 0
  · have z0 : ((s.size : Int) == 0) = true := by simp [hz]
    clear hz
    go_enter Tryd.func5, Tryd.ntmps5
    go_wp2_with (first | (go_at_call 6; (with_reducible refine (TO.out _ b0.out).mono ?_); rintro e w1 ⟨rfl, h1⟩; have B1 := Lib.hid h1; clear h1))
    go_ret
    exact ⟨rfl, B1.out⟩
  have z0 : ((s.size : Int) == 0) = false := by rw [beq_eq_false_iff_ne]; omega
  by_cases hg : 100 < s.size
  · have z1 : (100 : Int) < (s.size : Int) := by omega
    clear hz
    go_enter Tryd.func5, Tryd.ntmps5
    go_wp2_with (first | (go_at_call 6; (with_reducible refine (TO.out _ b0.out).mono ?_); rintro e w1 ⟨rfl, h1⟩; have B1 := Lib.hid h1; clear h1))
    go_ret
    exact ⟨rfl, B1.out⟩
  have z1 : ¬ (100 : Int) < (s.size : Int) := by omega
  obtain ⟨k, hk, hk2⟩ := cut_of n 201 (by decide) (by decide)
  have hk' : wrap64 ((IntKind.u64.wrap n).tmod 201) = (k : Int) := by simpa using hk
  have hkI : I64 (k : Int) := ⟨by omega, by omega⟩
  have hmul : k * s.size ≤ 20000 := Nat.le_trans (Nat.mul_le_mul (show k ≤ 200 by omega) (show s.size ≤ 100 by omega)) (by decide)
  have m0 : 0 ≤ (k : Int) * (s.size : Int) := by have := Int.natCast_nonneg (k * s.size); push_cast at this; exact this
  have m1 : (k : Int) * (s.size : Int) ≤ 20000 := by have : ((k * s.size : Nat) : Int) ≤ 20000 := by omega
                                                     push_cast at this; exact this
  have S8 := Lib.hid (fun w => str8 s w)
  have N9 := Lib.hid (fun w => num9 (k : Int) hkI w)
  clear hk hkI
  by_cases hb : 4096 < k * s.size
  · have RL := Lib.hid (fun w => call_rep_long s (by omega) (by omega) k hb w)
    have ML := Lib.hid (fun w => made_rep_long s (by omega) (by omega) k hb w)
    have m2 : (4096 : Int) < (k : Int) * (s.size : Int) := by have : (4096 : Int) < ((k * s.size : Nat) : Int) := by omega
                                                              push_cast at this; exact this
    clear hz hb hmul hg
    go_enter Tryd.func5, Tryd.ntmps5
    go_wp2_with (first | (go_at_call 8; (with_reducible refine (S8.out _).mono ?_); rintro e w1 ⟨rfl, h1⟩; have B1 := Lib.hid h1; clear h1; refine Hid.out ?_))
    refine Lib.hid ?_
    go_wp2_with (first | (go_at_call 9; (with_reducible refine (N9.out _).mono ?_); rintro e w2 ⟨rfl, h2⟩; have B2 := Lib.hid (belT B1.out h2); clear h2) | (go_at_call 10; (with_reducible refine (RL.out _).mono ?_); rintro e w3 ⟨rfl, h3⟩; have B3 := Lib.hid (belT B2.out h3); clear h3; refine Hid.out ?_))
    refine Lib.hid ?_
    have H3 := Lib.hid (heap_alloc_new w3 (.cells #[.int .i64 0, .int .i64 0, .string ⟨#[]⟩, .slice none 0 0] 28))
    have I4 := Lib.hid (fun o => show Inv w0 (w3.alloc o) from belT B3.out (alloc_old (w := w3) (o := o)))
    go_wp2_with (first | (go_at_call 6; (with_reducible refine (TO.out _ (I4.out _)).mono ?_); rintro e w4 ⟨rfl, h4⟩; have B4 := Lib.hid h4; clear h4; obtain ⟨⟨c0, c1, c2, c3⟩, _, hz4⟩ := cells4 B4.out H3.out; refine Hid.out ?_))
    refine Lib.hid ?_
    go_wp2_with (first | (go_at_call 8; (with_reducible refine (S8.out _).mono ?_); rintro e w5 ⟨rfl, h5⟩; have B5 := Lib.hid (belT B4.out h5); clear h5; refine Hid.out ?_))
    refine Lib.hid ?_
    go_wp2_with (first | (go_at_call 9; (with_reducible refine (N9.out _).mono ?_); rintro e w6 ⟨rfl, h6⟩; have B6 := Lib.hid (belT B5.out h6); clear h6) | (go_at_call 11; (with_reducible refine (ML.out _).mono ?_); rintro e w7 ⟨rfl, h7⟩; have B7 := Lib.hid (belT B6.out h7); clear h7))
    go_ret
    exact ⟨by simp, (I4.out _).trans (B7.out.mono (Inv.size (I4.out _)))⟩
  · have RO := Lib.hid (fun w => call_rep_ok s (by omega) (by omega) k (by omega) w)
    have MO := Lib.hid (fun w => made_rep_ok s (by omega) (by omega) k (by omega) w)
    have m2 : ¬ (4096 : Int) < (k : Int) * (s.size : Int) := by have : ((k * s.size : Nat) : Int) ≤ 4096 := by omega
                                                                push_cast at this; omega
    have hrs := repT_size s k
    have hpt := Lib.hid (fun i (h : i < k) => repT_part s k i h)
    generalize repT s k = r at RO MO hrs hpt
    have m3 : (((r.size : Nat) : Int) != (k : Int) * (s.size : Int)) = false := by rw [hrs]; push_cast; simp
    have m4 : IntKind.i64.wrap ((k : Int) * (s.size : Int)) = (k : Int) * (s.size : Int) := IntWalk.i64_in _ (by omega)
    have HRS := Lib.hid hrs
    have H1S := Lib.hid (show 1 ≤ s.size by omega)
    clear hz hmul hg hrs
    go_enter Tryd.func5, Tryd.ntmps5
    go_wp2_with (first | (go_at_call 8; (with_reducible refine (S8.out _).mono ?_); rintro e w1 ⟨rfl, h1⟩; have B1 := Lib.hid h1; clear h1; refine Hid.out ?_))
    refine Lib.hid ?_
    go_wp2_with (first | (go_at_call 9; (with_reducible refine (N9.out _).mono ?_); rintro e w2 ⟨rfl, h2⟩; have B2 := Lib.hid (belT B1.out h2); clear h2) | (go_at_call 10; (with_reducible refine (RO.out _).mono ?_); rintro e w3 ⟨rfl, h3⟩; have B3 := Lib.hid (belT B2.out h3); clear h3; refine Hid.out ?_))
    refine Lib.hid ?_
    have H3 := Lib.hid (heap_alloc_new w3 (.cells #[.int .i64 3, .int .i64 0, .string r, .slice none 0 0] 28))
    have I4 := Lib.hid (show Inv w0 (w3.alloc (.cells #[.int .i64 3, .int .i64 0, .string r, .slice none 0 0] 28)) from belT B3.out alloc_old)
    go_wp2_with fail
    generalize w3.alloc (.cells #[.int .i64 3, .int .i64 0, .string r, .slice none 0 0] 28) = w4 at H3 I4 ⊢
    generalize w3.heap.size = bx at H3 ⊢
    clear B1 B2 B3
    have K4 := Lib.hid (fun w (hb : Below w4.heap.size w4 w) => cells4 hb H3.out)
    have S0 : w4.drew.cell? ⟨bx, 2, none⟩ = some (.string r) ∧ Below w4.heap.size w4 w4.drew := by
      have h : Below w4.heap.size w4 w4.drew := (Below.refl w4.heap.size w4).drew
      exact ⟨(K4.out _ h).1.2.2.1, h⟩
    have SK := Lib.hid (show ∀ wb wa : World, Below wa.heap.size wa wb → (wa.cell? ⟨bx, 2, none⟩ = some (.string r) ∧ Below w4.heap.size w4 wa) → (wb.cell? ⟨bx, 2, none⟩ = some (.string r) ∧ Below w4.heap.size w4 wb) from
      fun wb wa hb h => by have h2 := belT h.2 hb; exact ⟨(K4.out _ h2).1.2.2.1, h2⟩)
    have SA := Lib.hid (show ∀ (wa : World) (o : Obj), (wa.cell? ⟨bx, 2, none⟩ = some (.string r) ∧ Below w4.heap.size w4 wa) → ((wa.alloc o).cell? ⟨bx, 2, none⟩ = some (.string r) ∧ Below w4.heap.size w4 (wa.alloc o)) from
      fun wa o h => SK.out _ wa alloc_old h)
    go_region_held3 (fun w' => w'.cell? ⟨bx, 2, none⟩ = some (.string r) ∧ Below w4.heap.size w4 w') (first | exact S0 | exact SA.out _ _ (by assumption) | exact SK.out _ _ (by assumption) (by assumption) | exact SK.out _ _ (by assumption) ⟨by assumption, by assumption⟩)
      (first | (go_at_call 8; refine (S8.out _).mono ?_; rintro e w5 ⟨rfl, hb5⟩) | (go_at_call 9; refine (N9.out _).mono ?_; rintro e w6 ⟨rfl, hb6⟩) | (go_at_call 11; refine (MO.out _).mono ?_; rintro e w7 ⟨rfl, hb7⟩))
    have B7 := Lib.hid (belA (belT (belT S0.2 hb5) hb6) hb7)
    clear hb5 hb6 hb7 S0 SK SA

    have SK := Lib.hid (show ∀ wb wa : World, Below wa.heap.size wa wb → ((wa.cell? ⟨bx, 0, none⟩ = some (.int .i64 3) ∧ wa.cell? ⟨bx, 1, none⟩ = some (.int .i64 0) ∧ wa.cell? ⟨bx, 2, none⟩ = some (.string r) ∧ wa.cell? ⟨bx, 3, none⟩ = some (.slice none 0 0)) ∧ Below w4.heap.size w4 wa) → ((wb.cell? ⟨bx, 0, none⟩ = some (.int .i64 3) ∧ wb.cell? ⟨bx, 1, none⟩ = some (.int .i64 0) ∧ wb.cell? ⟨bx, 2, none⟩ = some (.string r) ∧ wb.cell? ⟨bx, 3, none⟩ = some (.slice none 0 0)) ∧ Below w4.heap.size w4 wb) from
      fun wb wa hb h => by have h2 := belT h.2 hb; exact ⟨(K4.out _ h2).1, h2⟩)
    have SA := Lib.hid (show ∀ (wa : World) (o : Obj), ((wa.cell? ⟨bx, 0, none⟩ = some (.int .i64 3) ∧ wa.cell? ⟨bx, 1, none⟩ = some (.int .i64 0) ∧ wa.cell? ⟨bx, 2, none⟩ = some (.string r) ∧ wa.cell? ⟨bx, 3, none⟩ = some (.slice none 0 0)) ∧ Below w4.heap.size w4 wa) → (((wa.alloc o).cell? ⟨bx, 0, none⟩ = some (.int .i64 3) ∧ (wa.alloc o).cell? ⟨bx, 1, none⟩ = some (.int .i64 0) ∧ (wa.alloc o).cell? ⟨bx, 2, none⟩ = some (.string r) ∧ (wa.alloc o).cell? ⟨bx, 3, none⟩ = some (.slice none 0 0)) ∧ Below w4.heap.size w4 (wa.alloc o)) from
      fun wa o h => SK.out _ wa alloc_old h)
    have SI := Lib.hid (show ∀ wa : World, ((wa.cell? ⟨bx, 0, none⟩ = some (.int .i64 3) ∧ wa.cell? ⟨bx, 1, none⟩ = some (.int .i64 0) ∧ wa.cell? ⟨bx, 2, none⟩ = some (.string r) ∧ wa.cell? ⟨bx, 3, none⟩ = some (.slice none 0 0)) ∧ Below w4.heap.size w4 wa) → Inv w0 wa from fun wa h => Below.trans I4.out (h.2.mono (Inv.size I4.out)))


    go_wp2_with fail
    go_loopw [9] (fun i wr => ∃ j : Nat, j ≤ k ∧ i = .int .i64 j ∧ Hid (Below w4.heap.size w4 wr)) (fun i _ => k - (intOf i).toNat)
    case atStart => exact ⟨0, Nat.zero_le _, rfl, B7⟩
    case round =>
      obtain ⟨j, hj, rfl, HR⟩ := hrel
      have S0 : (wr.drew.cell? ⟨bx, 0, none⟩ = some (.int .i64 3) ∧ wr.drew.cell? ⟨bx, 1, none⟩ = some (.int .i64 0) ∧ wr.drew.cell? ⟨bx, 2, none⟩ = some (.string r) ∧ wr.drew.cell? ⟨bx, 3, none⟩ = some (.slice none 0 0)) ∧ Below w4.heap.size w4 wr.drew := by
        have h : Below w4.heap.size w4 wr.drew := HR.out.drew
        exact ⟨(K4.out _ h).1, h⟩
      by_cases hlt : j < k
      · have l1 : (j : Int) < (k : Int) := by omega
        obtain ⟨p, hp⟩ : ∃ p, j * s.size = p := ⟨_, rfl⟩
        obtain ⟨q, hq⟩ : ∃ q, (j + 1) * s.size = q := ⟨_, rfl⟩
        have hqk : q ≤ k * s.size := by rw [← hq]; exact Nat.mul_le_mul_right _ hlt
        have hpq : p + s.size = q := by rw [← hq, ← hp, Nat.succ_mul]
        obtain ⟨lo, hlo⟩ : ∃ lo, p + 1 = lo := ⟨_, rfl⟩
        obtain ⟨j1, hj1⟩ : ∃ j1, j + 1 = j1 := ⟨_, rfl⟩
        have q1 : (j : Int) * (s.size : Int) = (p : Int) := by rw [← hp]; push_cast; rfl
        have q2 : (p : Int) + 1 = (lo : Int) := by omega
        have q3 : (j : Int) + 1 = (j1 : Int) := by omega
        have q4 : (j1 : Int) * (s.size : Int) = (q : Int) := by rw [← hq, ← hj1]; push_cast; rfl
        have e1 : IntKind.i64.wrap (p : Int) = p := IntWalk.i64_in _ (by omega)
        have e2 : IntKind.i64.wrap (lo : Int) = lo := IntWalk.i64_in _ (by omega)
        have e3 : IntKind.i64.wrap (j1 : Int) = j1 := IntWalk.i64_in _ (by omega)
        have e4 : IntKind.i64.wrap (q : Int) = q := IntWalk.i64_in _ (by omega)
        have NL := Lib.hid (fun w => num9 (lo : Int) ⟨by omega, by omega⟩ w)
        have NH := Lib.hid (fun w => num9 (q : Int) ⟨by omega, by omega⟩ w)
        have hrq : q ≤ r.size := by rw [HRS.out]; exact hqk
        have hr6 : r.size ≤ 1000000 := by rw [HRS.out]; omega
        have hxs : r.extract (lo - 1) q = s := by
          have := hpt.out j hlt
          rw [hp, hq] at this
          rw [← hlo]; exact this
        have TS := Lib.hid (fun w => text_sub r hr6 lo q (by omega) (by have := H1S.out; omega) hrq w)
        rw [hxs] at TS
        have HJ := Lib.hid hj1
        clear hp hq hqk hpq hlo hj1 hrq hr6 hxs
        go_wp2_with fail
        go_region_held3 (fun w' => (w'.cell? ⟨bx, 0, none⟩ = some (.int .i64 3) ∧ w'.cell? ⟨bx, 1, none⟩ = some (.int .i64 0) ∧ w'.cell? ⟨bx, 2, none⟩ = some (.string r) ∧ w'.cell? ⟨bx, 3, none⟩ = some (.slice none 0 0)) ∧ Below w4.heap.size w4 w') (first | exact S0 | exact SA.out _ _ (by assumption) | exact SK.out _ _ (by assumption) (by assumption) | exact SK.out _ _ (by assumption) ⟨by assumption, by assumption⟩)
          (first | (go_at_call 9; (with_reducible refine (NL.out _).mono ?_); rintro e w5 ⟨rfl, hb5⟩) | (go_at_call 9; (with_reducible refine (NH.out _).mono ?_); rintro e w6 ⟨rfl, hb6⟩) | (go_at_call 7; (with_reducible refine (TS.out _).mono ?_); rintro e w8 ⟨rfl, hb8⟩))
        have B9 := Lib.hid (belA (belT (belT (HR.out.drew) hb5) hb6) hb8)
        clear hb5 hb6 hb8 S0
        go_wp2
        exact ⟨⟨j1, by have := HJ.out; omega, rfl, B9⟩, by have := HJ.out; simp [intOf]; omega⟩
      · have l1 : ¬ (j : Int) < (k : Int) := by omega
        go_wp2_with fail
        go_region_held3 (fun w' => (w'.cell? ⟨bx, 0, none⟩ = some (.int .i64 3) ∧ w'.cell? ⟨bx, 1, none⟩ = some (.int .i64 0) ∧ w'.cell? ⟨bx, 2, none⟩ = some (.string r) ∧ w'.cell? ⟨bx, 3, none⟩ = some (.slice none 0 0)) ∧ Below w4.heap.size w4 w') (first | exact S0 | exact SA.out _ _ (by assumption) | exact SK.out _ _ (by assumption) (by assumption) | exact SK.out _ _ (by assumption) ⟨by assumption, by assumption⟩)
          (first | (go_at_call 6; (with_reducible refine (TO.out _ (SI.out _ ?_)).mono ?_); assumption; rintro e w5 ⟨rfl, hb5⟩) | (go_at_call 12; (with_reducible refine (RefOut_text r _).mono ?_); rintro e w6 ⟨rfl, hb6⟩))
        have B9 := Lib.hid (belT (belT (HR.out.drew) hb5) hb6)
        clear hb5 hb6 S0
        go_wp2
        go_ret
        exact ⟨by simp, Below.trans I4.out (B9.out.mono (Inv.size I4.out))⟩
end Go.Proofs.YtjoegdnefdaokaaDoor
