/- The law StringsCounts. -/
import Derived.Test.YtaomiglmahklfaaGreatDoorSt39
namespace Go.Proofs.YtaomiglmahklfaaGreatDoor
open Go.ChangeShapes Go.WideShapes Go.ChangeAt Go.RowKit

theorem Num14 {w0 : World} (hT : Tab w0) (n : Int) (hn : I64 n) (w : World) (hi : Below w0.heap.size w0 w) : Calls Tryz.prog 14 #[.int .i64 n] w fun e w' => e = .returned (.string (numT n)) ∧ Below w.heap.size w w' := by
  have C := Lib.hid (Number13 hT n hn w hi)
  clear hT hi hn
  go_enter Tryz.func14, Tryz.ntmps14
  go_wp2_with (go_at_call 13; refine (C.out).mono ?_; rintro e w' ⟨rfl, hi'⟩)
  go_ret
  exact ⟨by simp, by assumption⟩
theorem c_incr (W0 : World) (hT : Tab W0) (bS bM : Nat) (n m : Int) (hn : I64 n) (hm : I64 m) (hr : rng (n + m) = true) (X : World) (hL : LW W0 X bS bM (MapT.put ⟨#[107]⟩ (.agg #[.string ⟨#[107]⟩, .int .i64 1, .string (numT n), .slice none 0 0, .slice none 0 0, .slice none 0 0, .slice none 0 0, .int .i64 0]) [])) (q : Nat) (hq0 : X.heap.size = q) : Calls Tryz.prog 11 #[.pointer (some ⟨bS, 0, none⟩), .slice (some ⟨q, 0, none⟩) 3 3] (X.alloc (.cells #[.string ⟨#[73, 78, 67, 82, 66, 89]⟩, .string ⟨#[107]⟩, .string (numT m)] 9)) fun e w' => e = .returned (.agg #[.int .i64 3, .int .i64 (n + m), .string ⟨#[]⟩, .slice none 0 0]) ∧ LW W0 w' bS bM (MapT.put ⟨#[107]⟩ (.agg #[.string ⟨#[107]⟩, .int .i64 1, .string (numT (n + m)), .slice none 0 0, .slice none 0 0, .slice none 0 0, .slice none 0 0, .int .i64 0]) []) ∧ Kp X.heap.size (fun i => i ≠ bS ∧ i ≠ bM) X w' := by
  have q1 := numT_size n hn
  have q2 := numT_size m hm
  by_cases he : numT n = numT (n + m)
  · have := d_incr0 W0 hT bS bM (MapT.put ⟨#[107]⟩ (.agg #[.string ⟨#[107]⟩, .int .i64 1, .string (numT n), .slice none 0 0, .slice none 0 0, .slice none 0 0, .slice none 0 0, .int .i64 0]) []) ⟨#[107]⟩ (numT m) (numT n) n m 0 (by omega) (by omega) hn hm (parse_numT n hn) (parse_numT m hm) hr he (find_now _ _ _) (.inl rfl) X hL q hq0
    rw [he] at this
    exact this
  · have := d_incr1 W0 hT bS bM (MapT.put ⟨#[107]⟩ (.agg #[.string ⟨#[107]⟩, .int .i64 1, .string (numT n), .slice none 0 0, .slice none 0 0, .slice none 0 0, .slice none 0 0, .int .i64 0]) []) ⟨#[107]⟩ (numT m) (numT n) n m 0 (by omega) (by omega) hn hm (parse_numT n hn) (parse_numT m hm) hr he (by decide) (by decide) (by decide) (by decide) (by simp [MapT.put]) (find_now _ _ _) (.inl rfl) X hL q hq0
    rw [put_put] at this
    exact this
theorem c_decr (W0 : World) (hT : Tab W0) (bS bM : Nat) (n m : Int) (hn : I64 n) (hm : I64 m) (hr : rng (n - m) = true) (X : World) (hL : LW W0 X bS bM (MapT.put ⟨#[107]⟩ (.agg #[.string ⟨#[107]⟩, .int .i64 1, .string (numT n), .slice none 0 0, .slice none 0 0, .slice none 0 0, .slice none 0 0, .int .i64 0]) [])) (q : Nat) (hq0 : X.heap.size = q) : Calls Tryz.prog 11 #[.pointer (some ⟨bS, 0, none⟩), .slice (some ⟨q, 0, none⟩) 3 3] (X.alloc (.cells #[.string ⟨#[68, 69, 67, 82, 66, 89]⟩, .string ⟨#[107]⟩, .string (numT m)] 9)) fun e w' => e = .returned (.agg #[.int .i64 3, .int .i64 (n - m), .string ⟨#[]⟩, .slice none 0 0]) ∧ LW W0 w' bS bM (MapT.put ⟨#[107]⟩ (.agg #[.string ⟨#[107]⟩, .int .i64 1, .string (numT (n - m)), .slice none 0 0, .slice none 0 0, .slice none 0 0, .slice none 0 0, .int .i64 0]) []) ∧ Kp X.heap.size (fun i => i ≠ bS ∧ i ≠ bM) X w' := by
  have q1 := numT_size n hn
  have q2 := numT_size m hm
  by_cases he : numT n = numT (n - m)
  · have := d_decr0 W0 hT bS bM (MapT.put ⟨#[107]⟩ (.agg #[.string ⟨#[107]⟩, .int .i64 1, .string (numT n), .slice none 0 0, .slice none 0 0, .slice none 0 0, .slice none 0 0, .int .i64 0]) []) ⟨#[107]⟩ (numT m) (numT n) n m 0 (by omega) (by omega) hn hm (parse_numT n hn) (parse_numT m hm) hr he (find_now _ _ _) (.inl rfl) X hL q hq0
    rw [he] at this
    exact this
  · have := d_decr1 W0 hT bS bM (MapT.put ⟨#[107]⟩ (.agg #[.string ⟨#[107]⟩, .int .i64 1, .string (numT n), .slice none 0 0, .slice none 0 0, .slice none 0 0, .slice none 0 0, .int .i64 0]) []) ⟨#[107]⟩ (numT m) (numT n) n m 0 (by omega) (by omega) hn hm (parse_numT n hn) (parse_numT m hm) hr he (by decide) (by decide) (by decide) (by decide) (by simp [MapT.put]) (find_now _ _ _) (.inl rfl) X hL q hq0
    rw [put_put] at this
    exact this
theorem c_back (W0 : World) (hT : Tab W0) (bS bM : Nat) (n m : Int) (hn : I64 n) (hnm : I64 (n + m)) (hm : I64 m) (X : World) (hL : LW W0 X bS bM (MapT.put ⟨#[107]⟩ (.agg #[.string ⟨#[107]⟩, .int .i64 1, .string (numT (n + m)), .slice none 0 0, .slice none 0 0, .slice none 0 0, .slice none 0 0, .int .i64 0]) [])) (q : Nat) (hq0 : X.heap.size = q) : Calls Tryz.prog 11 #[.pointer (some ⟨bS, 0, none⟩), .slice (some ⟨q, 0, none⟩) 3 3] (X.alloc (.cells #[.string ⟨#[68, 69, 67, 82, 66, 89]⟩, .string ⟨#[107]⟩, .string (numT m)] 9)) fun e w' => e = .returned (.agg #[.int .i64 3, .int .i64 n, .string ⟨#[]⟩, .slice none 0 0]) ∧ LW W0 w' bS bM (MapT.put ⟨#[107]⟩ (.agg #[.string ⟨#[107]⟩, .int .i64 1, .string (numT n), .slice none 0 0, .slice none 0 0, .slice none 0 0, .slice none 0 0, .int .i64 0]) []) ∧ Kp X.heap.size (fun i => i ≠ bS ∧ i ≠ bM) X w' := by
  have e : n + m - m = n := by omega
  have := c_decr W0 hT bS bM (n + m) m hnm hm (by rw [e]; exact rng_yes hn.1 hn.2) X hL q hq0
  rw [e] at this
  exact this
theorem c_incrF (W0 : World) (bS bM : Nat) (n m : Int) (hn : I64 n) (hm : I64 m) (hr : rng (n + m) = false) (X : World) (hL : LW W0 X bS bM (MapT.put ⟨#[107]⟩ (.agg #[.string ⟨#[107]⟩, .int .i64 1, .string (numT n), .slice none 0 0, .slice none 0 0, .slice none 0 0, .slice none 0 0, .int .i64 0]) [])) (q : Nat) (hq0 : X.heap.size = q) : Calls Tryz.prog 11 #[.pointer (some ⟨bS, 0, none⟩), .slice (some ⟨q, 0, none⟩) 3 3] (X.alloc (.cells #[.string ⟨#[73, 78, 67, 82, 66, 89]⟩, .string ⟨#[107]⟩, .string (numT m)] 9)) fun e w' => e = .returned (.agg #[.int .i64 2, .int .i64 4, .string ⟨#[]⟩, .slice none 0 0]) ∧ LW W0 w' bS bM (MapT.put ⟨#[107]⟩ (.agg #[.string ⟨#[107]⟩, .int .i64 1, .string (numT n), .slice none 0 0, .slice none 0 0, .slice none 0 0, .slice none 0 0, .int .i64 0]) []) ∧ Kp X.heap.size (fun i => i ≠ bS ∧ i ≠ bM) X w' := by
  have q1 := numT_size n hn
  have q2 := numT_size m hm
  exact d_incrF W0 bS bM (MapT.put ⟨#[107]⟩ (.agg #[.string ⟨#[107]⟩, .int .i64 1, .string (numT n), .slice none 0 0, .slice none 0 0, .slice none 0 0, .slice none 0 0, .int .i64 0]) []) ⟨#[107]⟩ (numT m) (numT n) n m 0 (by omega) (by omega) hn hm (parse_numT n hn) (parse_numT m hm) hr (find_now _ _ _) (.inl rfl) X hL q hq0
theorem c_set (W0 : World) (bS bM : Nat) (n : Int) (hn : I64 n) (X : World) (hL : LW W0 X bS bM []) (q : Nat) (hq0 : X.heap.size = q) : Calls Tryz.prog 11 #[.pointer (some ⟨bS, 0, none⟩), .slice (some ⟨q, 0, none⟩) 3 3] (X.alloc (.cells #[.string ⟨#[83, 69, 84]⟩, .string ⟨#[107]⟩, .string (numT n)] 9)) fun e w' => e = .returned (.agg #[.int .i64 1, .int .i64 0, .string ⟨#[79, 75]⟩, .slice none 0 0]) ∧ LW W0 w' bS bM (MapT.put ⟨#[107]⟩ (.agg #[.string ⟨#[107]⟩, .int .i64 1, .string (numT n), .slice none 0 0, .slice none 0 0, .slice none 0 0, .slice none 0 0, .int .i64 0]) []) ∧ Kp X.heap.size (fun i => i ≠ bS ∧ i ≠ bM) X w' := by
  have q1 := numT_size n hn
  exact d_set W0 bS bM [] ⟨#[107]⟩ (numT n) (by decide) (by decide) (by omega) (by decide) rfl X hL q hq0
theorem c_get (W0 : World) (bS bM : Nat) (n : Int) (X : World) (hL : LW W0 X bS bM (MapT.put ⟨#[107]⟩ (.agg #[.string ⟨#[107]⟩, .int .i64 1, .string (numT n), .slice none 0 0, .slice none 0 0, .slice none 0 0, .slice none 0 0, .int .i64 0]) [])) (q : Nat) (hq0 : X.heap.size = q) : Calls Tryz.prog 11 #[.pointer (some ⟨bS, 0, none⟩), .slice (some ⟨q, 0, none⟩) 2 2] (X.alloc (.cells #[.string ⟨#[71, 69, 84]⟩, .string ⟨#[107]⟩] 9)) fun e w' => e = .returned (.agg #[.int .i64 4, .int .i64 0, .string (numT n), .slice none 0 0]) ∧ LW W0 w' bS bM (MapT.put ⟨#[107]⟩ (.agg #[.string ⟨#[107]⟩, .int .i64 1, .string (numT n), .slice none 0 0, .slice none 0 0, .slice none 0 0, .slice none 0 0, .int .i64 0]) []) ∧ Kp X.heap.size (fun i => i ≠ bS ∧ i ≠ bM) X w' := by
  exact d_get W0 bS bM (MapT.put ⟨#[107]⟩ (.agg #[.string ⟨#[107]⟩, .int .i64 1, .string (numT n), .slice none 0 0, .slice none 0 0, .slice none 0 0, .slice none 0 0, .int .i64 0]) []) ⟨#[107]⟩ (numT n) 0 (find_now _ _ _) (.inl rfl) X hL q hq0
set_option maxRecDepth 100000 in
set_option maxHeartbeats 8000000 in
theorem counts_pos (n m : Int) (hn : I64 n) (hm : I64 m) (hr : rng (n + m) = true) (g1 : 0 < m) (w : World) (hT : Tab w) : Calls Tryz.prog 7 #[.int .i64 n, .int .i64 m] w fun e w' => e = .returned (.bool true) ∧ Below w.heap.size w w' := by
  have fK := field_K
  have fN := field_N
  have fS := field_S
  have hn1 := hn.1
  have hn2 := hn.2
  have hm1 := hm.1
  have hm2 := hm.2
  have hr2 : I64 (n + m) := rng_of hr
  have wnm : wrap64 (n + m) = n + m := IntWalk.wrap64_in _ ⟨hr2.1, hr2.2⟩
  have g2 : ¬ 9223372036854775807 - m < n := by have := hr2.2; omega
  have NW := Lib.hid (New9 w)
  go_enter Tryz.func7, Tryz.ntmps7
  go_wp2_with (first | (go_at_call 9; (with_reducible refine (NW.out).mono ?_); rintro e v0 ⟨bS, bM, rfl, hS0, hbS, hbM, hB0⟩; have L0 := Lib.hid (LW.mk hS0 hB0 hbS hbM); clear hS0 hbS hbM hB0; refine Hid.out ?_))
  refine Lib.hid ?_
  have U1 := Lib.hid (Num14 hT n hn (v0) L0.out.below)
  go_wp2_with (first | (go_at_call 14; (with_reducible refine (U1.out).mono ?_); rintro e u1 ⟨rfl, hb⟩; have K1 := Lib.hid (L0.out.old hb); clear hb; refine Hid.out ?_))
  refine Lib.hid ?_
  have D1 := Lib.hid (c_set w bS bM n hn (u1) K1.out (u1.heap.size) rfl)
  go_wp2_with (first | (go_at_call 11; (with_reducible refine (D1.out).mono ?_); rintro e v1 ⟨rfl, hL, hK⟩; have L1 := Lib.hid hL; clear hL hK; refine Hid.out ?_))
  refine Lib.hid ?_
  have U2 := Lib.hid (Num14 hT m hm (v1) L1.out.below)
  go_wp2_with (first | (go_at_call 14; (with_reducible refine (U2.out).mono ?_); rintro e u2 ⟨rfl, hb⟩; have K2 := Lib.hid (L1.out.old hb); clear hb; refine Hid.out ?_))
  refine Lib.hid ?_
  have D2 := Lib.hid (c_incr w hT bS bM n m hn hm hr (u2) K2.out (u2.heap.size) rfl)
  go_wp2_with (first | (go_at_call 11; (with_reducible refine (D2.out).mono ?_); rintro e v2 ⟨rfl, hL, hK⟩; have L2 := Lib.hid hL; clear hL hK; refine Hid.out ?_))
  refine Lib.hid ?_
  have M2 := Lib.hid (L2.out.old (alloc_old (o := .cells #[.int .i64 3, .int .i64 (n + m), .string ⟨#[]⟩, .slice none 0 0] 37)))
  have a_2 := Lib.hid (heap_alloc_new v2 (.cells #[.int .i64 3, .int .i64 (n + m), .string ⟨#[]⟩, .slice none 0 0] 37))
  obtain ⟨⟨a0, a1, a2, a3⟩, _⟩ := cells4 a_2.out
  have U3 := Lib.hid (Num14 hT m hm (v2.alloc (.cells #[.int .i64 3, .int .i64 (n + m), .string ⟨#[]⟩, .slice none 0 0] 37)) M2.out.below)
  go_wp2_with (first | (go_at_call 14; (with_reducible refine (U3.out).mono ?_); rintro e u3 ⟨rfl, hb⟩; have K3 := Lib.hid (M2.out.old hb); have an_3 := Lib.hid (blk_below a_2.out hb); clear hb; refine Hid.out ?_))
  refine Lib.hid ?_
  clear a0 a1 a2 a3
  have D3 := Lib.hid (c_back w hT bS bM n m hn hr2 hm (u3) K3.out (u3.heap.size) rfl)
  go_wp2_with (first | (go_at_call 11; (with_reducible refine (D3.out).mono ?_); rintro e v3 ⟨rfl, hL, hK⟩; have L3 := Lib.hid hL; have a_3 := Lib.hid (keep37 hK K3.out.sp an_3.out); clear hL hK; refine Hid.out ?_))
  refine Lib.hid ?_
  have M3 := Lib.hid (L3.out.old (alloc_old (o := .cells #[.int .i64 3, .int .i64 n, .string ⟨#[]⟩, .slice none 0 0] 37)))
  have ax_3 := Lib.hid (blk_below a_3.out (alloc_old (o := .cells #[.int .i64 3, .int .i64 n, .string ⟨#[]⟩, .slice none 0 0] 37)))
  have b_3 := Lib.hid (heap_alloc_new v3 (.cells #[.int .i64 3, .int .i64 n, .string ⟨#[]⟩, .slice none 0 0] 37))
  have TO := Lib.hid (told8 (v3.alloc (.cells #[.int .i64 3, .int .i64 n, .string ⟨#[]⟩, .slice none 0 0] 37)) (hT.at_ M3.out.below))
  go_wp2_with (first | (go_at_call 8; (with_reducible refine (TO.out).mono ?_); rintro e x1 ⟨rfl, hb⟩; have T1 := Lib.hid (M3.out.old hb); have aqq := Lib.hid (blk_below ax_3.out hb); have bqq := Lib.hid (blk_below b_3.out hb); obtain ⟨⟨a0, a1, a2, a3⟩, _⟩ := cells4 aqq.out; obtain ⟨⟨b0, b1, b2, b3⟩, _⟩ := cells4 bqq.out; clear hb; have DG := Lib.hid (c_get w bS bM n x1 T1.out _ rfl); refine Hid.out ?_))
  refine Lib.hid ?_
  go_wp2_with (first | (go_at_call 11; (with_reducible refine (DG.out).mono ?_); rintro e x2 ⟨rfl, hL, hK⟩; have T2 := Lib.hid hL; have UL := Lib.hid (Num14 hT n hn x2 hL.below); clear hL hK) | (go_at_call 14; (with_reducible refine (UL.out).mono ?_); rintro e x3 ⟨rfl, hb⟩; have T3 := Lib.hid (T2.out.old hb); clear hb))
  go_ret
  exact ⟨by simp, T3.out.below⟩
set_option maxRecDepth 100000 in
set_option maxHeartbeats 8000000 in
theorem counts_neg (n m : Int) (hn : I64 n) (hm : I64 m) (hr : rng (n + m) = true) (g1 : m < 0) (w : World) (hT : Tab w) : Calls Tryz.prog 7 #[.int .i64 n, .int .i64 m] w fun e w' => e = .returned (.bool true) ∧ Below w.heap.size w w' := by
  have fK := field_K
  have fN := field_N
  have fS := field_S
  have hn1 := hn.1
  have hn2 := hn.2
  have hm1 := hm.1
  have hm2 := hm.2
  have hr2 : I64 (n + m) := rng_of hr
  have wnm : wrap64 (n + m) = n + m := IntWalk.wrap64_in _ ⟨hr2.1, hr2.2⟩
  have g0 : ¬ 0 < m := by omega
  have g2 : ¬ n < -9223372036854775808 - m := by have := hr2.1; omega
  have NW := Lib.hid (New9 w)
  go_enter Tryz.func7, Tryz.ntmps7
  go_wp2_with (first | (go_at_call 9; (with_reducible refine (NW.out).mono ?_); rintro e v0 ⟨bS, bM, rfl, hS0, hbS, hbM, hB0⟩; have L0 := Lib.hid (LW.mk hS0 hB0 hbS hbM); clear hS0 hbS hbM hB0; refine Hid.out ?_))
  refine Lib.hid ?_
  have U1 := Lib.hid (Num14 hT n hn (v0) L0.out.below)
  go_wp2_with (first | (go_at_call 14; (with_reducible refine (U1.out).mono ?_); rintro e u1 ⟨rfl, hb⟩; have K1 := Lib.hid (L0.out.old hb); clear hb; refine Hid.out ?_))
  refine Lib.hid ?_
  have D1 := Lib.hid (c_set w bS bM n hn (u1) K1.out (u1.heap.size) rfl)
  go_wp2_with (first | (go_at_call 11; (with_reducible refine (D1.out).mono ?_); rintro e v1 ⟨rfl, hL, hK⟩; have L1 := Lib.hid hL; clear hL hK; refine Hid.out ?_))
  refine Lib.hid ?_
  have U2 := Lib.hid (Num14 hT m hm (v1) L1.out.below)
  go_wp2_with (first | (go_at_call 14; (with_reducible refine (U2.out).mono ?_); rintro e u2 ⟨rfl, hb⟩; have K2 := Lib.hid (L1.out.old hb); clear hb; refine Hid.out ?_))
  refine Lib.hid ?_
  have D2 := Lib.hid (c_incr w hT bS bM n m hn hm hr (u2) K2.out (u2.heap.size) rfl)
  go_wp2_with (first | (go_at_call 11; (with_reducible refine (D2.out).mono ?_); rintro e v2 ⟨rfl, hL, hK⟩; have L2 := Lib.hid hL; clear hL hK; refine Hid.out ?_))
  refine Lib.hid ?_
  have M2 := Lib.hid (L2.out.old (alloc_old (o := .cells #[.int .i64 3, .int .i64 (n + m), .string ⟨#[]⟩, .slice none 0 0] 37)))
  have a_2 := Lib.hid (heap_alloc_new v2 (.cells #[.int .i64 3, .int .i64 (n + m), .string ⟨#[]⟩, .slice none 0 0] 37))
  obtain ⟨⟨a0, a1, a2, a3⟩, _⟩ := cells4 a_2.out
  have U3 := Lib.hid (Num14 hT m hm (v2.alloc (.cells #[.int .i64 3, .int .i64 (n + m), .string ⟨#[]⟩, .slice none 0 0] 37)) M2.out.below)
  go_wp2_with (first | (go_at_call 14; (with_reducible refine (U3.out).mono ?_); rintro e u3 ⟨rfl, hb⟩; have K3 := Lib.hid (M2.out.old hb); have an_3 := Lib.hid (blk_below a_2.out hb); clear hb; refine Hid.out ?_))
  refine Lib.hid ?_
  clear a0 a1 a2 a3
  have D3 := Lib.hid (c_back w hT bS bM n m hn hr2 hm (u3) K3.out (u3.heap.size) rfl)
  go_wp2_with (first | (go_at_call 11; (with_reducible refine (D3.out).mono ?_); rintro e v3 ⟨rfl, hL, hK⟩; have L3 := Lib.hid hL; have a_3 := Lib.hid (keep37 hK K3.out.sp an_3.out); clear hL hK; refine Hid.out ?_))
  refine Lib.hid ?_
  have M3 := Lib.hid (L3.out.old (alloc_old (o := .cells #[.int .i64 3, .int .i64 n, .string ⟨#[]⟩, .slice none 0 0] 37)))
  have ax_3 := Lib.hid (blk_below a_3.out (alloc_old (o := .cells #[.int .i64 3, .int .i64 n, .string ⟨#[]⟩, .slice none 0 0] 37)))
  have b_3 := Lib.hid (heap_alloc_new v3 (.cells #[.int .i64 3, .int .i64 n, .string ⟨#[]⟩, .slice none 0 0] 37))
  have TO := Lib.hid (told8 (v3.alloc (.cells #[.int .i64 3, .int .i64 n, .string ⟨#[]⟩, .slice none 0 0] 37)) (hT.at_ M3.out.below))
  go_wp2_with (first | (go_at_call 8; (with_reducible refine (TO.out).mono ?_); rintro e x1 ⟨rfl, hb⟩; have T1 := Lib.hid (M3.out.old hb); have aqq := Lib.hid (blk_below ax_3.out hb); have bqq := Lib.hid (blk_below b_3.out hb); obtain ⟨⟨a0, a1, a2, a3⟩, _⟩ := cells4 aqq.out; obtain ⟨⟨b0, b1, b2, b3⟩, _⟩ := cells4 bqq.out; clear hb; have DG := Lib.hid (c_get w bS bM n x1 T1.out _ rfl); refine Hid.out ?_))
  refine Lib.hid ?_
  go_wp2_with (first | (go_at_call 11; (with_reducible refine (DG.out).mono ?_); rintro e x2 ⟨rfl, hL, hK⟩; have T2 := Lib.hid hL; have UL := Lib.hid (Num14 hT n hn x2 hL.below); clear hL hK) | (go_at_call 14; (with_reducible refine (UL.out).mono ?_); rintro e x3 ⟨rfl, hb⟩; have T3 := Lib.hid (T2.out.old hb); clear hb))
  go_ret
  exact ⟨by simp, T3.out.below⟩
set_option maxRecDepth 100000 in
set_option maxHeartbeats 8000000 in
theorem counts_nil (n m : Int) (hn : I64 n) (hm : I64 m) (hr : rng (n + m) = true) (g1 : m = 0) (w : World) (hT : Tab w) : Calls Tryz.prog 7 #[.int .i64 n, .int .i64 m] w fun e w' => e = .returned (.bool true) ∧ Below w.heap.size w w' := by
  have fK := field_K
  have fN := field_N
  have fS := field_S
  have hn1 := hn.1
  have hn2 := hn.2
  have hm1 := hm.1
  have hm2 := hm.2
  have hr2 : I64 (n + m) := rng_of hr
  have wnm : wrap64 (n + m) = n + m := IntWalk.wrap64_in _ ⟨hr2.1, hr2.2⟩
  have g0 : ¬ 0 < m := by omega
  have g3 : ¬ m < 0 := by omega
  clear g1
  have NW := Lib.hid (New9 w)
  go_enter Tryz.func7, Tryz.ntmps7
  go_wp2_with (first | (go_at_call 9; (with_reducible refine (NW.out).mono ?_); rintro e v0 ⟨bS, bM, rfl, hS0, hbS, hbM, hB0⟩; have L0 := Lib.hid (LW.mk hS0 hB0 hbS hbM); clear hS0 hbS hbM hB0; refine Hid.out ?_))
  refine Lib.hid ?_
  have U1 := Lib.hid (Num14 hT n hn (v0) L0.out.below)
  go_wp2_with (first | (go_at_call 14; (with_reducible refine (U1.out).mono ?_); rintro e u1 ⟨rfl, hb⟩; have K1 := Lib.hid (L0.out.old hb); clear hb; refine Hid.out ?_))
  refine Lib.hid ?_
  have D1 := Lib.hid (c_set w bS bM n hn (u1) K1.out (u1.heap.size) rfl)
  go_wp2_with (first | (go_at_call 11; (with_reducible refine (D1.out).mono ?_); rintro e v1 ⟨rfl, hL, hK⟩; have L1 := Lib.hid hL; clear hL hK; refine Hid.out ?_))
  refine Lib.hid ?_
  have U2 := Lib.hid (Num14 hT m hm (v1) L1.out.below)
  go_wp2_with (first | (go_at_call 14; (with_reducible refine (U2.out).mono ?_); rintro e u2 ⟨rfl, hb⟩; have K2 := Lib.hid (L1.out.old hb); clear hb; refine Hid.out ?_))
  refine Lib.hid ?_
  have D2 := Lib.hid (c_incr w hT bS bM n m hn hm hr (u2) K2.out (u2.heap.size) rfl)
  go_wp2_with (first | (go_at_call 11; (with_reducible refine (D2.out).mono ?_); rintro e v2 ⟨rfl, hL, hK⟩; have L2 := Lib.hid hL; clear hL hK; refine Hid.out ?_))
  refine Lib.hid ?_
  have M2 := Lib.hid (L2.out.old (alloc_old (o := .cells #[.int .i64 3, .int .i64 (n + m), .string ⟨#[]⟩, .slice none 0 0] 37)))
  have a_2 := Lib.hid (heap_alloc_new v2 (.cells #[.int .i64 3, .int .i64 (n + m), .string ⟨#[]⟩, .slice none 0 0] 37))
  obtain ⟨⟨a0, a1, a2, a3⟩, _⟩ := cells4 a_2.out
  have U3 := Lib.hid (Num14 hT m hm (v2.alloc (.cells #[.int .i64 3, .int .i64 (n + m), .string ⟨#[]⟩, .slice none 0 0] 37)) M2.out.below)
  go_wp2_with (first | (go_at_call 14; (with_reducible refine (U3.out).mono ?_); rintro e u3 ⟨rfl, hb⟩; have K3 := Lib.hid (M2.out.old hb); have an_3 := Lib.hid (blk_below a_2.out hb); clear hb; refine Hid.out ?_))
  refine Lib.hid ?_
  clear a0 a1 a2 a3
  have D3 := Lib.hid (c_back w hT bS bM n m hn hr2 hm (u3) K3.out (u3.heap.size) rfl)
  go_wp2_with (first | (go_at_call 11; (with_reducible refine (D3.out).mono ?_); rintro e v3 ⟨rfl, hL, hK⟩; have L3 := Lib.hid hL; have a_3 := Lib.hid (keep37 hK K3.out.sp an_3.out); clear hL hK; refine Hid.out ?_))
  refine Lib.hid ?_
  have M3 := Lib.hid (L3.out.old (alloc_old (o := .cells #[.int .i64 3, .int .i64 n, .string ⟨#[]⟩, .slice none 0 0] 37)))
  have ax_3 := Lib.hid (blk_below a_3.out (alloc_old (o := .cells #[.int .i64 3, .int .i64 n, .string ⟨#[]⟩, .slice none 0 0] 37)))
  have b_3 := Lib.hid (heap_alloc_new v3 (.cells #[.int .i64 3, .int .i64 n, .string ⟨#[]⟩, .slice none 0 0] 37))
  have TO := Lib.hid (told8 (v3.alloc (.cells #[.int .i64 3, .int .i64 n, .string ⟨#[]⟩, .slice none 0 0] 37)) (hT.at_ M3.out.below))
  go_wp2_with (first | (go_at_call 8; (with_reducible refine (TO.out).mono ?_); rintro e x1 ⟨rfl, hb⟩; have T1 := Lib.hid (M3.out.old hb); have aqq := Lib.hid (blk_below ax_3.out hb); have bqq := Lib.hid (blk_below b_3.out hb); obtain ⟨⟨a0, a1, a2, a3⟩, _⟩ := cells4 aqq.out; obtain ⟨⟨b0, b1, b2, b3⟩, _⟩ := cells4 bqq.out; clear hb; have DG := Lib.hid (c_get w bS bM n x1 T1.out _ rfl); refine Hid.out ?_))
  refine Lib.hid ?_
  go_wp2_with (first | (go_at_call 11; (with_reducible refine (DG.out).mono ?_); rintro e x2 ⟨rfl, hL, hK⟩; have T2 := Lib.hid hL; have UL := Lib.hid (Num14 hT n hn x2 hL.below); clear hL hK) | (go_at_call 14; (with_reducible refine (UL.out).mono ?_); rintro e x3 ⟨rfl, hb⟩; have T3 := Lib.hid (T2.out.old hb); clear hb))
  go_ret
  exact ⟨by simp, T3.out.below⟩
set_option maxRecDepth 100000 in
set_option maxHeartbeats 8000000 in
theorem counts_hi (n m : Int) (hn : I64 n) (hm : I64 m) (hr : rng (n + m) = false) (g1 : 0 < m) (g2 : 9223372036854775807 - m < n) (w : World) (hT : Tab w) : Calls Tryz.prog 7 #[.int .i64 n, .int .i64 m] w fun e w' => e = .returned (.bool true) ∧ Below w.heap.size w w' := by
  have fK := field_K
  have fN := field_N
  have fS := field_S
  have hn1 := hn.1
  have hn2 := hn.2
  have hm1 := hm.1
  have hm2 := hm.2
  have NW := Lib.hid (New9 w)
  go_enter Tryz.func7, Tryz.ntmps7
  go_wp2_with (first | (go_at_call 9; (with_reducible refine (NW.out).mono ?_); rintro e v0 ⟨bS, bM, rfl, hS0, hbS, hbM, hB0⟩; have L0 := Lib.hid (LW.mk hS0 hB0 hbS hbM); clear hS0 hbS hbM hB0; refine Hid.out ?_))
  refine Lib.hid ?_
  have U1 := Lib.hid (Num14 hT n hn (v0) L0.out.below)
  go_wp2_with (first | (go_at_call 14; (with_reducible refine (U1.out).mono ?_); rintro e u1 ⟨rfl, hb⟩; have K1 := Lib.hid (L0.out.old hb); clear hb; refine Hid.out ?_))
  refine Lib.hid ?_
  have D1 := Lib.hid (c_set w bS bM n hn (u1) K1.out (u1.heap.size) rfl)
  go_wp2_with (first | (go_at_call 11; (with_reducible refine (D1.out).mono ?_); rintro e v1 ⟨rfl, hL, hK⟩; have L1 := Lib.hid hL; clear hL hK; refine Hid.out ?_))
  refine Lib.hid ?_
  have U2 := Lib.hid (Num14 hT m hm (v1) L1.out.below)
  go_wp2_with (first | (go_at_call 14; (with_reducible refine (U2.out).mono ?_); rintro e u2 ⟨rfl, hb⟩; have K2 := Lib.hid (L1.out.old hb); clear hb; refine Hid.out ?_))
  refine Lib.hid ?_
  have D2 := Lib.hid (c_incrF w bS bM n m hn hm hr (u2) K2.out (u2.heap.size) rfl)
  go_wp2_with (first | (go_at_call 11; (with_reducible refine (D2.out).mono ?_); rintro e v2 ⟨rfl, hL, hK⟩; have L2 := Lib.hid hL; clear hL hK; refine Hid.out ?_))
  refine Lib.hid ?_
  have M2 := Lib.hid (L2.out.old (alloc_old (o := .cells #[.int .i64 2, .int .i64 4, .string ⟨#[]⟩, .slice none 0 0] 37)))
  have a_2 := Lib.hid (heap_alloc_new v2 (.cells #[.int .i64 2, .int .i64 4, .string ⟨#[]⟩, .slice none 0 0] 37))
  obtain ⟨⟨a0, a1, a2, a3⟩, _⟩ := cells4 a_2.out
  have TO := Lib.hid (told8 (v2.alloc (.cells #[.int .i64 2, .int .i64 4, .string ⟨#[]⟩, .slice none 0 0] 37)) (hT.at_ M2.out.below))
  clear a0 a1 a2 a3
  go_wp2_with (first | (go_at_call 8; (with_reducible refine (TO.out).mono ?_); rintro e x1 ⟨rfl, hb⟩; have T1 := Lib.hid (M2.out.old hb); have aqq := Lib.hid (blk_below a_2.out hb); obtain ⟨⟨a0, a1, a2, a3⟩, _⟩ := cells4 aqq.out; clear hb; have DG := Lib.hid (c_get w bS bM n x1 T1.out _ rfl); refine Hid.out ?_))
  refine Lib.hid ?_
  go_wp2_with (first | (go_at_call 11; (with_reducible refine (DG.out).mono ?_); rintro e x2 ⟨rfl, hL, hK⟩; have T2 := Lib.hid hL; have UL := Lib.hid (Num14 hT n hn x2 hL.below); clear hL hK) | (go_at_call 14; (with_reducible refine (UL.out).mono ?_); rintro e x3 ⟨rfl, hb⟩; have T3 := Lib.hid (T2.out.old hb); clear hb))
  go_ret
  exact ⟨by simp, T3.out.below⟩
set_option maxRecDepth 100000 in
set_option maxHeartbeats 8000000 in
theorem counts_lo (n m : Int) (hn : I64 n) (hm : I64 m) (hr : rng (n + m) = false) (g1 : m < 0) (g2 : n < -9223372036854775808 - m) (w : World) (hT : Tab w) : Calls Tryz.prog 7 #[.int .i64 n, .int .i64 m] w fun e w' => e = .returned (.bool true) ∧ Below w.heap.size w w' := by
  have fK := field_K
  have fN := field_N
  have fS := field_S
  have hn1 := hn.1
  have hn2 := hn.2
  have hm1 := hm.1
  have hm2 := hm.2
  have g0 : ¬ 0 < m := by omega
  have NW := Lib.hid (New9 w)
  go_enter Tryz.func7, Tryz.ntmps7
  go_wp2_with (first | (go_at_call 9; (with_reducible refine (NW.out).mono ?_); rintro e v0 ⟨bS, bM, rfl, hS0, hbS, hbM, hB0⟩; have L0 := Lib.hid (LW.mk hS0 hB0 hbS hbM); clear hS0 hbS hbM hB0; refine Hid.out ?_))
  refine Lib.hid ?_
  have U1 := Lib.hid (Num14 hT n hn (v0) L0.out.below)
  go_wp2_with (first | (go_at_call 14; (with_reducible refine (U1.out).mono ?_); rintro e u1 ⟨rfl, hb⟩; have K1 := Lib.hid (L0.out.old hb); clear hb; refine Hid.out ?_))
  refine Lib.hid ?_
  have D1 := Lib.hid (c_set w bS bM n hn (u1) K1.out (u1.heap.size) rfl)
  go_wp2_with (first | (go_at_call 11; (with_reducible refine (D1.out).mono ?_); rintro e v1 ⟨rfl, hL, hK⟩; have L1 := Lib.hid hL; clear hL hK; refine Hid.out ?_))
  refine Lib.hid ?_
  have U2 := Lib.hid (Num14 hT m hm (v1) L1.out.below)
  go_wp2_with (first | (go_at_call 14; (with_reducible refine (U2.out).mono ?_); rintro e u2 ⟨rfl, hb⟩; have K2 := Lib.hid (L1.out.old hb); clear hb; refine Hid.out ?_))
  refine Lib.hid ?_
  have D2 := Lib.hid (c_incrF w bS bM n m hn hm hr (u2) K2.out (u2.heap.size) rfl)
  go_wp2_with (first | (go_at_call 11; (with_reducible refine (D2.out).mono ?_); rintro e v2 ⟨rfl, hL, hK⟩; have L2 := Lib.hid hL; clear hL hK; refine Hid.out ?_))
  refine Lib.hid ?_
  have M2 := Lib.hid (L2.out.old (alloc_old (o := .cells #[.int .i64 2, .int .i64 4, .string ⟨#[]⟩, .slice none 0 0] 37)))
  have a_2 := Lib.hid (heap_alloc_new v2 (.cells #[.int .i64 2, .int .i64 4, .string ⟨#[]⟩, .slice none 0 0] 37))
  obtain ⟨⟨a0, a1, a2, a3⟩, _⟩ := cells4 a_2.out
  have TO := Lib.hid (told8 (v2.alloc (.cells #[.int .i64 2, .int .i64 4, .string ⟨#[]⟩, .slice none 0 0] 37)) (hT.at_ M2.out.below))
  clear a0 a1 a2 a3
  go_wp2_with (first | (go_at_call 8; (with_reducible refine (TO.out).mono ?_); rintro e x1 ⟨rfl, hb⟩; have T1 := Lib.hid (M2.out.old hb); have aqq := Lib.hid (blk_below a_2.out hb); obtain ⟨⟨a0, a1, a2, a3⟩, _⟩ := cells4 aqq.out; clear hb; have DG := Lib.hid (c_get w bS bM n x1 T1.out _ rfl); refine Hid.out ?_))
  refine Lib.hid ?_
  go_wp2_with (first | (go_at_call 11; (with_reducible refine (DG.out).mono ?_); rintro e x2 ⟨rfl, hL, hK⟩; have T2 := Lib.hid hL; have UL := Lib.hid (Num14 hT n hn x2 hL.below); clear hL hK) | (go_at_call 14; (with_reducible refine (UL.out).mono ?_); rintro e x3 ⟨rfl, hb⟩; have T3 := Lib.hid (T2.out.old hb); clear hb))
  go_ret
  exact ⟨by simp, T3.out.below⟩
theorem counts_walk (n m : Int) (hn : I64 n) (hm : I64 m) (w : World) (hT : Tab w) : Calls Tryz.prog 7 #[.int .i64 n, .int .i64 m] w fun e w' => e = .returned (.bool true) ∧ Below w.heap.size w w' := by
  by_cases hr : rng (n + m) = true
  · rcases Int.lt_trichotomy m 0 with h | h | h
    · exact counts_neg n m hn hm hr h w hT
    · exact counts_nil n m hn hm hr h w hT
    · exact counts_pos n m hn hm hr h w hT
  · have h0 := rng_not hr
    have hf : rng (n + m) = false := by cases h : rng (n + m) with | false => rfl | true => exact absurd h hr
    have h1 := hn.1
    have h2 := hn.2
    have h3 := hm.1
    have h4 := hm.2
    by_cases hp : 0 < m
    · exact counts_hi n m hn hm hf hp (by omega) w hT
    · exact counts_lo n m hn hm hf (by omega) (by omega) w hT
end Go.Proofs.YtaomiglmahklfaaGreatDoor
