/- The walk of the law SessionQueues. -/
import Derived.Test.YtnfflkappbjoeaaSe11
namespace Go.Proofs.Ytnfflkappbjoeaa
open Go.ChangeShapes Go.WideShapes Go.ChangeAt Go.RowKit Go.Resp

theorem near11 (n : Int) : ∃ a : Nat, wrap64 (250 + wrap64 ((IntKind.u64.wrap n).tmod 11)) = (a : Int) ∧ 250 ≤ a ∧ a ≤ 260 := by
  have e : IntKind.u64.wrap n = n % 18446744073709551616 := IntKind.wrap_u64 n
  have hm : (IntKind.u64.wrap n).tmod 11 = (n % 18446744073709551616) % 11 := by
    rw [e]; exact Int.tmod_eq_emod_of_nonneg (Int.emod_nonneg _ (by decide))
  rw [hm, IntWalk.wrap64_in ((n % 18446744073709551616) % 11) (by omega), IntWalk.wrap64_in _ (by omega)]
  exact ⟨(250 + n % 18446744073709551616 % 11).toNat, by omega, by omega, by omega⟩
theorem field_S (k n : Int) (s : ByteArray) (w : World) : (Instr.field 26 (.agg #[.int .i64 k, .int .i64 n, .string s, .slice none 0 0]) 2).run Try.prog w = .ok (.string s) w := by kernel_rfl
theorem field_N (k n : Int) (s : ByteArray) (w : World) : (Instr.field 26 (.agg #[.int .i64 k, .int .i64 n, .string s, .slice none 0 0]) 1).run Try.prog w = .ok (.int .i64 n) w := by kernel_rfl
def QRel (w : World) (b : Nat) (wr : World) (k : Nat) : Prop := ∃ q sp, Ses wr b #[.slice none 0 0, .slice none 0 0, .bool false, .bool true, .bool sp, q, .slice none 0 0, .slice none 0 0, .slice none 0 0] ∧ QSl (b + 1) wr q (min k 256) ∧ sp = decide (256 < k) ∧ Below b w wr ∧ b + 1 ≤ wr.heap.size
theorem QRel.alloc {w : World} {b : Nat} {wr : World} {k : Nat} (h : QRel w b wr k) (o : Obj) : QRel w b (wr.alloc o) k := by
  obtain ⟨q, sp, h1, h2, h3, h4, h5⟩ := h
  exact ⟨q, sp, h1.alloc _, h2.below ((Below.refl _ _).alloc (Nat.le_refl _) _), h3, h4.alloc (by omega) _, by simp; omega⟩
set_option maxRecDepth 100000 in
set_option maxHeartbeats 4000000 in
theorem queues_walk (n : Int) (wrong : Bool) (w : World) : Calls Try.prog 3 #[.int .i64 n, .bool wrong] w fun e w' => e = .returned (.bool true) ∧ Below w.heap.size w w' := by
  have N := Lib.hid (fun w => New5 w)
  have T := Lib.hid (fun w => told10 w)
  obtain ⟨a, ha, a1, a2⟩ := near11 n
  have ha1 : (0 : Int) ≤ (a : Int) := by omega
  have hfS := field_S
  have hfN := field_N
  go_enter Try.func3, Try.ntmps3
  go_wp2_with (first | (go_at_call 5; (with_reducible refine (N.out _).mono ?_); rintro e w1 ⟨rfl, hw1⟩; refine Hid.out ?_))
  obtain ⟨b, hb⟩ : ∃ b, w.heap.size = b := ⟨_, rfl⟩
  have S1 : Ses w1 b ses0 := by rw [← hw1, ← hb]; exact heap_alloc_new w _
  have b1 : Below b w w1 := by rw [← hw1]; exact (Below.refl _ _).alloc (by omega) _
  have z1 : b + 1 ≤ w1.heap.size := S1.lt
  rw [hb]
  unfold ses0 at S1
  have HS1 := Lib.hid S1
  have HB1 := Lib.hid b1
  have HW := Lib.hid hb
  clear S1 b1 hw1 hb
  refine Lib.hid ?_
  have BG := Lib.hid (Begin_ok b w1.heap.size w1 _ _ _ _ _ _ _ _ HS1.out (Nat.le_refl _))
  unfold replyV at BG
  go_wp2_with (first | (go_at_call 6; (with_reducible refine BG.out.mono ?_); rintro e w2 ⟨rfl, hs2, hb2⟩; refine Hid.out ?_))
  have HS2 := Lib.hid hs2
  have HB2 := Lib.hid (HB1.out.trans (hb2.below (by omega)))
  have z2 : b + 1 ≤ w2.heap.size := Nat.le_trans z1 hb2.size
  clear hs2 hb2
  refine Lib.hid ?_
  go_wp2_with fail
  go_loopw [7] (fun i wr => ∃ k : Nat, k ≤ a ∧ i = .int .i64 k ∧ Hid (QRel w b wr k)) (fun i _ => a - (intOf i).toNat)
  case atStart => exact ⟨0, Nat.zero_le _, rfl, Lib.hid ⟨_, false, HS2.out, QSl.nil _ _, rfl, HB2.out, z2⟩⟩
  case round =>
    obtain ⟨k, hk, rfl, HR⟩ := hrel
    by_cases hlt : k < a
    · obtain ⟨q, sp, hs, hq, hsp, hB, hz⟩ := HR.out
      have HQ := Lib.hid hq
      have HSP := Lib.hid hsp
      have HBr := Lib.hid hB
      have hik : (k : Int) < (a : Int) := by omega
      by_cases h256 : k < 256
      · have e1 : min k 256 = k := by omega
        rw [e1] at hq
        have h256' : (k : Int) < 256 := by omega
        have QF0 := Queue_fresh b (b + 1) k wr.heap.size (by omega) q (.slice none 0 0) (.slice none 0 0) (.slice none 0 0) (.slice none 0 0) (.slice none 0 0) (.bool false) (.bool true) (.bool sp) wr rfl hs hq h256 hz
        unfold replyV at QF0
        have QF := Lib.hid QF0
        clear QF0 hs hq hsp hB
        go_wp2_with (first | (go_at_call 7; (with_reducible refine QF.out.mono ?_); rintro e w3 ⟨rfl, q3, hs3, hq3, hb3⟩; refine Hid.out ?_))
        have HS3 := Lib.hid hs3
        have HQ3 := Lib.hid hq3
        have HB3 := Lib.hid (HBr.out.trans (hb3.below (by omega)))
        have z3 : b + 1 ≤ w3.heap.size := Nat.le_trans hz hb3.size
        clear hs3 hq3 hb3
        refine Lib.hid ?_
        go_wp2
        have hrel3 : QRel w b w3 (k + 1) := ⟨q3, sp, HS3.out, by rw [show min (k + 1) 256 = k + 1 by omega]; exact HQ3.out, by rw [HSP.out, decide_eq_decide]; omega, HB3.out, z3⟩
        exact ⟨⟨k + 1, by omega, by go_num, Lib.hid (hrel3.alloc _)⟩, by simp [intOf]; omega⟩
      · have e1 : min k 256 = 256 := by omega
        rw [e1] at hq
        have h256' : (256 : Int) ≤ (k : Int) := by omega
        have QF0 := Queue_fresh_full b (b + 1) 256 wr.heap.size (by omega) q (.slice none 0 0) (.slice none 0 0) (.slice none 0 0) (.slice none 0 0) (.slice none 0 0) (.bool false) (.bool true) (.bool sp) wr rfl hs hq (Nat.le_refl _) hz
        unfold replyV at QF0
        have QF := Lib.hid QF0
        clear QF0 hs hq hsp hB
        go_wp2_with (first | (go_at_call 7; (with_reducible refine QF.out.mono ?_); rintro e w3 ⟨rfl, hs3, hq3, hb3⟩; refine Hid.out ?_))
        have HS3 := Lib.hid hs3
        have HQ3 := Lib.hid hq3
        have HB3 := Lib.hid (HBr.out.trans (hb3.below (by omega)))
        have z3 : b + 1 ≤ w3.heap.size := Nat.le_trans hz hb3.size
        clear hs3 hq3 hb3
        refine Lib.hid ?_
        go_wp2
        have hrel3 : QRel w b w3 (k + 1) := ⟨q, true, HS3.out, by rw [show min (k + 1) 256 = 256 by omega]; exact HQ3.out, by rw [eq_comm, decide_eq_true_iff]; omega, HB3.out, z3⟩
        exact ⟨⟨k + 1, by omega, by go_num, Lib.hid (hrel3.alloc _)⟩, by simp [intOf]; omega⟩
    · obtain rfl : a = k := by omega
      obtain ⟨q, sp, hs, hq, hsp, hB, hz⟩ := HR.out
      have HBr := Lib.hid hB
      obtain ⟨m, hm⟩ : ∃ m, min a 256 = m := ⟨_, rfl⟩
      rw [hm] at hq
      have HM := Lib.hid hm
      by_cases h256 : 256 < a
      all_goals
        simp only [h256, decide_true, decide_false] at hsp
        subst hsp
        have HS := Lib.hid hs
        have HQ := Lib.hid hq
        have QO0 := Queue_fresh_one b (b + 1) _ wr.heap.size (by omega) q (.slice none 0 0) (.slice none 0 0) (.slice none 0 0) (.slice none 0 0) (.slice none 0 0) (.bool false) (.bool true) _ wr rfl hs hq hz
        unfold replyV at QO0
        have QO := Lib.hid QO0
        clear QO0 hs hq hB hm
        cases wrong
        · obtain ⟨wq, hwq⟩ : ∃ wq, wr = wq := ⟨_, rfl⟩
          rw [hwq] at HS HQ HBr hz ⊢
          have HBq := HBr
          have zq := hz
          clear QO hwq HBr hz
          have BM0 := Begin_multi b wq _ _ _ _ _ _ _ _ HS.out
          unfold replyV at BM0
          have BM := Lib.hid BM0
          clear BM0
          go_wp2_with (first | (go_at_call 6; (with_reducible refine BM.out.mono ?_); rintro e w4 ⟨rfl, hb4⟩; refine Hid.out ?_))
          have HS4 := Lib.hid (HS.out.below hb4)
          have HQ4 := Lib.hid (HQ.out.below hb4)
          have HB4 := Lib.hid (HBq.out.trans (hb4.mono (by omega)))
          have z4 : b + 1 ≤ w4.heap.size := Nat.le_trans zq hb4.size
          have M4 := Lib.hid (Multi_ok b true w4 _ _ _ _ _ _ _ _ HS4.out)
          have X4 := Lib.hid (End_ok b (b + 1) (b + 1) w4 _ _ _ _ _ _ _ _ _ _ HS4.out HQ4.out)
          clear hb4
          refine Lib.hid ?_
          go_wp2_with (first | (go_at_call 8; (with_reducible refine M4.out.mono ?_); rintro e w5 ⟨rfl, rfl⟩) | (go_at_call 9; (with_reducible refine X4.out.mono ?_); rintro e w5 ⟨⟨A5, c5, rfl⟩, hs5, hb5⟩; refine Hid.out ?_))
          have HS5 := Lib.hid hs5
          have HB5 := Lib.hid (HB4.out.trans (hb5.below (by omega)))
          have z5 : b + 1 ≤ w5.heap.size := Nat.le_trans z4 hb5.size
          have M5 := Lib.hid (Multi_ok b false w5 _ _ _ _ _ _ _ _ HS5.out)
          have BG5' := Begin_ok b w5.heap.size w5 _ _ _ _ _ _ _ _ HS5.out (Nat.le_refl _)
          unfold replyV at BG5'
          have BG5 := Lib.hid BG5'
          clear hs5 hb5 BG5'
          have hm' := HM.out
          have hm2 : (if 256 < a then 256 else a) = m := by rw [← hm']; split <;> omega
          simp only [h256, if_true, if_false] at hm2
          subst hm2
          clear hm'
          refine Lib.hid ?_
          go_wp2_with (first | (go_at_call 8; (with_reducible refine M5.out.mono ?_); rintro e w6 ⟨rfl, rfl⟩) | (go_at_call 6; (with_reducible refine BG5.out.mono ?_); rintro e w6 ⟨rfl, hs6, hb6⟩; refine Hid.out ?_))
          have HS6 := Lib.hid hs6
          have HB6 := Lib.hid (HB5.out.trans (hb6.below (by omega)))
          have z6 : b + 1 ≤ w6.heap.size := Nat.le_trans z5 hb6.size
          have X6 := Lib.hid (End_ok b (b + 1) (b + 1) w6 _ _ _ _ _ _ _ _ _ _ HS6.out (QSl.nil (b + 1) w6))
          clear hs6 hb6
          refine Lib.hid ?_
          go_wp2_with (first | (go_at_call 9; (with_reducible refine X6.out.mono ?_); rintro e w7 ⟨⟨A7, c7, rfl⟩, hs7, hb7⟩; refine Hid.out ?_))
          have HB7 := Lib.hid (HB6.out.trans (hb7.below (by omega)))
          have z7 : b + 1 ≤ w7.heap.size := Nat.le_trans z6 hb7.size
          clear hs7 hb7
          refine Lib.hid ?_
          go_wp2_with (first | (go_at_call 10; (with_reducible refine (T.out _).mono ?_); rintro e w8 ⟨rfl, hb8⟩))
          go_ret
          exact ⟨by simp, by rw [HW.out]; exact HB7.out.trans (Below.mono (by assumption) (by omega))⟩
        · go_wp2_with (first | (go_at_call 7; (with_reducible refine QO.out.mono ?_); rintro e wq ⟨rfl, hs3, hq3, hb3⟩; refine Hid.out ?_))
          clear HS HQ
          have HS := Lib.hid hs3
          have HQ := Lib.hid hq3
          have HBq := Lib.hid (HBr.out.trans (hb3.below (by omega)))
          have zq : b + 1 ≤ wq.heap.size := Nat.le_trans hz hb3.size
          clear hs3 hq3 hb3 HBr hz QO
          refine Lib.hid ?_
          have BM0 := Begin_multi b wq _ _ _ _ _ _ _ _ HS.out
          unfold replyV at BM0
          have BM := Lib.hid BM0
          clear BM0
          go_wp2_with (first | (go_at_call 6; (with_reducible refine BM.out.mono ?_); rintro e w4 ⟨rfl, hb4⟩; refine Hid.out ?_))
          have HS4 := Lib.hid (HS.out.below hb4)
          have HQ4 := Lib.hid (HQ.out.below hb4)
          have HB4 := Lib.hid (HBq.out.trans (hb4.mono (by omega)))
          have z4 : b + 1 ≤ w4.heap.size := Nat.le_trans zq hb4.size
          have M4 := Lib.hid (Multi_ok b true w4 _ _ _ _ _ _ _ _ HS4.out)
          have X4 := Lib.hid (End_ok b (b + 1) (b + 1) w4 _ _ _ _ _ _ _ _ _ _ HS4.out HQ4.out)
          clear hb4
          refine Lib.hid ?_
          go_wp2_with (first | (go_at_call 8; (with_reducible refine M4.out.mono ?_); rintro e w5 ⟨rfl, rfl⟩) | (go_at_call 9; (with_reducible refine X4.out.mono ?_); rintro e w5 ⟨⟨A5, c5, rfl⟩, hs5, hb5⟩; refine Hid.out ?_))
          have HS5 := Lib.hid hs5
          have HB5 := Lib.hid (HB4.out.trans (hb5.below (by omega)))
          have z5 : b + 1 ≤ w5.heap.size := Nat.le_trans z4 hb5.size
          have M5 := Lib.hid (Multi_ok b false w5 _ _ _ _ _ _ _ _ HS5.out)
          have BG5' := Begin_ok b w5.heap.size w5 _ _ _ _ _ _ _ _ HS5.out (Nat.le_refl _)
          unfold replyV at BG5'
          have BG5 := Lib.hid BG5'
          clear hs5 hb5 BG5'
          have hm' := HM.out
          have hm2 : (if 256 < a then 256 else a) = m := by rw [← hm']; split <;> omega
          simp only [h256, if_true, if_false] at hm2
          subst hm2
          clear hm'
          refine Lib.hid ?_
          go_wp2_with (first | (go_at_call 8; (with_reducible refine M5.out.mono ?_); rintro e w6 ⟨rfl, rfl⟩) | (go_at_call 6; (with_reducible refine BG5.out.mono ?_); rintro e w6 ⟨rfl, hs6, hb6⟩; refine Hid.out ?_))
          have HS6 := Lib.hid hs6
          have HB6 := Lib.hid (HB5.out.trans (hb6.below (by omega)))
          have z6 : b + 1 ≤ w6.heap.size := Nat.le_trans z5 hb6.size
          have X6 := Lib.hid (End_ok b (b + 1) (b + 1) w6 _ _ _ _ _ _ _ _ _ _ HS6.out (QSl.nil (b + 1) w6))
          clear hs6 hb6
          refine Lib.hid ?_
          go_wp2_with (first | (go_at_call 9; (with_reducible refine X6.out.mono ?_); rintro e w7 ⟨⟨A7, c7, rfl⟩, hs7, hb7⟩; refine Hid.out ?_))
          have HB7 := Lib.hid (HB6.out.trans (hb7.below (by omega)))
          have z7 : b + 1 ≤ w7.heap.size := Nat.le_trans z6 hb7.size
          clear hs7 hb7
          refine Lib.hid ?_
          go_wp2_with (first | (go_at_call 10; (with_reducible refine (T.out _).mono ?_); rintro e w8 ⟨rfl, hb8⟩))
          go_ret
          exact ⟨by simp, by rw [HW.out]; exact HB7.out.trans (Below.mono (by assumption) (by omega))⟩
end Go.Proofs.Ytnfflkappbjoeaa
