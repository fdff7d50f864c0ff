/- ints.Parse from its label on: what it gives for every text that has digits to read. -/
import Derived.Test.YtllaeocclpaiaaaGreatDoorInP
import Derived.ScopeJumps
import Derived.WalkMore
namespace Go.Proofs.YtllaeocclpaiaaaGreatDoor
open Go.ChangeShapes Go.WideShapes Go.ChangeAt Go.RowKit

theorem resV_true (x : Int) : resV true x = .tuple #[.int .i64 x, .bool true] := rfl
theorem resV_false (x : Int) : resV false x = .tuple #[.int .i64 0, .bool false] := rfl
def stOf (neg : Bool) : Nat := if neg then 1 else 0
/-- After k bytes of a text: its digits so far make v. -/
structure At (s : ByteArray) (neg : Bool) (k : Nat) (v : Int) : Prop where
  lo : stOf neg ≤ k
  hi : k ≤ s.size
  digs : ((s.data.toList.take k).drop (stOf neg)).all dig = true
  num : v = acc neg (val ((s.data.toList.take k).drop (stOf neg)))
  fits : rng v = true
/-- What the text is known to be from its start on. -/
structure Start (s : ByteArray) (neg : Bool) : Prop where
  isneg : isNeg s.data.toList = neg
  some_ : body s.data.toList ≠ []
  nozero : ¬ ((body s.data.toList).head? = some 48 ∧ 1 < s.data.toList.length)
theorem Start.st {s : ByteArray} {neg : Bool} (h : Start s neg) : stOf neg = if isNeg s.data.toList then 1 else 0 := by rw [h.isneg]; rfl
theorem at_end {s : ByteArray} {neg : Bool} {v : Int} (h : Start s neg) (a : At s neg s.size v) : optV (parseI s.data.toList) = .tuple #[.int .i64 v, .bool true] := by
  have hb := body_full s _ h.st
  rw [parse_ok _ h.some_ h.nozero (by rw [hb]; exact a.digs) (by rw [hb, h.isneg, ← a.num]; exact a.fits), hb, h.isneg, ← a.num]
  rfl
theorem at_bad {s : ByteArray} {neg : Bool} {k : Nat} {v : Int} (h : Start s neg) (a : At s neg k v) (hk : k < s.size) (hc : (s[k].toNat : Int) < 48 ∨ 57 < (s[k].toNat : Int)) : optV (parseI s.data.toList) = .tuple #[.int .i64 0, .bool false] := by
  rw [parse_bad_at _ _ _ _ (body_cut s k _ h.st hk a.lo) (by simp [dig]; omega)]
  rfl
theorem at_ten {s : ByteArray} {neg : Bool} {k : Nat} {v : Int} (h : Start s neg) (a : At s neg k v) (hk : k < s.size) (hr : rng (v * 10) = false) : optV (parseI s.data.toList) = .tuple #[.int .i64 0, .bool false] := by
  rw [parse_big10 _ _ _ _ (body_cut s k _ h.st hk a.lo) (by rw [h.isneg, ← a.num]; exact hr)]
  rfl
def step (neg : Bool) (v : Int) (c : Int) : Int := if neg then v * 10 - (c - 48) else v * 10 + (c - 48)
theorem step_acc (neg : Bool) (n : Nat) (c : Nat) (hc : 48 ≤ c) : step neg (acc neg n) c = acc neg (n * 10 + (c - 48)) := by
  unfold step acc
  cases neg <;> simp <;> omega
theorem at_more {s : ByteArray} {neg : Bool} {k : Nat} {v : Int} (h : Start s neg) (a : At s neg k v) (hk : k < s.size) (hc : 48 ≤ (s[k].toNat : Int)) (hr : rng (step neg v s[k].toNat) = false) : optV (parseI s.data.toList) = .tuple #[.int .i64 0, .bool false] := by
  have hb := body_cut s k _ h.st hk a.lo
  have hb' : body s.data.toList = ((s.data.toList.take k).drop (stOf neg) ++ [s[k]]) ++ s.data.toList.drop (k + 1) := by rw [hb]; simp
  rw [parse_big_at _ _ _ hb' (by rw [h.isneg, val_snoc, ← step_acc _ _ _ (by omega), ← a.num]; exact hr)]
  rfl
theorem At.next {s : ByteArray} {neg : Bool} {k : Nat} {v : Int} (a : At s neg k v) (hk : k < s.size) (hc : 48 ≤ (s[k].toNat : Int)) (hc' : (s[k].toNat : Int) ≤ 57) (hr : rng (step neg v s[k].toNat) = true) : At s neg (k + 1) (step neg v s[k].toNat) := by
  have e := take_snoc s k _ hk a.lo
  refine ⟨by have := a.lo; omega, hk, ?_, ?_, hr⟩
  · rw [e, List.all_append, a.digs]; simp [dig]; omega
  · rw [e, val_snoc, a.num, step_acc _ _ _ (by omega)]
theorem At.first {s : ByteArray} {neg : Bool} (h : stOf neg ≤ s.size) : At s neg (stOf neg) 0 := by
  refine ⟨Nat.le_refl _, h, ?_, ?_, rfl⟩
  · rw [List.drop_of_length_le (by rw [List.length_take]; omega)]; rfl
  · rw [List.drop_of_length_le (by rw [List.length_take]; omega)]; cases neg <;> rfl

def Jfalse (s : ByteArray) (w : World) (a' : Act) (w' : World) : Prop := ∃ (nq k : Nat) (v : Int), At s false k v ∧ w' = w.drewN nq ∧ ∃ (u8 u9 u10 u11 u12 u13 u14 u15 u16 u17 u18 u19 u20 u21 u22 u23 u24 u25 u26 u27 u28 u29 u30 u31 u32 u33 u34 u35 u36 u37 u38 u39 u40 u41 u42 u43 u44 u45 u46 u47 u48 u49 u50 u51 u52 u53 u54 u55 u56 u57 u58 u59 u60 u61 u62 u63 u64 u65 u66 u67 u68 u69 u70 u71 u72 u73 u74 u75 u76 u77 u78 : Value), a' = { tmps := #[.string s, undef, .int .i64 0, .bool false, .int .i64 (k : Int), .bool false, .int .i64 v, .bool true, u8, u9, u10, u11, u12, u13, u14, u15, u16, u17, u18, u19, u20, u21, u22, u23, u24, u25, u26, u27, u28, u29, u30, u31, u32, u33, u34, u35, u36, u37, u38, u39, u40, u41, u42, u43, u44, u45, u46, u47, u48, u49, u50, u51, u52, u53, u54, u55, u56, u57, u58, u59, u60, u61, u62, u63, u64, u65, u66, u67, u68, u69, u70, u71, u72, u73, u74, u75, u76, u77, u78], defers := [] }

def Jtrue (s : ByteArray) (w : World) (a' : Act) (w' : World) : Prop := ∃ (nq k : Nat) (v : Int), At s true k v ∧ w' = w.drewN nq ∧ ∃ (u8 u9 u10 u11 u12 u13 u14 u15 u16 u17 u18 u19 u20 u21 u22 u23 u24 u25 u26 u27 u28 u29 u30 u31 u32 u33 u34 u35 u36 u37 u38 u39 u40 u41 u42 u43 u44 u45 u46 u47 u48 u49 u50 u51 u52 u53 u54 u55 u56 u57 u58 u59 u60 u61 u62 u63 u64 u65 u66 u67 u68 u69 u70 u71 u72 u73 u74 u75 u76 u77 u78 : Value), a' = { tmps := #[.string s, undef, .int .i64 0, .bool false, .int .i64 (k : Int), .bool true, .int .i64 v, .bool true, u8, u9, u10, u11, u12, u13, u14, u15, u16, u17, u18, u19, u20, u21, u22, u23, u24, u25, u26, u27, u28, u29, u30, u31, u32, u33, u34, u35, u36, u37, u38, u39, u40, u41, u42, u43, u44, u45, u46, u47, u48, u49, u50, u51, u52, u53, u54, u55, u56, u57, u58, u59, u60, u61, u62, u63, u64, u65, u66, u67, u68, u69, u70, u71, u72, u73, u74, u75, u76, u77, u78], defers := [] }

set_option maxRecDepth 100000 in
set_option maxHeartbeats 4000000 in
theorem parse_false (s : ByteArray) (hstart : Start s false) (hs : s.size ≤ 9223372036854775807) (hpos : 0 < s.size) (h45 : ((s[0].toNat : Int) == 45) = false) (hst : 0 < s.size) (hz : ((s[0].toNat : Int) == 48) = false ∨ ((s[0].toNat : Int) == 48) = true ∧ s.size ≤ 1) (w : World) :
    Calls Tryz.prog 80 #[.string s] w fun e w' => e = .returned (optV (parseI s.data.toList)) ∧ ∃ n, w' = w.drewN n := by
  have h1 : decide ((0 : Int) < (s.size : Int)) = true := decide_eq_true (by omega)
  have g0 : ((s.size : Int) == 0) = false := by rw [beq_eq_false_iff_ne]; omega
  have g1 : ((0 : Int) == (s.size : Int)) = false := by rw [beq_eq_false_iff_ne]; omega
  go_enter Tryz.func80, Tryz.ntmps80
  go_wp2
  refine wp_scope_jumps 0 (Jfalse s w) (fun a' _ => s.size - (intOf (a'.tmps.getD 4 undef)).toNat) rfl ?_ ?_
  · have hst1 : 0 < s.size := hst
    have ha : At s false 0 0 := At.first (neg := false) (by simp only [stOf]; first | omega | (simp; omega) | simp)
    by_cases hd1 : (s[0].toNat : Int) < 48
    · have z1 : ((s[0].toNat : Int) == 48) = false := by rw [beq_eq_false_iff_ne]; omega
      have E := Lib.hid (at_bad hstart ha hst1 (.inl hd1))
      clear ha hz
      go_wp2
      go_quiet (fail)
      go_wp2
      go_step3
      go_wp2_with fail
      simp only [Exit.jump]
      go_ret2
      exact ⟨by rw [E.out]; simp, _, rfl⟩
    have hd1' : (48 : Int) ≤ (s[0].toNat : Int) := by omega
    by_cases hd2 : (57 : Int) < (s[0].toNat : Int)
    · have z1 : ((s[0].toNat : Int) == 48) = false := by rw [beq_eq_false_iff_ne]; omega
      have E := Lib.hid (at_bad hstart ha hst1 (.inr hd2))
      clear ha hd1 hz
      go_wp2
      go_quiet (fail)
      go_wp2
      go_step3
      go_wp2_with fail
      simp only [Exit.jump]
      go_ret2
      exact ⟨by rw [E.out]; simp, _, rfl⟩
    have hd2' : (s[0].toNat : Int) ≤ 57 := by omega
    have C1 := fun w => N17 0 10 (by omega) (by omega) (by omega) (by omega) w
    rw [show rng (0 * 10) = true from rfl, resV_true, Int.zero_mul] at C1
    have CC := Lib.hid C1
    have D1 := fun w => N13 0 ((s[0].toNat : Int) - 48) (by omega) (by omega) (by omega) (by omega) w
    have hn : rng ((0 : Int) + ((s[0].toNat : Int) - 48)) = true := rng_yes (by omega) (by omega)
    rw [hn, resV_true] at D1
    have HA := At.next ha hst1 hd1' hd2' (by simp only [step]; exact hn)
    have ev : step false 0 s[0].toNat = (0 : Int) + ((s[0].toNat : Int) - 48) := by simp [step]
    rw [ev] at HA
    generalize (0 : Int) + ((s[0].toNat : Int) - 48) = v1 at HA D1
    have DD := Lib.hid D1
    have HB := Lib.hid HA
    clear ha hd1 hd2 C1 D1 HA hn ev
    rcases hz with z1 | ⟨z1, z2⟩
    · go_wp2
      go_quiet (fail)
      go_wp2
      go_step3
      go_wp2_with (first | (go_at_call 52; refine (CC.out _).mono ?_; rintro e w' ⟨rfl, rfl⟩) | (go_at_call 53; refine (DD.out _).mono ?_; rintro e w' ⟨rfl, rfl⟩))
      go_step3
      refine ⟨rfl, ⟨_, 0 + 1, _, HB.out, rfl, ?_⟩⟩
      (repeat apply Exists.intro); rfl
    · have z3 : decide ((1 : Int) < (s.size : Int)) = false := decide_eq_false (by omega)
      go_wp2
      go_quiet (fail)
      go_wp2
      go_step3
      go_wp2_with (first | (go_at_call 52; refine (CC.out _).mono ?_; rintro e w' ⟨rfl, rfl⟩) | (go_at_call 53; refine (DD.out _).mono ?_; rintro e w' ⟨rfl, rfl⟩))
      go_step3
      refine ⟨rfl, ⟨_, 0 + 1, _, HB.out, rfl, ?_⟩⟩
      (repeat apply Exists.intro); rfl
  · rintro a' w' ⟨nq, k, v, ha, rfl, u8, u9, u10, u11, u12, u13, u14, u15, u16, u17, u18, u19, u20, u21, u22, u23, u24, u25, u26, u27, u28, u29, u30, u31, u32, u33, u34, u35, u36, u37, u38, u39, u40, u41, u42, u43, u44, u45, u46, u47, u48, u49, u50, u51, u52, u53, u54, u55, u56, u57, u58, u59, u60, u61, u62, u63, u64, u65, u66, u67, u68, u69, u70, u71, u72, u73, u74, u75, u76, u77, u78, rfl⟩
    by_cases hlt : k < s.size
    · have nk1 : ((k : Nat) == s.size) = false := by simp; omega
      have nk2 : (((k : Nat) : Int) == (s.size : Int)) = false := by simp; omega
      have hr := rng_of ha.fits
      obtain ⟨hr1, hr2⟩ := hr
      by_cases hd1 : (s[k].toNat : Int) < 48
      · have E := Lib.hid (at_bad hstart ha hlt (.inl hd1))
        have HA := Lib.hid ha
        clear ha
        go_wp2_with fail
        simp only [Exit.jump]
        go_ret2
        exact ⟨by rw [E.out]; simp, _, rfl⟩
      have hd1' : (48 : Int) ≤ (s[k].toNat : Int) := by omega
      by_cases hd2 : (57 : Int) < (s[k].toNat : Int)
      · have E := Lib.hid (at_bad hstart ha hlt (.inr hd2))
        have HA := Lib.hid ha
        clear ha hd1
        go_wp2_with fail
        simp only [Exit.jump]
        go_ret2
        exact ⟨by rw [E.out]; simp, _, rfl⟩
      have hd2' : (s[k].toNat : Int) ≤ 57 := by omega
      have C1 := fun w => N17 v 10 hr1 hr2 (by omega) (by omega) w
      cases hm : rng (v * 10)
      · rw [hm, resV_false] at C1
        have CC := Lib.hid C1
        have E := Lib.hid (at_ten hstart ha hlt hm)
        have HA := Lib.hid ha
        clear ha hd1 hd2 C1 hm
        go_wp2_with (go_at_call 52; refine (CC.out _).mono ?_; rintro e w' ⟨rfl, rfl⟩)
        simp only [Exit.jump]
        go_ret2
        exact ⟨by rw [E.out]; simp, _, rfl⟩
      rw [hm, resV_true] at C1
      have CC := Lib.hid C1
      obtain ⟨hm1, hm2⟩ := rng_of hm
      have D1 := fun w => N13 (v * 10) ((s[k].toNat : Int) - 48) hm1 hm2 (by omega) (by omega) w
      cases hn : rng (v * 10 + ((s[k].toNat : Int) - 48))
      · rw [hn, resV_false] at D1
        have DD := Lib.hid D1
        have E := Lib.hid (at_more hstart ha hlt hd1' hn)
        have HA := Lib.hid ha
        clear ha hd1 hd2 C1 hm hn D1
        go_wp2_with (first | (go_at_call 52; refine (CC.out _).mono ?_; rintro e w' ⟨rfl, rfl⟩) | (go_at_call 53; refine (DD.out _).mono ?_; rintro e w' ⟨rfl, rfl⟩))
        simp only [Exit.jump]
        go_ret2
        exact ⟨by rw [E.out]; simp, _, rfl⟩
      · rw [hn, resV_true] at D1
        have DD := Lib.hid D1
        have HA := Lib.hid (At.next ha hlt hd1' hd2' hn)
        clear ha hd1 hd2 C1 hm hn D1
        go_wp2_with (first | (go_at_call 52; refine (CC.out _).mono ?_; rintro e w' ⟨rfl, rfl⟩) | (go_at_call 53; refine (DD.out _).mono ?_; rintro e w' ⟨rfl, rfl⟩))
        go_step3
        refine ⟨rfl, ⟨_, k + 1, _, HA.out, rfl, ?_⟩, ?_⟩
        · (repeat apply Exists.intro); rfl
        · simp [intOf]; omega
    · have hk : k = s.size := by have := ha.hi; omega
      have E := Lib.hid (at_end hstart (hk ▸ ha))
      have nk1 : ((k : Nat) == s.size) = true := by simp [hk]
      have nk2 : (((k : Nat) : Int) == (s.size : Int)) = true := by simp [hk]
      have HA := Lib.hid ha
      clear ha
      have HK := Lib.hid hk
      clear hk
      go_wp2_with fail
      simp only [Exit.jump]
      go_ret2
      exact ⟨by rw [E.out]; simp, _, rfl⟩

set_option maxRecDepth 100000 in
set_option maxHeartbeats 4000000 in
theorem parse_true (s : ByteArray) (hstart : Start s true) (hs : s.size ≤ 9223372036854775807) (hpos : 0 < s.size) (h45 : ((s[0].toNat : Int) == 45) = true) (hst : 1 < s.size) (hz : ((s[1].toNat : Int) == 48) = false ∨ ((s[1].toNat : Int) == 48) = true ∧ s.size ≤ 1) (w : World) :
    Calls Tryz.prog 80 #[.string s] w fun e w' => e = .returned (optV (parseI s.data.toList)) ∧ ∃ n, w' = w.drewN n := by
  have h1 : decide ((0 : Int) < (s.size : Int)) = true := decide_eq_true (by omega)
  have g0 : ((s.size : Int) == 0) = false := by rw [beq_eq_false_iff_ne]; omega
  have g1 : ((1 : Int) == (s.size : Int)) = false := by rw [beq_eq_false_iff_ne]; omega
  go_enter Tryz.func80, Tryz.ntmps80
  go_wp2
  refine wp_scope_jumps 0 (Jtrue s w) (fun a' _ => s.size - (intOf (a'.tmps.getD 4 undef)).toNat) rfl ?_ ?_
  · have hst1 : 1 < s.size := hst
    have ha : At s true 1 0 := At.first (neg := true) (by simp only [stOf]; first | omega | (simp; omega) | simp)
    by_cases hd1 : (s[1].toNat : Int) < 48
    · have z1 : ((s[1].toNat : Int) == 48) = false := by rw [beq_eq_false_iff_ne]; omega
      have E := Lib.hid (at_bad hstart ha hst1 (.inl hd1))
      clear ha hz
      go_wp2
      go_quiet (fail)
      go_wp2
      go_step3
      go_wp2_with fail
      simp only [Exit.jump]
      go_ret2
      exact ⟨by rw [E.out]; simp, _, rfl⟩
    have hd1' : (48 : Int) ≤ (s[1].toNat : Int) := by omega
    by_cases hd2 : (57 : Int) < (s[1].toNat : Int)
    · have z1 : ((s[1].toNat : Int) == 48) = false := by rw [beq_eq_false_iff_ne]; omega
      have E := Lib.hid (at_bad hstart ha hst1 (.inr hd2))
      clear ha hd1 hz
      go_wp2
      go_quiet (fail)
      go_wp2
      go_step3
      go_wp2_with fail
      simp only [Exit.jump]
      go_ret2
      exact ⟨by rw [E.out]; simp, _, rfl⟩
    have hd2' : (s[1].toNat : Int) ≤ 57 := by omega
    have C1 := fun w => N17 0 10 (by omega) (by omega) (by omega) (by omega) w
    rw [show rng (0 * 10) = true from rfl, resV_true, Int.zero_mul] at C1
    have CC := Lib.hid C1
    have D1 := fun w => N15 0 ((s[1].toNat : Int) - 48) (by omega) (by omega) (by omega) (by omega) w
    have hn : rng ((0 : Int) - ((s[1].toNat : Int) - 48)) = true := rng_yes (by omega) (by omega)
    rw [hn, resV_true] at D1
    have HA := At.next ha hst1 hd1' hd2' (by simp only [step]; exact hn)
    have ev : step true 0 s[1].toNat = (0 : Int) - ((s[1].toNat : Int) - 48) := by simp [step]
    rw [ev] at HA
    generalize (0 : Int) - ((s[1].toNat : Int) - 48) = v1 at HA D1
    have DD := Lib.hid D1
    have HB := Lib.hid HA
    clear ha hd1 hd2 C1 D1 HA hn ev
    rcases hz with z1 | ⟨z1, z2⟩
    · go_wp2
      go_quiet (fail)
      go_wp2
      go_step3
      go_wp2_with (first | (go_at_call 52; refine (CC.out _).mono ?_; rintro e w' ⟨rfl, rfl⟩) | (go_at_call 91; refine (DD.out _).mono ?_; rintro e w' ⟨rfl, rfl⟩))
      go_step3
      refine ⟨rfl, ⟨_, 1 + 1, _, HB.out, rfl, ?_⟩⟩
      (repeat apply Exists.intro); rfl
    · omega
  · rintro a' w' ⟨nq, k, v, ha, rfl, u8, u9, u10, u11, u12, u13, u14, u15, u16, u17, u18, u19, u20, u21, u22, u23, u24, u25, u26, u27, u28, u29, u30, u31, u32, u33, u34, u35, u36, u37, u38, u39, u40, u41, u42, u43, u44, u45, u46, u47, u48, u49, u50, u51, u52, u53, u54, u55, u56, u57, u58, u59, u60, u61, u62, u63, u64, u65, u66, u67, u68, u69, u70, u71, u72, u73, u74, u75, u76, u77, u78, rfl⟩
    by_cases hlt : k < s.size
    · have nk1 : ((k : Nat) == s.size) = false := by simp; omega
      have nk2 : (((k : Nat) : Int) == (s.size : Int)) = false := by simp; omega
      have hr := rng_of ha.fits
      obtain ⟨hr1, hr2⟩ := hr
      by_cases hd1 : (s[k].toNat : Int) < 48
      · have E := Lib.hid (at_bad hstart ha hlt (.inl hd1))
        have HA := Lib.hid ha
        clear ha
        go_wp2_with fail
        simp only [Exit.jump]
        go_ret2
        exact ⟨by rw [E.out]; simp, _, rfl⟩
      have hd1' : (48 : Int) ≤ (s[k].toNat : Int) := by omega
      by_cases hd2 : (57 : Int) < (s[k].toNat : Int)
      · have E := Lib.hid (at_bad hstart ha hlt (.inr hd2))
        have HA := Lib.hid ha
        clear ha hd1
        go_wp2_with fail
        simp only [Exit.jump]
        go_ret2
        exact ⟨by rw [E.out]; simp, _, rfl⟩
      have hd2' : (s[k].toNat : Int) ≤ 57 := by omega
      have C1 := fun w => N17 v 10 hr1 hr2 (by omega) (by omega) w
      cases hm : rng (v * 10)
      · rw [hm, resV_false] at C1
        have CC := Lib.hid C1
        have E := Lib.hid (at_ten hstart ha hlt hm)
        have HA := Lib.hid ha
        clear ha hd1 hd2 C1 hm
        go_wp2_with (go_at_call 52; refine (CC.out _).mono ?_; rintro e w' ⟨rfl, rfl⟩)
        simp only [Exit.jump]
        go_ret2
        exact ⟨by rw [E.out]; simp, _, rfl⟩
      rw [hm, resV_true] at C1
      have CC := Lib.hid C1
      obtain ⟨hm1, hm2⟩ := rng_of hm
      have D1 := fun w => N15 (v * 10) ((s[k].toNat : Int) - 48) hm1 hm2 (by omega) (by omega) w
      cases hn : rng (v * 10 - ((s[k].toNat : Int) - 48))
      · rw [hn, resV_false] at D1
        have DD := Lib.hid D1
        have E := Lib.hid (at_more hstart ha hlt hd1' hn)
        have HA := Lib.hid ha
        clear ha hd1 hd2 C1 hm hn D1
        go_wp2_with (first | (go_at_call 52; refine (CC.out _).mono ?_; rintro e w' ⟨rfl, rfl⟩) | (go_at_call 91; refine (DD.out _).mono ?_; rintro e w' ⟨rfl, rfl⟩))
        simp only [Exit.jump]
        go_ret2
        exact ⟨by rw [E.out]; simp, _, rfl⟩
      · rw [hn, resV_true] at D1
        have DD := Lib.hid D1
        have HA := Lib.hid (At.next ha hlt hd1' hd2' hn)
        clear ha hd1 hd2 C1 hm hn D1
        go_wp2_with (first | (go_at_call 52; refine (CC.out _).mono ?_; rintro e w' ⟨rfl, rfl⟩) | (go_at_call 91; refine (DD.out _).mono ?_; rintro e w' ⟨rfl, rfl⟩))
        go_step3
        refine ⟨rfl, ⟨_, k + 1, _, HA.out, rfl, ?_⟩, ?_⟩
        · (repeat apply Exists.intro); rfl
        · simp [intOf]; omega
    · have hk : k = s.size := by have := ha.hi; omega
      have E := Lib.hid (at_end hstart (hk ▸ ha))
      have nk1 : ((k : Nat) == s.size) = true := by simp [hk]
      have nk2 : (((k : Nat) : Int) == (s.size : Int)) = true := by simp [hk]
      have HA := Lib.hid ha
      clear ha
      have HK := Lib.hid hk
      clear hk
      go_wp2_with fail
      simp only [Exit.jump]
      go_ret2
      exact ⟨by rw [E.out]; simp, _, rfl⟩
end Go.Proofs.YtllaeocclpaiaaaGreatDoor
