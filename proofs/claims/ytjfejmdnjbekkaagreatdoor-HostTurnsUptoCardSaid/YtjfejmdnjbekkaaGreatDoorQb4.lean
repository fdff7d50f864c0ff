/- Texts joined: In3, In4, St9, St10 -/
import Derived.Test.YtjfejmdnjbekkaaGreatDoorQb3
import Derived.ScopeJumps
import Derived.WalkMore
import Derived.Lib.ConvBytes
import Derived.Lib.SlBytesConst
import Derived.Lib.AtoiErrMem
set_option linter.unusedVariables false
set_option linter.unusedSimpArgs false

/- ints.Parse from its label on: what it gives for every text that has digits to read. -/
namespace Go.Proofs.YtjfejmdnjbekkaaGreatDoor
open Go.ChangeShapes Go.WideShapes Go.ChangeAt Go.RowKit

theorem resV_true (x : Int) : resV true x = .tuple #[.int .i64 x, .bool true] := rfl
theorem resV_false (x : Int) : resV false x = .tuple #[.int .i64 0, .bool false] := rfl
def stOf (neg : Bool) : Nat := if neg then 1 else 0
/-- After k bytes of a text: its digits so far make v. -/
structure At (s : ByteArray) (neg : Bool) (k : Nat) (v : Int) : Prop where
  lo : stOf neg ≤ k
  hi : k ≤ s.size
  digs : ((s.data.toList.take k).drop (stOf neg)).all dig = true
  num : v = acc neg (val ((s.data.toList.take k).drop (stOf neg)))
  fits : rng v = true
/-- What the text is known to be from its start on. -/
structure Start (s : ByteArray) (neg : Bool) : Prop where
  isneg : isNeg s.data.toList = neg
  some_ : body s.data.toList ≠ []
  nozero : ¬ ((body s.data.toList).head? = some 48 ∧ 1 < s.data.toList.length)
theorem Start.st {s : ByteArray} {neg : Bool} (h : Start s neg) : stOf neg = if isNeg s.data.toList then 1 else 0 := by rw [h.isneg]; rfl
theorem at_end {s : ByteArray} {neg : Bool} {v : Int} (h : Start s neg) (a : At s neg s.size v) : optV (parseI s.data.toList) = .tuple #[.int .i64 v, .bool true] := by
  have hb := body_full s _ h.st
  rw [parse_ok _ h.some_ h.nozero (by rw [hb]; exact a.digs) (by rw [hb, h.isneg, ← a.num]; exact a.fits), hb, h.isneg, ← a.num]
  rfl
theorem at_bad {s : ByteArray} {neg : Bool} {k : Nat} {v : Int} (h : Start s neg) (a : At s neg k v) (hk : k < s.size) (hc : (s[k].toNat : Int) < 48 ∨ 57 < (s[k].toNat : Int)) : optV (parseI s.data.toList) = .tuple #[.int .i64 0, .bool false] := by
  rw [parse_bad_at _ _ _ _ (body_cut s k _ h.st hk a.lo) (by simp [dig]; omega)]
  rfl
theorem at_ten {s : ByteArray} {neg : Bool} {k : Nat} {v : Int} (h : Start s neg) (a : At s neg k v) (hk : k < s.size) (hr : rng (v * 10) = false) : optV (parseI s.data.toList) = .tuple #[.int .i64 0, .bool false] := by
  rw [parse_big10 _ _ _ _ (body_cut s k _ h.st hk a.lo) (by rw [h.isneg, ← a.num]; exact hr)]
  rfl
def step (neg : Bool) (v : Int) (c : Int) : Int := if neg then v * 10 - (c - 48) else v * 10 + (c - 48)
theorem step_acc (neg : Bool) (n : Nat) (c : Nat) (hc : 48 ≤ c) : step neg (acc neg n) c = acc neg (n * 10 + (c - 48)) := by
  unfold step acc
  cases neg <;> simp <;> omega
theorem at_more {s : ByteArray} {neg : Bool} {k : Nat} {v : Int} (h : Start s neg) (a : At s neg k v) (hk : k < s.size) (hc : 48 ≤ (s[k].toNat : Int)) (hr : rng (step neg v s[k].toNat) = false) : optV (parseI s.data.toList) = .tuple #[.int .i64 0, .bool false] := by
  have hb := body_cut s k _ h.st hk a.lo
  have hb' : body s.data.toList = ((s.data.toList.take k).drop (stOf neg) ++ [s[k]]) ++ s.data.toList.drop (k + 1) := by rw [hb]; simp
  rw [parse_big_at _ _ _ hb' (by rw [h.isneg, val_snoc, ← step_acc _ _ _ (by omega), ← a.num]; exact hr)]
  rfl
theorem At.next {s : ByteArray} {neg : Bool} {k : Nat} {v : Int} (a : At s neg k v) (hk : k < s.size) (hc : 48 ≤ (s[k].toNat : Int)) (hc' : (s[k].toNat : Int) ≤ 57) (hr : rng (step neg v s[k].toNat) = true) : At s neg (k + 1) (step neg v s[k].toNat) := by
  have e := take_snoc s k _ hk a.lo
  refine ⟨by have := a.lo; omega, hk, ?_, ?_, hr⟩
  · rw [e, List.all_append, a.digs]; simp [dig]; omega
  · rw [e, val_snoc, a.num, step_acc _ _ _ (by omega)]
theorem At.first {s : ByteArray} {neg : Bool} (h : stOf neg ≤ s.size) : At s neg (stOf neg) 0 := by
  refine ⟨Nat.le_refl _, h, ?_, ?_, rfl⟩
  · rw [List.drop_of_length_le (by rw [List.length_take]; omega)]; rfl
  · rw [List.drop_of_length_le (by rw [List.length_take]; omega)]; cases neg <;> rfl

def Jfalse (s : ByteArray) (w : World) (a' : Act) (w' : World) : Prop := ∃ (nq k : Nat) (v : Int), At s false k v ∧ w' = w.drewN nq ∧ ∃ (u8 u9 u10 u11 u12 u13 u14 u15 u16 u17 u18 u19 u20 u21 u22 u23 u24 u25 u26 u27 u28 u29 u30 u31 u32 u33 u34 u35 u36 u37 u38 u39 u40 u41 u42 u43 u44 u45 u46 u47 u48 u49 u50 u51 u52 u53 u54 u55 u56 u57 u58 u59 u60 u61 u62 u63 u64 u65 u66 u67 u68 u69 u70 u71 u72 u73 u74 u75 u76 u77 u78 : Value), a' = { tmps := #[.string s, undef, .int .i64 0, .bool false, .int .i64 (k : Int), .bool false, .int .i64 v, .bool true, u8, u9, u10, u11, u12, u13, u14, u15, u16, u17, u18, u19, u20, u21, u22, u23, u24, u25, u26, u27, u28, u29, u30, u31, u32, u33, u34, u35, u36, u37, u38, u39, u40, u41, u42, u43, u44, u45, u46, u47, u48, u49, u50, u51, u52, u53, u54, u55, u56, u57, u58, u59, u60, u61, u62, u63, u64, u65, u66, u67, u68, u69, u70, u71, u72, u73, u74, u75, u76, u77, u78], defers := [] }

def Jtrue (s : ByteArray) (w : World) (a' : Act) (w' : World) : Prop := ∃ (nq k : Nat) (v : Int), At s true k v ∧ w' = w.drewN nq ∧ ∃ (u8 u9 u10 u11 u12 u13 u14 u15 u16 u17 u18 u19 u20 u21 u22 u23 u24 u25 u26 u27 u28 u29 u30 u31 u32 u33 u34 u35 u36 u37 u38 u39 u40 u41 u42 u43 u44 u45 u46 u47 u48 u49 u50 u51 u52 u53 u54 u55 u56 u57 u58 u59 u60 u61 u62 u63 u64 u65 u66 u67 u68 u69 u70 u71 u72 u73 u74 u75 u76 u77 u78 : Value), a' = { tmps := #[.string s, undef, .int .i64 0, .bool false, .int .i64 (k : Int), .bool true, .int .i64 v, .bool true, u8, u9, u10, u11, u12, u13, u14, u15, u16, u17, u18, u19, u20, u21, u22, u23, u24, u25, u26, u27, u28, u29, u30, u31, u32, u33, u34, u35, u36, u37, u38, u39, u40, u41, u42, u43, u44, u45, u46, u47, u48, u49, u50, u51, u52, u53, u54, u55, u56, u57, u58, u59, u60, u61, u62, u63, u64, u65, u66, u67, u68, u69, u70, u71, u72, u73, u74, u75, u76, u77, u78], defers := [] }

set_option maxRecDepth 100000 in
set_option maxHeartbeats 4000000 in
theorem parse_false (s : ByteArray) (hstart : Start s false) (hs : s.size ≤ 9223372036854775807) (hpos : 0 < s.size) (h45 : ((s[0].toNat : Int) == 45) = false) (hst : 0 < s.size) (hz : ((s[0].toNat : Int) == 48) = false ∨ ((s[0].toNat : Int) == 48) = true ∧ s.size ≤ 1) (w : World) :
    Calls Tryz.prog 197 #[.string s] w fun e w' => e = .returned (optV (parseI s.data.toList)) ∧ ∃ n, w' = w.drewN n := by
  have h1 : decide ((0 : Int) < (s.size : Int)) = true := decide_eq_true (by omega)
  have g0 : ((s.size : Int) == 0) = false := by rw [beq_eq_false_iff_ne]; omega
  have g1 : ((0 : Int) == (s.size : Int)) = false := by rw [beq_eq_false_iff_ne]; omega
  go_enter Tryz.func197, Tryz.ntmps197
  go_wp2
  refine wp_scope_jumps 0 (Jfalse s w) (fun a' _ => s.size - (intOf (a'.tmps.getD 4 undef)).toNat) rfl ?_ ?_
  · have hst1 : 0 < s.size := hst
    have ha : At s false 0 0 := At.first (neg := false) (by simp only [stOf]; first | omega | (simp; omega) | simp)
    by_cases hd1 : (s[0].toNat : Int) < 48
    · have z1 : ((s[0].toNat : Int) == 48) = false := by rw [beq_eq_false_iff_ne]; omega
      have E := Lib.hid (at_bad hstart ha hst1 (.inl hd1))
      clear ha hz
      go_wp2
      go_quiet (fail)
      go_wp2
      go_step3
      go_wp2_with fail
      simp only [Exit.jump]
      go_ret2
      exact ⟨by rw [E.out]; simp, _, rfl⟩
    have hd1' : (48 : Int) ≤ (s[0].toNat : Int) := by omega
    by_cases hd2 : (57 : Int) < (s[0].toNat : Int)
    · have z1 : ((s[0].toNat : Int) == 48) = false := by rw [beq_eq_false_iff_ne]; omega
      have E := Lib.hid (at_bad hstart ha hst1 (.inr hd2))
      clear ha hd1 hz
      go_wp2
      go_quiet (fail)
      go_wp2
      go_step3
      go_wp2_with fail
      simp only [Exit.jump]
      go_ret2
      exact ⟨by rw [E.out]; simp, _, rfl⟩
    have hd2' : (s[0].toNat : Int) ≤ 57 := by omega
    have C1 := fun w => N17 0 10 (by omega) (by omega) (by omega) (by omega) w
    rw [show rng (0 * 10) = true from rfl, resV_true, Int.zero_mul] at C1
    have CC := Lib.hid C1
    have D1 := fun w => N13 0 ((s[0].toNat : Int) - 48) (by omega) (by omega) (by omega) (by omega) w
    have hn : rng ((0 : Int) + ((s[0].toNat : Int) - 48)) = true := rng_yes (by omega) (by omega)
    rw [hn, resV_true] at D1
    have HA := At.next ha hst1 hd1' hd2' (by simp only [step]; exact hn)
    have ev : step false 0 s[0].toNat = (0 : Int) + ((s[0].toNat : Int) - 48) := by simp [step]
    rw [ev] at HA
    generalize (0 : Int) + ((s[0].toNat : Int) - 48) = v1 at HA D1
    have DD := Lib.hid D1
    have HB := Lib.hid HA
    clear ha hd1 hd2 C1 D1 HA hn ev
    rcases hz with z1 | ⟨z1, z2⟩
    · go_wp2
      go_quiet (fail)
      go_wp2
      go_step3
      go_wp2_with (first | (go_at_call 189; refine (CC.out _).mono ?_; rintro e w' ⟨rfl, rfl⟩) | (go_at_call 104; refine (DD.out _).mono ?_; rintro e w' ⟨rfl, rfl⟩))
      go_step3
      refine ⟨rfl, ⟨_, 0 + 1, _, HB.out, rfl, ?_⟩⟩
      (repeat apply Exists.intro); rfl
    · have z3 : decide ((1 : Int) < (s.size : Int)) = false := decide_eq_false (by omega)
      go_wp2
      go_quiet (fail)
      go_wp2
      go_step3
      go_wp2_with (first | (go_at_call 189; refine (CC.out _).mono ?_; rintro e w' ⟨rfl, rfl⟩) | (go_at_call 104; refine (DD.out _).mono ?_; rintro e w' ⟨rfl, rfl⟩))
      go_step3
      refine ⟨rfl, ⟨_, 0 + 1, _, HB.out, rfl, ?_⟩⟩
      (repeat apply Exists.intro); rfl
  · rintro a' w' ⟨nq, k, v, ha, rfl, u8, u9, u10, u11, u12, u13, u14, u15, u16, u17, u18, u19, u20, u21, u22, u23, u24, u25, u26, u27, u28, u29, u30, u31, u32, u33, u34, u35, u36, u37, u38, u39, u40, u41, u42, u43, u44, u45, u46, u47, u48, u49, u50, u51, u52, u53, u54, u55, u56, u57, u58, u59, u60, u61, u62, u63, u64, u65, u66, u67, u68, u69, u70, u71, u72, u73, u74, u75, u76, u77, u78, rfl⟩
    by_cases hlt : k < s.size
    · have nk1 : ((k : Nat) == s.size) = false := by simp; omega
      have nk2 : (((k : Nat) : Int) == (s.size : Int)) = false := by simp; omega
      have hr := rng_of ha.fits
      obtain ⟨hr1, hr2⟩ := hr
      by_cases hd1 : (s[k].toNat : Int) < 48
      · have E := Lib.hid (at_bad hstart ha hlt (.inl hd1))
        have HA := Lib.hid ha
        clear ha
        go_wp2_with fail
        simp only [Exit.jump]
        go_ret2
        exact ⟨by rw [E.out]; simp, _, rfl⟩
      have hd1' : (48 : Int) ≤ (s[k].toNat : Int) := by omega
      by_cases hd2 : (57 : Int) < (s[k].toNat : Int)
      · have E := Lib.hid (at_bad hstart ha hlt (.inr hd2))
        have HA := Lib.hid ha
        clear ha hd1
        go_wp2_with fail
        simp only [Exit.jump]
        go_ret2
        exact ⟨by rw [E.out]; simp, _, rfl⟩
      have hd2' : (s[k].toNat : Int) ≤ 57 := by omega
      have C1 := fun w => N17 v 10 hr1 hr2 (by omega) (by omega) w
      cases hm : rng (v * 10)
      · rw [hm, resV_false] at C1
        have CC := Lib.hid C1
        have E := Lib.hid (at_ten hstart ha hlt hm)
        have HA := Lib.hid ha
        clear ha hd1 hd2 C1 hm
        go_wp2_with (go_at_call 189; refine (CC.out _).mono ?_; rintro e w' ⟨rfl, rfl⟩)
        simp only [Exit.jump]
        go_ret2
        exact ⟨by rw [E.out]; simp, _, rfl⟩
      rw [hm, resV_true] at C1
      have CC := Lib.hid C1
      obtain ⟨hm1, hm2⟩ := rng_of hm
      have D1 := fun w => N13 (v * 10) ((s[k].toNat : Int) - 48) hm1 hm2 (by omega) (by omega) w
      cases hn : rng (v * 10 + ((s[k].toNat : Int) - 48))
      · rw [hn, resV_false] at D1
        have DD := Lib.hid D1
        have E := Lib.hid (at_more hstart ha hlt hd1' hn)
        have HA := Lib.hid ha
        clear ha hd1 hd2 C1 hm hn D1
        go_wp2_with (first | (go_at_call 189; refine (CC.out _).mono ?_; rintro e w' ⟨rfl, rfl⟩) | (go_at_call 104; refine (DD.out _).mono ?_; rintro e w' ⟨rfl, rfl⟩))
        simp only [Exit.jump]
        go_ret2
        exact ⟨by rw [E.out]; simp, _, rfl⟩
      · rw [hn, resV_true] at D1
        have DD := Lib.hid D1
        have HA := Lib.hid (At.next ha hlt hd1' hd2' hn)
        clear ha hd1 hd2 C1 hm hn D1
        go_wp2_with (first | (go_at_call 189; refine (CC.out _).mono ?_; rintro e w' ⟨rfl, rfl⟩) | (go_at_call 104; refine (DD.out _).mono ?_; rintro e w' ⟨rfl, rfl⟩))
        go_step3
        refine ⟨rfl, ⟨_, k + 1, _, HA.out, rfl, ?_⟩, ?_⟩
        · (repeat apply Exists.intro); rfl
        · simp [intOf]; omega
    · have hk : k = s.size := by have := ha.hi; omega
      have E := Lib.hid (at_end hstart (hk ▸ ha))
      have nk1 : ((k : Nat) == s.size) = true := by simp [hk]
      have nk2 : (((k : Nat) : Int) == (s.size : Int)) = true := by simp [hk]
      have HA := Lib.hid ha
      clear ha
      have HK := Lib.hid hk
      clear hk
      go_wp2_with fail
      simp only [Exit.jump]
      go_ret2
      exact ⟨by rw [E.out]; simp, _, rfl⟩

set_option maxRecDepth 100000 in
set_option maxHeartbeats 4000000 in
theorem parse_true (s : ByteArray) (hstart : Start s true) (hs : s.size ≤ 9223372036854775807) (hpos : 0 < s.size) (h45 : ((s[0].toNat : Int) == 45) = true) (hst : 1 < s.size) (hz : ((s[1].toNat : Int) == 48) = false ∨ ((s[1].toNat : Int) == 48) = true ∧ s.size ≤ 1) (w : World) :
    Calls Tryz.prog 197 #[.string s] w fun e w' => e = .returned (optV (parseI s.data.toList)) ∧ ∃ n, w' = w.drewN n := by
  have h1 : decide ((0 : Int) < (s.size : Int)) = true := decide_eq_true (by omega)
  have g0 : ((s.size : Int) == 0) = false := by rw [beq_eq_false_iff_ne]; omega
  have g1 : ((1 : Int) == (s.size : Int)) = false := by rw [beq_eq_false_iff_ne]; omega
  go_enter Tryz.func197, Tryz.ntmps197
  go_wp2
  refine wp_scope_jumps 0 (Jtrue s w) (fun a' _ => s.size - (intOf (a'.tmps.getD 4 undef)).toNat) rfl ?_ ?_
  · have hst1 : 1 < s.size := hst
    have ha : At s true 1 0 := At.first (neg := true) (by simp only [stOf]; first | omega | (simp; omega) | simp)
    by_cases hd1 : (s[1].toNat : Int) < 48
    · have z1 : ((s[1].toNat : Int) == 48) = false := by rw [beq_eq_false_iff_ne]; omega
      have E := Lib.hid (at_bad hstart ha hst1 (.inl hd1))
      clear ha hz
      go_wp2
      go_quiet (fail)
      go_wp2
      go_step3
      go_wp2_with fail
      simp only [Exit.jump]
      go_ret2
      exact ⟨by rw [E.out]; simp, _, rfl⟩
    have hd1' : (48 : Int) ≤ (s[1].toNat : Int) := by omega
    by_cases hd2 : (57 : Int) < (s[1].toNat : Int)
    · have z1 : ((s[1].toNat : Int) == 48) = false := by rw [beq_eq_false_iff_ne]; omega
      have E := Lib.hid (at_bad hstart ha hst1 (.inr hd2))
      clear ha hd1 hz
      go_wp2
      go_quiet (fail)
      go_wp2
      go_step3
      go_wp2_with fail
      simp only [Exit.jump]
      go_ret2
      exact ⟨by rw [E.out]; simp, _, rfl⟩
    have hd2' : (s[1].toNat : Int) ≤ 57 := by omega
    have C1 := fun w => N17 0 10 (by omega) (by omega) (by omega) (by omega) w
    rw [show rng (0 * 10) = true from rfl, resV_true, Int.zero_mul] at C1
    have CC := Lib.hid C1
    have D1 := fun w => N15 0 ((s[1].toNat : Int) - 48) (by omega) (by omega) (by omega) (by omega) w
    have hn : rng ((0 : Int) - ((s[1].toNat : Int) - 48)) = true := rng_yes (by omega) (by omega)
    rw [hn, resV_true] at D1
    have HA := At.next ha hst1 hd1' hd2' (by simp only [step]; exact hn)
    have ev : step true 0 s[1].toNat = (0 : Int) - ((s[1].toNat : Int) - 48) := by simp [step]
    rw [ev] at HA
    generalize (0 : Int) - ((s[1].toNat : Int) - 48) = v1 at HA D1
    have DD := Lib.hid D1
    have HB := Lib.hid HA
    clear ha hd1 hd2 C1 D1 HA hn ev
    rcases hz with z1 | ⟨z1, z2⟩
    · go_wp2
      go_quiet (fail)
      go_wp2
      go_step3
      go_wp2_with (first | (go_at_call 189; refine (CC.out _).mono ?_; rintro e w' ⟨rfl, rfl⟩) | (go_at_call 106; refine (DD.out _).mono ?_; rintro e w' ⟨rfl, rfl⟩))
      go_step3
      refine ⟨rfl, ⟨_, 1 + 1, _, HB.out, rfl, ?_⟩⟩
      (repeat apply Exists.intro); rfl
    · omega
  · rintro a' w' ⟨nq, k, v, ha, rfl, u8, u9, u10, u11, u12, u13, u14, u15, u16, u17, u18, u19, u20, u21, u22, u23, u24, u25, u26, u27, u28, u29, u30, u31, u32, u33, u34, u35, u36, u37, u38, u39, u40, u41, u42, u43, u44, u45, u46, u47, u48, u49, u50, u51, u52, u53, u54, u55, u56, u57, u58, u59, u60, u61, u62, u63, u64, u65, u66, u67, u68, u69, u70, u71, u72, u73, u74, u75, u76, u77, u78, rfl⟩
    by_cases hlt : k < s.size
    · have nk1 : ((k : Nat) == s.size) = false := by simp; omega
      have nk2 : (((k : Nat) : Int) == (s.size : Int)) = false := by simp; omega
      have hr := rng_of ha.fits
      obtain ⟨hr1, hr2⟩ := hr
      by_cases hd1 : (s[k].toNat : Int) < 48
      · have E := Lib.hid (at_bad hstart ha hlt (.inl hd1))
        have HA := Lib.hid ha
        clear ha
        go_wp2_with fail
        simp only [Exit.jump]
        go_ret2
        exact ⟨by rw [E.out]; simp, _, rfl⟩
      have hd1' : (48 : Int) ≤ (s[k].toNat : Int) := by omega
      by_cases hd2 : (57 : Int) < (s[k].toNat : Int)
      · have E := Lib.hid (at_bad hstart ha hlt (.inr hd2))
        have HA := Lib.hid ha
        clear ha hd1
        go_wp2_with fail
        simp only [Exit.jump]
        go_ret2
        exact ⟨by rw [E.out]; simp, _, rfl⟩
      have hd2' : (s[k].toNat : Int) ≤ 57 := by omega
      have C1 := fun w => N17 v 10 hr1 hr2 (by omega) (by omega) w
      cases hm : rng (v * 10)
      · rw [hm, resV_false] at C1
        have CC := Lib.hid C1
        have E := Lib.hid (at_ten hstart ha hlt hm)
        have HA := Lib.hid ha
        clear ha hd1 hd2 C1 hm
        go_wp2_with (go_at_call 189; refine (CC.out _).mono ?_; rintro e w' ⟨rfl, rfl⟩)
        simp only [Exit.jump]
        go_ret2
        exact ⟨by rw [E.out]; simp, _, rfl⟩
      rw [hm, resV_true] at C1
      have CC := Lib.hid C1
      obtain ⟨hm1, hm2⟩ := rng_of hm
      have D1 := fun w => N15 (v * 10) ((s[k].toNat : Int) - 48) hm1 hm2 (by omega) (by omega) w
      cases hn : rng (v * 10 - ((s[k].toNat : Int) - 48))
      · rw [hn, resV_false] at D1
        have DD := Lib.hid D1
        have E := Lib.hid (at_more hstart ha hlt hd1' hn)
        have HA := Lib.hid ha
        clear ha hd1 hd2 C1 hm hn D1
        go_wp2_with (first | (go_at_call 189; refine (CC.out _).mono ?_; rintro e w' ⟨rfl, rfl⟩) | (go_at_call 106; refine (DD.out _).mono ?_; rintro e w' ⟨rfl, rfl⟩))
        simp only [Exit.jump]
        go_ret2
        exact ⟨by rw [E.out]; simp, _, rfl⟩
      · rw [hn, resV_true] at D1
        have DD := Lib.hid D1
        have HA := Lib.hid (At.next ha hlt hd1' hd2' hn)
        clear ha hd1 hd2 C1 hm hn D1
        go_wp2_with (first | (go_at_call 189; refine (CC.out _).mono ?_; rintro e w' ⟨rfl, rfl⟩) | (go_at_call 106; refine (DD.out _).mono ?_; rintro e w' ⟨rfl, rfl⟩))
        go_step3
        refine ⟨rfl, ⟨_, k + 1, _, HA.out, rfl, ?_⟩, ?_⟩
        · (repeat apply Exists.intro); rfl
        · simp [intOf]; omega
    · have hk : k = s.size := by have := ha.hi; omega
      have E := Lib.hid (at_end hstart (hk ▸ ha))
      have nk1 : ((k : Nat) == s.size) = true := by simp [hk]
      have nk2 : (((k : Nat) : Int) == (s.size : Int)) = true := by simp [hk]
      have HA := Lib.hid ha
      clear ha
      have HK := Lib.hid hk
      clear hk
      go_wp2_with fail
      simp only [Exit.jump]
      go_ret2
      exact ⟨by rw [E.out]; simp, _, rfl⟩
end Go.Proofs.YtjfejmdnjbekkaaGreatDoor

/- The contract of ints.Parse for every text. -/
namespace Go.Proofs.YtjfejmdnjbekkaaGreatDoor
open Go.ChangeShapes Go.WideShapes Go.ChangeAt Go.RowKit

theorem list_cons (s : ByteArray) (hs : 0 < s.size) : s.data.toList = s[0] :: s.data.toList.drop 1 := by
  have hl : 0 < s.data.toList.length := by simpa using hs
  have := List.drop_eq_getElem_cons hl
  rw [List.drop_zero] at this
  exact this
theorem isNeg_at (s : ByteArray) (hs : 0 < s.size) (b : Bool) (h : ((s[0].toNat : Int) == 45) = b) : isNeg s.data.toList = b := by
  rw [list_cons s hs]
  unfold isNeg
  simp only [List.head?_cons]
  rw [← h, Bool.eq_iff_iff]
  simp only [beq_iff_eq, Option.some.injEq]
  constructor
  · intro e; rw [e]; rfl
  · intro e; exact UInt8.toNat_inj.1 (by simp; omega)
theorem is48 (c : UInt8) : ((c.toNat : Int) == 48) = decide (c = 48) := by
  rw [Bool.eq_iff_iff]
  simp only [beq_iff_eq, decide_eq_true_eq]
  constructor
  · intro e; exact UInt8.toNat_inj.1 (by simp; omega)
  · intro e; rw [e]; rfl
theorem body_drop (l : List UInt8) : body l = l.drop (stOf (isNeg l)) := by unfold body stOf; cases isNeg l <;> simp
theorem drop_head (s : ByteArray) (k : Nat) (hk : k < s.size) : s.data.toList.drop k = s[k] :: s.data.toList.drop (k + 1) := by
  have hl : k < s.data.toList.length := by simpa using hk
  exact List.drop_eq_getElem_cons hl
theorem len_eq (s : ByteArray) : s.data.toList.length = s.size := by simp
theorem parse_bad0 (s : ByteArray) (hs : s.size = 0) (w : World) :
    Calls Tryz.prog 197 #[.string s] w fun e w' => e = .returned (.tuple #[.int .i64 0, .bool false]) ∧ ∃ n, w' = w.drewN n := by
  have h0 : ((s.size : Int) == 0) = true := by simp [hs]
  have h1 : decide ((0 : Int) < (s.size : Int)) = false := by simp [hs]
  go_enter Tryz.func197, Tryz.ntmps197
  go_wp2
  go_step3
  go_wp2
  go_quiet (fail)
  go_wp2
  rw [Exit.noGoto_ret]
  go_ret2
  exact ⟨by simp, _, rfl⟩
theorem parse_bad1 (s : ByteArray) (hs : 0 < s.size) (h45 : ((s[0].toNat : Int) == 45) = true) (h2 : s.size = 1) (w : World) :
    Calls Tryz.prog 197 #[.string s] w fun e w' => e = .returned (.tuple #[.int .i64 0, .bool false]) ∧ ∃ n, w' = w.drewN n := by
  have h0 : ((s.size : Int) == 0) = false := by rw [beq_eq_false_iff_ne]; omega
  have h3 : ((1 : Int) == (s.size : Int)) = true := by simp [h2]
  have hp0 : 0 < s.size := by omega
  have hp1 : (0 : Int) < (s.size : Int) := by omega
  have h1 : decide ((0 : Int) < (s.size : Int)) = true := decide_eq_true hp1
  have H2 := Lib.hid h2
  clear h2
  go_enter Tryz.func197, Tryz.ntmps197
  go_wp2
  go_step3
  go_wp2
  go_quiet (fail)
  go_wp2
  rw [Exit.noGoto_ret]
  go_ret2
  exact ⟨by simp, _, rfl⟩
theorem parse_bad2 (s : ByteArray) (hs : 1 < s.size) (h45 : ((s[0].toNat : Int) == 45) = true) (h48 : ((s[1].toNat : Int) == 48) = true) (w : World) :
    Calls Tryz.prog 197 #[.string s] w fun e w' => e = .returned (.tuple #[.int .i64 0, .bool false]) ∧ ∃ n, w' = w.drewN n := by
  have h0 : ((s.size : Int) == 0) = false := by rw [beq_eq_false_iff_ne]; omega
  have h3 : ((1 : Int) == (s.size : Int)) = false := by rw [beq_eq_false_iff_ne]; omega
  have hp0 : 0 < s.size := by omega
  have hp1 : (0 : Int) < (s.size : Int) := by omega
  have h1 : decide ((0 : Int) < (s.size : Int)) = true := decide_eq_true hp1
  go_enter Tryz.func197, Tryz.ntmps197
  go_wp2
  go_step3
  go_wp2
  go_quiet (fail)
  go_wp2
  rw [Exit.noGoto_ret]
  go_ret2
  exact ⟨by simp, _, rfl⟩
theorem parse_bad3 (s : ByteArray) (hs : 1 < s.size) (h45 : ((s[0].toNat : Int) == 45) = false) (h48 : ((s[0].toNat : Int) == 48) = true) (w : World) :
    Calls Tryz.prog 197 #[.string s] w fun e w' => e = .returned (.tuple #[.int .i64 0, .bool false]) ∧ ∃ n, w' = w.drewN n := by
  have h0 : ((s.size : Int) == 0) = false := by rw [beq_eq_false_iff_ne]; omega
  have h3 : ((0 : Int) == (s.size : Int)) = false := by rw [beq_eq_false_iff_ne]; omega
  have hp0 : 0 < s.size := by omega
  have hp1 : (0 : Int) < (s.size : Int) := by omega
  have h1 : decide ((0 : Int) < (s.size : Int)) = true := decide_eq_true hp1
  go_enter Tryz.func197, Tryz.ntmps197
  go_wp2
  go_step3
  go_wp2
  go_quiet (fail)
  go_wp2
  rw [Exit.noGoto_ret]
  go_ret2
  exact ⟨by simp, _, rfl⟩
theorem optV_none {l : List UInt8} (h : parseI l = none) : optV (parseI l) = .tuple #[.int .i64 0, .bool false] := by rw [h]; rfl
theorem Parse9 (s : ByteArray) (hs : s.size ≤ 9223372036854775807) (w : World) :
    Calls Tryz.prog 197 #[.string s] w fun e w' => e = .returned (optV (parseI s.data.toList)) ∧ ∃ n, w' = w.drewN n := by
  by_cases h0 : s.size = 0
  · have hl : s.data.toList = [] := List.eq_nil_of_length_eq_zero (by rw [len_eq, h0])
    rw [optV_none (parse_start _ (.inl (by rw [hl]; rfl)))]
    exact parse_bad0 s h0 w
  have hpos : 0 < s.size := by omega
  cases h45 : ((s[0].toNat : Int) == 45)
  · have hn := isNeg_at s hpos false h45
    have hb : body s.data.toList = s[0] :: s.data.toList.drop 1 := by rw [body_drop, hn]; exact drop_head s 0 hpos
    by_cases hz : s[0] = 48 ∧ 1 < s.size
    · rw [optV_none (parse_start _ (.inr ⟨by rw [hb, hz.1]; rfl, by rw [len_eq]; exact hz.2⟩))]
      exact parse_bad3 s hz.2 h45 (by rw [is48]; simp [hz.1]) w
    · refine parse_false s ⟨hn, by rw [hb]; simp, ?_⟩ hs hpos h45 hpos ?_ w
      · rw [hb, len_eq]; simp only [List.head?_cons, Option.some.injEq]; exact hz
      · rw [is48]
        by_cases h : s[0] = 48
        · exact .inr ⟨by simp [h], by have : ¬ 1 < s.size := fun g => hz ⟨h, g⟩
                                      omega⟩
        · exact .inl (by simp [h])
  · have hn := isNeg_at s hpos true h45
    by_cases h1 : s.size = 1
    · have hb : body s.data.toList = [] := by rw [body_drop, hn]; exact List.drop_eq_nil_of_le (by rw [len_eq, h1]; decide)
      rw [optV_none (parse_start _ (.inl hb))]
      exact parse_bad1 s hpos h45 h1 w
    have hb : body s.data.toList = s[1] :: s.data.toList.drop 2 := by rw [body_drop, hn]; exact drop_head s 1 (by omega)
    by_cases hz : s[1] = 48
    · rw [optV_none (parse_start _ (.inr ⟨by rw [hb, hz]; rfl, by rw [len_eq]; omega⟩))]
      exact parse_bad2 s (by omega) h45 (by rw [is48]; simp [hz]) w
    · refine parse_true s ⟨hn, by rw [hb]; simp, ?_⟩ hs hpos h45 (by omega) (.inl (by rw [is48]; simp [hz])) w
      rw [hb]; simp only [List.head?_cons, Option.some.injEq]; exact fun g => hz g.1
end Go.Proofs.YtjfejmdnjbekkaaGreatDoor

/- A job's number among its arguments; what refuses a command. -/
namespace Go.Proofs.YtjfejmdnjbekkaaGreatDoor
open Go.ChangeShapes Go.WideShapes Go.ChangeAt Go.RowKit

/-- A slice of texts. -/
def SSl (w : World) (v : Value) (xs : List ByteArray) : Prop := ∃ A cap, v = .slice A xs.length cap ∧ xs.length ≤ cap ∧ cap ≤ maxLen ∧
  (xs ≠ [] → ∃ blk off, A = some ⟨blk, off, none⟩ ∧ blk < w.heap.size ∧ ∀ i s, xs[i]? = some s → w.cell? ⟨blk, off + i, none⟩ = some (.string s))
theorem SSl.below {w w' : World} {v : Value} {xs : List ByteArray} (h : SSl w v xs) (hb : Below w.heap.size w w') : SSl w' v xs := by
  obtain ⟨A, cap, h1, h2, h3, h4⟩ := h
  refine ⟨A, cap, h1, h2, h3, fun hne => ?_⟩
  obtain ⟨blk, off, h5, h6, h7⟩ := h4 hne
  have := Below.size hb
  exact ⟨blk, off, h5, by omega, fun i s hs => (hb.cell (p := ⟨blk, off + i, none⟩) h6).trans (h7 i s hs)⟩
set_option maxHeartbeats 2000000 in
theorem JInt_ok (j bS : Nat) (now : Int) (vA vl : Value) (xs : List ByteArray) (i : Nat) (t : ByteArray) (n : Int) (ht : t.size ≤ 100000) (hp : parseI t.data.toList = some n) (hi : xs[i]? = some t) (w : World) (hj : JB w j bS now vA vl) (hA : SSl w vA xs) :
    Calls Tryz.prog 188 #[.pointer (some ⟨j, 0, none⟩), .int .i64 i] w fun e w' => e = .returned (.int .i64 n) ∧ Below w.heap.size w w' := by
  have P := Lib.hid (fun w => show Calls Tryz.prog 197 #[.string t] w (fun e w' => e = .returned (.tuple #[.int .i64 n, .bool true]) ∧ Below w.heap.size w w') from by
    refine (Parse9 t (by omega) w).mono ?_
    rintro e w' ⟨rfl, m, rfl⟩
    rw [hp]
    exact ⟨rfl, below_drewN (Below.refl _ _) m⟩)
  obtain ⟨A, cap, rfl, p1, p2, p3⟩ := hA
  have hlt : i < xs.length := (List.getElem?_eq_some_iff.1 hi).1
  obtain ⟨blk, off, rfl, hb, hc⟩ := p3 (by intro e; rw [e] at hlt; simp at hlt)
  have d0 := hc i t hi
  obtain ⟨_, _, c2, _, _, hz⟩ := hj.cells
  unfold maxLen at p2
  have i1 : (i : Int) < (xs.length : Int) := by omega
  clear hj hc p3 hi hp
  go_enter Tryz.func188, Tryz.ntmps188
  go_wp2_with (first | (go_at_call 197; (with_reducible refine (P.out _).mono ?_); rintro e w1 ⟨rfl, h1⟩; have B1 := Lib.hid h1; clear h1))
  go_ret
  exact ⟨rfl, B1.out⟩
/-- What is thrown by a command that is refused. -/
def failV (n : Int) : Value := .iface 162 (.agg #[.int .i64 n])
theorem Fail69 (n : Int) (w : World) : Calls Tryz.prog 185 #[.int .i64 n] w fun e w' => e = .panicked [{ v := failV n, recovered := false }] ∧ Below w.heap.size w w' := by
  go_enter Tryz.func185, Tryz.ntmps185
  go_wp2
  exact ⟨rfl, rfl, Below.refl _ _⟩
set_option maxHeartbeats 2000000 in
theorem JInt_bad (j bS : Nat) (now : Int) (vA vl : Value) (xs : List ByteArray) (i : Nat) (t : ByteArray) (ht : t.size ≤ 100000) (hp : parseI t.data.toList = none) (hi : xs[i]? = some t) (w : World) (hj : JB w j bS now vA vl) (hA : SSl w vA xs) :
    Calls Tryz.prog 188 #[.pointer (some ⟨j, 0, none⟩), .int .i64 i] w fun e w' => e = .panicked [{ v := failV 4, recovered := false }] ∧ Below w.heap.size w w' := by
  have P := Lib.hid (fun w => show Calls Tryz.prog 197 #[.string t] w (fun e w' => e = .returned (.tuple #[.int .i64 0, .bool false]) ∧ Below w.heap.size w w') from by
    refine (Parse9 t (by omega) w).mono ?_
    rintro e w' ⟨rfl, m, rfl⟩
    rw [hp]
    exact ⟨rfl, below_drewN (Below.refl _ _) m⟩)
  have F := Lib.hid (fun w => Fail69 4 w)
  obtain ⟨A, cap, rfl, p1, p2, p3⟩ := hA
  have hlt : i < xs.length := (List.getElem?_eq_some_iff.1 hi).1
  obtain ⟨blk, off, rfl, hb, hc⟩ := p3 (by intro e; rw [e] at hlt; simp at hlt)
  have d0 := hc i t hi
  obtain ⟨_, _, c2, _, _, hz⟩ := hj.cells
  unfold maxLen at p2
  have i1 : (i : Int) < (xs.length : Int) := by omega
  clear hj hc p3 hi hp
  go_enter Tryz.func188, Tryz.ntmps188
  go_wp2_with (first | (go_at_call 197; (with_reducible refine (P.out _).mono ?_); rintro e w1 ⟨rfl, h1⟩; have B1 := Lib.hid h1; clear h1) | (go_at_call 185; (with_reducible refine (F.out _).mono ?_); rintro e w2 ⟨rfl, h2⟩; have B2 := Lib.hid h2; clear h2))
  exact ⟨rfl, rfl, belT B1.out B2.out⟩
end Go.Proofs.YtjfejmdnjbekkaaGreatDoor

/- command.Upper at a text without small letters. -/
namespace Go.Proofs.YtjfejmdnjbekkaaGreatDoor
open Go.ChangeShapes Go.WideShapes Go.ChangeAt Go.RowKit

/-- The first n bytes of block B are what f says, and may be written. -/
def OB (w : World) (B n : Nat) (f : Nat → UInt8) : Prop := B < w.heap.size ∧ ∀ j, j < n → w.cell? ⟨B, j, none⟩ = some (.int .u8 ((f j).toNat : Int)) ∧ w.frozen? ⟨B, j, none⟩ = false
theorem OB.store {w : World} {B n : Nat} {f : Nat → UInt8} (h : OB w B n f) (k : Nat) (hk : k < n) (c : UInt8) : OB (w.setCell ⟨B, k, none⟩ (.int .u8 (c.toNat : Int))) B n (fun j => if j = k then c else f j) := by
  refine ⟨by simpa [World.setCell] using h.1, fun j hj => ?_⟩
  obtain ⟨h1, h2⟩ := h.2 j hj
  refine ⟨?_, by rw [World.frozen?_setCell]; exact h2⟩
  show _ = some (Value.int .u8 ((if j = k then c else f j).toNat : Int))
  by_cases e : j = k
  · subst e
    rw [if_pos rfl]
    exact World.cell?_setCell_same _ _ _ (by rw [h1])
  · rw [if_neg e]
    rw [World.cell?_setCell_other _ _ _ _ (fun g => e (congrArg Addr.off g).symm)]
    exact h1
theorem OB.congr {w : World} {B n : Nat} {f g : Nat → UInt8} (h : OB w B n f) (e : ∀ j, j < n → f j = g j) : OB w B n g := ⟨h.1, fun j hj => by rw [← e j hj]; exact h.2 j hj⟩
theorem conv_sb (w : World) (s : ByteArray) : (convert 9 72 (.string s)).run Tryz.prog w = .ok (.slice (some ⟨w.heap.size, 0, none⟩) s.size (grownCap w s.size 0 5)) (Lib.bytesWorld w 5 s) :=
  Lib.run_convert_string_bytes w 9 72 5 s Tryz.underlying9 Tryz.underlying72 Tryz.underlying5
def byteAt (s : ByteArray) (j : Nat) : UInt8 := s.data.toList.getD j 0
theorem OB.new (w : World) (s : ByteArray) : OB (Lib.bytesWorld w 5 s) w.heap.size s.size (byteAt s) := by
  refine ⟨by rw [Lib.bytesWorld_size]; omega, fun j hj => ⟨Lib.bytesWorld_cell w 5 s j hj, ?_⟩⟩
  unfold World.frozen?
  rw [Lib.bytesWorld_at_new]
  have : j < (Lib.bytesCells w 5 s).size := by
    have h1 := grownCap_ge w s.size 0 5
    simp [Lib.bytesCells]
    omega
  simp
  omega
theorem OB.back {w : World} {B n : Nat} {f : Nat → UInt8} (h : OB w B n f) (cap : Nat) : (convert 72 9 (.slice (some ⟨B, 0, none⟩) n cap)).run Tryz.prog w = .ok (.string ⟨((List.range n).map f).toArray⟩) w := by
  have e : ((List.range n).map f).length = n := by simp
  have := run_convert_bytes_back (P := Tryz.prog) w 72 9 5 ⟨B, 0, none⟩ cap ((List.range n).map f) Tryz.underlying72 Tryz.underlying5 Tryz.underlying9 (fun j hj => ?_)
  · rw [e] at this; exact this
  · rw [e] at hj
    have := (h.2 j hj).1
    have ea : (⟨B, 0, none⟩ : Addr).add j = ⟨B, j, none⟩ := by unfold Addr.add; split <;> simp_all
    rw [ea, this]
    simp
theorem self_mk (s : ByteArray) : (⟨((List.range s.size).map (byteAt s)).toArray⟩ : ByteArray) = s := by
  apply bytes_inj
  show (List.range s.size).map (byteAt s) = s.data.toList
  apply List.ext_getElem?
  intro j
  by_cases hj : j < s.size
  · rw [List.getElem?_map, List.getElem?_range hj]
    have hl : j < s.data.toList.length := by simpa using hj
    show some (byteAt s j) = _
    unfold byteAt
    rw [List.getD, List.getElem?_eq_getElem hl]
    rfl
  · have hl : s.data.toList.length ≤ j := by simp; omega
    rw [List.getElem?_eq_none (by simp; omega), List.getElem?_eq_none hl]
set_option maxHeartbeats 2000000 in
/-- A text without small letters stays. -/
theorem Upper62 (s : ByteArray) (hs : s.size ≤ 100) (hno : ∀ j, j < s.size → ((byteAt s j).toNat : Int) < 97) (w : World) : Calls Tryz.prog 30 #[.string s] w fun e w' => e = .returned (.string s) ∧ Below w.heap.size w w' := by
  have hcv := conv_sb
  have H0 := Lib.hid (OB.new w s)
  have HB := Lib.hid (Lib.bytesWorld_below w 5 s)
  have hc1 := grownCap_ge w s.size 0 5
  have hc2 := grownCap_le_maxLen w s.size 0 5 (by unfold maxLen; omega)
  unfold maxLen at hc2
  have HN := Lib.hid hno
  clear hno
  go_enter Tryz.func30, Tryz.ntmps30
  go_wp2_with fail
  generalize grownCap w s.size 0 5 = C at hc1 hc2 ⊢
  generalize Lib.bytesWorld w 5 s = W1 at H0 HB ⊢
  go_loop [10] (fun i => ∃ k : Nat, k ≤ s.size ∧ i = .int .i64 k) (fun i => s.size - (intOf i).toNat)
  case atStart => exact ⟨0, Nat.zero_le _, rfl⟩
  case round =>
    obtain ⟨k, hk, rfl⟩ := hrel
    by_cases hlt : k < s.size
    · obtain ⟨d0, d1⟩ := H0.out.2 k hlt
      have hlow := HN.out k hlt
      have i0 : (k : Int) < (s.size : Int) := by omega
      generalize ((byteAt s k).toNat : Int) = c at d0 hlow
      have i1 : ¬ (97 : Int) ≤ c := by omega
      go_wp2
      go_round
      case rel => exact ⟨k + 1, by omega, by go_num⟩
      case measure => simp [intOf]; omega
    · have hkl : k = s.size := by omega
      subst hkl
      have hcb := H0.out.back C
      rw [self_mk] at hcb
      have i0 : ¬ (s.size : Int) < (s.size : Int) := by omega
      go_wp2
      go_ret
      exact ⟨by simp, HB.out⟩
end Go.Proofs.YtjfejmdnjbekkaaGreatDoor
