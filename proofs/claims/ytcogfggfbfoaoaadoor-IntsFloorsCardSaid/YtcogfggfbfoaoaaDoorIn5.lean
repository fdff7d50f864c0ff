/- The reference's Parse for texts that have digits to read. -/
import Derived.Test.YtcogfggfbfoaoaaDoorIn4
import Derived.Deep.Cut
namespace Go.Proofs.YtcogfggfbfoaoaaDoor
open Go.ChangeShapes Go.WideShapes Go.ChangeAt Go.RowKit

/-- After k bytes of the digits d: they make v. -/
structure Dig (d : ByteArray) (k : Nat) (v : Int) : Prop where
  hi : k ≤ d.size
  digs : (d.data.toList.take k).all dig = true
  num : v = (val (d.data.toList.take k) : Int)
theorem Dig.next {d : ByteArray} {k : Nat} {v : Int} (a : Dig d k v) (hk : k < d.size) (hc : 48 ≤ (d[k].toNat : Int)) (hc' : (d[k].toNat : Int) ≤ 57) : Dig d (k + 1) (v * 10 + ((d[k].toNat : Int) - 48)) := by
  have e := take_snoc d k 0 hk (Nat.zero_le _)
  simp only [List.drop_zero] at e
  refine ⟨hk, ?_, ?_⟩
  · rw [e, List.all_append, a.digs]; simp [dig]; omega
  · rw [e, val_snoc, a.num]; omega
theorem Dig.bound {d : ByteArray} {k : Nat} {v : Int} (a : Dig d k v) (hk : k ≤ 18) : 0 ≤ v ∧ v < 1000000000000000000 := by
  have h := val_lt _ a.digs
  have hl : (d.data.toList.take k).length ≤ 18 := by rw [List.length_take]; omega
  have : (10 : Nat) ^ (d.data.toList.take k).length ≤ 10 ^ 18 := Nat.pow_le_pow_right (by decide) hl
  have e : (10 : Nat) ^ 18 = 1000000000000000000 := by decide
  have := a.num
  omega
theorem Dig.bound19 {d : ByteArray} {k : Nat} {v : Int} (a : Dig d k v) (hk : k ≤ 19) : 0 ≤ v ∧ v < 10000000000000000000 := by
  have h := val_lt _ a.digs
  have hl : (d.data.toList.take k).length ≤ 19 := by rw [List.length_take]; omega
  have : (10 : Nat) ^ (d.data.toList.take k).length ≤ 10 ^ 19 := Nat.pow_le_pow_right (by decide) hl
  have e : (10 : Nat) ^ 19 = 10000000000000000000 := by decide
  have := a.num
  omega

theorem isEmpty_no (s : ByteArray) (h : 0 < s.size) : s.toList.isEmpty = false := by
  rw [ByteArray.toList_eq, list_cons s h]; rfl
theorem dig_first (d : ByteArray) : Dig d 0 0 := ⟨Nat.zero_le _, rfl, rfl⟩
theorem dig_end {l : List UInt8} {d : ByteArray} {v : Int} (hb : body l = d.data.toList) (a : Dig d d.size v) (h0 : 0 < d.size) (h1 : ¬ (d[0] = 48 ∧ 1 < l.length)) :
    parseI l = if rng (if isNeg l then -v else v) = true then some (if isNeg l then -v else v) else none := by
  have ht : d.data.toList.take d.size = d.data.toList := List.take_of_length_le (by simp)
  have hd := a.digs
  have hn := a.num
  rw [ht] at hd hn
  have e : acc (isNeg l) (val (body l)) = if isNeg l then -v else v := by rw [hb, hn]; rfl
  unfold parseI
  rw [if_neg (by rw [hb, list_cons d h0]; simp), if_neg (by rw [hb, list_cons d h0]; simpa using h1), hb, hd, ← hb, e]
  simp
theorem dig_bad {l : List UInt8} {d : ByteArray} {k : Nat} (hb : body l = d.data.toList) (hk : k < d.size) (hc : (d[k].toNat : Int) < 48 ∨ 57 < (d[k].toNat : Int)) : optV (parseI l) = .tuple #[.int .i64 0, .bool false] := by
  refine optV_none (parse_bad_at l (d.data.toList.take k) (d.data.toList.drop (k + 1)) d[k] ?_ (by simp [dig]; omega))
  rw [hb]
  conv => lhs; rw [← List.take_append_drop k d.data.toList, drop_head d k hk]
theorem dig_pos {d : ByteArray} {v : Int} (a : Dig d d.size v) (h0 : 0 < d.size) (h1 : ¬ d[0] = 48) : 1 ≤ v := by
  have ht : d.data.toList.take d.size = d.data.toList := List.take_of_length_le (by simp)
  have hd := a.digs
  have hn := a.num
  rw [ht] at hd hn
  rw [list_cons d h0, List.all_cons, Bool.and_eq_true] at hd
  have hc : 48 ≤ d[0].toNat ∧ d[0].toNat ≤ 57 := by simpa [dig] using hd.1
  have h2 : d[0].toNat ≠ 48 := fun e => h1 (UInt8.toNat_inj.1 (by rw [e]; rfl))
  have := val_ge d[0] (d.data.toList.drop 1) (by omega)
  rw [list_cons d h0] at hn
  have h3 : 1 ≤ 10 ^ (d.data.toList.drop 1).length := Nat.one_le_pow _ _ (by decide)
  omega

set_option maxHeartbeats 1000000 in
theorem ref_pos (d : ByteArray) (hb : body d.data.toList = d.data.toList) (hneg : isNeg d.data.toList = false) (h0 : 0 < d.size) (h19 : d.size ≤ 19) (h45 : ((d[0].toNat : Int) == 45) = false) (hz : ((d[0].toNat : Int) == 48) = false ∨ ((d[0].toNat : Int) == 48) = true ∧ d.size ≤ 1) (hz' : ¬ (d[0] = 48 ∧ 1 < d.data.toList.length)) (w : World) :
    Calls Tryd.prog 10 #[.string d] w fun e w' => e = .returned (optV (parseI d.data.toList)) ∧ w = w' := by
  have hp1 : (0 : Int) < (d.size : Int) := by omega
  have he := isEmpty_no d h0
  have HB := Lib.hid hb
  have HN := Lib.hid hneg
  have HZ := Lib.hid hz'
  clear hb hneg hz'
  rcases hz with z1 | ⟨z1, z2⟩
  all_goals
    go_enter Tryd.func10, Tryd.ntmps10
    go_wp2

    go_loop [6, 7] (fun n i => ∃ (k : Nat) (v : Int), Dig d k v ∧ n = .int .u64 v ∧ i = .int .i64 k) (fun _ i => d.size - (intOf i).toNat)
    case atStart => exact ⟨0, 0, dig_first d, rfl, rfl⟩
    case round =>
      obtain ⟨k, v, ha, rfl, rfl⟩ := hrel
      by_cases hlt : k < d.size
      · by_cases hd1 : (d[k].toNat : Int) < 48
        · have E := Lib.hid (dig_bad HB.out hlt (.inl hd1))
          clear ha
          go_wp2
          go_ret2
          exact ⟨by rw [E.out]; simp, rfl⟩
        have hd1' : (48 : Int) ≤ (d[k].toNat : Int) := by omega
        by_cases hd2 : (57 : Int) < (d[k].toNat : Int)
        · have E := Lib.hid (dig_bad HB.out hlt (.inr hd2))
          clear ha hd1
          go_wp2
          go_ret2
          exact ⟨by rw [E.out]; simp, rfl⟩
        have hd2' : (d[k].toNat : Int) ≤ 57 := by omega
        obtain ⟨v1, v2⟩ := ha.bound (by omega)
        have HA := Lib.hid (Dig.next ha hlt hd1' hd2')
        clear ha hd1 hd2
        go_wp2
        go_round
        case rel => exact ⟨k + 1, _, HA.out, rfl, by go_num⟩
        case measure => simp [intOf]; omega
      · have hk : k = d.size := by have := ha.hi; omega
        subst hk
        obtain ⟨v1, v2⟩ := ha.bound19 (by omega)
        have hE := dig_end HB.out ha h0 HZ.out
        rw [HN.out] at hE
        by_cases hbig : v ≤ 9223372036854775807
        · have E := Lib.hid (show optV (parseI d.data.toList) = .tuple #[.int .i64 v, .bool true] by rw [hE, if_pos (by exact rng_yes (by simp; omega) (by simp; omega))]; rfl)
          clear ha hE
          go_wp2
          go_ret2
          exact ⟨by rw [E.out]; simp, rfl⟩
        · have E := Lib.hid (show optV (parseI d.data.toList) = .tuple #[.int .i64 0, .bool false] by rw [hE, if_neg (by simp [rng]; omega)]; rfl)
          clear ha hE
          go_wp2
          go_ret2
          exact ⟨by rw [E.out]; simp, rfl⟩

set_option maxHeartbeats 1000000 in
theorem ref_neg (s d : ByteArray) (hds : s.extract 1 s.size = d) (hsz : d.size + 1 = s.size) (hb : body s.data.toList = d.data.toList) (hneg : isNeg s.data.toList = true) (hs0 : 0 < s.size) (h0 : 0 < d.size) (h19 : d.size ≤ 19) (h45 : ((s[0].toNat : Int) == 45) = true) (hz : ((d[0].toNat : Int) == 48) = false) (hz' : ¬ d[0] = 48) (w : World) :
    Calls Tryd.prog 10 #[.string s] w fun e w' => e = .returned (optV (parseI s.data.toList)) ∧ w = w' := by
  have hp1 : (0 : Int) < (s.size : Int) := by omega
  have hp2 : (0 : Int) < (d.size : Int) := by omega
  have hlt : decide (d.size < s.size) = true := decide_eq_true (by omega)
  have hlt' : decide ((d.size : Int) < (s.size : Int)) = true := decide_eq_true (by omega)
  have he := isEmpty_no d h0
  have HB := Lib.hid hb
  have HN := Lib.hid hneg
  have HZ := Lib.hid hz'
  have HD := Lib.hid hds
  clear hb hneg hz' hds
  go_enter Tryd.func10, Tryd.ntmps10
  go_upto_region 4 with (fail)
  rw [HD.out]
  go_wp2

  go_loop [6, 7] (fun n i => ∃ (k : Nat) (v : Int), Dig d k v ∧ n = .int .u64 v ∧ i = .int .i64 k) (fun _ i => d.size - (intOf i).toNat)
  case atStart => exact ⟨0, 0, dig_first d, rfl, rfl⟩
  case round =>
    obtain ⟨k, v, ha, rfl, rfl⟩ := hrel
    by_cases hlt : k < d.size
    · by_cases hd1 : (d[k].toNat : Int) < 48
      · have E := Lib.hid (dig_bad HB.out hlt (.inl hd1))
        clear ha
        go_wp2
        go_ret2
        exact ⟨by rw [E.out]; simp, rfl⟩
      have hd1' : (48 : Int) ≤ (d[k].toNat : Int) := by omega
      by_cases hd2 : (57 : Int) < (d[k].toNat : Int)
      · have E := Lib.hid (dig_bad HB.out hlt (.inr hd2))
        clear ha hd1
        go_wp2
        go_ret2
        exact ⟨by rw [E.out]; simp, rfl⟩
      have hd2' : (d[k].toNat : Int) ≤ 57 := by omega
      obtain ⟨v1, v2⟩ := ha.bound (by omega)
      have HA := Lib.hid (Dig.next ha hlt hd1' hd2')
      clear ha hd1 hd2
      go_wp2
      go_round
      case rel => exact ⟨k + 1, _, HA.out, rfl, by go_num⟩
      case measure => simp [intOf]; omega
    · have hk : k = d.size := by have := ha.hi; omega
      subst hk
      obtain ⟨v1, v2⟩ := ha.bound19 (by omega)
      have hE := dig_end HB.out ha h0 (fun g => HZ.out g.1)
      rw [HN.out] at hE
      have hv1 := dig_pos ha h0 HZ.out
      by_cases hbig : v ≤ 9223372036854775808
      · have E := Lib.hid (show optV (parseI s.data.toList) = .tuple #[.int .i64 (-v), .bool true] by rw [hE, if_pos (by exact rng_yes (by simp; omega) (by simp; omega))]; rfl)
        clear ha hE
        go_wp2
        go_ret2
        exact ⟨by rw [E.out]; simp; omega, rfl⟩
      · have E := Lib.hid (show optV (parseI s.data.toList) = .tuple #[.int .i64 0, .bool false] by rw [hE, if_neg (by simp [rng]; omega)]; rfl)
        clear ha hE
        go_wp2
        go_ret2
        exact ⟨by rw [E.out]; simp, rfl⟩
end Go.Proofs.YtcogfggfbfoaoaaDoor
