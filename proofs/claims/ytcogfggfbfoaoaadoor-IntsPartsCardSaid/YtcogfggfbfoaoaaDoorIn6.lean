/- The contract of the reference's Parse for every text. -/
import Derived.Test.YtcogfggfbfoaoaaDoorIn5
import Derived.Lib.Strings
namespace Go.Proofs.YtcogfggfbfoaoaaDoor
open Go.ChangeShapes Go.WideShapes Go.ChangeAt Go.RowKit

theorem isEmpty_yes (s : ByteArray) (h : s.size = 0) : s.toList.isEmpty = true := by
  have e : s.data.toList = [] := List.eq_nil_of_length_eq_zero (by rw [len_eq, h])
  rw [ByteArray.toList_eq, e]; rfl
theorem ref_empty (s : ByteArray) (hs : s.size = 0) (w : World) :
    Calls Tryd.prog 10 #[.string s] w fun e w' => e = .returned (.tuple #[.int .i64 0, .bool false]) ∧ w = w' := by
  have he := isEmpty_yes s hs
  have h1 : decide ((0 : Int) < (s.size : Int)) = false := decide_eq_false (by omega)
  go_enter Tryd.func10, Tryd.ntmps10
  go_wp2
  go_ret2
  exact ⟨by simp, rfl⟩
theorem ref_long (s : ByteArray) (hs : 19 < s.size) (h45 : ((s[0].toNat : Int) == 45) = false) (w : World) :
    Calls Tryd.prog 10 #[.string s] w fun e w' => e = .returned (.tuple #[.int .i64 0, .bool false]) ∧ w = w' := by
  have h0 : 0 < s.size := by omega
  have hp1 : (0 : Int) < (s.size : Int) := by omega
  have hl : (19 : Int) < (s.size : Int) := by omega
  have he := isEmpty_no s h0
  go_enter Tryd.func10, Tryd.ntmps10
  go_wp2
  go_ret2
  exact ⟨by simp, rfl⟩
theorem ref_zero (s : ByteArray) (hs : 1 < s.size) (hs' : s.size ≤ 19) (h45 : ((s[0].toNat : Int) == 45) = false) (h48 : ((s[0].toNat : Int) == 48) = true) (w : World) :
    Calls Tryd.prog 10 #[.string s] w fun e w' => e = .returned (.tuple #[.int .i64 0, .bool false]) ∧ w = w' := by
  have h0 : 0 < s.size := by omega
  have hp1 : (0 : Int) < (s.size : Int) := by omega
  have hl : (1 : Int) < (s.size : Int) := by omega
  have hl' : (s.size : Int) ≤ 19 := by omega
  have he := isEmpty_no s h0
  go_enter Tryd.func10, Tryd.ntmps10
  go_wp2
  go_ret2
  exact ⟨by simp, rfl⟩
theorem refn_empty (s d : ByteArray) (hds : s.extract 1 s.size = d) (hs : 0 < s.size) (hd : d.size = 0) (h45 : ((s[0].toNat : Int) == 45) = true) (w : World) :
    Calls Tryd.prog 10 #[.string s] w fun e w' => e = .returned (.tuple #[.int .i64 0, .bool false]) ∧ w = w' := by
  have hp1 : (0 : Int) < (s.size : Int) := by omega
  have he := isEmpty_yes d hd
  have HD := Lib.hid hds
  clear hds hd
  go_enter Tryd.func10, Tryd.ntmps10
  go_upto_region 4 with (fail)
  rw [HD.out]
  go_wp2
  go_ret2
  exact ⟨by simp, rfl⟩
theorem refn_long (s d : ByteArray) (hds : s.extract 1 s.size = d) (hs : 0 < s.size) (hd : 19 < d.size) (h45 : ((s[0].toNat : Int) == 45) = true) (w : World) :
    Calls Tryd.prog 10 #[.string s] w fun e w' => e = .returned (.tuple #[.int .i64 0, .bool false]) ∧ w = w' := by
  have hp1 : (0 : Int) < (s.size : Int) := by omega
  have he := isEmpty_no d (by omega)
  have hl : (19 : Int) < (d.size : Int) := by omega
  have HD := Lib.hid hds
  clear hds
  go_enter Tryd.func10, Tryd.ntmps10
  go_upto_region 4 with (fail)
  rw [HD.out]
  go_wp2
  go_ret2
  exact ⟨by simp, rfl⟩
theorem refn_zero (s d : ByteArray) (hds : s.extract 1 s.size = d) (hs : 0 < s.size) (h0 : 0 < d.size) (hd : d.size ≤ 19) (hsz : d.size + 1 = s.size) (h45 : ((s[0].toNat : Int) == 45) = true) (h48 : ((d[0].toNat : Int) == 48) = true) (w : World) :
    Calls Tryd.prog 10 #[.string s] w fun e w' => e = .returned (.tuple #[.int .i64 0, .bool false]) ∧ w = w' := by
  have hp1 : (0 : Int) < (s.size : Int) := by omega
  have hp2 : (0 : Int) < (d.size : Int) := by omega
  have he := isEmpty_no d (by omega)
  have hl : (d.size : Int) ≤ 19 := by omega
  have hlt : decide (d.size < s.size) = true := decide_eq_true (by omega)
  have hlt' : decide ((d.size : Int) < (s.size : Int)) = true := decide_eq_true (by omega)
  have HD := Lib.hid hds
  clear hds
  go_enter Tryd.func10, Tryd.ntmps10
  go_upto_region 4 with (fail)
  rw [HD.out]
  go_wp2
  go_ret2
  exact ⟨by simp, rfl⟩
theorem Ref10 (s : ByteArray) (w : World) :
    Calls Tryd.prog 10 #[.string s] w fun e w' => e = .returned (optV (parseI s.data.toList)) ∧ w = w' := by
  by_cases h0 : s.size = 0
  · have hl : s.data.toList = [] := List.eq_nil_of_length_eq_zero (by rw [len_eq, h0])
    rw [optV_none (parse_start _ (.inl (by rw [hl]; rfl)))]
    exact ref_empty s h0 w
  have hpos : 0 < s.size := by omega
  cases h45 : ((s[0].toNat : Int) == 45)
  · have hn := isNeg_at s hpos false h45
    have hb : body s.data.toList = s.data.toList := by rw [body_drop, hn]; rfl
    by_cases hl : 19 < s.size
    · rw [optV_none (parse_long _ (by rw [hb, len_eq]; exact hl))]
      exact ref_long s hl h45 w
    by_cases hz : s[0] = 48 ∧ 1 < s.size
    · rw [optV_none (parse_start _ (.inr ⟨by rw [hb, list_cons s hpos, hz.1]; rfl, by rw [len_eq]; exact hz.2⟩))]
      exact ref_zero s hz.2 (by omega) h45 (by rw [is48]; simp [hz.1]) w
    · refine ref_pos s hb hn hpos (by omega) h45 ?_ (by rw [len_eq]; exact hz) w
      rw [is48]
      by_cases h : s[0] = 48
      · exact .inr ⟨by simp [h], by have : ¬ 1 < s.size := fun g => hz ⟨h, g⟩
                                    omega⟩
      · exact .inl (by simp [h])
  · have hn := isNeg_at s hpos true h45
    obtain ⟨d, hd⟩ : ∃ d, s.extract 1 s.size = d := ⟨_, rfl⟩
    have hdl : d.data.toList = s.data.toList.drop 1 := by
      rw [← hd, Lib.extract_data]
      exact List.take_of_length_le (by simp)
    have hb : body s.data.toList = d.data.toList := by rw [body_drop, hn, hdl]; rfl
    have hsz : d.size + 1 = s.size := by
      have := congrArg List.length hdl
      rw [len_eq, List.length_drop, len_eq] at this
      omega
    by_cases hd0 : d.size = 0
    · rw [optV_none (parse_start _ (.inl (by rw [hb]; exact List.eq_nil_of_length_eq_zero (by rw [len_eq, hd0]))))]
      exact refn_empty s d hd hpos hd0 h45 w
    by_cases hl : 19 < d.size
    · rw [optV_none (parse_long _ (by rw [hb, len_eq]; exact hl))]
      exact refn_long s d hd hpos hl h45 w
    have hd1 : 0 < d.size := by omega
    by_cases hz : d[0] = 48
    · rw [optV_none (parse_start _ (.inr ⟨by rw [hb, list_cons d hd1, hz]; rfl, by rw [len_eq]; omega⟩))]
      exact refn_zero s d hd hpos hd1 (by omega) hsz h45 (by rw [is48]; simp [hz]) w
    · exact ref_neg s d hd hsz hb hn hpos hd1 (by omega) h45 (by rw [is48]; simp [hz]) hz w
end Go.Proofs.YtcogfggfbfoaoaaDoor
