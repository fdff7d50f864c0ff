/- The contract of ints.Parse for every text. -/
import Derived.Test.YtllaeocclpaiaaaGreatDoorIn3
namespace Go.Proofs.YtllaeocclpaiaaaGreatDoor
open Go.ChangeShapes Go.WideShapes Go.ChangeAt Go.RowKit

theorem list_cons (s : ByteArray) (hs : 0 < s.size) : s.data.toList = s[0] :: s.data.toList.drop 1 := by
  have hl : 0 < s.data.toList.length := by simpa using hs
  have := List.drop_eq_getElem_cons hl
  rw [List.drop_zero] at this
  exact this
theorem isNeg_at (s : ByteArray) (hs : 0 < s.size) (b : Bool) (h : ((s[0].toNat : Int) == 45) = b) : isNeg s.data.toList = b := by
  rw [list_cons s hs]
  unfold isNeg
  simp only [List.head?_cons]
  rw [← h, Bool.eq_iff_iff]
  simp only [beq_iff_eq, Option.some.injEq]
  constructor
  · intro e; rw [e]; rfl
  · intro e; exact UInt8.toNat_inj.1 (by simp; omega)
theorem is48 (c : UInt8) : ((c.toNat : Int) == 48) = decide (c = 48) := by
  rw [Bool.eq_iff_iff]
  simp only [beq_iff_eq, decide_eq_true_eq]
  constructor
  · intro e; exact UInt8.toNat_inj.1 (by simp; omega)
  · intro e; rw [e]; rfl
theorem body_drop (l : List UInt8) : body l = l.drop (stOf (isNeg l)) := by unfold body stOf; cases isNeg l <;> simp
theorem drop_head (s : ByteArray) (k : Nat) (hk : k < s.size) : s.data.toList.drop k = s[k] :: s.data.toList.drop (k + 1) := by
  have hl : k < s.data.toList.length := by simpa using hk
  exact List.drop_eq_getElem_cons hl
theorem len_eq (s : ByteArray) : s.data.toList.length = s.size := by simp
theorem parse_bad0 (s : ByteArray) (hs : s.size = 0) (w : World) :
    Calls Tryz.prog 80 #[.string s] w fun e w' => e = .returned (.tuple #[.int .i64 0, .bool false]) ∧ ∃ n, w' = w.drewN n := by
  have h0 : ((s.size : Int) == 0) = true := by simp [hs]
  have h1 : decide ((0 : Int) < (s.size : Int)) = false := by simp [hs]
  go_enter Tryz.func80, Tryz.ntmps80
  go_wp2
  go_step3
  go_wp2
  go_quiet (fail)
  go_wp2
  rw [Exit.noGoto_ret]
  go_ret2
  exact ⟨by simp, _, rfl⟩
theorem parse_bad1 (s : ByteArray) (hs : 0 < s.size) (h45 : ((s[0].toNat : Int) == 45) = true) (h2 : s.size = 1) (w : World) :
    Calls Tryz.prog 80 #[.string s] w fun e w' => e = .returned (.tuple #[.int .i64 0, .bool false]) ∧ ∃ n, w' = w.drewN n := by
  have h0 : ((s.size : Int) == 0) = false := by rw [beq_eq_false_iff_ne]; omega
  have h3 : ((1 : Int) == (s.size : Int)) = true := by simp [h2]
  have hp0 : 0 < s.size := by omega
  have hp1 : (0 : Int) < (s.size : Int) := by omega
  have h1 : decide ((0 : Int) < (s.size : Int)) = true := decide_eq_true hp1
  have H2 := Lib.hid h2
  clear h2
  go_enter Tryz.func80, Tryz.ntmps80
  go_wp2
  go_step3
  go_wp2
  go_quiet (fail)
  go_wp2
  rw [Exit.noGoto_ret]
  go_ret2
  exact ⟨by simp, _, rfl⟩
theorem parse_bad2 (s : ByteArray) (hs : 1 < s.size) (h45 : ((s[0].toNat : Int) == 45) = true) (h48 : ((s[1].toNat : Int) == 48) = true) (w : World) :
    Calls Tryz.prog 80 #[.string s] w fun e w' => e = .returned (.tuple #[.int .i64 0, .bool false]) ∧ ∃ n, w' = w.drewN n := by
  have h0 : ((s.size : Int) == 0) = false := by rw [beq_eq_false_iff_ne]; omega
  have h3 : ((1 : Int) == (s.size : Int)) = false := by rw [beq_eq_false_iff_ne]; omega
  have hp0 : 0 < s.size := by omega
  have hp1 : (0 : Int) < (s.size : Int) := by omega
  have h1 : decide ((0 : Int) < (s.size : Int)) = true := decide_eq_true hp1
  go_enter Tryz.func80, Tryz.ntmps80
  go_wp2
  go_step3
  go_wp2
  go_quiet (fail)
  go_wp2
  rw [Exit.noGoto_ret]
  go_ret2
  exact ⟨by simp, _, rfl⟩
theorem parse_bad3 (s : ByteArray) (hs : 1 < s.size) (h45 : ((s[0].toNat : Int) == 45) = false) (h48 : ((s[0].toNat : Int) == 48) = true) (w : World) :
    Calls Tryz.prog 80 #[.string s] w fun e w' => e = .returned (.tuple #[.int .i64 0, .bool false]) ∧ ∃ n, w' = w.drewN n := by
  have h0 : ((s.size : Int) == 0) = false := by rw [beq_eq_false_iff_ne]; omega
  have h3 : ((0 : Int) == (s.size : Int)) = false := by rw [beq_eq_false_iff_ne]; omega
  have hp0 : 0 < s.size := by omega
  have hp1 : (0 : Int) < (s.size : Int) := by omega
  have h1 : decide ((0 : Int) < (s.size : Int)) = true := decide_eq_true hp1
  go_enter Tryz.func80, Tryz.ntmps80
  go_wp2
  go_step3
  go_wp2
  go_quiet (fail)
  go_wp2
  rw [Exit.noGoto_ret]
  go_ret2
  exact ⟨by simp, _, rfl⟩
theorem optV_none {l : List UInt8} (h : parseI l = none) : optV (parseI l) = .tuple #[.int .i64 0, .bool false] := by rw [h]; rfl
theorem Parse9 (s : ByteArray) (hs : s.size ≤ 9223372036854775807) (w : World) :
    Calls Tryz.prog 80 #[.string s] w fun e w' => e = .returned (optV (parseI s.data.toList)) ∧ ∃ n, w' = w.drewN n := by
  by_cases h0 : s.size = 0
  · have hl : s.data.toList = [] := List.eq_nil_of_length_eq_zero (by rw [len_eq, h0])
    rw [optV_none (parse_start _ (.inl (by rw [hl]; rfl)))]
    exact parse_bad0 s h0 w
  have hpos : 0 < s.size := by omega
  cases h45 : ((s[0].toNat : Int) == 45)
  · have hn := isNeg_at s hpos false h45
    have hb : body s.data.toList = s[0] :: s.data.toList.drop 1 := by rw [body_drop, hn]; exact drop_head s 0 hpos
    by_cases hz : s[0] = 48 ∧ 1 < s.size
    · rw [optV_none (parse_start _ (.inr ⟨by rw [hb, hz.1]; rfl, by rw [len_eq]; exact hz.2⟩))]
      exact parse_bad3 s hz.2 h45 (by rw [is48]; simp [hz.1]) w
    · refine parse_false s ⟨hn, by rw [hb]; simp, ?_⟩ hs hpos h45 hpos ?_ w
      · rw [hb, len_eq]; simp only [List.head?_cons, Option.some.injEq]; exact hz
      · rw [is48]
        by_cases h : s[0] = 48
        · exact .inr ⟨by simp [h], by have : ¬ 1 < s.size := fun g => hz ⟨h, g⟩
                                      omega⟩
        · exact .inl (by simp [h])
  · have hn := isNeg_at s hpos true h45
    by_cases h1 : s.size = 1
    · have hb : body s.data.toList = [] := by rw [body_drop, hn]; exact List.drop_eq_nil_of_le (by rw [len_eq, h1]; decide)
      rw [optV_none (parse_start _ (.inl hb))]
      exact parse_bad1 s hpos h45 h1 w
    have hb : body s.data.toList = s[1] :: s.data.toList.drop 2 := by rw [body_drop, hn]; exact drop_head s 1 (by omega)
    by_cases hz : s[1] = 48
    · rw [optV_none (parse_start _ (.inr ⟨by rw [hb, hz]; rfl, by rw [len_eq]; omega⟩))]
      exact parse_bad2 s (by omega) h45 (by rw [is48]; simp [hz]) w
    · refine parse_true s ⟨hn, by rw [hb]; simp, ?_⟩ hs hpos h45 (by omega) (.inl (by rw [is48]; simp [hz])) w
      rw [hb]; simp only [List.head?_cons, Option.some.injEq]; exact fun g => hz g.1
end Go.Proofs.YtllaeocclpaiaaaGreatDoor
