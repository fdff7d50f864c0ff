import Derived.Laws.ComplexArith
namespace Go.Fl
open Ieee

/-- The double of a sign and a whole magnitude. -/
def fz (s : Bool) (m : Nat) : Nat := double.nearest s m 0
def sg (s : Bool) (m : Nat) : Int := if s then -(m : Int) else (m : Int)
/-- The datum 'd' is the whole number 'm' with the sign 's', at some place that is not above 0. -/
def Rep (d : Datum) (s : Bool) (m : Nat) : Prop := ∃ k : Nat, d = .number s (m * 2 ^ k) (-(k : Int))

theorem two_pow_pos (k : Nat) : 0 < 2 ^ k := Nat.two_pow_pos k

theorem log2_mul_pow (m k : Nat) (hm : m ≠ 0) : (m * 2 ^ k).log2 = m.log2 + k := by
  induction k with
  | zero => simp
  | succ k ih =>
    rw [Nat.pow_succ, ← Nat.mul_assoc, Nat.mul_comm _ 2, Nat.log2_two_mul (by have := two_pow_pos k; exact Nat.mul_ne_zero hm (by omega)), ih]
    omega

theorem cut_exact (way : Toward) (s : Bool) (m d : Nat) (hm : m = 0 ∨ d ≤ (m * 2 ^ d).log2 + 2) : way.cut s (m * 2 ^ d) d = m := by
  unfold Toward.cut
  by_cases h0 : m = 0
  · subst h0
    cases way <;> simp
  · have hd : d ≤ (m * 2 ^ d).log2 + 2 := by rcases hm with h | h <;> omega
    have hmin : min d ((m * 2 ^ d).log2 + 2) = d := by omega
    have hp := two_pow_pos d
    have e1 : m * 2 ^ d / 2 ^ d = m := Nat.mul_div_cancel _ hp
    have e2 : m * 2 ^ d % 2 ^ d = 0 := Nat.mul_mod_left _ _
    have e3 : (1 <<< d : Nat) = 2 ^ d := by rw [Nat.shiftLeft_eq, Nat.one_mul]
    simp only [hmin, e3, e1, e2]
    cases way <;> simp <;> omega

theorem binade_eq : double.binade = 2 ^ 52 := rfl
theorem leastPlace_eq : double.leastPlace = -1074 := by decide
theorem infRung_eq : double.infRung = 2047 * 2 ^ 52 := by decide
theorem signWeight_eq : double.signWeight = 2 ^ 63 := rfl

theorem log2_lt53 {m : Nat} (h : m < 2 ^ 53) (hm : m ≠ 0) : m.log2 ≤ 52 := by
  have := (Nat.log2_lt hm).2 h
  omega

/-- The rung of a whole number that is not 0. -/
def rung (m : Nat) : Nat := (m.log2 + 1022) * 2 ^ 52 + m * 2 ^ (52 - m.log2)

theorem scaled {m : Nat} (h : m < 2 ^ 53) (hm : m ≠ 0) : 2 ^ 52 ≤ m * 2 ^ (52 - m.log2) ∧ m * 2 ^ (52 - m.log2) < 2 ^ 53 := by
  have hl := log2_lt53 h hm
  have h1 := Nat.log2_self_le hm
  have h2 : m < 2 ^ (m.log2 + 1) := Nat.lt_log2_self
  have hp := two_pow_pos (52 - m.log2)
  constructor
  · calc 2 ^ 52 = 2 ^ m.log2 * 2 ^ (52 - m.log2) := by rw [← Nat.pow_add]; congr 1; omega
      _ ≤ _ := Nat.mul_le_mul_right _ h1
  · calc m * 2 ^ (52 - m.log2) < 2 ^ (m.log2 + 1) * 2 ^ (52 - m.log2) := Nat.mul_lt_mul_of_pos_right h2 hp
      _ = 2 ^ 53 := by rw [← Nat.pow_add]; congr 1; omega

theorem nearest_scaled (s : Bool) (m k : Nat) (h : m < 2 ^ 53) (hm : m ≠ 0) : double.nearest s (m * 2 ^ k) (-(k : Int)) = double.word s (rung m) := by
  have hl := log2_lt53 h hm
  have hs := scaled h hm
  have h0 : m * 2 ^ k ≠ 0 := Nat.mul_ne_zero hm (by have := two_pow_pos k; omega)
  unfold Format.nearest
  rw [if_neg h0]
  have hlog := log2_mul_pow m k hm
  have hlast : max (-(k : Int) + ((m * 2 ^ k).log2 : Nat) - (double.fractionBits : Nat)) double.leastPlace = (m.log2 : Int) - 52 := by
    rw [hlog, leastPlace_eq]
    show max _ _ = _
    have : ((double.fractionBits : Nat) : Int) = 52 := rfl
    omega
  simp only [hlast]
  have hkept : Toward.even.cut s ((m * 2 ^ k) <<< (-(k : Int) - ((m.log2 : Int) - 52)).toNat) (((m.log2 : Int) - 52) - -(k : Int)).toNat = m * 2 ^ (52 - m.log2) := by
    by_cases hk : k ≤ 52 - m.log2
    · have e1 : (((m.log2 : Int) - 52) - -(k : Int)).toNat = 0 := by omega
      have e2 : (-(k : Int) - ((m.log2 : Int) - 52)).toNat = 52 - m.log2 - k := by omega
      rw [e1, e2, Nat.shiftLeft_eq, Nat.mul_assoc, ← Nat.pow_add, show k + (52 - m.log2 - k) = 52 - m.log2 from by omega]
      have := cut_exact .even s (m * 2 ^ (52 - m.log2)) 0 (.inr (by omega))
      simpa using this
    · have e1 : (((m.log2 : Int) - 52) - -(k : Int)).toNat = k - (52 - m.log2) := by omega
      have e2 : (-(k : Int) - ((m.log2 : Int) - 52)).toNat = 0 := by omega
      rw [e1, e2, Nat.shiftLeft_zero]
      have e3 : m * 2 ^ k = (m * 2 ^ (52 - m.log2)) * 2 ^ (k - (52 - m.log2)) := by
        rw [Nat.mul_assoc, ← Nat.pow_add]; congr 2; omega
      rw [e3]
      refine cut_exact .even s _ _ (.inr ?_)
      rw [← e3, hlog]
      omega
  rw [hkept, leastPlace_eq, infRung_eq, binade_eq]
  have e4 : (((m.log2 : Int) - 52) - -1074).toNat = m.log2 + 1022 := by omega
  rw [e4]
  unfold rung
  congr 1
  omega

theorem nearest_zero (s : Bool) (k : Int) : double.nearest s 0 k = double.word s 0 := by unfold Format.nearest; rw [if_pos rfl]

theorem word_false (r : Nat) : double.word false r = r := rfl
theorem word_true (r : Nat) : double.word true r = 2 ^ 63 + r := rfl

theorem fz_zero (s : Bool) : fz s 0 = double.word s 0 := nearest_zero s 0
theorem fz_pos (s : Bool) (m : Nat) (h : m < 2 ^ 53) (hm : m ≠ 0) : fz s m = double.word s (rung m) := by
  have := nearest_scaled s m 0 h hm
  simpa [fz] using this

theorem rung_lt {m : Nat} (h : m < 2 ^ 53) (hm : m ≠ 0) : rung m < 2047 * 2 ^ 52 ∧ 2 ^ 52 ≤ rung m := by
  have hl := log2_lt53 h hm
  have hs := scaled h hm
  unfold rung
  omega

theorem write_rep {d : Datum} {s : Bool} {m : Nat} (h : Rep d s m) (hm : m < 2 ^ 53) : double.write d = fz s m := by
  obtain ⟨k, rfl⟩ := h
  show double.nearest s (m * 2 ^ k) (-(k : Int)) = fz s m
  by_cases h0 : m = 0
  · subst h0; rw [Nat.zero_mul, nearest_zero, fz_zero]
  · rw [nearest_scaled s m k hm h0, fz_pos s m hm h0]

theorem read_word (s : Bool) (r : Nat) (h : r < 2 ^ 63) : double.read (double.word s r) =
    (if r < 2 ^ 52 then .number s r (-1074)
     else if r < 2047 * 2 ^ 52 then .number s (2 ^ 52 + r % 2 ^ 52) (-1074 + (r / 2 ^ 52 - 1 : Nat))
     else if r = 2047 * 2 ^ 52 then .infinity s else .nan s (r - 2047 * 2 ^ 52)) := by
  have e1 : (double.word s r / 2 ^ 63 % 2 == 1) = s := by
    cases s
    · rw [word_false]
      have : r / 2 ^ 63 = 0 := Nat.div_eq_of_lt h
      rw [this]; rfl
    · rw [word_true]
      have : (2 ^ 63 + r) / 2 ^ 63 = 1 := by omega
      rw [this]; rfl
  have e2 : double.word s r % 2 ^ 63 = r := by
    cases s
    · rw [word_false]; omega
    · rw [word_true]; omega
  unfold Format.read
  simp only [signWeight_eq, e1, e2, binade_eq, infRung_eq, leastPlace_eq]

theorem rep_zero (s : Bool) (k : Nat) : Rep (.number s 0 (-(k : Int))) s 0 := ⟨k, by rw [Nat.zero_mul]⟩

theorem read_fz (s : Bool) (m : Nat) (h : m < 2 ^ 53) : Rep (double.read (fz s m)) s m := by
  by_cases h0 : m = 0
  · subst h0
    rw [fz_zero, read_word s 0 (by decide)]
    rw [if_pos (by omega)]
    exact rep_zero s 1074
  · have hl := log2_lt53 h h0
    have hs := scaled h h0
    have hr := rung_lt h h0
    rw [fz_pos s m h h0, read_word s _ (by omega), if_neg (by omega), if_pos hr.1]
    refine ⟨52 - m.log2, ?_⟩
    have e1 : rung m / 2 ^ 52 = m.log2 + 1023 := by unfold rung; omega
    have e2 : 2 ^ 52 + rung m % 2 ^ 52 = m * 2 ^ (52 - m.log2) := by unfold rung; omega
    rw [e1, e2, show (-1074 + ((m.log2 + 1023 - 1 : Nat) : Int)) = -((52 - m.log2 : Nat) : Int) from by omega]

theorem signed_scale (s : Bool) (m k j : Nat) : signed s (m * 2 ^ k) j = sg s m * ((2 ^ (k + j) : Nat) : Int) := by
  unfold signed sg
  rw [Nat.shiftLeft_eq, Nat.mul_assoc, ← Nat.pow_add]
  cases s <;> simp [Int.neg_mul]

theorem rep_sum {d e : Datum} {s t : Bool} {m n : Nat} (hd : Rep d s m) (he : Rep e t n) :
    ∃ r, d.sum e = some r ∧ Rep r (if sg s m + sg t n = 0 then s && t else decide (sg s m + sg t n < 0)) (sg s m + sg t n).natAbs := by
  obtain ⟨k, rfl⟩ := hd
  obtain ⟨l, rfl⟩ := he
  refine ⟨_, rfl, max k l, ?_⟩
  have e0 : min (-(k : Int)) (-(l : Int)) = -((max k l : Nat) : Int) := by omega
  have e1 : (-(k : Int) - -((max k l : Nat) : Int)).toNat = max k l - k := by omega
  have e2 : (-(l : Int) - -((max k l : Nat) : Int)).toNat = max k l - l := by omega
  simp only [e0, e1, e2, signed_scale, show k + (max k l - k) = max k l from by omega, show l + (max k l - l) = max k l from by omega, ← Int.add_mul]
  generalize hT : sg s m + sg t n = T
  have hp : (0 : Int) < ((2 ^ max k l : Nat) : Int) := by have := two_pow_pos (max k l); omega
  have z : (T * ((2 ^ max k l : Nat) : Int) = 0) ↔ T = 0 := by
    constructor
    · intro h; rcases Int.mul_eq_zero.1 h with h | h <;> omega
    · intro h; simp [h]
  have n1 : (T * ((2 ^ max k l : Nat) : Int) < 0) ↔ T < 0 := by
    constructor
    · intro h
      rcases Int.lt_or_le T 0 with h' | h'
      · exact h'
      · have := Int.mul_nonneg h' (Int.le_of_lt hp); omega
    · intro h; exact Int.mul_neg_of_neg_of_pos h hp
  simp only [z, n1, Int.natAbs_mul, Int.natAbs_natCast]

theorem rep_opposite {d : Datum} {s : Bool} {m : Nat} (hd : Rep d s m) : Rep d.opposite (!s) m := by
  obtain ⟨k, rfl⟩ := hd
  exact ⟨k, rfl⟩

theorem rep_product {d e : Datum} {s t : Bool} {m n : Nat} (hd : Rep d s m) (he : Rep e t n) : ∃ r, d.product e = some r ∧ Rep r (s ^^ t) (m * n) := by
  obtain ⟨k, rfl⟩ := hd
  obtain ⟨l, rfl⟩ := he
  refine ⟨_, rfl, k + l, ?_⟩
  have e1 : m * 2 ^ k * (n * 2 ^ l) = m * n * 2 ^ (k + l) := by rw [Nat.pow_add]; ac_rfl
  have e2 : -(k : Int) + -(l : Int) = -((k + l : Nat) : Int) := by omega
  rw [e1, e2]

theorem rep_order {d e : Datum} {s t : Bool} {m n : Nat} (hd : Rep d s m) (he : Rep e t n) : d.order e = some (compare (sg s m) (sg t n)) := by
  obtain ⟨k, rfl⟩ := hd
  obtain ⟨l, rfl⟩ := he
  have e0 : min (-(k : Int)) (-(l : Int)) = -((max k l : Nat) : Int) := by omega
  have e1 : (-(k : Int) - -((max k l : Nat) : Int)).toNat = max k l - k := by omega
  have e2 : (-(l : Int) - -((max k l : Nat) : Int)).toNat = max k l - l := by omega
  simp only [Datum.order, e0, e1, e2, signed_scale, show k + (max k l - k) = max k l from by omega, show l + (max k l - l) = max k l from by omega]
  have hp : (0 : Int) < ((2 ^ max k l : Nat) : Int) := by have := two_pow_pos (max k l); omega
  congr 1
  generalize ((2 ^ max k l : Nat) : Int) = q at hp
  generalize sg s m = a
  generalize sg t n = b
  rcases Int.lt_trichotomy a b with h | h | h
  · have h' := Int.mul_lt_mul_of_pos_right h hp
    show compareOfLessAndEq _ _ = compareOfLessAndEq _ _
    unfold compareOfLessAndEq
    rw [if_pos h, if_pos h']
  · subst h; show compareOfLessAndEq _ _ = compareOfLessAndEq _ _
    unfold compareOfLessAndEq
    simp
  · have h' := Int.mul_lt_mul_of_pos_right h hp
    show compareOfLessAndEq _ _ = compareOfLessAndEq _ _
    unfold compareOfLessAndEq
    rw [if_neg (by omega), if_neg (by omega), if_neg (by omega), if_neg (by omega)]

theorem rep_integral {d : Datum} {s : Bool} {m : Nat} (w : Toward) (hd : Rep d s m) : d.integral w = .number s m 0 := by
  obtain ⟨k, rfl⟩ := hd
  simp only [Datum.integral]
  have e1 : (-(k : Int)).toNat = 0 := by omega
  have e2 : (- -(k : Int)).toNat = k := by omega
  rw [e1, e2, Nat.shiftLeft_zero, cut_exact]
  by_cases h : m = 0
  · exact .inl h
  · right; rw [log2_mul_pow m k h]; omega

theorem rep_nat (s : Bool) (m : Nat) : Rep (.number s m 0) s m := ⟨0, by simp⟩

theorem rep_toInt {d : Datum} {s : Bool} {m : Nat} (w : Toward) (hd : Rep d s m) : d.toInt w = some (sg s m) := by
  unfold Datum.toInt
  rw [rep_integral w hd]
  have := signed_scale s m 0 0
  simp at this
  simp [this]

/-! the operations on words -/
theorem f64 : FloatKind.f64.format = double := rfl

theorem add_fz {s t : Bool} {m n : Nat} (hm : m < 2 ^ 53) (hn : n < 2 ^ 53) (hb : (sg s m + sg t n).natAbs < 2 ^ 53) :
    double.add (fz s m) (fz t n) = some (fz (if sg s m + sg t n = 0 then s && t else decide (sg s m + sg t n < 0)) (sg s m + sg t n).natAbs) := by
  obtain ⟨r, h1, h2⟩ := rep_sum (read_fz s m hm) (read_fz t n hn)
  unfold Format.add
  rw [h1, Option.map_some, write_rep h2 hb]

theorem sg_not (t : Bool) (n : Nat) : sg (!t) n = - sg t n := by cases t <;> simp [sg]

theorem sub_fz {s t : Bool} {m n : Nat} (hm : m < 2 ^ 53) (hn : n < 2 ^ 53) (hb : (sg s m - sg t n).natAbs < 2 ^ 53) :
    double.sub (fz s m) (fz t n) = some (fz (if sg s m - sg t n = 0 then s && !t else decide (sg s m - sg t n < 0)) (sg s m - sg t n).natAbs) := by
  obtain ⟨r, h1, h2⟩ := rep_sum (read_fz s m hm) (rep_opposite (read_fz t n hn))
  rw [sg_not, ← Int.sub_eq_add_neg] at h2
  unfold Format.sub
  rw [h1, Option.map_some, write_rep h2 hb]

theorem mul_fz {s t : Bool} {m n : Nat} (hm : m < 2 ^ 53) (hn : n < 2 ^ 53) (hb : m * n < 2 ^ 53) :
    double.mul (fz s m) (fz t n) = some (fz (s ^^ t) (m * n)) := by
  obtain ⟨r, h1, h2⟩ := rep_product (read_fz s m hm) (read_fz t n hn)
  unfold Format.mul
  rw [h1, Option.map_some, write_rep h2 hb]

theorem order_fz {s t : Bool} {m n : Nat} (hm : m < 2 ^ 53) (hn : n < 2 ^ 53) : double.order (fz s m) (fz t n) = some (compare (sg s m) (sg t n)) :=
  rep_order (read_fz s m hm) (read_fz t n hn)

/-! whole numbers as doubles -/
def fi (n : Int) : Nat := fz (decide (n < 0)) n.natAbs
theorem sg_fi (n : Int) : sg (decide (n < 0)) n.natAbs = n := by
  unfold sg
  by_cases h : n < 0 <;> simp [h] <;> omega
theorem floatOfInt_fi (n : Int) : floatOfInt .f64 n = fi n := rfl
theorem fi_zero : fi 0 = 0 := by decide
end Go.Fl
