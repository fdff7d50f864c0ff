/- Contracts of ints.Add, Sub, Mul, Div, Mod and of the reference's: what they give for every two int64. -/
import Derived.Test.YtllaeocclpaiaaaGreatDoorRows
import Derived.WalkKit
import Derived.ProofKit
import Derived.OpenShut
import Derived.WalkLawsBesides
import Derived.Outline
import Derived.Lib.Hide
import Derived.Laws.BitsAllLaws
import Derived.Deep.RegionWith
import Derived.BigQuiet
import Derived.Deep.QuietTactic
namespace Go.Proofs.YtllaeocclpaiaaaGreatDoor
open Go.ChangeShapes Go.WideShapes Go.ChangeAt Go.RowKit

/-- Does a number fit int64? -/
def rng (x : Int) : Bool := decide (-9223372036854775808 ≤ x ∧ x ≤ 9223372036854775807)
/-- A number and that it is one, or 0 and that it is none. -/
def resV (b : Bool) (x : Int) : Value := if b then .tuple #[.int .i64 x, .bool true] else .tuple #[.int .i64 0, .bool false]
theorem resV_yes {b : Bool} {x : Int} (h : b = true) : resV b x = .tuple #[.int .i64 x, .bool true] := by subst h; rfl
theorem resV_no {b : Bool} {x : Int} (h : b = false) : resV b x = .tuple #[.int .i64 0, .bool false] := by subst h; rfl
theorem rng_yes {x : Int} (h1 : -9223372036854775808 ≤ x) (h2 : x ≤ 9223372036854775807) : rng x = true := decide_eq_true ⟨h1, h2⟩
theorem rng_hi {x : Int} (h1 : 9223372036854775807 < x) : rng x = false := decide_eq_false (by omega)
theorem rng_lo {x : Int} (h1 : x < -9223372036854775808) : rng x = false := decide_eq_false (by omega)
theorem rng_of {x : Int} (h : rng x = true) : -9223372036854775808 ≤ x ∧ x ≤ 9223372036854775807 := of_decide_eq_true h
theorem rng_not {x : Int} (h : ¬ rng x = true) : ¬ (-9223372036854775808 ≤ x ∧ x ≤ 9223372036854775807) := fun g => h (decide_eq_true g)

theorem w64 (n : Int) : wrap64 n = (n + 9223372036854775808) % 18446744073709551616 - 9223372036854775808 := by rw [← IntWalk.i64_left, IntKind.wrap_i64]
/-- The quotient of a wrapped product tells whether it was wrapped. -/
theorem mul_back (a b : Int) (hb : b ≠ 0) (ha1 : -9223372036854775808 ≤ a) (ha2 : a ≤ 9223372036854775807) (hb1 : -9223372036854775808 ≤ b) (hb2 : b ≤ 9223372036854775807) (h1 : ¬ (a = -1 ∧ b = -9223372036854775808)) (h2 : ¬ (b = -1 ∧ a = -9223372036854775808)) :
    (wrap64 ((wrap64 (a * b)).tdiv b) != a) = !rng (a * b) := by
  by_cases hr : rng (a * b) = true
  · have hr' := rng_of hr
    rw [hr, IntWalk.wrap64_in (a * b) hr', Int.mul_tdiv_cancel _ hb, IntWalk.wrap64_in a ⟨ha1, ha2⟩]
    simp
  · have hr' := rng_not hr
    have hf : rng (a * b) = false := by simpa using hr
    rw [hf]
    simp only [Bool.not_false, bne_iff_ne, ne_eq]
    intro he
    have hp := w64 (a * b)
    generalize wrap64 (a * b) = p at *
    have hd := Int.mul_tdiv_add_tmod p b
    have hq := w64 (p.tdiv b)
    rw [he] at hq
    have hm : (p.tmod b).natAbs < b.natAbs := by rw [Int.natAbs_tmod]; exact Nat.mod_lt _ (by omega)
    have hqa : (p.tdiv b).natAbs ≤ p.natAbs := by rw [Int.natAbs_tdiv]; exact Nat.div_le_self _ _
    by_cases hqr : -9223372036854775808 ≤ p.tdiv b ∧ p.tdiv b ≤ 9223372036854775807
    · have e : p.tdiv b = a := by omega
      rw [e, Int.mul_comm] at hd
      omega
    · -- the one quotient that wraps: the least number by -1
      have e1 : p = -9223372036854775808 ∨ 9223372036854775807 < p.tdiv b := by omega
      have hp2 : p.natAbs ≤ 9223372036854775808 := by omega
      have hq2 : (p.tdiv b).natAbs = 9223372036854775808 := by omega
      have hpa : p = -9223372036854775808 := by omega
      have hb3 : b = 1 ∨ b = -1 := by
        have : (p.tdiv b).natAbs = p.natAbs / b.natAbs := Int.natAbs_tdiv p b
        rw [hpa] at this
        rw [hpa] at hq2
        rw [hq2] at this
        have e2 : (-9223372036854775808 : Int).natAbs = 9223372036854775808 := by decide
        rw [e2] at this
        have h3 : b.natAbs = 1 := by
          by_cases h4 : b.natAbs = 1
          · exact h4
          · exact absurd this.symm (Nat.ne_of_lt (Nat.div_lt_self (by decide) (by omega)))
        omega
      rcases hb3 with h3 | h3
      · subst h3; omega
      · subst h3; omega

/-- The quotient, cut down; the rest. -/
def dv (a b : Int) : Int := if ¬ a.tmod b = 0 ∧ ¬ ((a < 0) ↔ (b < 0)) then a.tdiv b - 1 else a.tdiv b
def md (a b : Int) : Int := if ¬ a.tmod b = 0 ∧ ¬ ((a < 0) ↔ (b < 0)) then a.tmod b + b else a.tmod b
/-- May one divide? -/
def okD (a b : Int) : Bool := !(decide (b = 0) || (decide (b = -1) && decide (a = -9223372036854775808)))
def okM (b : Int) : Bool := !decide (b = 0)
theorem tdiv_bd (a b : Int) (ha1 : -9223372036854775808 ≤ a) (ha2 : a ≤ 9223372036854775807) (h : ¬ (b = -1 ∧ a = -9223372036854775808)) : -9223372036854775808 ≤ a.tdiv b ∧ a.tdiv b ≤ 9223372036854775807 := by
  have hqa : (a.tdiv b).natAbs ≤ a.natAbs := by rw [Int.natAbs_tdiv]; exact Nat.div_le_self _ _
  by_cases hq : a.tdiv b = 9223372036854775808
  · exfalso
    have ha : a = -9223372036854775808 := by omega
    have hb : b.natAbs = 1 := by
      have e := Int.natAbs_tdiv a b
      rw [hq, ha] at e
      have e1 : (-9223372036854775808 : Int).natAbs = 9223372036854775808 := by decide
      have e2 : (9223372036854775808 : Int).natAbs = 9223372036854775808 := by decide
      rw [e1, e2] at e
      by_cases h0 : b.natAbs = 0
      · rw [h0] at e; simp at e
      · by_cases h4 : b.natAbs = 1
        · exact h4
        · exact absurd e.symm (Nat.ne_of_lt (Nat.div_lt_self (by decide) (by omega)))
    have : b = 1 ∨ b = -1 := by omega
    rcases this with h3 | h3
    · subst h3; rw [Int.tdiv_one] at hq; omega
    · exact h ⟨h3, ha⟩
  · omega
theorem tmod_bd (a b : Int) (hb : b ≠ 0) : (a.tmod b).natAbs < b.natAbs := by rw [Int.natAbs_tmod]; exact Nat.mod_lt _ (by omega)
/-- A rest that is not 0 has the number's sign. -/
theorem tmod_sign (a b : Int) : (0 ≤ a → 0 ≤ a.tmod b) ∧ (a ≤ 0 → a.tmod b ≤ 0) := by
  refine ⟨Int.tmod_nonneg b, fun h => ?_⟩
  have := Int.tmod_nonneg b (show 0 ≤ -a by omega)
  rw [Int.neg_tmod] at this
  omega

theorem N13 (a b : Int) (ha : -9223372036854775808 ≤ a) (ha' : a ≤ 9223372036854775807) (hb : -9223372036854775808 ≤ b) (hb' : b ≤ 9223372036854775807) (w : World) :
    Calls Tryz.prog 53 #[.int .i64 a, .int .i64 b] w fun e w' => e = .returned (resV (rng (a + b)) (a + b)) ∧ w = w' := by
  rcases Int.lt_trichotomy b 0 with h | h | h
  · by_cases h2 : a < -9223372036854775808 - b
    · have H := Lib.hid (resV_no (x := a + b) (rng_lo (x := a + b) (by omega)))
      go_enter Tryz.func53, Tryz.ntmps53
      go_wp2
      go_ret2
      exact ⟨by simp [H.out], rfl⟩
    · have H := Lib.hid (resV_yes (x := a + b) (rng_yes (x := a + b) (by omega) (by omega)))
      go_enter Tryz.func53, Tryz.ntmps53
      go_wp2
      go_ret2
      exact ⟨by simp [H.out], rfl⟩
  · subst h
    have H := Lib.hid (resV_yes (x := a) (rng_yes (x := a) (by omega) (by omega)))
    go_enter Tryz.func53, Tryz.ntmps53
    go_wp2
    go_ret2
    exact ⟨by simp [H.out], rfl⟩
  · by_cases h2 : 9223372036854775807 - b < a
    · have H := Lib.hid (resV_no (x := a + b) (rng_hi (x := a + b) (by omega)))
      go_enter Tryz.func53, Tryz.ntmps53
      go_wp2
      go_ret2
      exact ⟨by simp [H.out], rfl⟩
    · have H := Lib.hid (resV_yes (x := a + b) (rng_yes (x := a + b) (by omega) (by omega)))
      go_enter Tryz.func53, Tryz.ntmps53
      go_wp2
      go_ret2
      exact ⟨by simp [H.out], rfl⟩

theorem N15 (a b : Int) (ha : -9223372036854775808 ≤ a) (ha' : a ≤ 9223372036854775807) (hb : -9223372036854775808 ≤ b) (hb' : b ≤ 9223372036854775807) (w : World) :
    Calls Tryz.prog 91 #[.int .i64 a, .int .i64 b] w fun e w' => e = .returned (resV (rng (a - b)) (a - b)) ∧ w = w' := by
  rcases Int.lt_trichotomy b 0 with h | h | h
  · by_cases h2 : 9223372036854775807 + b < a
    · have H := Lib.hid (resV_no (x := a - b) (rng_hi (x := a - b) (by omega)))
      go_enter Tryz.func91, Tryz.ntmps91
      go_wp2
      go_ret2
      exact ⟨by simp [H.out], rfl⟩
    · have H := Lib.hid (resV_yes (x := a - b) (rng_yes (x := a - b) (by omega) (by omega)))
      go_enter Tryz.func91, Tryz.ntmps91
      go_wp2
      go_ret2
      exact ⟨by simp [H.out], rfl⟩
  · subst h
    have H := Lib.hid (resV_yes (x := a) (rng_yes (x := a) (by omega) (by omega)))
    go_enter Tryz.func91, Tryz.ntmps91
    go_wp2
    go_ret2
    exact ⟨by simp [H.out], rfl⟩
  · by_cases h2 : a < -9223372036854775808 + b
    · have H := Lib.hid (resV_no (x := a - b) (rng_lo (x := a - b) (by omega)))
      go_enter Tryz.func91, Tryz.ntmps91
      go_wp2
      go_ret2
      exact ⟨by simp [H.out], rfl⟩
    · have H := Lib.hid (resV_yes (x := a - b) (rng_yes (x := a - b) (by omega) (by omega)))
      go_enter Tryz.func91, Tryz.ntmps91
      go_wp2
      go_ret2
      exact ⟨by simp [H.out], rfl⟩

theorem N17 (a b : Int) (ha : -9223372036854775808 ≤ a) (ha' : a ≤ 9223372036854775807) (hb : -9223372036854775808 ≤ b) (hb' : b ≤ 9223372036854775807) (w : World) :
    Calls Tryz.prog 52 #[.int .i64 a, .int .i64 b] w fun e w' => e = .returned (resV (rng (a * b)) (a * b)) ∧ w = w' := by
  by_cases h0 : a = 0
  · subst h0
    have H := Lib.hid (resV_yes (x := 0) (b := rng (0 * b)) (by rw [Int.zero_mul]; rfl))
    go_enter Tryz.func52, Tryz.ntmps52
    go_wp2
    go_ret2
    exact ⟨by rw [Int.zero_mul] at H; simp [H.out], rfl⟩
  by_cases h1 : b = 0
  · subst h1
    have H := Lib.hid (resV_yes (x := 0) (b := rng (a * 0)) (by rw [Int.mul_zero]; rfl))
    go_enter Tryz.func52, Tryz.ntmps52
    go_wp2
    go_ret2
    exact ⟨by rw [Int.mul_zero] at H; simp [H.out], rfl⟩
  by_cases h2 : a = -1 ∧ b = -9223372036854775808
  · obtain ⟨rfl, rfl⟩ := h2
    have H := Lib.hid (resV_no (x := -1 * -9223372036854775808) (b := rng (-1 * -9223372036854775808)) (by decide))
    go_enter Tryz.func52, Tryz.ntmps52
    go_wp2
    go_ret2
    exact ⟨by simp at H; simp [H.out], rfl⟩
  by_cases h3 : b = -1 ∧ a = -9223372036854775808
  · obtain ⟨rfl, rfl⟩ := h3
    have H := Lib.hid (resV_no (x := -9223372036854775808 * -1) (b := rng (-9223372036854775808 * -1)) (by decide))
    go_enter Tryz.func52, Tryz.ntmps52
    go_wp2
    go_ret2
    exact ⟨by simp at H; simp [H.out], rfl⟩
  have hk := mul_back a b h1 ha ha' hb hb' h2 h3
  have q1 : (a == 0) = false := by simpa using h0
  have q2 : (b == 0) = false := by simpa using h1
  have G : (a == -1) = false ∧ (b == -1) = false ∨ (a == -1) = true ∧ (b == -9223372036854775808) = false ∧ (b == -1) = false ∨ (a == -1) = false ∧ (b == -1) = true ∧ (a == -9223372036854775808) = false ∨ (a == -1) = true ∧ (b == -9223372036854775808) = false ∧ (b == -1) = true ∧ (a == -9223372036854775808) = false := by
    simp only [beq_eq_false_iff_ne, beq_iff_eq, ne_eq]; omega
  cases hr : rng (a * b)
  · rw [hr] at hk
    have H := Lib.hid (resV_no (x := a * b) hr)
    rw [hr] at H
    clear h2 h3
    rcases G with ⟨g1, g2⟩ | ⟨g1, g2, g3⟩ | ⟨g1, g2, g3⟩ | ⟨g1, g2, g3, g4⟩
    all_goals
      go_enter Tryz.func52, Tryz.ntmps52
      go_wp2
      go_ret2
      exact ⟨by simp [H.out], rfl⟩
  · have hr' := rng_of hr
    obtain ⟨r1, r2⟩ := hr'
    rw [hr] at hk
    have hk2 : (wrap64 ((a * b).tdiv b) != a) = false := by rw [IntWalk.wrap64_in (a * b) ⟨r1, r2⟩] at hk; exact hk
    have H := Lib.hid (resV_yes (x := a * b) hr)
    rw [hr] at H
    clear h2 h3
    rcases G with ⟨g1, g2⟩ | ⟨g1, g2, g3⟩ | ⟨g1, g2, g3⟩ | ⟨g1, g2, g3, g4⟩
    all_goals
      go_enter Tryz.func52, Tryz.ntmps52
      go_wp2
      go_ret2
      exact ⟨by simp [H.out], rfl⟩

theorem mem_lo {a b : Int} (ha : -9223372036854775808 ≤ a) (ha' : a ≤ 9223372036854775807) (hb0 : ¬ b = 0) (hm : ¬ a.tmod b = 0) (hs : ¬ ((a < 0) ↔ (b < 0))) : -9223372036854775807 ≤ a.tdiv b := by
  have hqa : (a.tdiv b).natAbs = a.natAbs / b.natAbs := Int.natAbs_tdiv a b
  have h1 : ¬ b.natAbs = 1 := by
    intro h1
    have : b = 1 ∨ b = -1 := by omega
    rcases this with h3 | h3
    · subst h3; exact hm (Int.tmod_one a)
    · subst h3; exact hm (by rw [Int.tmod_neg, Int.tmod_one])
  have h5 : 2 ≤ b.natAbs := by omega
  have := Nat.div_le_div_left h5 (show 0 < 2 by decide) (a := a.natAbs)
  omega

end Go.Proofs.YtllaeocclpaiaaaGreatDoor
