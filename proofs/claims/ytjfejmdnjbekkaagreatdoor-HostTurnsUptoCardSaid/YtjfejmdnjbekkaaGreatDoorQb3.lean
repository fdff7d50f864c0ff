/- Texts joined: St8, In1, InP -/
import Derived.Test.YtjfejmdnjbekkaaGreatDoorQb2
import Derived.Test.YtjfejmdnjbekkaaGreatDoorRows
import Derived.WalkKit
import Derived.ProofKit
import Derived.OpenShut
import Derived.WalkLawsBesides
import Derived.Outline
import Derived.Lib.Hide
import Derived.Laws.BitsAllLaws
import Derived.Deep.RegionWith
import Derived.BigQuiet
import Derived.Deep.QuietTactic
set_option linter.unusedVariables false
set_option linter.unusedSimpArgs false

/- A job's look at a key of a kind; a job's number. -/
namespace Go.Proofs.YtjfejmdnjbekkaaGreatDoor
open Go.ChangeShapes Go.WideShapes Go.ChangeAt Go.RowKit

set_option maxRecDepth 100000 in
set_option maxHeartbeats 4000000 in
theorem Of_yes (bS bM j : Nat) (l : MapT.Ents) (k : ByteArray) (now : Int) (vA vl : Value) (kd : Int) (t : ByteArray) (u : Int) (hf : MapT.find k l = some (.agg #[.string k, .int .i64 kd, .string t, .slice none 0 0, .slice none 0 0, .slice none 0 0, .slice none 0 0, .int .i64 u])) (hl : Lives u now) (w : World) (h : SP w bS bM l) (hj : JB w j bS now vA vl) : Calls Tryz.prog 193 #[.pointer (some ⟨j, 0, none⟩), .string k, .int .i64 kd] w fun e w' => e = .returned (.tuple #[.agg #[.string k, .int .i64 kd, .string t, .slice none 0 0, .slice none 0 0, .slice none 0 0, .slice none 0 0, .int .i64 u], .bool true]) ∧ Below w.heap.size w w' := by
  have G := Lib.hid (JGet_yes bS bM j l k now vA vl t u kd hf hl _ (h.below (alloc_old (w := w) (o := .cells #[.string ⟨#[]⟩, .int .i64 0, .string ⟨#[]⟩, .slice none 0 0, .slice none 0 0, .slice none 0 0, .slice none 0 0, .int .i64 0] 84))) (hj.below (alloc_old (w := w) (o := .cells #[.string ⟨#[]⟩, .int .i64 0, .string ⟨#[]⟩, .slice none 0 0, .slice none 0 0, .slice none 0 0, .slice none 0 0, .int .i64 0] 84))))
  have z0 := Lib.hid (heap_alloc_new w (.cells #[.string ⟨#[]⟩, .int .i64 0, .string ⟨#[]⟩, .slice none 0 0, .slice none 0 0, .slice none 0 0, .slice none 0 0, .int .i64 0] 84))
  clear h hj hf hl
  go_enter Tryz.func193, Tryz.ntmps193
  go_wp2_with (first | (go_at_call 182; (with_reducible refine (G.out).mono ?_); rintro e w1 ⟨rfl, h1⟩; have B1 := Lib.hid h1; clear h1; obtain ⟨⟨c0, c1, c2, c3, c4, c5, c6, c7⟩, ⟨f0, f1, f2, f3, f4, f5, f6, f7⟩, z1⟩ := cells8 (blk_below z0.out B1.out)))
  exact bodyPost_ret (v := .tuple #[.agg #[.string k, .int .i64 kd, .string t, .slice none 0 0, .slice none 0 0, .slice none 0 0, .slice none 0 0, .int .i64 u], .bool true]) (by simp [results, Tryz.results193, go_sem, c0, c1, c2, c3, c4, c5, c6, c7, z1]) rfl ⟨rfl, (((((((((alloc_old.trans (B1.out.mono (by simp))).setCell (Nat.le_refl _) _).setCell (Nat.le_refl _) _).setCell (Nat.le_refl _) _).setCell (Nat.le_refl _) _).setCell (Nat.le_refl _) _).setCell (Nat.le_refl _) _).setCell (Nat.le_refl _) _).setCell (Nat.le_refl _) _).alloc (by have := Below.size B1.out; simp at this ⊢; omega) _⟩
set_option maxRecDepth 100000 in
set_option maxHeartbeats 4000000 in
theorem Of_no (bS bM j : Nat) (l : MapT.Ents) (k : ByteArray) (now : Int) (vA vl : Value) (kd : Int) (hf : MapT.find k l = none) (w : World) (h : SP w bS bM l) (hj : JB w j bS now vA vl) : Calls Tryz.prog 193 #[.pointer (some ⟨j, 0, none⟩), .string k, .int .i64 kd] w fun e w' => e = .returned (.tuple #[.agg #[.string k, .int .i64 kd, .string ⟨#[]⟩, .slice none 0 0, .slice none 0 0, .slice none 0 0, .slice none 0 0, .int .i64 0], .bool false]) ∧ Below w.heap.size w w' := by
  have G := Lib.hid (JGet_no bS bM j l k now vA vl hf _ (h.below (alloc_old (w := w) (o := .cells #[.string ⟨#[]⟩, .int .i64 0, .string ⟨#[]⟩, .slice none 0 0, .slice none 0 0, .slice none 0 0, .slice none 0 0, .int .i64 0] 84))) (hj.below (alloc_old (w := w) (o := .cells #[.string ⟨#[]⟩, .int .i64 0, .string ⟨#[]⟩, .slice none 0 0, .slice none 0 0, .slice none 0 0, .slice none 0 0, .int .i64 0] 84))))
  have z0 := Lib.hid (heap_alloc_new w (.cells #[.string ⟨#[]⟩, .int .i64 0, .string ⟨#[]⟩, .slice none 0 0, .slice none 0 0, .slice none 0 0, .slice none 0 0, .int .i64 0] 84))
  clear h hj hf 
  go_enter Tryz.func193, Tryz.ntmps193
  go_wp2_with (first | (go_at_call 182; (with_reducible refine (G.out).mono ?_); rintro e w1 ⟨rfl, h1⟩; have B1 := Lib.hid h1; clear h1; obtain ⟨⟨c0, c1, c2, c3, c4, c5, c6, c7⟩, ⟨f0, f1, f2, f3, f4, f5, f6, f7⟩, z1⟩ := cells8 (blk_below z0.out B1.out)))
  exact bodyPost_ret (v := .tuple #[.agg #[.string k, .int .i64 kd, .string ⟨#[]⟩, .slice none 0 0, .slice none 0 0, .slice none 0 0, .slice none 0 0, .int .i64 0], .bool false]) (by simp [results, Tryz.results193, go_sem, c0, c1, c2, c3, c4, c5, c6, c7, z1]) rfl ⟨rfl, (((((((((alloc_old.trans (B1.out.mono (by simp))).setCell (Nat.le_refl _) _).setCell (Nat.le_refl _) _).setCell (Nat.le_refl _) _).setCell (Nat.le_refl _) _).setCell (Nat.le_refl _) _).setCell (Nat.le_refl _) _).setCell (Nat.le_refl _) _).setCell (Nat.le_refl _) _).alloc (by have := Below.size B1.out; simp at this ⊢; omega) _⟩
end Go.Proofs.YtjfejmdnjbekkaaGreatDoor

/- Contracts of ints.Add, Sub, Mul, Div, Mod and of the reference's: what they give for every two int64. -/
namespace Go.Proofs.YtjfejmdnjbekkaaGreatDoor
open Go.ChangeShapes Go.WideShapes Go.ChangeAt Go.RowKit

/-- Does a number fit int64? -/
def rng (x : Int) : Bool := decide (-9223372036854775808 ≤ x ∧ x ≤ 9223372036854775807)
/-- A number and that it is one, or 0 and that it is none. -/
def resV (b : Bool) (x : Int) : Value := if b then .tuple #[.int .i64 x, .bool true] else .tuple #[.int .i64 0, .bool false]
theorem resV_yes {b : Bool} {x : Int} (h : b = true) : resV b x = .tuple #[.int .i64 x, .bool true] := by subst h; rfl
theorem resV_no {b : Bool} {x : Int} (h : b = false) : resV b x = .tuple #[.int .i64 0, .bool false] := by subst h; rfl
theorem rng_yes {x : Int} (h1 : -9223372036854775808 ≤ x) (h2 : x ≤ 9223372036854775807) : rng x = true := decide_eq_true ⟨h1, h2⟩
theorem rng_hi {x : Int} (h1 : 9223372036854775807 < x) : rng x = false := decide_eq_false (by omega)
theorem rng_lo {x : Int} (h1 : x < -9223372036854775808) : rng x = false := decide_eq_false (by omega)
theorem rng_of {x : Int} (h : rng x = true) : -9223372036854775808 ≤ x ∧ x ≤ 9223372036854775807 := of_decide_eq_true h
theorem rng_not {x : Int} (h : ¬ rng x = true) : ¬ (-9223372036854775808 ≤ x ∧ x ≤ 9223372036854775807) := fun g => h (decide_eq_true g)

theorem w64 (n : Int) : wrap64 n = (n + 9223372036854775808) % 18446744073709551616 - 9223372036854775808 := by rw [← IntWalk.i64_left, IntKind.wrap_i64]
/-- The quotient of a wrapped product tells whether it was wrapped. -/
theorem mul_back (a b : Int) (hb : b ≠ 0) (ha1 : -9223372036854775808 ≤ a) (ha2 : a ≤ 9223372036854775807) (hb1 : -9223372036854775808 ≤ b) (hb2 : b ≤ 9223372036854775807) (h1 : ¬ (a = -1 ∧ b = -9223372036854775808)) (h2 : ¬ (b = -1 ∧ a = -9223372036854775808)) :
    (wrap64 ((wrap64 (a * b)).tdiv b) != a) = !rng (a * b) := by
  by_cases hr : rng (a * b) = true
  · have hr' := rng_of hr
    rw [hr, IntWalk.wrap64_in (a * b) hr', Int.mul_tdiv_cancel _ hb, IntWalk.wrap64_in a ⟨ha1, ha2⟩]
    simp
  · have hr' := rng_not hr
    have hf : rng (a * b) = false := by simpa using hr
    rw [hf]
    simp only [Bool.not_false, bne_iff_ne, ne_eq]
    intro he
    have hp := w64 (a * b)
    generalize wrap64 (a * b) = p at *
    have hd := Int.mul_tdiv_add_tmod p b
    have hq := w64 (p.tdiv b)
    rw [he] at hq
    have hm : (p.tmod b).natAbs < b.natAbs := by rw [Int.natAbs_tmod]; exact Nat.mod_lt _ (by omega)
    have hqa : (p.tdiv b).natAbs ≤ p.natAbs := by rw [Int.natAbs_tdiv]; exact Nat.div_le_self _ _
    by_cases hqr : -9223372036854775808 ≤ p.tdiv b ∧ p.tdiv b ≤ 9223372036854775807
    · have e : p.tdiv b = a := by omega
      rw [e, Int.mul_comm] at hd
      omega
    · -- the one quotient that wraps: the least number by -1
      have e1 : p = -9223372036854775808 ∨ 9223372036854775807 < p.tdiv b := by omega
      have hp2 : p.natAbs ≤ 9223372036854775808 := by omega
      have hq2 : (p.tdiv b).natAbs = 9223372036854775808 := by omega
      have hpa : p = -9223372036854775808 := by omega
      have hb3 : b = 1 ∨ b = -1 := by
        have : (p.tdiv b).natAbs = p.natAbs / b.natAbs := Int.natAbs_tdiv p b
        rw [hpa] at this
        rw [hpa] at hq2
        rw [hq2] at this
        have e2 : (-9223372036854775808 : Int).natAbs = 9223372036854775808 := by decide
        rw [e2] at this
        have h3 : b.natAbs = 1 := by
          by_cases h4 : b.natAbs = 1
          · exact h4
          · exact absurd this.symm (Nat.ne_of_lt (Nat.div_lt_self (by decide) (by omega)))
        omega
      rcases hb3 with h3 | h3
      · subst h3; omega
      · subst h3; omega

/-- The quotient, cut down; the rest. -/
def dv (a b : Int) : Int := if ¬ a.tmod b = 0 ∧ ¬ ((a < 0) ↔ (b < 0)) then a.tdiv b - 1 else a.tdiv b
def md (a b : Int) : Int := if ¬ a.tmod b = 0 ∧ ¬ ((a < 0) ↔ (b < 0)) then a.tmod b + b else a.tmod b
/-- May one divide? -/
def okD (a b : Int) : Bool := !(decide (b = 0) || (decide (b = -1) && decide (a = -9223372036854775808)))
def okM (b : Int) : Bool := !decide (b = 0)
theorem tdiv_bd (a b : Int) (ha1 : -9223372036854775808 ≤ a) (ha2 : a ≤ 9223372036854775807) (h : ¬ (b = -1 ∧ a = -9223372036854775808)) : -9223372036854775808 ≤ a.tdiv b ∧ a.tdiv b ≤ 9223372036854775807 := by
  have hqa : (a.tdiv b).natAbs ≤ a.natAbs := by rw [Int.natAbs_tdiv]; exact Nat.div_le_self _ _
  by_cases hq : a.tdiv b = 9223372036854775808
  · exfalso
    have ha : a = -9223372036854775808 := by omega
    have hb : b.natAbs = 1 := by
      have e := Int.natAbs_tdiv a b
      rw [hq, ha] at e
      have e1 : (-9223372036854775808 : Int).natAbs = 9223372036854775808 := by decide
      have e2 : (9223372036854775808 : Int).natAbs = 9223372036854775808 := by decide
      rw [e1, e2] at e
      by_cases h0 : b.natAbs = 0
      · rw [h0] at e; simp at e
      · by_cases h4 : b.natAbs = 1
        · exact h4
        · exact absurd e.symm (Nat.ne_of_lt (Nat.div_lt_self (by decide) (by omega)))
    have : b = 1 ∨ b = -1 := by omega
    rcases this with h3 | h3
    · subst h3; rw [Int.tdiv_one] at hq; omega
    · exact h ⟨h3, ha⟩
  · omega
theorem tmod_bd (a b : Int) (hb : b ≠ 0) : (a.tmod b).natAbs < b.natAbs := by rw [Int.natAbs_tmod]; exact Nat.mod_lt _ (by omega)
/-- A rest that is not 0 has the number's sign. -/
theorem tmod_sign (a b : Int) : (0 ≤ a → 0 ≤ a.tmod b) ∧ (a ≤ 0 → a.tmod b ≤ 0) := by
  refine ⟨Int.tmod_nonneg b, fun h => ?_⟩
  have := Int.tmod_nonneg b (show 0 ≤ -a by omega)
  rw [Int.neg_tmod] at this
  omega

theorem N13 (a b : Int) (ha : -9223372036854775808 ≤ a) (ha' : a ≤ 9223372036854775807) (hb : -9223372036854775808 ≤ b) (hb' : b ≤ 9223372036854775807) (w : World) :
    Calls Tryz.prog 104 #[.int .i64 a, .int .i64 b] w fun e w' => e = .returned (resV (rng (a + b)) (a + b)) ∧ w = w' := by
  rcases Int.lt_trichotomy b 0 with h | h | h
  · by_cases h2 : a < -9223372036854775808 - b
    · have H := Lib.hid (resV_no (x := a + b) (rng_lo (x := a + b) (by omega)))
      go_enter Tryz.func104, Tryz.ntmps104
      go_wp2
      go_ret2
      exact ⟨by simp [H.out], rfl⟩
    · have H := Lib.hid (resV_yes (x := a + b) (rng_yes (x := a + b) (by omega) (by omega)))
      go_enter Tryz.func104, Tryz.ntmps104
      go_wp2
      go_ret2
      exact ⟨by simp [H.out], rfl⟩
  · subst h
    have H := Lib.hid (resV_yes (x := a) (rng_yes (x := a) (by omega) (by omega)))
    go_enter Tryz.func104, Tryz.ntmps104
    go_wp2
    go_ret2
    exact ⟨by simp [H.out], rfl⟩
  · by_cases h2 : 9223372036854775807 - b < a
    · have H := Lib.hid (resV_no (x := a + b) (rng_hi (x := a + b) (by omega)))
      go_enter Tryz.func104, Tryz.ntmps104
      go_wp2
      go_ret2
      exact ⟨by simp [H.out], rfl⟩
    · have H := Lib.hid (resV_yes (x := a + b) (rng_yes (x := a + b) (by omega) (by omega)))
      go_enter Tryz.func104, Tryz.ntmps104
      go_wp2
      go_ret2
      exact ⟨by simp [H.out], rfl⟩

theorem N15 (a b : Int) (ha : -9223372036854775808 ≤ a) (ha' : a ≤ 9223372036854775807) (hb : -9223372036854775808 ≤ b) (hb' : b ≤ 9223372036854775807) (w : World) :
    Calls Tryz.prog 106 #[.int .i64 a, .int .i64 b] w fun e w' => e = .returned (resV (rng (a - b)) (a - b)) ∧ w = w' := by
  rcases Int.lt_trichotomy b 0 with h | h | h
  · by_cases h2 : 9223372036854775807 + b < a
    · have H := Lib.hid (resV_no (x := a - b) (rng_hi (x := a - b) (by omega)))
      go_enter Tryz.func106, Tryz.ntmps106
      go_wp2
      go_ret2
      exact ⟨by simp [H.out], rfl⟩
    · have H := Lib.hid (resV_yes (x := a - b) (rng_yes (x := a - b) (by omega) (by omega)))
      go_enter Tryz.func106, Tryz.ntmps106
      go_wp2
      go_ret2
      exact ⟨by simp [H.out], rfl⟩
  · subst h
    have H := Lib.hid (resV_yes (x := a) (rng_yes (x := a) (by omega) (by omega)))
    go_enter Tryz.func106, Tryz.ntmps106
    go_wp2
    go_ret2
    exact ⟨by simp [H.out], rfl⟩
  · by_cases h2 : a < -9223372036854775808 + b
    · have H := Lib.hid (resV_no (x := a - b) (rng_lo (x := a - b) (by omega)))
      go_enter Tryz.func106, Tryz.ntmps106
      go_wp2
      go_ret2
      exact ⟨by simp [H.out], rfl⟩
    · have H := Lib.hid (resV_yes (x := a - b) (rng_yes (x := a - b) (by omega) (by omega)))
      go_enter Tryz.func106, Tryz.ntmps106
      go_wp2
      go_ret2
      exact ⟨by simp [H.out], rfl⟩

theorem N17 (a b : Int) (ha : -9223372036854775808 ≤ a) (ha' : a ≤ 9223372036854775807) (hb : -9223372036854775808 ≤ b) (hb' : b ≤ 9223372036854775807) (w : World) :
    Calls Tryz.prog 189 #[.int .i64 a, .int .i64 b] w fun e w' => e = .returned (resV (rng (a * b)) (a * b)) ∧ w = w' := by
  by_cases h0 : a = 0
  · subst h0
    have H := Lib.hid (resV_yes (x := 0) (b := rng (0 * b)) (by rw [Int.zero_mul]; rfl))
    go_enter Tryz.func189, Tryz.ntmps189
    go_wp2
    go_ret2
    exact ⟨by rw [Int.zero_mul] at H; simp [H.out], rfl⟩
  by_cases h1 : b = 0
  · subst h1
    have H := Lib.hid (resV_yes (x := 0) (b := rng (a * 0)) (by rw [Int.mul_zero]; rfl))
    go_enter Tryz.func189, Tryz.ntmps189
    go_wp2
    go_ret2
    exact ⟨by rw [Int.mul_zero] at H; simp [H.out], rfl⟩
  by_cases h2 : a = -1 ∧ b = -9223372036854775808
  · obtain ⟨rfl, rfl⟩ := h2
    have H := Lib.hid (resV_no (x := -1 * -9223372036854775808) (b := rng (-1 * -9223372036854775808)) (by decide))
    go_enter Tryz.func189, Tryz.ntmps189
    go_wp2
    go_ret2
    exact ⟨by simp at H; simp [H.out], rfl⟩
  by_cases h3 : b = -1 ∧ a = -9223372036854775808
  · obtain ⟨rfl, rfl⟩ := h3
    have H := Lib.hid (resV_no (x := -9223372036854775808 * -1) (b := rng (-9223372036854775808 * -1)) (by decide))
    go_enter Tryz.func189, Tryz.ntmps189
    go_wp2
    go_ret2
    exact ⟨by simp at H; simp [H.out], rfl⟩
  have hk := mul_back a b h1 ha ha' hb hb' h2 h3
  have q1 : (a == 0) = false := by simpa using h0
  have q2 : (b == 0) = false := by simpa using h1
  have G : (a == -1) = false ∧ (b == -1) = false ∨ (a == -1) = true ∧ (b == -9223372036854775808) = false ∧ (b == -1) = false ∨ (a == -1) = false ∧ (b == -1) = true ∧ (a == -9223372036854775808) = false ∨ (a == -1) = true ∧ (b == -9223372036854775808) = false ∧ (b == -1) = true ∧ (a == -9223372036854775808) = false := by
    simp only [beq_eq_false_iff_ne, beq_iff_eq, ne_eq]; omega
  cases hr : rng (a * b)
  · rw [hr] at hk
    have H := Lib.hid (resV_no (x := a * b) hr)
    rw [hr] at H
    clear h2 h3
    rcases G with ⟨g1, g2⟩ | ⟨g1, g2, g3⟩ | ⟨g1, g2, g3⟩ | ⟨g1, g2, g3, g4⟩
    all_goals
      go_enter Tryz.func189, Tryz.ntmps189
      go_wp2
      go_ret2
      exact ⟨by simp [H.out], rfl⟩
  · have hr' := rng_of hr
    obtain ⟨r1, r2⟩ := hr'
    rw [hr] at hk
    have hk2 : (wrap64 ((a * b).tdiv b) != a) = false := by rw [IntWalk.wrap64_in (a * b) ⟨r1, r2⟩] at hk; exact hk
    have H := Lib.hid (resV_yes (x := a * b) hr)
    rw [hr] at H
    clear h2 h3
    rcases G with ⟨g1, g2⟩ | ⟨g1, g2, g3⟩ | ⟨g1, g2, g3⟩ | ⟨g1, g2, g3, g4⟩
    all_goals
      go_enter Tryz.func189, Tryz.ntmps189
      go_wp2
      go_ret2
      exact ⟨by simp [H.out], rfl⟩

theorem mem_lo {a b : Int} (ha : -9223372036854775808 ≤ a) (ha' : a ≤ 9223372036854775807) (hb0 : ¬ b = 0) (hm : ¬ a.tmod b = 0) (hs : ¬ ((a < 0) ↔ (b < 0))) : -9223372036854775807 ≤ a.tdiv b := by
  have hqa : (a.tdiv b).natAbs = a.natAbs / b.natAbs := Int.natAbs_tdiv a b
  have h1 : ¬ b.natAbs = 1 := by
    intro h1
    have : b = 1 ∨ b = -1 := by omega
    rcases this with h3 | h3
    · subst h3; exact hm (Int.tmod_one a)
    · subst h3; exact hm (by rw [Int.tmod_neg, Int.tmod_one])
  have h5 : 2 ≤ b.natAbs := by omega
  have := Nat.div_le_div_left h5 (show 0 < 2 by decide) (a := a.natAbs)
  omega

end Go.Proofs.YtjfejmdnjbekkaaGreatDoor

/- The number of a text, in plain words: no program. -/
namespace Go.Proofs.YtjfejmdnjbekkaaGreatDoor

/-! ### a text's number, in plain words -/
def dig (c : UInt8) : Bool := decide (48 ≤ c.toNat ∧ c.toNat ≤ 57)
def val (l : List UInt8) : Nat := l.foldl (fun n c => n * 10 + (c.toNat - 48)) 0
def acc (neg : Bool) (v : Nat) : Int := if neg then -(v : Int) else (v : Int)
def isNeg (l : List UInt8) : Bool := l.head? == some 45
def body (l : List UInt8) : List UInt8 := if isNeg l then l.drop 1 else l
def parseI (l : List UInt8) : Option Int :=
  if body l = [] then none
  else if (body l).head? = some 48 ∧ 1 < l.length then none
  else if (body l).all dig = true ∧ rng (acc (isNeg l) (val (body l))) = true then some (acc (isNeg l) (val (body l))) else none
def optV (o : Option Int) : Value := match o with
  | some v => .tuple #[.int .i64 v, .bool true]
  | none => .tuple #[.int .i64 0, .bool false]

theorem val_snoc (p : List UInt8) (c : UInt8) : val (p ++ [c]) = val p * 10 + (c.toNat - 48) := by simp [val]
theorem foldl_ge (r : List UInt8) : ∀ n, n ≤ r.foldl (fun n c => n * 10 + (c.toNat - 48)) n := by
  induction r with
  | nil => intro n; exact Nat.le_refl _
  | cons c r ih => intro n; simp only [List.foldl_cons]; exact Nat.le_trans (by omega) (ih _)
theorem val_append_le (p r : List UInt8) : val p ≤ val (p ++ r) := by
  unfold val; rw [List.foldl_append]; exact foldl_ge r _
theorem val_lt (p : List UInt8) (h : p.all dig = true) : val p < 10 ^ p.length := by
  have key : ∀ (r : List UInt8) (n : Nat), r.all dig = true → r.foldl (fun n c => n * 10 + (c.toNat - 48)) n < (n + 1) * 10 ^ r.length := by
    intro r
    induction r with
    | nil => intro n _; simp
    | cons c r ih =>
      intro n h
      rw [List.all_cons, Bool.and_eq_true] at h
      have hc : 48 ≤ c.toNat ∧ c.toNat ≤ 57 := by simpa [dig] using h.1
      simp only [List.foldl_cons, List.length_cons]
      refine Nat.lt_of_lt_of_le (ih _ h.2) ?_
      rw [Nat.pow_succ, Nat.mul_comm (10 ^ r.length) 10, ← Nat.mul_assoc]
      exact Nat.mul_le_mul_right _ (by omega)
  have := key p 0 h
  simpa [val] using this
theorem val_ge (c : UInt8) (r : List UInt8) (hc : 49 ≤ c.toNat) : 10 ^ r.length ≤ val (c :: r) := by
  have key : ∀ (r : List UInt8) (n : Nat), n * 10 ^ r.length ≤ r.foldl (fun n c => n * 10 + (c.toNat - 48)) n := by
    intro r
    induction r with
    | nil => intro n; simp
    | cons d r ih =>
      intro n
      simp only [List.foldl_cons, List.length_cons]
      refine Nat.le_trans ?_ (ih _)
      rw [Nat.pow_succ, Nat.mul_comm (10 ^ r.length) 10, ← Nat.mul_assoc]
      exact Nat.mul_le_mul_right _ (by omega)
  have := key r (0 * 10 + (c.toNat - 48))
  unfold val
  simp only [List.foldl_cons]
  refine Nat.le_trans ?_ this
  exact Nat.le_mul_of_pos_left _ (by omega)
theorem rng_acc_mono (neg : Bool) {V T : Nat} (h : V ≤ T) (hr : rng (acc neg V) = false) : rng (acc neg T) = false := by
  simp only [rng, decide_eq_false_iff_not] at hr ⊢
  cases neg <;> simp [acc] at hr ⊢ <;> omega
theorem parse_none_of (l : List UInt8) (h : (body l).all dig = true → rng (acc (isNeg l) (val (body l))) = false) : parseI l = none := by
  unfold parseI
  split
  · rfl
  · split
    · rfl
    · rw [if_neg]
      rintro ⟨h1, h2⟩
      rw [h h1] at h2
      cases h2
/-- The text is cut at k: p ahead of it, c at it. -/
theorem parse_bad_at (l p r : List UInt8) (c : UInt8) (hb : body l = p ++ c :: r) (hc : dig c = false) : parseI l = none := by
  refine parse_none_of l fun h => ?_
  rw [hb, List.all_append, List.all_cons, hc] at h
  simp at h
theorem parse_big_at (l p r : List UInt8) (hb : body l = p ++ r) (hr : rng (acc (isNeg l) (val p)) = false) : parseI l = none := by
  refine parse_none_of l fun _ => ?_
  rw [hb]
  exact rng_acc_mono _ (val_append_le p r) hr
theorem parse_big10 (l p r : List UInt8) (c : UInt8) (hb : body l = p ++ c :: r) (hr : rng (acc (isNeg l) (val p) * 10) = false) : parseI l = none := by
  refine parse_none_of l fun _ => ?_
  have e : acc (isNeg l) (val p) * 10 = acc (isNeg l) (val p * 10) := by unfold acc; split <;> simp <;> omega
  rw [e] at hr
  refine rng_acc_mono _ ?_ hr
  rw [hb, show p ++ c :: r = (p ++ [c]) ++ r by simp]
  refine Nat.le_trans ?_ (val_append_le _ _)
  rw [val_snoc]; omega
theorem parse_ok (l : List UInt8) (h0 : body l ≠ []) (h1 : ¬ ((body l).head? = some 48 ∧ 1 < l.length)) (h2 : (body l).all dig = true) (h3 : rng (acc (isNeg l) (val (body l))) = true) :
    parseI l = some (acc (isNeg l) (val (body l))) := by
  unfold parseI
  rw [if_neg h0, if_neg h1, if_pos ⟨h2, h3⟩]
theorem parse_start (l : List UInt8) (h : body l = [] ∨ (body l).head? = some 48 ∧ 1 < l.length) : parseI l = none := by
  unfold parseI
  split
  · rfl
  · rename_i h0
    rw [if_pos (h.resolve_left h0)]
theorem parse_long (l : List UInt8) (h : 19 < (body l).length) : parseI l = none := by
  cases hb : body l with
  | nil => rw [hb] at h; simp at h
  | cons c r =>
    by_cases h48 : c = 48
    · refine parse_start l (.inr ⟨by rw [hb, h48]; rfl, ?_⟩)
      have : (body l).length ≤ l.length := by unfold body; split <;> simp
      omega
    · refine parse_none_of l fun ha => ?_
      rw [hb, List.all_cons, Bool.and_eq_true] at ha
      have hc : 48 ≤ c.toNat ∧ c.toNat ≤ 57 := by simpa [dig] using ha.1
      have hc' : c.toNat ≠ 48 := fun e => h48 (UInt8.toNat_inj.1 (by rw [e]; rfl))
      have hv := val_ge c r (by omega)
      rw [hb, List.length_cons] at h
      have : 10 ^ 19 ≤ 10 ^ r.length := Nat.pow_le_pow_right (by decide) (by omega)
      have h19 : (10 ^ 19 : Nat) = 10000000000000000000 := by decide
      rw [hb]
      simp only [rng, decide_eq_false_iff_not]
      generalize val (c :: r) = T at *
      unfold acc
      split <;> omega

/-! ### a cut of the text -/
theorem body_cut (s : ByteArray) (k st : Nat) (hst : st = if isNeg s.data.toList then 1 else 0) (hk : k < s.size) (hs : st ≤ k) :
    body s.data.toList = (s.data.toList.take k).drop st ++ s[k] :: s.data.toList.drop (k + 1) := by
  have hl : k < s.data.toList.length := by simpa using hk
  have e : s.data.toList = s.data.toList.take k ++ s[k] :: s.data.toList.drop (k + 1) := by
    conv => lhs; rw [← List.take_append_drop k s.data.toList, List.drop_eq_getElem_cons hl]
    rfl
  have hd : body s.data.toList = s.data.toList.drop st := by unfold body; subst hst; split <;> simp
  rw [hd]
  conv => lhs; rw [e]
  rw [List.drop_append_of_le_length (by rw [List.length_take]; omega)]
theorem take_snoc (s : ByteArray) (k st : Nat) (hk : k < s.size) (hs : st ≤ k) : (s.data.toList.take (k + 1)).drop st = (s.data.toList.take k).drop st ++ [s[k]] := by
  have hl : k < s.data.toList.length := by simpa using hk
  rw [List.take_succ_eq_append_getElem hl, List.drop_append_of_le_length (by rw [List.length_take]; omega)]
  rfl
theorem body_full (s : ByteArray) (st : Nat) (hst : st = if isNeg s.data.toList then 1 else 0) : body s.data.toList = (s.data.toList.take s.size).drop st := by
  rw [List.take_of_length_le (by simp)]
  unfold body; subst hst; split <;> simp
end Go.Proofs.YtjfejmdnjbekkaaGreatDoor
