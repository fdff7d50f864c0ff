/- All commands of a row of bytes, in plain words; pieces. -/
import Derived.Test.YtnfflkappbjoeaaDoorReF
namespace Go.Resp
theorem numS_pos (least most : Int) : ∀ (r : List UInt8) (at_ : Nat) (n : Int) (d : Nat), (numS least most r at_ n d).2.2 = 0 → at_ < (numS least most r at_ n d).2.1 ∧ ((numS least most r at_ n d).1 ≤ most ∨ (numS least most r at_ n d).1 = n) := by
  intro r
  induction r with
  | nil => intro at_ n d h; cases h
  | cons c r ih =>
    intro at_ n d h
    unfold numS at h ⊢
    by_cases h1 : 48 ≤ (c.toNat : Int) ∧ (c.toNat : Int) ≤ 57
    · rw [if_pos h1] at h ⊢
      by_cases h2 : most < n * 10 + ((c.toNat : Int) - 48) ∨ (0 < d ∧ n * 10 + ((c.toNat : Int) - 48) < 10) ∨ (n * 10 + ((c.toNat : Int) - 48) < 1 ∧ 0 < least)
      · rw [if_pos h2] at h; cases h
      · rw [if_neg h2] at h ⊢
        obtain ⟨q1, q2⟩ := ih _ _ _ h
        refine ⟨by omega, .inl ?_⟩
        rcases q2 with q2 | q2
        · exact q2
        · rw [q2]; omega
    · rw [if_neg h1] at h ⊢
      by_cases h2 : (c.toNat : Int) = 13 ∧ 0 < d
      · rw [if_pos h2] at h ⊢
        cases r with
        | nil => cases h
        | cons e r =>
          simp only at h ⊢
          by_cases h3 : (e.toNat : Int) = 10
          · rw [if_pos h3]; exact ⟨by show at_ < at_ + 2; omega, .inr rfl⟩
          · rw [if_neg h3] at h; cases h
      · rw [if_neg h2] at h; cases h
theorem numL_pos (l : List UInt8) (at_ : Nat) (m least most : Int) (hm0 : 0 ≤ most) (h : (numL l at_ m least most).2.2 = 0) : at_ < (numL l at_ m least most).2.1 ∧ (numL l at_ m least most).1 ≤ most := by
  unfold numL at h ⊢
  cases hd : l.drop at_ with
  | nil => rw [hd] at h; cases h
  | cons c r =>
    rw [hd] at h
    simp only at h ⊢
    by_cases hm : (c.toNat : Int) = m
    · rw [if_pos hm] at h ⊢
      obtain ⟨q1, q2⟩ := numS_pos _ _ _ _ _ _ h
      exact ⟨by omega, by omega⟩
    · rw [if_neg hm] at h; cases h
theorem readS_pos (l : List UInt8) : ∀ (n at_ : Nat) (out : List (List UInt8)), (readS l n at_ out).2.2 = 0 → at_ ≤ (readS l n at_ out).2.1 ∧ (readS l n at_ out).1.length = out.length + n := by
  intro n
  induction n with
  | zero => intro at_ out h; exact ⟨Nat.le_refl _, rfl⟩
  | succ n ih =>
    intro at_ out h
    unfold readS at h ⊢
    have hpos := numL_pos l at_ 36 0 16384 (by decide)
    cases hR : numL l at_ 36 0 16384 with
    | mk sz r =>
    obtain ⟨p, st⟩ := r
    rw [hR] at h hpos
    simp only at h hpos ⊢
    by_cases h0 : st = 0
    · subst h0
      rw [if_neg nz] at h ⊢
      by_cases h1 : l.length < p + sz.toNat + 2
      · rw [if_pos h1] at h
        by_cases h2 : l.length = p + sz.toNat + 1 ∧ (l.getD (p + sz.toNat) 0).toNat ≠ 13
        · rw [if_pos h2] at h; cases h
        · rw [if_neg h2] at h; cases h
      · rw [if_neg h1] at h ⊢
        by_cases h2 : (l.getD (p + sz.toNat) 0).toNat ≠ 13 ∨ (l.getD (p + sz.toNat + 1) 0).toNat ≠ 10
        · rw [if_pos h2] at h; cases h
        · rw [if_neg h2] at h ⊢
          obtain ⟨q1, q2⟩ := ih _ _ h
          have := (hpos rfl).1
          refine ⟨by omega, ?_⟩
          rw [q2, List.length_append]
          simp
          omega
    · rw [if_pos h0] at h; exact absurd h h0
theorem readT_pos (l : List UInt8) (h : (readT l).2.2 = 0) : 0 < (readT l).2.1 ∧ (readT l).1.length ≤ 1024 := by
  unfold readT at h ⊢
  have hp := numL_pos l 0 42 1 1024 (by decide)
  cases hR : numL l 0 42 1 1024 with
  | mk n r =>
  obtain ⟨p, st⟩ := r
  rw [hR] at h hp
  simp only at h hp ⊢
  by_cases h0 : st = 0
  · subst h0
    rw [if_neg nz] at h ⊢
    obtain ⟨q1, q2⟩ := readS_pos l _ _ _ h
    have := hp rfl
    refine ⟨by omega, ?_⟩
    rw [q2]
    simp
    omega
  · rw [if_pos h0] at h; exact absurd h h0
/-- All commands of a row of bytes, what stands behind them, whether it is no frame. -/
inductive AllR : List UInt8 → List (List (List UInt8)) → List UInt8 → Bool → Prop
  | more (l : List UInt8) (h : readT l = ([], 0, 1)) : AllR l [] l false
  | bad (l : List UInt8) (h : readT l = ([], 0, 2)) : AllR l [] [] true
  | one (l : List UInt8) (xs : List (List UInt8)) (p : Nat) (ys : List (List (List UInt8))) (rest : List UInt8) (br : Bool) (h : readT l = (xs, p, 0)) (h0 : 0 < p) (hl : p ≤ l.length) (hx : xs.length ≤ 1024) (hr : AllR (l.drop p) ys rest br) : AllR l (xs :: ys) rest br
theorem AllR.det {l : List UInt8} {ys zs : List (List (List UInt8))} {r q : List UInt8} {b c : Bool} (h : AllR l ys r b) : AllR l zs q c → ys = zs ∧ r = q ∧ b = c := by
  intro g
  induction h generalizing zs q c with
  | more l h =>
    cases g with
    | more _ g => exact ⟨rfl, rfl, rfl⟩
    | bad _ g => rw [h] at g; cases g
    | one _ xs p ys rest br g => rw [h] at g; cases g
  | bad l h =>
    cases g with
    | more _ g => rw [h] at g; cases g
    | bad _ g => exact ⟨rfl, rfl, rfl⟩
    | one _ xs p ys rest br g => rw [h] at g; cases g
  | one l xs p ys rest br h h0 hl hx hr ih =>
    cases g with
    | more _ g => rw [h] at g; cases g
    | bad _ g => rw [h] at g; cases g
    | one _ xs2 p2 ys2 rest2 br2 g g0 gl gx gr =>
      rw [h] at g
      injection g with e1 e2
      injection e2 with e2 e3
      subst e1 e2
      obtain ⟨rfl, rfl, rfl⟩ := ih gr
      exact ⟨rfl, rfl, rfl⟩
theorem AllR.join {l q : List UInt8} {ys zs : List (List (List UInt8))} {r r2 : List UInt8} {c : Bool} {b : Bool} (h : AllR l ys r b) (hb : b = false) (g : AllR (r ++ q) zs r2 c) : AllR (l ++ q) (ys ++ zs) r2 c := by
  induction h with
  | more l h => exact g
  | bad l h => cases hb
  | one l xs p ys rest br h h0 hl hx hr ih =>
    have hm := readT_more l q (by rw [h]; exact Nat.zero_ne_one)
    rw [h] at hm
    refine AllR.one _ xs p _ _ _ hm h0 (by rw [List.length_append]; omega) hx ?_
    rw [List.drop_append_of_le_length hl]
    exact ih hb g
theorem AllR.broken {l q : List UInt8} {ys : List (List (List UInt8))} {r : List UInt8} {b : Bool} (h : AllR l ys r b) (hb : b = true) : AllR (l ++ q) ys [] true := by
  induction h with
  | more l h => cases hb
  | bad l h =>
    have hm := readT_more l q (by rw [h]; decide)
    rw [h] at hm
    exact AllR.bad _ hm
  | one l xs p ys rest br h h0 hl hx hr ih =>
    have hm := readT_more l q (by rw [h]; exact Nat.zero_ne_one)
    rw [h] at hm
    refine AllR.one _ xs p _ _ _ hm h0 (by rw [List.length_append]; omega) hx ?_
    rw [List.drop_append_of_le_length hl]
    exact ih hb
theorem readT_cases (l : List UInt8) : readT l = ([], 0, 1) ∨ readT l = ([], 0, 2) ∨ ∃ xs p, readT l = (xs, p, 0) ∧ 0 < p ∧ p ≤ l.length ∧ xs.length ≤ 1024 := by
  obtain ⟨h1, h2⟩ := readT_st l
  have h3 := readT_pos l
  have h4 := readT_place l
  cases hR : readT l with
  | mk xs r =>
  obtain ⟨p, st⟩ := r
  rw [hR] at h1 h2 h3 h4
  simp only at h1 h2 h3 h4
  have : st = 0 ∨ st = 1 ∨ st = 2 := by omega
  rcases this with rfl | rfl | rfl
  · exact .inr (.inr ⟨xs, p, rfl, (h3 rfl).1, h4 rfl, (h3 rfl).2⟩)
  · obtain ⟨rfl, rfl⟩ := h2 (by decide); exact .inl rfl
  · obtain ⟨rfl, rfl⟩ := h2 (by decide); exact .inr (.inl rfl)
theorem AllR.some (l : List UInt8) : ∃ ys r b, AllR l ys r b ∧ r.length ≤ l.length := by
  generalize hn : l.length = n
  induction n using Nat.strongRecOn generalizing l with
  | _ n ih =>
    rcases readT_cases l with h | h | ⟨xs, p, h, h0, hl, hx⟩
    · exact ⟨_, _, _, .more l h, by omega⟩
    · exact ⟨_, _, _, .bad l h, by simp⟩
    · obtain ⟨ys, r, b, g, hg⟩ := ih (l.length - p) (by omega) (l.drop p) (by rw [List.length_drop])
      exact ⟨_, _, _, .one l xs p ys r b h h0 hl hx g, by omega⟩
end Go.Resp
