import Derived.Test.YtnfflkappbjoeaaDoorReP
import Derived.Lib.ItoaNum
namespace Go.Resp
/-! what is read of frames, in plain words -/
theorem nz : ¬ ((0 : Nat) ≠ 0) := by simp
theorem numS_more (least most : Int) : ∀ (r : List UInt8) (at_ : Nat) (n : Int) (d : Nat) (r2 : List UInt8), (numS least most r at_ n d).2.2 ≠ 1 → numS least most (r ++ r2) at_ n d = numS least most r at_ n d := by
  intro r
  induction r with
  | nil => intro at_ n d r2 h; exact absurd rfl h
  | cons c r ih =>
    intro at_ n d r2 h
    rw [List.cons_append]
    unfold numS at h ⊢
    by_cases h1 : 48 ≤ (c.toNat : Int) ∧ (c.toNat : Int) ≤ 57
    · rw [if_pos h1] at h
      rw [if_pos h1, if_pos h1]
      by_cases h2 : most < n * 10 + ((c.toNat : Int) - 48) ∨ (0 < d ∧ n * 10 + ((c.toNat : Int) - 48) < 10) ∨ (n * 10 + ((c.toNat : Int) - 48) < 1 ∧ 0 < least)
      · rw [if_pos h2, if_pos h2]
      · rw [if_neg h2] at h
        rw [if_neg h2, if_neg h2]
        exact ih _ _ _ _ h
    · rw [if_neg h1] at h
      rw [if_neg h1, if_neg h1]
      by_cases h2 : (c.toNat : Int) = 13 ∧ 0 < d
      · rw [if_pos h2] at h
        rw [if_pos h2, if_pos h2]
        cases r with
        | nil => exact absurd rfl h
        | cons e r => rfl
      · rw [if_neg h2, if_neg h2]
theorem numL_more (l r2 : List UInt8) (at_ : Nat) (ha : at_ ≤ l.length) (m least most : Int) (h : (numL l at_ m least most).2.2 ≠ 1) : numL (l ++ r2) at_ m least most = numL l at_ m least most := by
  unfold numL at h ⊢
  rw [List.drop_append_of_le_length ha]
  cases hd : l.drop at_ with
  | nil => rw [hd] at h; exact absurd rfl h
  | cons c r =>
    rw [hd] at h
    simp only [List.cons_append] at h ⊢
    by_cases hm : (c.toNat : Int) = m
    · rw [if_pos hm] at h
      rw [if_pos hm, if_pos hm]
      exact numS_more _ _ _ _ _ _ _ h
    · rw [if_neg hm, if_neg hm]
theorem numS_place (least most : Int) : ∀ (r : List UInt8) (at_ : Nat) (n : Int) (d : Nat), (numS least most r at_ n d).2.2 = 0 → (numS least most r at_ n d).2.1 ≤ at_ + r.length := by
  intro r
  induction r with
  | nil => intro at_ n d h; cases h
  | cons c r ih =>
    intro at_ n d h
    rw [List.length_cons]
    unfold numS at h ⊢
    by_cases h1 : 48 ≤ (c.toNat : Int) ∧ (c.toNat : Int) ≤ 57
    · rw [if_pos h1] at h ⊢
      by_cases h2 : most < n * 10 + ((c.toNat : Int) - 48) ∨ (0 < d ∧ n * 10 + ((c.toNat : Int) - 48) < 10) ∨ (n * 10 + ((c.toNat : Int) - 48) < 1 ∧ 0 < least)
      · rw [if_pos h2] at h; cases h
      · rw [if_neg h2] at h ⊢
        have := ih _ _ _ h
        omega
    · rw [if_neg h1] at h ⊢
      by_cases h2 : (c.toNat : Int) = 13 ∧ 0 < d
      · rw [if_pos h2] at h ⊢
        cases r with
        | nil => cases h
        | cons e r =>
          simp only at h ⊢
          by_cases h3 : (e.toNat : Int) = 10
          · rw [if_pos h3]; simp only [List.length_cons]; omega
          · rw [if_neg h3] at h; cases h
      · rw [if_neg h2] at h; cases h
theorem numL_place (l : List UInt8) (at_ : Nat) (ha : at_ ≤ l.length) (m least most : Int) (h : (numL l at_ m least most).2.2 = 0) : (numL l at_ m least most).2.1 ≤ l.length := by
  unfold numL at h ⊢
  cases hd : l.drop at_ with
  | nil => rw [hd] at h; cases h
  | cons c r =>
    rw [hd] at h
    simp only at h ⊢
    have hl : (l.drop at_).length = r.length + 1 := by rw [hd]; rfl
    rw [List.length_drop] at hl
    by_cases hm : (c.toNat : Int) = m
    · rw [if_pos hm] at h ⊢
      have := numS_place _ _ _ _ _ _ h
      omega
    · rw [if_neg hm] at h; cases h
theorem getD_app (l r2 : List UInt8) (i : Nat) (h : i < l.length) : (l ++ r2).getD i 0 = l.getD i 0 := by
  rw [List.getD, List.getD, List.getElem?_append_left h]
theorem readS_more (l r2 : List UInt8) : ∀ (n at_ : Nat) (out : List (List UInt8)), at_ ≤ l.length → (readS l n at_ out).2.2 ≠ 1 → readS (l ++ r2) n at_ out = readS l n at_ out := by
  intro n
  induction n with
  | zero => intro at_ out _ _; rfl
  | succ n ih =>
    intro at_ out ha h
    unfold readS at h ⊢
    have hp := numL_place l at_ ha 36 0 16384
    have hmo := numL_more l r2 at_ ha 36 0 16384
    cases hR : numL l at_ 36 0 16384 with
    | mk sz r =>
    obtain ⟨p, st⟩ := r
    rw [hR] at h hp hmo
    simp only at h hp hmo ⊢
    by_cases h0 : st = 0
    · subst h0
      rw [hmo (by simp)]
      simp only
      have hp := hp rfl
      rw [if_neg nz] at h
      rw [if_neg nz, if_neg nz]
      by_cases h1 : l.length < p + sz.toNat + 2
      · rw [if_pos h1] at h
        rw [if_pos h1]
        by_cases h2 : l.length = p + sz.toNat + 1 ∧ (l.getD (p + sz.toNat) 0).toNat ≠ 13
        · rw [if_pos h2]
          have e := getD_app l r2 (p + sz.toNat) (by omega)
          by_cases h3 : (l ++ r2).length < p + sz.toNat + 2
          · rw [if_pos h3, if_pos ⟨by rw [List.length_append] at h3 ⊢; omega, by rw [e]; exact h2.2⟩]
          · rw [if_neg h3, if_pos (.inl (by rw [e]; exact h2.2))]
        · rw [if_neg h2] at h; exact absurd rfl h
      · rw [if_neg h1] at h
        rw [if_neg h1, if_neg (by rw [List.length_append]; omega), getD_app l r2 _ (by omega), getD_app l r2 _ (by omega)]
        by_cases h2 : (l.getD (p + sz.toNat) 0).toNat ≠ 13 ∨ (l.getD (p + sz.toNat + 1) 0).toNat ≠ 10
        · rw [if_pos h2, if_pos h2]
        · rw [if_neg h2] at h
          rw [if_neg h2, if_neg h2]
          have e : ((l ++ r2).drop p).take sz.toNat = (l.drop p).take sz.toNat := by
            rw [List.drop_append_of_le_length hp, List.take_append_of_le_length (by rw [List.length_drop]; omega)]
          rw [e]
          exact ih _ _ (by omega) h
    · rw [if_pos h0] at h
      simp only at h
      rw [hmo h]
      simp only
      rw [if_pos h0, if_pos h0]
/-- What is read is read whatever stands behind; what is wrong stays wrong. -/
theorem readT_more (l r2 : List UInt8) (h : (readT l).2.2 ≠ 1) : readT (l ++ r2) = readT l := by
  unfold readT at h ⊢
  have hp := numL_place l 0 (Nat.zero_le _) 42 1 1024
  have hmo := numL_more l r2 0 (Nat.zero_le _) 42 1 1024
  cases hR : numL l 0 42 1 1024 with
  | mk n r =>
  obtain ⟨p, st⟩ := r
  rw [hR] at h hp hmo
  simp only at h hp hmo ⊢
  by_cases h0 : st = 0
  · subst h0
    rw [hmo (by simp)]
    simp only
    rw [if_neg nz] at h
    rw [if_neg nz, if_neg nz]
    exact readS_more l r2 _ _ _ (hp rfl) h
  · rw [if_pos h0] at h
    simp only at h
    rw [hmo h]
    simp only
    rw [if_pos h0, if_pos h0]
theorem readS_place (l : List UInt8) : ∀ (n at_ : Nat) (out : List (List UInt8)), at_ ≤ l.length → (readS l n at_ out).2.2 = 0 → (readS l n at_ out).2.1 ≤ l.length := by
  intro n
  induction n with
  | zero => intro at_ out h _; exact h
  | succ n ih =>
    intro at_ out ha h
    unfold readS at h ⊢
    cases hR : numL l at_ 36 0 16384 with
    | mk sz r =>
    obtain ⟨p, st⟩ := r
    rw [hR] at h
    simp only at h ⊢
    by_cases h0 : st = 0
    · subst h0
      rw [if_neg nz] at h ⊢
      by_cases h1 : l.length < p + sz.toNat + 2
      · rw [if_pos h1] at h
        by_cases h2 : l.length = p + sz.toNat + 1 ∧ (l.getD (p + sz.toNat) 0).toNat ≠ 13
        · rw [if_pos h2] at h; cases h
        · rw [if_neg h2] at h; cases h
      · rw [if_neg h1] at h ⊢
        by_cases h2 : (l.getD (p + sz.toNat) 0).toNat ≠ 13 ∨ (l.getD (p + sz.toNat + 1) 0).toNat ≠ 10
        · rw [if_pos h2] at h; cases h
        · rw [if_neg h2] at h ⊢
          exact ih _ _ (by omega) h
    · rw [if_pos h0] at h; exact absurd h h0
theorem readT_place (l : List UInt8) (h : (readT l).2.2 = 0) : (readT l).2.1 ≤ l.length := by
  unfold readT at h ⊢
  have hp := numL_place l 0 (Nat.zero_le _) 42 1 1024
  cases hR : numL l 0 42 1 1024 with
  | mk n r =>
  obtain ⟨p, st⟩ := r
  rw [hR] at h hp
  simp only at h hp ⊢
  by_cases h0 : st = 0
  · subst h0
    rw [if_neg nz] at h ⊢
    exact readS_place l _ _ _ (hp rfl) h
  · rw [if_pos h0] at h; exact absurd h h0
theorem numS_st (least most : Int) : ∀ (r : List UInt8) (at_ : Nat) (n : Int) (d : Nat), (numS least most r at_ n d).2.2 ≤ 2 := by
  intro r
  induction r with
  | nil => intro at_ n d; simp [numS]
  | cons c r ih =>
    intro at_ n d
    unfold numS
    split
    · split
      · exact Nat.le_refl _
      · exact ih _ _ _
    · split
      · split
        · simp
        · split <;> simp
      · simp
theorem numL_st (l : List UInt8) (at_ : Nat) (m least most : Int) : (numL l at_ m least most).2.2 ≤ 2 := by
  unfold numL
  split
  · simp
  · split
    · exact numS_st _ _ _ _ _ _
    · simp
theorem readS_st (l : List UInt8) : ∀ (n at_ : Nat) (out : List (List UInt8)), (readS l n at_ out).2.2 ≤ 2 ∧ ((readS l n at_ out).2.2 ≠ 0 → (readS l n at_ out).1 = [] ∧ (readS l n at_ out).2.1 = 0) := by
  intro n
  induction n with
  | zero => intro at_ out; exact ⟨by simp [readS], fun h => absurd rfl h⟩
  | succ n ih =>
    intro at_ out
    unfold readS
    have hs := numL_st l at_ 36 0 16384
    cases hR : numL l at_ 36 0 16384 with
    | mk sz r =>
    obtain ⟨p, st⟩ := r
    rw [hR] at hs
    simp only at hs ⊢
    split
    · exact ⟨hs, fun _ => ⟨rfl, rfl⟩⟩
    · split
      · split <;> exact ⟨by simp, fun _ => ⟨rfl, rfl⟩⟩
      · split
        · exact ⟨by simp, fun _ => ⟨rfl, rfl⟩⟩
        · exact ih _ _
theorem readT_st (l : List UInt8) : (readT l).2.2 ≤ 2 ∧ ((readT l).2.2 ≠ 0 → (readT l).1 = [] ∧ (readT l).2.1 = 0) := by
  unfold readT
  have hs := numL_st l 0 42 1 1024
  cases hR : numL l 0 42 1 1024 with
  | mk sz r =>
  obtain ⟨p, st⟩ := r
  rw [hR] at hs
  simp only at hs ⊢
  split
  · exact ⟨hs, fun _ => ⟨rfl, rfl⟩⟩
  · exact readS_st l _ _ _
/-- A beginning of a frame wants more. -/
theorem readT_cut (l : List UInt8) (xs : List (List UInt8)) (h : readT l = (xs, l.length, 0)) (k : Nat) (hk : k < l.length) : readT (l.take k) = ([], 0, 1) := by
  have h1 := readT_more (l.take k) (l.drop k)
  rw [List.take_append_drop, h] at h1
  have h2 := readT_st (l.take k)
  have h3 := readT_place (l.take k)
  by_cases e1 : (readT (l.take k)).2.2 = 1
  · have h4 := h2.2 (by omega)
    exact Prod.ext h4.1 (Prod.ext h4.2 e1)
  · have h5 := h1 e1
    rw [← h5] at h3
    have h6 := h3 rfl
    rw [List.length_take] at h6
    simp only at h6
    omega
/-! digits -/
def isDig (c : UInt8) : Prop := 48 ≤ (c.toNat : Int) ∧ (c.toNat : Int) ≤ 57
def valD (v : Int) (ds : List UInt8) : Int := ds.foldl (fun v c => v * 10 + ((c.toNat : Int) - 48)) v
theorem valD_ge : ∀ (ds : List UInt8) (v : Int), 0 ≤ v → (∀ c ∈ ds, isDig c) → v ≤ valD v ds := by
  intro ds
  induction ds with
  | nil => intro v _ _; exact Int.le_refl _
  | cons c r ih =>
    intro v hv hd
    have h1 := hd c (by simp)
    unfold isDig at h1
    have h2 := ih (v * 10 + ((c.toNat : Int) - 48)) (by omega) (fun x hx => hd x (by simp [hx]))
    show v ≤ valD (v * 10 + ((c.toNat : Int) - 48)) r
    omega
theorem numS_digits (least most : Int) (q : List UInt8) : ∀ (ds : List UInt8) (at_ : Nat) (v : Int) (d : Nat), 1 ≤ v → 0 < d → (∀ c ∈ ds, isDig c) → valD v ds ≤ most →
    numS least most (ds ++ 13 :: 10 :: q) at_ v d = (valD v ds, at_ + ds.length + 2, 0) := by
  intro ds
  induction ds with
  | nil => intro at_ v d _ h0 _ _; show numS least most (13 :: 10 :: q) at_ v d = _; unfold numS; rw [if_neg (by decide), if_pos ⟨by decide, h0⟩]; rfl
  | cons c r ih =>
    intro at_ v d hv h0 hd hm
    have h1 := hd c (by simp)
    have h2 := valD_ge r (v * 10 + ((c.toNat : Int) - 48)) (by unfold isDig at h1; omega) (fun x hx => hd x (by simp [hx]))
    have h3 : valD v (c :: r) = valD (v * 10 + ((c.toNat : Int) - 48)) r := rfl
    rw [List.cons_append]
    unfold numS
    unfold isDig at h1
    rw [if_pos h1]
    rw [if_neg (by omega), ih (at_ + 1) _ (d + 1) (by omega) (by omega) (fun x hx => hd x (by simp [hx])) (by omega)]
    rw [h3, List.length_cons]
    congr 2
    omega
theorem dec_parts : ∀ (n : Nat), 1 ≤ n → ∃ (c : UInt8) (ds : List UInt8), Lib.decDigits n = c :: ds ∧ 49 ≤ (c.toNat : Int) ∧ (c.toNat : Int) ≤ 57 ∧ (∀ x ∈ ds, isDig x) ∧ valD ((c.toNat : Int) - 48) ds = n := by
  intro n
  induction n using Nat.strongRecOn with
  | _ n ih =>
    intro h1
    have hb : ∀ m : Nat, m < 10 → ((UInt8.ofNat (48 + m)).toNat : Int) = 48 + (m : Int) := by
      intro m hm
      rw [UInt8.toNat_ofNat']
      omega
    by_cases hlt : n < 10
    · refine ⟨UInt8.ofNat (48 + n), [], Lib.decDigits_one hlt, ?_, ?_, by simp, ?_⟩
      · rw [hb n hlt]; omega
      · rw [hb n hlt]; omega
      · show ((UInt8.ofNat (48 + n)).toNat : Int) - 48 = n
        rw [hb n hlt]; omega
    · obtain ⟨c, ds, e, q1, q2, q3, q4⟩ := ih (n / 10) (by omega) (by omega)
      refine ⟨c, ds ++ [UInt8.ofNat (48 + n % 10)], by rw [Lib.decDigits, dif_neg hlt, e]; rfl, q1, q2, ?_, ?_⟩
      · intro x hx
        rcases List.mem_append.1 hx with hx | hx
        · exact q3 x hx
        · rw [List.mem_singleton] at hx
          subst hx
          unfold isDig
          rw [hb _ (by omega)]
          omega
      · unfold valD at q4 ⊢
        rw [List.foldl_append, q4, List.foldl_cons, List.foldl_nil, hb _ (by omega)]
        omega
theorem numS_dec (least most : Int) (n : Nat) (hn : (n : Int) ≤ most) (hl : least ≤ 0 ∨ 1 ≤ n) (q : List UInt8) (at_ : Nat) :
    numS least most (Lib.decDigits n ++ 13 :: 10 :: q) at_ 0 0 = ((n : Int), at_ + (Lib.decDigits n).length + 2, 0) := by
  by_cases h0 : n = 0
  · subst h0
    rw [show Lib.decDigits 0 = [48] from by rw [Lib.decDigits_one (by omega)]; rfl]
    show numS least most (48 :: 13 :: 10 :: q) at_ 0 0 = _
    have e48 : (((48 : UInt8).toNat : Nat) : Int) = 48 := rfl
    unfold numS
    rw [if_pos (by decide), if_neg (by rw [e48]; omega)]
    unfold numS
    rw [if_neg (by decide), if_pos ⟨by decide, by omega⟩]
    rfl
  · obtain ⟨c, ds, e, q1, q2, q3, q4⟩ := dec_parts n (by omega)
    have hge := valD_ge ds ((c.toNat : Int) - 48) (by omega) q3
    rw [e, List.cons_append]
    unfold numS
    rw [if_pos ⟨by omega, q2⟩, if_neg (by omega)]
    rw [show (0 : Int) * 10 + ((c.toNat : Int) - 48) = (c.toNat : Int) - 48 by omega]
    rw [numS_digits least most q ds (at_ + 1) _ _ (by omega) (by omega) q3 (by omega), q4, List.length_cons]
    congr 2
    omega
theorem numL_dec (least most : Int) (m : UInt8) (n : Nat) (hn : (n : Int) ≤ most) (hl : least ≤ 0 ∨ 1 ≤ n) (pre q : List UInt8) :
    numL (pre ++ (m :: Lib.decDigits n ++ [13, 10]) ++ q) pre.length (m.toNat : Int) least most = ((n : Int), pre.length + (m :: Lib.decDigits n ++ [13, 10]).length, 0) := by
  unfold numL
  rw [List.append_assoc, List.drop_left]
  simp only [List.cons_append, List.append_assoc, List.nil_append]
  rw [if_pos trivial, numS_dec least most n hn hl q]
  simp
  omega
def lineL (l : List UInt8) : List UInt8 := l ++ [13, 10]
def partP (s : List UInt8) : List UInt8 := lineL (36 :: Lib.decDigits s.length) ++ lineL s
def frameP (xs : List (List UInt8)) : List UInt8 := lineL (42 :: Lib.decDigits xs.length) ++ xs.flatMap partP
theorem readS_parts : ∀ (xs : List (List UInt8)) (pre q : List UInt8) (out : List (List UInt8)), (∀ s ∈ xs, s.length ≤ 16384) →
    readS (pre ++ xs.flatMap partP ++ q) xs.length pre.length out = (out ++ xs, (pre ++ xs.flatMap partP).length, 0) := by
  intro xs
  induction xs with
  | nil => intro pre q out _; simp [readS]
  | cons s r ih =>
    intro pre q out h
    have hs := h s (by simp)
    have e0 : pre ++ (s :: r).flatMap partP ++ q = pre ++ (36 :: Lib.decDigits s.length ++ [13, 10]) ++ (s ++ [13, 10] ++ r.flatMap partP ++ q) := by
      rw [List.flatMap_cons]; unfold partP lineL; simp
    have hn := numL_dec 0 16384 36 s.length (by omega) (.inl (Int.le_refl _)) pre (s ++ [13, 10] ++ r.flatMap partP ++ q)
    rw [← e0] at hn
    obtain ⟨p, hp⟩ : ∃ p, p = pre.length + (36 :: Lib.decDigits s.length ++ [13, 10]).length := ⟨_, rfl⟩
    rw [← hp] at hn
    have e1 : pre ++ (s :: r).flatMap partP ++ q = (pre ++ (36 :: Lib.decDigits s.length ++ [13, 10])) ++ (s ++ ([13, 10] ++ (r.flatMap partP ++ q))) := by rw [e0]; simp
    have hpl : p = (pre ++ (36 :: Lib.decDigits s.length ++ [13, 10])).length := by rw [hp, List.length_append (as := pre)]
    have hlen : (pre ++ (s :: r).flatMap partP ++ q).length = p + s.length + 2 + (r.flatMap partP ++ q).length := by
      rw [e1, List.length_append, ← hpl]; simp; omega
    have g1 : (pre ++ (s :: r).flatMap partP ++ q).getD (p + s.length) 0 = 13 := by
      rw [e1, List.getD, List.getElem?_append_right (by omega), ← hpl, Nat.add_sub_cancel_left, List.getElem?_append_right (by omega), Nat.sub_self]; rfl
    have g2 : (pre ++ (s :: r).flatMap partP ++ q).getD (p + s.length + 1) 0 = 10 := by
      rw [e1, List.getD, List.getElem?_append_right (by omega), ← hpl, Nat.add_assoc, Nat.add_sub_cancel_left, List.getElem?_append_right (by omega), Nat.add_sub_cancel_left]; rfl
    have g3 : ((pre ++ (s :: r).flatMap partP ++ q).drop p).take s.length = s := by
      rw [e1, hpl, List.drop_left, List.take_left]
    have hih := ih (pre ++ partP s) q (out ++ [s]) (fun x hx => h x (by simp [hx]))
    have e2 : pre ++ partP s ++ r.flatMap partP ++ q = pre ++ (s :: r).flatMap partP ++ q := by rw [List.flatMap_cons]; simp
    have e3 : pre ++ partP s ++ r.flatMap partP = pre ++ (s :: r).flatMap partP := by rw [List.flatMap_cons]; simp
    have e4 : (pre ++ partP s).length = p + s.length + 2 := by
      rw [hp]; unfold partP lineL; simp; omega
    rw [e2, e3, e4] at hih
    rw [List.length_cons]
    unfold readS
    have hn' : numL (pre ++ (s :: r).flatMap partP ++ q) pre.length 36 0 16384 = ((s.length : Int), p, 0) := hn
    rw [hn']
    simp only [Int.toNat_natCast]
    rw [if_neg nz, if_neg (by rw [hlen]; omega), g1, g2, if_neg (by decide), g3, hih]
    simp
/-- Read of a frame is what it is made of. -/
theorem readT_frame (xs : List (List UInt8)) (h0 : 1 ≤ xs.length) (h1 : xs.length ≤ 1024) (h : ∀ s ∈ xs, s.length ≤ 16384) (q : List UInt8) : readT (frameP xs ++ q) = (xs, (frameP xs).length, 0) := by
  have hn := numL_dec 1 1024 42 xs.length (by omega) (.inr h0) [] (xs.flatMap partP ++ q)
  have e0 : [] ++ (42 :: Lib.decDigits xs.length ++ [13, 10]) ++ (xs.flatMap partP ++ q) = frameP xs ++ q := by unfold frameP lineL; simp
  rw [e0] at hn
  have hr := readS_parts xs (lineL (42 :: Lib.decDigits xs.length)) q [] h
  have e1 : lineL (42 :: Lib.decDigits xs.length) ++ xs.flatMap partP ++ q = frameP xs ++ q := rfl
  rw [e1] at hr
  unfold readT
  have hn' : numL (frameP xs ++ q) 0 42 1 1024 = ((xs.length : Int), [].length + (42 :: Lib.decDigits xs.length ++ [13, 10]).length, 0) := hn
  rw [hn']
  simp only [Int.toNat_natCast]
  rw [if_neg nz]
  have e2 : ([] : List UInt8).length + (42 :: Lib.decDigits xs.length ++ [13, 10]).length = (lineL (42 :: Lib.decDigits xs.length)).length := by unfold lineL; simp
  rw [e2, hr]
  rfl
theorem readT_frame_cut (xs : List (List UInt8)) (h0 : 1 ≤ xs.length) (h1 : xs.length ≤ 1024) (h : ∀ s ∈ xs, s.length ≤ 16384) (k : Nat) (hk : k < (frameP xs).length) : readT ((frameP xs).take k) = ([], 0, 1) := by
  have := readT_frame xs h0 h1 h []
  rw [List.append_nil] at this
  exact readT_cut _ _ this k hk
end Go.Resp
