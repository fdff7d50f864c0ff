/- The number of a text, in plain words: no program. -/
import Derived.Test.YtllaeocclpaiaaaGreatDoorIn1
namespace Go.Proofs.YtllaeocclpaiaaaGreatDoor

/-! ### a text's number, in plain words -/
def dig (c : UInt8) : Bool := decide (48 ≤ c.toNat ∧ c.toNat ≤ 57)
def val (l : List UInt8) : Nat := l.foldl (fun n c => n * 10 + (c.toNat - 48)) 0
def acc (neg : Bool) (v : Nat) : Int := if neg then -(v : Int) else (v : Int)
def isNeg (l : List UInt8) : Bool := l.head? == some 45
def body (l : List UInt8) : List UInt8 := if isNeg l then l.drop 1 else l
def parseI (l : List UInt8) : Option Int :=
  if body l = [] then none
  else if (body l).head? = some 48 ∧ 1 < l.length then none
  else if (body l).all dig = true ∧ rng (acc (isNeg l) (val (body l))) = true then some (acc (isNeg l) (val (body l))) else none
def optV (o : Option Int) : Value := match o with
  | some v => .tuple #[.int .i64 v, .bool true]
  | none => .tuple #[.int .i64 0, .bool false]

theorem val_snoc (p : List UInt8) (c : UInt8) : val (p ++ [c]) = val p * 10 + (c.toNat - 48) := by simp [val]
theorem foldl_ge (r : List UInt8) : ∀ n, n ≤ r.foldl (fun n c => n * 10 + (c.toNat - 48)) n := by
  induction r with
  | nil => intro n; exact Nat.le_refl _
  | cons c r ih => intro n; simp only [List.foldl_cons]; exact Nat.le_trans (by omega) (ih _)
theorem val_append_le (p r : List UInt8) : val p ≤ val (p ++ r) := by
  unfold val; rw [List.foldl_append]; exact foldl_ge r _
theorem val_lt (p : List UInt8) (h : p.all dig = true) : val p < 10 ^ p.length := by
  have key : ∀ (r : List UInt8) (n : Nat), r.all dig = true → r.foldl (fun n c => n * 10 + (c.toNat - 48)) n < (n + 1) * 10 ^ r.length := by
    intro r
    induction r with
    | nil => intro n _; simp
    | cons c r ih =>
      intro n h
      rw [List.all_cons, Bool.and_eq_true] at h
      have hc : 48 ≤ c.toNat ∧ c.toNat ≤ 57 := by simpa [dig] using h.1
      simp only [List.foldl_cons, List.length_cons]
      refine Nat.lt_of_lt_of_le (ih _ h.2) ?_
      rw [Nat.pow_succ, Nat.mul_comm (10 ^ r.length) 10, ← Nat.mul_assoc]
      exact Nat.mul_le_mul_right _ (by omega)
  have := key p 0 h
  simpa [val] using this
theorem val_ge (c : UInt8) (r : List UInt8) (hc : 49 ≤ c.toNat) : 10 ^ r.length ≤ val (c :: r) := by
  have key : ∀ (r : List UInt8) (n : Nat), n * 10 ^ r.length ≤ r.foldl (fun n c => n * 10 + (c.toNat - 48)) n := by
    intro r
    induction r with
    | nil => intro n; simp
    | cons d r ih =>
      intro n
      simp only [List.foldl_cons, List.length_cons]
      refine Nat.le_trans ?_ (ih _)
      rw [Nat.pow_succ, Nat.mul_comm (10 ^ r.length) 10, ← Nat.mul_assoc]
      exact Nat.mul_le_mul_right _ (by omega)
  have := key r (0 * 10 + (c.toNat - 48))
  unfold val
  simp only [List.foldl_cons]
  refine Nat.le_trans ?_ this
  exact Nat.le_mul_of_pos_left _ (by omega)
theorem rng_acc_mono (neg : Bool) {V T : Nat} (h : V ≤ T) (hr : rng (acc neg V) = false) : rng (acc neg T) = false := by
  simp only [rng, decide_eq_false_iff_not] at hr ⊢
  cases neg <;> simp [acc] at hr ⊢ <;> omega
theorem parse_none_of (l : List UInt8) (h : (body l).all dig = true → rng (acc (isNeg l) (val (body l))) = false) : parseI l = none := by
  unfold parseI
  split
  · rfl
  · split
    · rfl
    · rw [if_neg]
      rintro ⟨h1, h2⟩
      rw [h h1] at h2
      cases h2
/-- The text is cut at k: p ahead of it, c at it. -/
theorem parse_bad_at (l p r : List UInt8) (c : UInt8) (hb : body l = p ++ c :: r) (hc : dig c = false) : parseI l = none := by
  refine parse_none_of l fun h => ?_
  rw [hb, List.all_append, List.all_cons, hc] at h
  simp at h
theorem parse_big_at (l p r : List UInt8) (hb : body l = p ++ r) (hr : rng (acc (isNeg l) (val p)) = false) : parseI l = none := by
  refine parse_none_of l fun _ => ?_
  rw [hb]
  exact rng_acc_mono _ (val_append_le p r) hr
theorem parse_big10 (l p r : List UInt8) (c : UInt8) (hb : body l = p ++ c :: r) (hr : rng (acc (isNeg l) (val p) * 10) = false) : parseI l = none := by
  refine parse_none_of l fun _ => ?_
  have e : acc (isNeg l) (val p) * 10 = acc (isNeg l) (val p * 10) := by unfold acc; split <;> simp <;> omega
  rw [e] at hr
  refine rng_acc_mono _ ?_ hr
  rw [hb, show p ++ c :: r = (p ++ [c]) ++ r by simp]
  refine Nat.le_trans ?_ (val_append_le _ _)
  rw [val_snoc]; omega
theorem parse_ok (l : List UInt8) (h0 : body l ≠ []) (h1 : ¬ ((body l).head? = some 48 ∧ 1 < l.length)) (h2 : (body l).all dig = true) (h3 : rng (acc (isNeg l) (val (body l))) = true) :
    parseI l = some (acc (isNeg l) (val (body l))) := by
  unfold parseI
  rw [if_neg h0, if_neg h1, if_pos ⟨h2, h3⟩]
theorem parse_start (l : List UInt8) (h : body l = [] ∨ (body l).head? = some 48 ∧ 1 < l.length) : parseI l = none := by
  unfold parseI
  split
  · rfl
  · rename_i h0
    rw [if_pos (h.resolve_left h0)]
theorem parse_long (l : List UInt8) (h : 19 < (body l).length) : parseI l = none := by
  cases hb : body l with
  | nil => rw [hb] at h; simp at h
  | cons c r =>
    by_cases h48 : c = 48
    · refine parse_start l (.inr ⟨by rw [hb, h48]; rfl, ?_⟩)
      have : (body l).length ≤ l.length := by unfold body; split <;> simp
      omega
    · refine parse_none_of l fun ha => ?_
      rw [hb, List.all_cons, Bool.and_eq_true] at ha
      have hc : 48 ≤ c.toNat ∧ c.toNat ≤ 57 := by simpa [dig] using ha.1
      have hc' : c.toNat ≠ 48 := fun e => h48 (UInt8.toNat_inj.1 (by rw [e]; rfl))
      have hv := val_ge c r (by omega)
      rw [hb, List.length_cons] at h
      have : 10 ^ 19 ≤ 10 ^ r.length := Nat.pow_le_pow_right (by decide) (by omega)
      have h19 : (10 ^ 19 : Nat) = 10000000000000000000 := by decide
      rw [hb]
      simp only [rng, decide_eq_false_iff_not]
      generalize val (c :: r) = T at *
      unfold acc
      split <;> omega

/-! ### a cut of the text -/
theorem body_cut (s : ByteArray) (k st : Nat) (hst : st = if isNeg s.data.toList then 1 else 0) (hk : k < s.size) (hs : st ≤ k) :
    body s.data.toList = (s.data.toList.take k).drop st ++ s[k] :: s.data.toList.drop (k + 1) := by
  have hl : k < s.data.toList.length := by simpa using hk
  have e : s.data.toList = s.data.toList.take k ++ s[k] :: s.data.toList.drop (k + 1) := by
    conv => lhs; rw [← List.take_append_drop k s.data.toList, List.drop_eq_getElem_cons hl]
    rfl
  have hd : body s.data.toList = s.data.toList.drop st := by unfold body; subst hst; split <;> simp
  rw [hd]
  conv => lhs; rw [e]
  rw [List.drop_append_of_le_length (by rw [List.length_take]; omega)]
theorem take_snoc (s : ByteArray) (k st : Nat) (hk : k < s.size) (hs : st ≤ k) : (s.data.toList.take (k + 1)).drop st = (s.data.toList.take k).drop st ++ [s[k]] := by
  have hl : k < s.data.toList.length := by simpa using hk
  rw [List.take_succ_eq_append_getElem hl, List.drop_append_of_le_length (by rw [List.length_take]; omega)]
  rfl
theorem body_full (s : ByteArray) (st : Nat) (hst : st = if isNeg s.data.toList then 1 else 0) : body s.data.toList = (s.data.toList.take s.size).drop st := by
  rw [List.take_of_length_le (by simp)]
  unfold body; subst hst; split <;> simp
end Go.Proofs.YtllaeocclpaiaaaGreatDoor
