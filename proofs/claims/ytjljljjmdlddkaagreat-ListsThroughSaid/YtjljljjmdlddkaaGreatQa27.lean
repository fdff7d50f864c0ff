/- Texts joined: L15 -/
import Derived.Test.YtjljljjmdlddkaaGreatQa24
import Derived.Test.YtjljljjmdlddkaaGreatQa25
import Derived.Test.YtjljljjmdlddkaaGreatQa26

/- The commands of lists at a law's space, over data. -/
namespace Go.Proofs.YtjljljjmdlddkaaGreat
open Go.ChangeShapes Go.WideShapes Go.ChangeAt Go.RowKit

theorem putD_same {α : Type} (k : ByteArray) (x : α) : ∀ (D : List (ByteArray × α)), findD k D = some x → putD k x D = D
  | [], h => by cases h
  | (y, v) :: r, h => by
    by_cases hy : y = k
    · simp [findD, hy] at h
      simp [putD, hy, h]
    · simp [findD, hy] at h
      simp [putD, hy, putD_same k x r h]
theorem delD_none {α : Type} (k : ByteArray) : ∀ (D : List (ByteArray × α)), findD k D = none → delD k D = D
  | [], _ => rfl
  | (y, v) :: r, h => by
    by_cases hy : y = k
    · simp [findD, hy] at h
    · simp [findD, hy] at h
      simp [delD, hy, delD_none k r h]
theorem findD_putD {α : Type} (k : ByteArray) (x : α) (q : ByteArray) : ∀ (D : List (ByteArray × α)), findD q (putD k x D) = if k = q then some x else findD q D
  | [] => by by_cases h : k = q <;> simp [putD, findD, h]
  | (y, v) :: r => by
    by_cases hy : y = k
    · subst hy
      by_cases hq : y = q <;> simp [putD, findD, hq]
    · by_cases hq : y = q
      · subst hq
        have : ¬ k = y := fun e => hy e.symm
        simp [putD, findD, hy, this]
      · simp [putD, findD, hy, hq, findD_putD k x q r]
theorem findD_delD_ne {α : Type} (k q : ByteArray) (h : k ≠ q) : ∀ (D : List (ByteArray × α)), findD q (delD k D) = findD q D
  | [] => rfl
  | (y, v) :: r => by
    by_cases hy : y = k
    · subst hy
      simp [delD, findD, h]
    · by_cases hq : y = q
      · subst hq
        simp [delD, findD, hy]
      · simp [delD, findD, hy, hq, findD_delD_ne k q h r]
theorem len_putD {α : Type} (k : ByteArray) (x : α) : ∀ (D : List (ByteArray × α)), (putD k x D).length ≤ D.length + 1
  | [] => by simp [putD]
  | (y, v) :: r => by
    by_cases hy : y = k
    · simp [putD, hy]
    · simp [putD, hy]; exact len_putD k x r
theorem len_delD {α : Type} (k : ByteArray) : ∀ (D : List (ByteArray × α)), (delD k D).length ≤ D.length
  | [] => by simp [delD]
  | (y, v) :: r => by
    by_cases hy : y = k
    · simp [delD, hy]
    · simp [delD, hy]; exact len_delD k r
/-- A row laid: a key without texts is taken away. -/
def setD (k : ByteArray) (zs : List ByteArray) (D : List (ByteArray × List ByteArray)) : List (ByteArray × List ByteArray) := if zs = [] then delD k D else putD k zs D
theorem apply_eff (k : ByteArray) (zs : List ByteArray) (D : List (ByteArray × List ByteArray)) : applyD (dEff k (xoL zs) D) D = setD k zs D := by
  unfold dEff xoL setD
  by_cases hz : zs = []
  · simp only [hz, if_true]
    cases hf : findD k D with
    | none => simp [applyD, delD_none k D hf]
    | some y => simp [applyD]
  · simp only [hz, if_false]
    cases hf : findD k D with
    | none => simp [applyD]
    | some y =>
      by_cases hy : y = zs
      · subst hy
        simp [applyD, putD_same k y D hf]
      · simp [applyD, hy]
theorem may_eff (k : ByteArray) (zs : List ByteArray) (D : List (ByteArray × List ByteArray)) (hk : zs ≠ [] → okL k zs) (hl : D.length < 4096) : MayD okL (dEff k (xoL zs) D) D := by
  unfold dEff xoL
  by_cases hz : zs = []
  · simp only [hz, if_true]
    cases hf : findD k D with
    | none => trivial
    | some y => exact ⟨⟨y, hf⟩, trivial⟩
  · simp only [hz, if_false]
    cases hf : findD k D with
    | none => exact ⟨hk hz, hl, trivial⟩
    | some y =>
      simp only
      split
      · trivial
      · exact ⟨hk hz, hl, trivial⟩
theorem apply_append (a b : List (ByteArray × Option (List ByteArray))) : ∀ D, applyD (a ++ b) D = applyD b (applyD a D) := by
  induction a with
  | nil => intro D; rfl
  | cons p r ih =>
    intro D
    obtain ⟨k, xo⟩ := p
    cases xo with
    | none => exact ih _
    | some x => exact ih _
theorem may_append (a b : List (ByteArray × Option (List ByteArray))) : ∀ D, MayD okL a D → MayD okL b (applyD a D) → MayD okL (a ++ b) D := by
  induction a with
  | nil => intro D _ h; exact h
  | cons p r ih =>
    intro D h1 h2
    obtain ⟨k, xo⟩ := p
    cases xo with
    | none => exact ⟨h1.1, ih _ h1.2 h2⟩
    | some x => exact ⟨h1.1, h1.2.1, ih _ h1.2.2 h2⟩
theorem xoL_some {zs : List ByteArray} (h : zs ≠ []) : some zs = xoL zs := (if_neg h).symm
/-- A law's world: the space as data, and that nothing that was there has turned. -/
structure LD (W0 w : World) (bS bM : Nat) (D : List (ByteArray × List ByteArray)) : Prop where
  sp : SPG KL okL w bS bM D
  below : Below W0.heap.size W0 w
  hS : W0.heap.size ≤ bS
  hM : W0.heap.size ≤ bM
theorem LD.step {W0 w w' : World} {bS bM : Nat} {D D' : List (ByteArray × List ByteArray)} (h : LD W0 w bS bM D) (hs : SPG KL okL w' bS bM D') (hK : Kp w.heap.size (fun i => i ≠ bS ∧ i ≠ bM) w w') : LD W0 w' bS bM D' :=
  ⟨hs, h.below.trans (hK.below (fun k hk => ⟨Nat.lt_of_lt_of_le hk (Below.size h.below), by have := h.hS; omega, by have := h.hM; omega⟩)), h.hS, h.hM⟩
theorem LD.old {W0 w w' : World} {bS bM : Nat} {D : List (ByteArray × List ByteArray)} (h : LD W0 w bS bM D) (hb : Below w.heap.size w w') : LD W0 w' bS bM D := h.step (SPG.below KL okL h.sp hb) (.of hb)
theorem SSl.lit (X : World) (xs : List ByteArray) (hn : xs.length ≤ 1000) : SSl (X.alloc (.cells (xs.map Value.string).toArray 9)) (.slice (some ⟨X.heap.size, 0, none⟩) xs.length xs.length) xs := by
  refine ⟨_, _, rfl, Nat.le_refl _, by unfold maxLen; omega, fun _ => ⟨X.heap.size, 0, rfl, by simp, fun i s hs => ?_⟩⟩
  rw [cell_of_row _ X.heap.size _ _ 9 (0, 0) (heap_alloc_new X _), Nat.zero_add]
  simp [hs]
/-- What a law's do leaves: its reply, the space. -/
def DoP (W0 : World) (bS bM : Nat) (D' : List (ByteArray × List ByteArray)) (k n : Int) (s : ByteArray) (R : Nat → World → Value → Prop) (w : World) (e : Ending) (w' : World) : Prop :=
  ∃ A m c, e = .returned (.agg #[.int .i64 k, .int .i64 n, .string s, .slice A m c]) ∧ R w.heap.size w' (.slice A m c) ∧ LD W0 w' bS bM D' ∧ Kp w.heap.size (fun i => i ≠ bS ∧ i ≠ bM) w w'
theorem d_plain (W0 : World) (RAW NAME : ByteArray) (F : FuncId) (bS bM : Nat) (D D' : List (ByteArray × List ByteArray)) (xs : List ByteArray) (vA : Value) (k n : Int) (s : ByteArray) (R : Nat → World → Value → Prop) (hR : RKeep R) (des : List (ByteArray × Option (List ByteArray))) (hm : MayD okL des D) (hD : applyD des D = D') (w : World) (hL : LD W0 w bS bM D) (hA : SSl w vA xs) (hx : xs[0]? = some RAW) (hfit : ∀ X, SSl X vA xs → Calls Tryz.prog 43 #[vA] X fun e w' => e = .returned (.int .i64 0) ∧ Below X.heap.size X w') (hup : ∀ X, Calls Tryz.prog 44 #[.string RAW] X fun e w' => e = .returned (.string NAME) ∧ Below X.heap.size X w')
    (hsel : ∀ (u1 u2 u3 u4 u5 u6 : Value), MapT.find NAME (flL u1 u2 u3 u4 u5 u6) = some (.func (.func F) #[] #[])) (hent : ∀ (args : Array Value) (w : World), (callFunc F args).run Tryz.prog w = .ok (.enter F args) w) (hF : ∀ X, Below w.heap.size w X → CmdD F #[] bS bM D 1 xs k n s R des X) :
    Calls Tryz.prog 6 #[.pointer (some ⟨bS, 0, none⟩), vA] w (DoP W0 bS bM D' k n s R w) := by
  refine (do_plain RAW NAME F bS bM D xs vA k n s R hR des hm w hL.sp hA hx hfit hup hsel hent hF).mono ?_
  rintro e w' ⟨A, m, c, rfl, h1, h2, h3⟩
  rw [hD] at h2
  exact ⟨A, m, c, rfl, h1, hL.step h2 h3, h3⟩
theorem d_LPUSH (W0 : World) (bS bM : Nat) (D : List (ByteArray × List ByteArray)) (k : ByteArray) (ts : List ByteArray) (hlen : ((findD k D).getD []).length + ts.length ≤ 31) (hne : ts ≠ []) (hok : okL k (pushT true ((findD k D).getD []) ts)) (hl : D.length < 4096) (vA : Value) (w : World) (hL : LD W0 w bS bM D) (hA : SSl w vA (⟨#[76, 80, 85, 83, 72]⟩ :: k :: ts)) : Calls Tryz.prog 6 #[.pointer (some ⟨bS, 0, none⟩), vA] w (DoP W0 bS bM (putD k (pushT true ((findD k D).getD []) ts) D) 3 (((findD k D).getD []).length + ts.length : Nat) ⟨#[]⟩ R0 w) := by
  have hz : pushT true ((findD k D).getD []) ts ≠ [] := hok.2.2.1
  refine (do_D ⟨#[76, 80, 85, 83, 72]⟩ ⟨#[76, 80, 85, 83, 72]⟩ bS bM D _ vA 3 (((findD k D).getD []).length + ts.length : Nat) ⟨#[]⟩ R0 R0.keep (dEff k (some (pushT true ((findD k D).getD []) ts)) D) (by rw [xoL_some hz]; exact may_eff k _ D (fun _ => hok) hl) w hL.sp hA rfl (fun X h => Fits_LPUSH _ _ rfl (by simp; have := List.length_pos_iff.2 hne; omega) X h) hu_LPUSH (fun W bm u1 u2 u3 u4 u5 u6 hW h1 h2 _ _ _ _ => ?_)).mono ?_
  · obtain ⟨p, q, rfl, _, _, hp, hq⟩ := h1
    exact ⟨15, _, sel_LPUSH _ _ _ _ _ _, ent_push, fun X hX => cPUSH true bS bM D 1 _ k ts hlen hne hok p q X (blk_below hp hX) (blk_below hq hX)⟩
  · rintro e w' ⟨A, m, c, rfl, h1, h2, h3⟩
    rw [xoL_some hz, apply_eff, setD, if_neg hz] at h2
    exact ⟨A, m, c, rfl, h1, hL.step h2 h3, h3⟩
theorem d_RPUSH (W0 : World) (bS bM : Nat) (D : List (ByteArray × List ByteArray)) (k : ByteArray) (ts : List ByteArray) (hlen : ((findD k D).getD []).length + ts.length ≤ 31) (hne : ts ≠ []) (hok : okL k (pushT false ((findD k D).getD []) ts)) (hl : D.length < 4096) (vA : Value) (w : World) (hL : LD W0 w bS bM D) (hA : SSl w vA (⟨#[82, 80, 85, 83, 72]⟩ :: k :: ts)) : Calls Tryz.prog 6 #[.pointer (some ⟨bS, 0, none⟩), vA] w (DoP W0 bS bM (putD k (pushT false ((findD k D).getD []) ts) D) 3 (((findD k D).getD []).length + ts.length : Nat) ⟨#[]⟩ R0 w) := by
  have hz : pushT false ((findD k D).getD []) ts ≠ [] := hok.2.2.1
  refine (do_D ⟨#[82, 80, 85, 83, 72]⟩ ⟨#[82, 80, 85, 83, 72]⟩ bS bM D _ vA 3 (((findD k D).getD []).length + ts.length : Nat) ⟨#[]⟩ R0 R0.keep (dEff k (some (pushT false ((findD k D).getD []) ts)) D) (by rw [xoL_some hz]; exact may_eff k _ D (fun _ => hok) hl) w hL.sp hA rfl (fun X h => Fits_RPUSH _ _ rfl (by simp; have := List.length_pos_iff.2 hne; omega) X h) hu_RPUSH (fun W bm u1 u2 u3 u4 u5 u6 hW h1 h2 _ _ _ _ => ?_)).mono ?_
  · obtain ⟨p, q, rfl, _, _, hp, hq⟩ := h2
    exact ⟨15, _, sel_RPUSH _ _ _ _ _ _, ent_push, fun X hX => cPUSH false bS bM D 1 _ k ts hlen hne hok p q X (blk_below hp hX) (blk_below hq hX)⟩
  · rintro e w' ⟨A, m, c, rfl, h1, h2, h3⟩
    rw [xoL_some hz, apply_eff, setD, if_neg hz] at h2
    exact ⟨A, m, c, rfl, h1, hL.step h2 h3, h3⟩
theorem d_LPOP (W0 : World) (bS bM : Nat) (D : List (ByteArray × List ByteArray)) (k : ByteArray) (ys : List ByteArray) (hf : findD k D = some ys) (s : ByteArray) (hs : ys[0]? = some s) (hl : D.length < 4096) (vA : Value) (w : World) (hL : LD W0 w bS bM D) (hA : SSl w vA [⟨#[76, 80, 79, 80]⟩, k]) : Calls Tryz.prog 6 #[.pointer (some ⟨bS, 0, none⟩), vA] w (DoP W0 bS bM (setD k (ys.eraseIdx (0)) D) 4 0 s R0 w) := by
  refine (do_D ⟨#[76, 80, 79, 80]⟩ ⟨#[76, 80, 79, 80]⟩ bS bM D _ vA 4 0 s R0 R0.keep (dEff k (xoL (ys.eraseIdx (0))) D) (may_eff k _ D (fun h => okL_erase (hL.sp.okOf hf) _ h) hl) w hL.sp hA rfl (fun X h => Fits_LPOP _ _ rfl (by simp) (by simp) X h) hu_LPOP (fun W bm u1 u2 u3 u4 u5 u6 hW _ _ _ _ h5 h6 => ?_)).mono ?_
  · obtain ⟨p, rfl, _, hp⟩ := h5
    exact ⟨18, _, sel_LPOP _ _ _ _ _ _, ent_pop, fun X hX => cPOP true bS bM D 1 _ k ys hf s hs p X (blk_below hp hX)⟩
  · rintro e w' ⟨A, m, c, rfl, h1, h2, h3⟩
    rw [apply_eff] at h2
    exact ⟨A, m, c, rfl, h1, hL.step h2 h3, h3⟩
theorem d_LPOP0 (W0 : World) (bS bM : Nat) (D : List (ByteArray × List ByteArray)) (k : ByteArray) (hf : findD k D = none) (vA : Value) (w : World) (hL : LD W0 w bS bM D) (hA : SSl w vA [⟨#[76, 80, 79, 80]⟩, k]) : Calls Tryz.prog 6 #[.pointer (some ⟨bS, 0, none⟩), vA] w (DoP W0 bS bM D 5 0 ⟨#[]⟩ R0 w) := by
  refine (do_D ⟨#[76, 80, 79, 80]⟩ ⟨#[76, 80, 79, 80]⟩ bS bM D _ vA 5 0 ⟨#[]⟩ R0 R0.keep [] trivial w hL.sp hA rfl (fun X h => Fits_LPOP _ _ rfl (by simp) (by simp) X h) hu_LPOP (fun W bm u1 u2 u3 u4 u5 u6 hW _ _ _ _ h5 h6 => ?_)).mono ?_
  · obtain ⟨p, rfl, _, hp⟩ := h5
    exact ⟨18, _, sel_LPOP _ _ _ _ _ _, ent_pop, fun X hX => cPOP0 true bS bM D 1 _ k hf p X (blk_below hp hX)⟩
  · rintro e w' ⟨A, m, c, rfl, h1, h2, h3⟩
    exact ⟨A, m, c, rfl, h1, hL.step h2 h3, h3⟩
theorem d_RPOP (W0 : World) (bS bM : Nat) (D : List (ByteArray × List ByteArray)) (k : ByteArray) (ys : List ByteArray) (hf : findD k D = some ys) (s : ByteArray) (hs : ys[ys.length - 1]? = some s) (hl : D.length < 4096) (vA : Value) (w : World) (hL : LD W0 w bS bM D) (hA : SSl w vA [⟨#[82, 80, 79, 80]⟩, k]) : Calls Tryz.prog 6 #[.pointer (some ⟨bS, 0, none⟩), vA] w (DoP W0 bS bM (setD k (ys.eraseIdx (ys.length - 1)) D) 4 0 s R0 w) := by
  refine (do_D ⟨#[82, 80, 79, 80]⟩ ⟨#[82, 80, 79, 80]⟩ bS bM D _ vA 4 0 s R0 R0.keep (dEff k (xoL (ys.eraseIdx (ys.length - 1))) D) (may_eff k _ D (fun h => okL_erase (hL.sp.okOf hf) _ h) hl) w hL.sp hA rfl (fun X h => Fits_RPOP _ _ rfl (by simp) (by simp) X h) hu_RPOP (fun W bm u1 u2 u3 u4 u5 u6 hW _ _ _ _ h5 h6 => ?_)).mono ?_
  · obtain ⟨p, rfl, _, hp⟩ := h6
    exact ⟨18, _, sel_RPOP _ _ _ _ _ _, ent_pop, fun X hX => cPOP false bS bM D 1 _ k ys hf s hs p X (blk_below hp hX)⟩
  · rintro e w' ⟨A, m, c, rfl, h1, h2, h3⟩
    rw [apply_eff] at h2
    exact ⟨A, m, c, rfl, h1, hL.step h2 h3, h3⟩
theorem d_RPOP0 (W0 : World) (bS bM : Nat) (D : List (ByteArray × List ByteArray)) (k : ByteArray) (hf : findD k D = none) (vA : Value) (w : World) (hL : LD W0 w bS bM D) (hA : SSl w vA [⟨#[82, 80, 79, 80]⟩, k]) : Calls Tryz.prog 6 #[.pointer (some ⟨bS, 0, none⟩), vA] w (DoP W0 bS bM D 5 0 ⟨#[]⟩ R0 w) := by
  refine (do_D ⟨#[82, 80, 79, 80]⟩ ⟨#[82, 80, 79, 80]⟩ bS bM D _ vA 5 0 ⟨#[]⟩ R0 R0.keep [] trivial w hL.sp hA rfl (fun X h => Fits_RPOP _ _ rfl (by simp) (by simp) X h) hu_RPOP (fun W bm u1 u2 u3 u4 u5 u6 hW _ _ _ _ h5 h6 => ?_)).mono ?_
  · obtain ⟨p, rfl, _, hp⟩ := h6
    exact ⟨18, _, sel_RPOP _ _ _ _ _ _, ent_pop, fun X hX => cPOP0 false bS bM D 1 _ k hf p X (blk_below hp hX)⟩
  · rintro e w' ⟨A, m, c, rfl, h1, h2, h3⟩
    exact ⟨A, m, c, rfl, h1, hL.step h2 h3, h3⟩
theorem d_LLEN (W0 : World) (bS bM : Nat) (D : List (ByteArray × List ByteArray)) (k : ByteArray) (vA : Value) (w : World) (hL : LD W0 w bS bM D) (hA : SSl w vA [⟨#[76, 76, 69, 78]⟩, k]) : Calls Tryz.prog 6 #[.pointer (some ⟨bS, 0, none⟩), vA] w (DoP W0 bS bM (D) 3 (((findD k D).getD []).length : Nat) ⟨#[]⟩ R0 w) :=
  d_plain W0 ⟨#[76, 76, 69, 78]⟩ ⟨#[76, 76, 69, 78]⟩ 21 bS bM D _ _ vA 3 (((findD k D).getD []).length : Nat) ⟨#[]⟩ _ R0.keep [] trivial rfl w hL hA rfl (fun X h => Fits_LLEN _ _ rfl (by simp) (by simp) X h) hu_LLEN (sel_LLEN) (ent_LLEN) (fun X hX => cLLEN bS bM D 1 _ k X)
theorem d_LINDEX (W0 : World) (bS bM : Nat) (D : List (ByteArray × List ByteArray)) (k : ByteArray) (a : ByteArray) (x : Int) (ha : a.size ≤ 100000) (hpa : parseI a.data.toList = some x) (hx : -1000000000 ≤ x ∧ x ≤ 1000000000) (m : Nat) (s : ByteArray) (ys : List ByteArray) (hys : (findD k D).getD [] = ys) (hn : ys.length ≤ 1000000) (hm : (0 ≤ x ∧ x < ys.length ∧ (m : Int) = x) ∨ (x < 0 ∧ -(ys.length : Int) ≤ x ∧ (m : Int) = x + ys.length)) (hs : ys[m]? = some s) (vA : Value) (w : World) (hL : LD W0 w bS bM D) (hA : SSl w vA [⟨#[76, 73, 78, 68, 69, 88]⟩, k, a]) : Calls Tryz.prog 6 #[.pointer (some ⟨bS, 0, none⟩), vA] w (DoP W0 bS bM (D) 4 0 s R0 w) :=
  d_plain W0 ⟨#[76, 73, 78, 68, 69, 88]⟩ ⟨#[76, 73, 78, 68, 69, 88]⟩ 22 bS bM D _ _ vA 4 0 s _ R0.keep [] trivial rfl w hL hA rfl (fun X h => Fits_LINDEX _ _ rfl (by simp) (by simp) X h) hu_LINDEX (sel_LINDEX) (ent_LINDEX) (fun X hX => cLINDEX bS bM D 1 _ k a x m s ha hpa hx ys hys hn hm hs X)
theorem d_LRANGE (W0 : World) (bS bM : Nat) (D : List (ByteArray × List ByteArray)) (k : ByteArray) (a : ByteArray) (x : Int) (ha : a.size ≤ 100000) (hpa : parseI a.data.toList = some x) (hx : -1000000000 ≤ x ∧ x ≤ 1000000000) (b : ByteArray) (y : Int) (hb : b.size ≤ 100000) (hpb : parseI b.data.toList = some y) (hy : -1000000000 ≤ y ∧ y ≤ 1000000000) (ys : List ByteArray) (hys : (findD k D).getD [] = ys) (hn : ys.length ≤ 1000) (vA : Value) (w : World) (hL : LD W0 w bS bM D) (hA : SSl w vA [⟨#[76, 82, 65, 78, 71, 69]⟩, k, a, b]) : Calls Tryz.prog 6 #[.pointer (some ⟨bS, 0, none⟩), vA] w (DoP W0 bS bM (D) 6 0 ⟨#[]⟩ (RO ((spanT x y ys).map some)) w) :=
  d_plain W0 ⟨#[76, 82, 65, 78, 71, 69]⟩ ⟨#[76, 82, 65, 78, 71, 69]⟩ 24 bS bM D _ _ vA 6 0 ⟨#[]⟩ _ (RO.keep _) [] trivial rfl w hL hA rfl (fun X h => Fits_LRANGE _ _ rfl (by simp) (by simp) X h) hu_LRANGE (sel_LRANGE) (ent_LRANGE) (fun X hX => cLRANGE bS bM D 1 _ k a b x y ha hpa hb hpb hx hy ys hys hn X)
theorem d_LTRIM (W0 : World) (bS bM : Nat) (D : List (ByteArray × List ByteArray)) (k : ByteArray) (a : ByteArray) (x : Int) (ha : a.size ≤ 100000) (hpa : parseI a.data.toList = some x) (hx : -1000000000 ≤ x ∧ x ≤ 1000000000) (b : ByteArray) (y : Int) (hb : b.size ≤ 100000) (hpb : parseI b.data.toList = some y) (hy : -1000000000 ≤ y ∧ y ≤ 1000000000) (ys : List ByteArray) (hf : findD k D = some ys) (hl : D.length < 4096) (vA : Value) (w : World) (hL : LD W0 w bS bM D) (hA : SSl w vA [⟨#[76, 84, 82, 73, 77]⟩, k, a, b]) : Calls Tryz.prog 6 #[.pointer (some ⟨bS, 0, none⟩), vA] w (DoP W0 bS bM (setD k (spanT x y ys) D) 1 0 ⟨#[79, 75]⟩ R0 w) :=
  d_plain W0 ⟨#[76, 84, 82, 73, 77]⟩ ⟨#[76, 84, 82, 73, 77]⟩ 25 bS bM D _ _ vA 1 0 ⟨#[79, 75]⟩ _ R0.keep _ (may_eff k _ D (fun h => okL_span x y (hL.sp.okOf hf) h) hl) (apply_eff k _ D) w hL hA rfl (fun X h => Fits_LTRIM _ _ rfl (by simp) (by simp) X h) hu_LTRIM (sel_LTRIM) (ent_LTRIM) (fun X hX => cLTRIM bS bM D 1 _ k a b x y ha hpa hb hpb hx hy ys hf X)
theorem d_LREM (W0 : World) (bS bM : Nat) (D : List (ByteArray × List ByteArray)) (k : ByteArray) (a : ByteArray) (x : Int) (ha : a.size ≤ 100000) (hpa : parseI a.data.toList = some x) (hx : -1000000000 ≤ x ∧ x ≤ 1000000000) (s : ByteArray) (ys : List ByteArray) (hf : findD k D = some ys) (hl : D.length < 4096) (vA : Value) (w : World) (hL : LD W0 w bS bM D) (hA : SSl w vA [⟨#[76, 82, 69, 77]⟩, k, a, s]) : Calls Tryz.prog 6 #[.pointer (some ⟨bS, 0, none⟩), vA] w (DoP W0 bS bM (setD k (remT x s ys) D) 3 (remF x s ys ys.length).1 ⟨#[]⟩ R0 w) :=
  d_plain W0 ⟨#[76, 82, 69, 77]⟩ ⟨#[76, 82, 69, 77]⟩ 26 bS bM D _ _ vA 3 (remF x s ys ys.length).1 ⟨#[]⟩ _ R0.keep _ (may_eff k _ D (fun h => okL_rem x s (hL.sp.okOf hf) h) hl) (apply_eff k _ D) w hL hA rfl (fun X h => Fits_LREM _ _ rfl (by simp) (by simp) X h) hu_LREM (sel_LREM) (ent_LREM) (fun X hX => cLREM bS bM D 1 _ k a s x ha hpa hx ys hf X)
theorem okL_set {k : ByteArray} {ys : List ByteArray} (m : Nat) (s : ByteArray) (h : okL k ys) (hs : s.size ≤ 4096) : okL k (ys.set m s) := by
  obtain ⟨h1, h2, h3, h4, h5⟩ := h
  refine ⟨h1, h2, by simpa using h3, by simpa using h4, fun t ht => ?_⟩
  rcases List.mem_or_eq_of_mem_set ht with h | rfl
  · exact h5 t h
  · exact hs
theorem apply_eff1 (k : ByteArray) (zs : List ByteArray) (D : List (ByteArray × List ByteArray)) (h : zs ≠ []) : applyD (dEff k (some zs) D) D = putD k zs D := by
  rw [xoL_some h, apply_eff, setD, if_neg h]
theorem may_eff1 (k : ByteArray) (zs : List ByteArray) (D : List (ByteArray × List ByteArray)) (hk : okL k zs) (hl : D.length < 4096) : MayD okL (dEff k (some zs) D) D := by
  rw [xoL_some hk.2.2.1]
  exact may_eff k zs D (fun _ => hk) hl
theorem eff_ne {k k2 : ByteArray} (h : k ≠ k2) (xo : Option (List ByteArray)) (zs : List ByteArray) (D : List (ByteArray × List ByteArray)) : dEff k2 xo D = dEff k2 xo (setD k zs D) := by
  have hf : findD k2 (setD k zs D) = findD k2 D := by
    unfold setD
    split
    · exact findD_delD_ne k k2 h D
    · rw [findD_putD, if_neg h]
  unfold dEff
  rw [hf]
theorem len_setD (k : ByteArray) (zs : List ByteArray) (D : List (ByteArray × List ByteArray)) : (setD k zs D).length ≤ D.length + 1 := by
  unfold setD
  split
  · exact Nat.le_succ_of_le (len_delD k D)
  · exact len_putD k zs D
theorem okL_turn {k : ByteArray} {ys : List ByteArray} {s : ByteArray} (hok : okL k ys) (hs : ys[ys.length - 1]? = some s) : okL k (s :: ys.eraseIdx (ys.length - 1)) := by
  obtain ⟨h1, h2, h3, h4, h5⟩ := hok
  have hpos := List.length_pos_iff.2 h3
  refine ⟨h1, h2, by simp, ?_, fun t ht => ?_⟩
  · rw [List.length_cons, List.length_eraseIdx_of_lt (by omega)]
    omega
  · rcases List.mem_cons.1 ht with rfl | ht
    · exact h5 t (List.mem_of_getElem? hs)
    · exact h5 t (List.mem_of_mem_eraseIdx ht)
theorem d_LSET (W0 : World) (bS bM : Nat) (D : List (ByteArray × List ByteArray)) (k : ByteArray) (a : ByteArray) (x : Int) (ha : a.size ≤ 100000) (hpa : parseI a.data.toList = some x) (hx : -1000000000 ≤ x ∧ x ≤ 1000000000) (s : ByteArray) (hs : s.size ≤ 4096) (ys : List ByteArray) (hf : findD k D = some ys) (hl : D.length < 4096) (m : Nat) (hm : (0 ≤ x ∧ x < ys.length ∧ (m : Int) = x) ∨ (x < 0 ∧ -(ys.length : Int) ≤ x ∧ (m : Int) = x + ys.length)) (vA : Value) (w : World) (hL : LD W0 w bS bM D) (hA : SSl w vA [⟨#[76, 83, 69, 84]⟩, k, a, s]) : Calls Tryz.prog 6 #[.pointer (some ⟨bS, 0, none⟩), vA] w (DoP W0 bS bM (putD k (ys.set m s) D) 1 0 ⟨#[79, 75]⟩ R0 w) :=
  d_plain W0 ⟨#[76, 83, 69, 84]⟩ ⟨#[76, 83, 69, 84]⟩ 23 bS bM D _ _ vA 1 0 ⟨#[79, 75]⟩ _ R0.keep _ (may_eff1 k _ D (okL_set m s (hL.sp.okOf hf) hs) hl) (apply_eff1 k _ D (okL_set m s (hL.sp.okOf hf) hs).2.2.1) w hL hA rfl (fun X h => Fits_LSET _ _ rfl (by simp) (by simp) X h) hu_LSET (sel_LSET) (ent_LSET) (fun X hX => cLSET bS bM D 1 _ k a s x ha hpa hx ys hf m hm hs X)
theorem d_LINSERT (W0 : World) (bS bM : Nat) (D : List (ByteArray × List ByteArray)) (k : ByteArray) (wh pv s : ByteArray) (hup : ∀ X, Calls Tryz.prog 44 #[.string wh] X fun e w' => e = .returned (.string ⟨#[65, 70, 84, 69, 82]⟩) ∧ Below X.heap.size X w') (ys : List ByteArray) (hf : findD k D = some ys) (hl : D.length < 4096) (m : Nat) (hm : ys[m]? = some pv) (hfirst : ∀ q t, q < m → ys[q]? = some t → t ≠ pv) (hn30 : ys.length + 1 ≤ 31) (hs : s.size ≤ 4096) (vA : Value) (w : World) (hL : LD W0 w bS bM D) (hA : SSl w vA [⟨#[76, 73, 78, 83, 69, 82, 84]⟩, k, wh, pv, s]) : Calls Tryz.prog 6 #[.pointer (some ⟨bS, 0, none⟩), vA] w (DoP W0 bS bM (putD k (insT (m + 1) s ys) D) 3 (ys.length + 1 : Nat) ⟨#[]⟩ R0 w) :=
  d_plain W0 ⟨#[76, 73, 78, 83, 69, 82, 84]⟩ ⟨#[76, 73, 78, 83, 69, 82, 84]⟩ 27 bS bM D _ _ vA 3 (ys.length + 1 : Nat) ⟨#[]⟩ _ R0.keep _ (may_eff1 k _ D (okL_ins (m + 1) s (hL.sp.okOf hf) (by have := (List.getElem?_eq_some_iff.1 hm).1; omega) hn30 hs) hl) (apply_eff1 k _ D (okL_ins (m + 1) s (hL.sp.okOf hf) (by have := (List.getElem?_eq_some_iff.1 hm).1; omega) hn30 hs).2.2.1) w hL hA rfl (fun X h => Fits_LINSERT _ _ rfl (by simp) (by simp) X h) hu_LINSERT (sel_LINSERT) (ent_LINSERT) (fun X hX => cLINSERT bS bM D 1 _ k wh pv s hup ys hf m hm hfirst hn30 hs X)
theorem d_TURN (W0 : World) (bS bM : Nat) (D : List (ByteArray × List ByteArray)) (k : ByteArray) (ys : List ByteArray) (hf : findD k D = some ys) (hl : D.length < 4096) (s : ByteArray) (hs : ys[ys.length - 1]? = some s) (vA : Value) (w : World) (hL : LD W0 w bS bM D) (hA : SSl w vA [⟨#[82, 80, 79, 80, 76, 80, 85, 83, 72]⟩, k, k]) : Calls Tryz.prog 6 #[.pointer (some ⟨bS, 0, none⟩), vA] w (DoP W0 bS bM (putD k (s :: ys.eraseIdx (ys.length - 1)) D) 4 0 s R0 w) :=
  d_plain W0 ⟨#[82, 80, 79, 80, 76, 80, 85, 83, 72]⟩ ⟨#[82, 80, 79, 80, 76, 80, 85, 83, 72]⟩ 28 bS bM D _ _ vA 4 0 s _ R0.keep _ (may_eff1 k _ D (okL_turn (hL.sp.okOf hf) hs) hl) (apply_eff1 k _ D (by simp)) w hL hA rfl (fun X h => Fits_RPOPLPUSH _ _ rfl (by simp) (by simp) X h) hu_RPOPLPUSH (sel_RPOPLPUSH) (ent_RPOPLPUSH) (fun X hX => cTURN bS bM D 1 _ k ys hf s hs X)
theorem d_OVER (W0 : World) (bS bM : Nat) (D : List (ByteArray × List ByteArray)) (k : ByteArray) (k2 : ByteArray) (hkk : k ≠ k2) (ys : List ByteArray) (hf : findD k D = some ys) (hl : D.length < 4095) (s : ByteArray) (hs : ys[ys.length - 1]? = some s) (hs2 : s.size ≤ 4096) (xs : List ByteArray) (hxs : (findD k2 D).getD [] = xs) (hok2 : okL k2 (s :: xs)) (vA : Value) (w : World) (hL : LD W0 w bS bM D) (hA : SSl w vA [⟨#[82, 80, 79, 80, 76, 80, 85, 83, 72]⟩, k, k2]) : Calls Tryz.prog 6 #[.pointer (some ⟨bS, 0, none⟩), vA] w (DoP W0 bS bM (putD k2 (s :: xs) (setD k (ys.eraseIdx (ys.length - 1)) D)) 4 0 s R0 w) :=
  d_plain W0 ⟨#[82, 80, 79, 80, 76, 80, 85, 83, 72]⟩ ⟨#[82, 80, 79, 80, 76, 80, 85, 83, 72]⟩ 28 bS bM D _ _ vA 4 0 s _ R0.keep _ (may_append _ _ D (may_eff k _ D (fun h => okL_erase (hL.sp.okOf hf) _ h) (by omega)) (by rw [apply_eff, eff_ne hkk _ (ys.eraseIdx (ys.length - 1))]; exact may_eff1 k2 _ _ hok2 (by have := len_setD k (ys.eraseIdx (ys.length - 1)) D; omega))) (by rw [apply_append, apply_eff, eff_ne hkk _ (ys.eraseIdx (ys.length - 1)), apply_eff1 k2 _ _ (by simp)]) w hL hA rfl (fun X h => Fits_RPOPLPUSH _ _ rfl (by simp) (by simp) X h) hu_RPOPLPUSH (sel_RPOPLPUSH) (ent_RPOPLPUSH) (fun X hX => cOVER bS bM D 1 _ k k2 hkk ys hf s hs hs2 hok2.1 hok2.2.1 xs hxs (by have := hok2.2.2.2.1; simpa using this) X)
theorem d_LSETf (W0 : World) (bS bM : Nat) (D : List (ByteArray × List ByteArray)) (k : ByteArray) (a : ByteArray) (x : Int) (ha : a.size ≤ 100000) (hpa : parseI a.data.toList = some x) (hx : -1000000000 ≤ x ∧ x ≤ 1000000000) (s : ByteArray) (ys : List ByteArray) (hf : findD k D = some ys) (hxl : (ys.length : Int) ≤ x) (vA : Value) (w : World) (hL : LD W0 w bS bM D) (hA : SSl w vA [⟨#[76, 83, 69, 84]⟩, k, a, s]) : Calls Tryz.prog 6 #[.pointer (some ⟨bS, 0, none⟩), vA] w fun e w' => e = .returned (.agg #[.int .i64 2, .int .i64 7, .string ⟨#[]⟩, .slice none 0 0]) ∧ LD W0 w' bS bM D ∧ Below w.heap.size w w' := by
  refine (do_failG bS vA 7 w (fun X hX => ?_)).mono ?_
  · obtain ⟨⟨l, hSP, hAE⟩, hall⟩ := SPG.below KL okL hL.sp hX
    exact Do_failL ⟨#[76, 83, 69, 84]⟩ ⟨#[76, 83, 69, 84]⟩ 23 bS bM l 1 _ vA 7 X hSP (hA.below hX) rfl (fun X h => Fits_LSET _ _ rfl (by simp) (by simp) X h) hu_LSET (sel_LSET) ent_LSET (fLSET X bS bM D l 1 _ k a s x ha hpa hx ys hf hxl (SPG.below KL okL hL.sp hX))
  · rintro e w' ⟨rfl, h1⟩
    exact ⟨rfl, hL.old h1, h1⟩
end Go.Proofs.YtjljljjmdlddkaaGreat
