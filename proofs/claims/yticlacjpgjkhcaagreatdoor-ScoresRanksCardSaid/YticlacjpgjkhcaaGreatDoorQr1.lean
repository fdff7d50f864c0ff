/- Texts joined: ZK, ZLr -/
import Derived.Test.YticlacjpgjkhcaaGreatDoorQm1
set_option linter.unusedVariables false
set_option linter.unusedSimpArgs false

/- The law ScoresRanks: what comes in; plain facts. -/
namespace Go.Proofs.YticlacjpgjkhcaaGreatDoor
open Go.ChangeShapes Go.WideShapes Go.ChangeAt Go.RowKit

/-- A slice of scores. -/
def SZl (w : World) (v : Value) (l : List (ByteArray × Int)) : Prop := ∃ A cap, v = .slice A l.length cap ∧ l.length ≤ cap ∧ cap ≤ maxLen ∧
  (l ≠ [] → ∃ blk off, A = some ⟨blk, off, none⟩ ∧ blk < w.heap.size ∧ ∀ (i : Nat) p, l[i]? = some p → w.cell? ⟨blk, off + i * 2, none⟩ = some (.string p.1) ∧ w.cell? ⟨blk, off + i * 2 + 1, none⟩ = some (.int .i64 p.2)) ∧ ∀ p ∈ l, I64 p.2
section
variable {H : Type} {enc : TypeId × Value → H} {W : World}
theorem SZl.of_trod {v : Value} {d : DataW H} {ps : List MemPlace} (h : DataW.Trod enc Tryz.prog W 0 (fun _ => true) true 48 v d ps) (hv : ∃ A n c, v = .slice A n c) : ∃ l, SZl W v l := by
  obtain ⟨A, n, c, rfl⟩ := hv
  obtain ⟨f, hm⟩ := h
  rcases Go.Deep.open_slice_pairs Tryz.underlying48 Tryz.underlying52 (by kernel_rfl) rfl rfl (by kernel_rfl) (by kernel_rfl) hm with ⟨hcs, _⟩ | ⟨a, len, cap, m, n', V0, V1, D0, D1, P0, P1, hcs, _, hl, hc, hs, _, hrow⟩
  · obtain ⟨rfl, rfl, rfl⟩ : A = none ∧ n = 0 ∧ c = 0 := by simpa [Value.cells] using hcs
    exact ⟨[], none, 0, rfl, Nat.le_refl _, Nat.zero_le _, fun h => absurd rfl h, fun p h => by cases h⟩
  · obtain ⟨rfl, rfl, rfl⟩ : A = some a ∧ n = len ∧ c = cap := by simpa [Value.cells] using hcs
    simp only [if_true] at hs
    subst hs
    have hr2 : ∀ i, i < m → ∃ p : ByteArray × Int, W.cell? (a.add (i * 2)) = some (.string p.1) ∧ W.cell? (a.add (i * 2 + 1)) = some (.int .i64 p.2) ∧ I64 p.2 := by
      intro i hi
      obtain ⟨h1, h2, h3, h4⟩ := hrow i hi
      obtain ⟨s, e1, _, _⟩ := DataW.trod_string Tryz.underlying9 h3
      obtain ⟨t, e2, _, h5⟩ := DataW.trod_int Tryz.underlying2 h4
      injection e1 with e1 _
      injection e2 with e2 _
      have h6 : (IntKind.i64.min ≤ t) ∧ t ≤ IntKind.i64.max := by simpa [Lit.wf] using h5
      exact ⟨(s, t), by rw [h1, e1], by rw [h2, e2], h6.1, h6.2⟩
    obtain ⟨X, hX⟩ : ∃ X : Nat → ByteArray × Int, ∀ i, i < m → W.cell? (a.add (i * 2)) = some (.string (X i).1) ∧ W.cell? (a.add (i * 2 + 1)) = some (.int .i64 (X i).2) ∧ I64 (X i).2 := by
      refine ⟨fun i => if h : i < m then (hr2 i h).choose else (⟨#[]⟩, 0), fun i hi => ?_⟩
      have := (hr2 i hi).choose_spec
      simp only [dif_pos hi]
      exact this
    have e : ((List.range n).map X).length = n := by simp
    refine ⟨(List.range n).map X, some a, m, by rw [e], by rw [e]; exact hl, hc, fun hne => ?_, fun p hp => ?_⟩
    · have hn : 0 < n := by
        rcases Nat.eq_zero_or_pos n with h | h
        · subst h; simp at hne
        · exact h
      have h00 : ∀ i, i < 1 → W.cell? (a.add i) = some ((fun _ : Nat => Value.string (X 0).1) i) := fun i hi => by
        obtain rfl : i = 0 := by omega
        exact (hX 0 (by omega)).1
      obtain ⟨b, off, rfl, hb, _⟩ := at_ofZ h00 (by decide)
      refine ⟨b, off, rfl, hb, fun i p hi => ?_⟩
      rw [List.getElem?_map] at hi
      obtain ⟨j, hj, rfl⟩ := Option.map_eq_some_iff.1 hi
      obtain ⟨hj1, hj2⟩ := List.getElem?_eq_some_iff.1 hj
      simp at hj1 hj2
      subst hj2
      have h9 := hX i (by omega)
      rw [Go.WideShapes.add_plain, Go.WideShapes.add_plain] at h9
      exact ⟨h9.1, by rw [Nat.add_assoc]; exact h9.2.1⟩
    · obtain ⟨j, hj, rfl⟩ := List.mem_map.1 hp
      exact (hX j (by have := List.mem_range.1 hj; omega)).2.2
end
/-- The law's scores, put one after another; the law's own map. -/
def nmR (l : List (ByteArray × Int)) (i : Nat) : ByteArray := ((l[i]?).getD (⟨#[]⟩, 0)).1
def vR (l : List (ByteArray × Int)) (i : Nat) : Int := ((l[i]?).getD (⟨#[]⟩, 0)).2
def fR (l : List (ByteArray × Int)) (i : Nat) : List (ByteArray × Int) := addZ (nmR l) (vR l) [] i
def eR (l : List (ByteArray × Int)) : Nat → List (ByteArray × Int)
  | 0 => []
  | i + 1 => putD (nmR l i) (vR l i) (eR l i)
theorem fR_bd (l : List (ByteArray × Int)) (hv : ∀ j, I64 (vR l j)) : ∀ i, i ≤ 12 → (∀ j, j < i → (nmR l j).size ≤ 50) → ZBd (fR l i)
  | 0, _, _ => ZBd.nil
  | i + 1, h, hn => by
    have ih := fR_bd l hv i (by omega) fun j hj => hn j (by omega)
    have h1 := addZ_len (nmR l) (vR l) [] (i + 1)
    refine ih.put _ _ (Nat.le_trans (hn i (by omega)) (by decide)) (hv i) ?_
    show (addZ (nmR l) (vR l) [] (i + 1)).length ≤ 12
    simp only [List.length_nil] at h1
    omega
theorem eR_nd (l : List (ByteArray × Int)) : ∀ i, (namesD (eR l i)).Nodup
  | 0 => List.nodup_nil
  | i + 1 => nd_putD (eR_nd l i)
theorem eR_find (l : List (ByteArray × Int)) (hv : ∀ j, I64 (vR l j)) (n : ByteArray) : ∀ i, i ≤ 12 → (∀ j, j < i → (nmR l j).size ≤ 50) → findD n (eR l i) = findD n (fR l i)
  | 0, _, _ => rfl
  | i + 1, h, hn => by
    have ih := eR_find l hv n i (by omega) fun j hj => hn j (by omega)
    have hb := fR_bd l hv i (by omega) fun j hj => hn j (by omega)
    show findD n (putD (nmR l i) (vR l i) (eR l i)) = findD n (putZ (nmR l i) (vR l i) (fR l i))
    rw [findD_putD, find_putZ n hb.ord hb.nd, ih]
theorem eR_len (l : List (ByteArray × Int)) (hv : ∀ j, I64 (vR l j)) (i : Nat) (h : i ≤ 12) (hn : ∀ j, j < i → (nmR l j).size ≤ 50) : (eR l i).length = (fR l i).length := by
  have hp := perm_names (eR_nd l i) (fR_bd l hv i h hn).nd fun n => eR_find l hv n i h hn
  have := hp.length_eq
  simpa [namesD] using this
theorem split_atZ {F : List (ByteArray × Int)} {i : Nat} {p : ByteArray × Int} (hp : F[i]? = some p) : F = F.take i ++ p :: F.drop (i + 1) ∧ (F.take i).length = i := by
  obtain ⟨hi, hh⟩ := List.getElem?_eq_some_iff.1 hp
  refine ⟨?_, by rw [List.length_take]; omega⟩
  conv => lhs; rw [← List.take_append_drop i F]
  rw [List.drop_eq_getElem_cons hi, hh]
/-- A name's rank is its place. -/
theorem rank_at {F : List (ByteArray × Int)} (h : Ord F) {i : Nat} {p : ByteArray × Int} (hp : F[i]? = some p) : rankZ p F = i := by
  obtain ⟨e, hl⟩ := split_atZ hp
  have h2 := h
  rw [e] at h2
  obtain ⟨_, h4, h5⟩ := h2.of_append
  have h6 := (List.pairwise_cons.1 h4).1
  have e2 : loZ p (F.take i ++ p :: F.drop (i + 1)) = F.take i := by
    unfold loZ
    rw [List.filter_append, List.filter_eq_self.2 fun q hq => h5 q hq p List.mem_cons_self, List.filter_eq_nil_iff.2 fun q hq => ?_, List.append_nil]
    rcases List.mem_cons.1 hq with rfl | hq
    · simp [ltZ_irrefl]
    · simp [ltZ_asymm (h6 q hq)]
  unfold rankZ
  rw [e, e2, hl]
/-- How many of the first ones fit. -/
def cntR (f : ByteArray × Int → Bool) (F : List (ByteArray × Int)) (i : Nat) : Nat := ((F.take i).filter f).length
theorem cntR_succ (f : ByteArray × Int → Bool) {F : List (ByteArray × Int)} {i : Nat} {p : ByteArray × Int} (hp : F[i]? = some p) : cntR f F (i + 1) = if f p = true then cntR f F i + 1 else cntR f F i := by
  unfold cntR
  rw [List.take_add_one, hp, Option.toList_some, List.filter_append, List.length_append]
  cases h : f p with
  | true => rw [if_pos rfl, List.filter_cons_of_pos h]; rfl
  | false => rw [if_neg (by decide), List.filter_cons_of_neg (by simp [h])]; rfl
theorem cntR_at (f : ByteArray × Int → Bool) {F : List (ByteArray × Int)} {i : Nat} {p : ByteArray × Int} (hp : F[i]? = some p) (h : f p = true) : (F.filter f)[cntR f F i]? = some p := by
  obtain ⟨e, _⟩ := split_atZ hp
  have e2 : F.filter f = (F.take i).filter f ++ p :: (F.drop (i + 1)).filter f := by
    conv => lhs; rw [e]
    rw [List.filter_append, List.filter_cons_of_pos h]
  rw [e2]
  unfold cntR
  rw [List.getElem?_append_right (Nat.le_refl _), Nat.sub_self]
  rfl
theorem cntR_all (f : ByteArray × Int → Bool) (F : List (ByteArray × Int)) : cntR f F F.length = (F.filter f).length := by
  unfold cntR
  rw [List.take_length]
theorem cntR_le (f : ByteArray × Int → Bool) (F : List (ByteArray × Int)) (i : Nat) : cntR f F i ≤ i := by
  unfold cntR
  exact Nat.le_trans (List.length_filter_le _ _) (by rw [List.length_take]; exact Nat.min_le_left _ _)
theorem ord_next {F : List (ByteArray × Int)} (h : Ord F) {i : Nat} {q p : ByteArray × Int} (hq : F[i]? = some q) (hp : F[i + 1]? = some p) : ltZ q p = true := by
  obtain ⟨g1, rfl⟩ := List.getElem?_eq_some_iff.1 hq
  obtain ⟨g2, rfl⟩ := List.getElem?_eq_some_iff.1 hp
  exact List.pairwise_iff_getElem.1 h i (i + 1) g1 g2 (by omega)
theorem find_atZ {F : List (ByteArray × Int)} (h : (namesD F).Nodup) {i : Nat} {p : ByteArray × Int} (hp : F[i]? = some p) : findD p.1 F = some p.2 := find_memZ h (List.mem_of_getElem? hp)
theorem rev_atZ {F : List (ByteArray × Int)} {n i : Nat} {p : ByteArray × Int} (hn : F.length = n) (hp : F[i]? = some p) : ((F.map Prod.fst).reverse.map some)[n - 1 - i]? = some (some p.1) := by
  have hi := (List.getElem?_eq_some_iff.1 hp).1
  rw [List.getElem?_map, List.getElem?_reverse (by rw [List.length_map]; omega), List.length_map, hn, show n - 1 - (n - 1 - i) = i by omega, List.getElem?_map, hp]
  rfl
theorem drop_atZ {F : List (ByteArray × Int)} {i : Nat} {p : ByteArray × Int} (hp : F[i]? = some p) : F.drop i = p :: F.drop (i + 1) := by
  obtain ⟨hi, hh⟩ := List.getElem?_eq_some_iff.1 hp
  rw [List.drop_eq_getElem_cons hi, hh]
theorem del_headZ (p : ByteArray × Int) (T : List (ByteArray × Int)) : delD p.1 (p :: T) = T := if_pos rfl
end Go.Proofs.YticlacjpgjkhcaaGreatDoor

/- The commands of the law ScoresRanks with written arguments. -/
namespace Go.Proofs.YticlacjpgjkhcaaGreatDoor
open Go.ChangeShapes Go.WideShapes Go.ChangeAt Go.RowKit

theorem l_zrev (W0 : World) (bS bM : Nat) (hT : TZ W0) (F : List (ByteArray × Int)) (hne : F ≠ []) (X : World) (hL : LDZ W0 X bS bM (dZ F)) (q : Nat) (hq : X.heap.size = q) : Calls Tryz.prog 17 #[.pointer (some ⟨bS, 0, none⟩), .slice (some ⟨q, 0, none⟩) 4 4] (X.alloc (.cells #[.string ⟨#[90, 82, 69, 86, 82, 65, 78, 71, 69]⟩, .string ⟨#[107]⟩, .string ⟨#[48]⟩, .string ⟨#[45, 49]⟩] 9)) fun e w' => ∃ A m c, e = .returned (.agg #[.int .i64 6, .int .i64 0, .string ⟨#[]⟩, .slice A m c]) ∧ (RO ((F.map Prod.fst).reverse.map some)) X.heap.size w' (.slice A m c) ∧ LDZ W0 w' bS bM (dZ F) ∧ Kp X.heap.size (fun i => i ≠ bS ∧ i ≠ bM) X w' := by
  subst hq
  exact litR (RO.keep _) X hL [⟨#[90, 82, 69, 86, 82, 65, 78, 71, 69]⟩, ⟨#[107]⟩, ⟨#[48]⟩, ⟨#[45, 49]⟩] (by simp) (fun vA w h hA => d_ZREVRANGE W0 bS bM hT F hne vA w h hA) rfl rfl rfl
theorem l_zby (W0 : World) (bS bM : Nat) (hT : TZ W0) (F : List (ByteArray × Int)) (lo hi : Int) (hlo : I64 lo) (hhi : I64 hi) (X : World) (hL : LDZ W0 X bS bM (dZ F)) (q : Nat) (hq : X.heap.size = q) : Calls Tryz.prog 17 #[.pointer (some ⟨bS, 0, none⟩), .slice (some ⟨q, 0, none⟩) 4 4] (X.alloc (.cells #[.string ⟨#[90, 82, 65, 78, 71, 69, 66, 89, 83, 67, 79, 82, 69]⟩, .string ⟨#[107]⟩, .string (numT lo), .string (numT hi)] 9)) fun e w' => ∃ A m c, e = .returned (.agg #[.int .i64 6, .int .i64 0, .string ⟨#[]⟩, .slice A m c]) ∧ (RO (((btZ lo hi F).map Prod.fst).map some)) X.heap.size w' (.slice A m c) ∧ LDZ W0 w' bS bM (dZ F) ∧ Kp X.heap.size (fun i => i ≠ bS ∧ i ≠ bM) X w' := by
  subst hq
  exact litR (RO.keep _) X hL [⟨#[90, 82, 65, 78, 71, 69, 66, 89, 83, 67, 79, 82, 69]⟩, ⟨#[107]⟩, numT lo, numT hi] (by simp) (fun vA w h hA => d_ZRANGEBYSCORE W0 bS bM hT F (numT lo) (numT hi) lo hi (numZ lo hlo) (parse_numT lo hlo) (numZ hi hhi) (parse_numT hi hhi) vA w h hA) rfl rfl rfl
theorem l_zcount (W0 : World) (bS bM : Nat) (hT : TZ W0) (F : List (ByteArray × Int)) (lo hi : Int) (hlo : I64 lo) (hhi : I64 hi) (n : Int) (hn : ((btZ lo hi F).length : Int) = n) (X : World) (hL : LDZ W0 X bS bM (dZ F)) (q : Nat) (hq : X.heap.size = q) : Calls Tryz.prog 17 #[.pointer (some ⟨bS, 0, none⟩), .slice (some ⟨q, 0, none⟩) 4 4] (X.alloc (.cells #[.string ⟨#[90, 67, 79, 85, 78, 84]⟩, .string ⟨#[107]⟩, .string (numT lo), .string (numT hi)] 9)) fun e w' => e = .returned (.agg #[.int .i64 3, .int .i64 n, .string ⟨#[]⟩, .slice none 0 0]) ∧ LDZ W0 w' bS bM (dZ F) ∧ Kp X.heap.size (fun i => i ≠ bS ∧ i ≠ bM) X w' := by
  subst hq
  exact lit0 X hL [⟨#[90, 67, 79, 85, 78, 84]⟩, ⟨#[107]⟩, numT lo, numT hi] (by simp) (fun vA w h hA => d_ZCOUNT W0 bS bM hT F (numT lo) (numT hi) lo hi (numZ lo hlo) (parse_numT lo hlo) (numZ hi hhi) (parse_numT hi hhi) vA w h hA) rfl hn rfl
theorem l_zcard (W0 : World) (bS bM : Nat) (hT : TZ W0) (F : List (ByteArray × Int)) (n : Int) (hn : (F.length : Int) = n) (X : World) (hL : LDZ W0 X bS bM (dZ F)) (q : Nat) (hq : X.heap.size = q) : Calls Tryz.prog 17 #[.pointer (some ⟨bS, 0, none⟩), .slice (some ⟨q, 0, none⟩) 2 2] (X.alloc (.cells #[.string ⟨#[90, 67, 65, 82, 68]⟩, .string ⟨#[107]⟩] 9)) fun e w' => e = .returned (.agg #[.int .i64 3, .int .i64 n, .string ⟨#[]⟩, .slice none 0 0]) ∧ LDZ W0 w' bS bM (dZ F) ∧ Kp X.heap.size (fun i => i ≠ bS ∧ i ≠ bM) X w' := by
  subst hq
  exact lit0 X hL [⟨#[90, 67, 65, 82, 68]⟩, ⟨#[107]⟩] (by simp) (fun vA w h hA => d_ZCARD W0 bS bM hT F vA w h hA) rfl hn rfl
theorem l_zrank (W0 : World) (bS bM : Nat) (hT : TZ W0) (F : List (ByteArray × Int)) (nm : ByteArray) (s : Int) (hfn : findD nm F = some s) (n : Int) (hn : ((rankZ (nm, s) F : Nat) : Int) = n) (X : World) (hL : LDZ W0 X bS bM (dZ F)) (q : Nat) (hq : X.heap.size = q) : Calls Tryz.prog 17 #[.pointer (some ⟨bS, 0, none⟩), .slice (some ⟨q, 0, none⟩) 3 3] (X.alloc (.cells #[.string ⟨#[90, 82, 65, 78, 75]⟩, .string ⟨#[107]⟩, .string nm] 9)) fun e w' => e = .returned (.agg #[.int .i64 3, .int .i64 n, .string ⟨#[]⟩, .slice none 0 0]) ∧ LDZ W0 w' bS bM (dZ F) ∧ Kp X.heap.size (fun i => i ≠ bS ∧ i ≠ bM) X w' := by
  subst hq
  exact lit0 X hL [⟨#[90, 82, 65, 78, 75]⟩, ⟨#[107]⟩, nm] (by simp) (fun vA w h hA => d_ZRANK W0 bS bM hT F nm s hfn vA w h hA) rfl hn rfl
theorem l_zrevrank (W0 : World) (bS bM : Nat) (hT : TZ W0) (F : List (ByteArray × Int)) (nm : ByteArray) (s : Int) (hfn : findD nm F = some s) (n : Int) (hn : (F.length - 1 - (rankZ (nm, s) F : Nat) : Int) = n) (X : World) (hL : LDZ W0 X bS bM (dZ F)) (q : Nat) (hq : X.heap.size = q) : Calls Tryz.prog 17 #[.pointer (some ⟨bS, 0, none⟩), .slice (some ⟨q, 0, none⟩) 3 3] (X.alloc (.cells #[.string ⟨#[90, 82, 69, 86, 82, 65, 78, 75]⟩, .string ⟨#[107]⟩, .string nm] 9)) fun e w' => e = .returned (.agg #[.int .i64 3, .int .i64 n, .string ⟨#[]⟩, .slice none 0 0]) ∧ LDZ W0 w' bS bM (dZ F) ∧ Kp X.heap.size (fun i => i ≠ bS ∧ i ≠ bM) X w' := by
  subst hq
  exact lit0 X hL [⟨#[90, 82, 69, 86, 82, 65, 78, 75]⟩, ⟨#[107]⟩, nm] (by simp) (fun vA w h hA => d_ZREVRANK W0 bS bM hT F nm s hfn vA w h hA) rfl hn rfl
theorem l_zpop (W0 : World) (bS bM : Nat) (hT : TZ W0) (F : List (ByteArray × Int)) (p : ByteArray × Int) (T : List (ByteArray × Int)) (hFp : F = p :: T) (hb : ZBd F) (X : World) (hL : LDZ W0 X bS bM (dZ F)) (q : Nat) (hq : X.heap.size = q) : Calls Tryz.prog 17 #[.pointer (some ⟨bS, 0, none⟩), .slice (some ⟨q, 0, none⟩) 2 2] (X.alloc (.cells #[.string ⟨#[90, 80, 79, 80, 77, 73, 78]⟩, .string ⟨#[107]⟩] 9)) fun e w' => ∃ A m c, e = .returned (.agg #[.int .i64 6, .int .i64 0, .string ⟨#[]⟩, .slice A m c]) ∧ (RO [some p.1, some (numT p.2)]) X.heap.size w' (.slice A m c) ∧ LDZ W0 w' bS bM (dZ T) ∧ Kp X.heap.size (fun i => i ≠ bS ∧ i ≠ bM) X w' := by
  subst hq
  exact litR (RO.keep _) X hL [⟨#[90, 80, 79, 80, 77, 73, 78]⟩, ⟨#[107]⟩] (by simp) (fun vA w h hA => d_ZPOPMIN W0 bS bM hT F p T hFp hb vA w h hA) (by rw [hFp, del_headZ]) rfl rfl
/-- A block of the law's own that is no row of scores has turned: the space stays. -/
theorem LD.farG {W0 w w' : World} {bS bM b : Nat} {D : List (ByteArray × List (ByteArray × Int))} (h : LD KS okS W0 w bS bM D) (h1 : bS ≠ b) (h2 : bM ≠ b) (h3 : ∀ cs, w.heap[b]? ≠ some (.cells cs 52)) (hk : ∀ i, i ≠ b → w'.heap[i]? = w.heap[i]?) (hB : Below W0.heap.size W0 w') : LD KS okS W0 w' bS bM D := by
  obtain ⟨⟨⟨l, h5, h4⟩, h9⟩, _, h6, h7⟩ := h
  refine ⟨⟨⟨l, h5.kept (hk bS h1) (hk bM h2), AllE.kept2 KS (fun x a b9 d e hv g hg => ?_) h4⟩, h9⟩, hB, h6, h7⟩
  obtain ⟨k1, _, rfl, rfl, rfl⟩ := hv
  rcases hg with hg | hg | hg | hg
  · cases hg
  · cases hg
  · obtain ⟨cs9, hc⟩ := row_typ k1 g hg
    refine hk g fun e => ?_
    subst e
    exact h3 _ hc
  · cases hg
/-- What the law ScoresRanks holds of the world behind its first loop: the space, its own map, three replies. -/
structure RK (w : World) (bS bM hm : Nat) (E : List (ByteArray × Int)) (R1 R2 R3 : List (Option ByteArray)) (b1 b2 b3 : Nat) (A1 A2 A3 : Option Addr) (c1 c2 c3 n1 n2 n3 : Nat) (D : List (ByteArray × List (ByteArray × Int))) (X : World) : Prop where
  ld : LDZ w X bS bM D
  ne : hm ≠ bS ∧ hm ≠ bM
  mb : MapT.MB X hm (E.map fun p => (p.1, .int .i64 p.2))
  k1 : X.heap[b1]? = some (.cells #[.int .i64 6, .int .i64 0, .string ⟨#[]⟩, .slice A1 n1 c1] 29)
  r1 : RO R1 0 X (.slice A1 n1 c1)
  k2 : X.heap[b2]? = some (.cells #[.int .i64 6, .int .i64 0, .string ⟨#[]⟩, .slice A2 n2 c2] 29)
  r2 : RO R2 0 X (.slice A2 n2 c2)
  k3 : X.heap[b3]? = some (.cells #[.int .i64 6, .int .i64 0, .string ⟨#[]⟩, .slice A3 n3 c3] 29)
  r3 : RO R3 0 X (.slice A3 n3 c3)
theorem MB_lt {X : World} {b : Nat} {l : MapT.Ents} (h : MapT.MB X b l) : b < X.heap.size := by
  obtain ⟨es, cl, g, _⟩ := h
  exact (Array.getElem?_eq_some_iff.1 g).1
theorem MB_at {X Y : World} {b : Nat} {l : MapT.Ents} (h : MapT.MB X b l) (hb : Y.heap[b]? = X.heap[b]?) : MapT.MB Y b l := h.kept hb
theorem RK.below {w X Y : World} {bS bM hm : Nat} {E : List (ByteArray × Int)} {R1 R2 R3 : List (Option ByteArray)} {b1 b2 b3 : Nat} {A1 A2 A3 : Option Addr} {c1 c2 c3 n1 n2 n3 : Nat} {D : List (ByteArray × List (ByteArray × Int))} (h : RK w bS bM hm E R1 R2 R3 b1 b2 b3 A1 A2 A3 c1 c2 c3 n1 n2 n3 D X) (hb : Below X.heap.size X Y) : RK w bS bM hm E R1 R2 R3 b1 b2 b3 A1 A2 A3 c1 c2 c3 n1 n2 n3 D Y :=
  ⟨h.ld.old hb, h.ne, MB_at h.mb (hb.block _ (MB_lt h.mb)), blk_below h.k1 hb, h.r1.below hb, blk_below h.k2 hb, h.r2.below hb, blk_below h.k3 hb, h.r3.below hb⟩
theorem RK.call {w X Y : World} {bS bM hm : Nat} {E : List (ByteArray × Int)} {R1 R2 R3 : List (Option ByteArray)} {b1 b2 b3 : Nat} {A1 A2 A3 : Option Addr} {c1 c2 c3 n1 n2 n3 : Nat} {D D' : List (ByteArray × List (ByteArray × Int))} (h : RK w bS bM hm E R1 R2 R3 b1 b2 b3 A1 A2 A3 c1 c2 c3 n1 n2 n3 D X) (hK : Kp X.heap.size (fun i => i ≠ bS ∧ i ≠ bM) X Y) (hL : LDZ w Y bS bM D') : RK w bS bM hm E R1 R2 R3 b1 b2 b3 A1 A2 A3 c1 c2 c3 n1 n2 n3 D' Y :=
  ⟨hL, h.ne, MB_at h.mb (hK.block _ (MB_lt h.mb) h.ne), keepL hK h.ld h.k1 (by decide), RO.keepD hK h.ld h.r1, keepL hK h.ld h.k2 (by decide), RO.keepD hK h.ld h.r2, keepL hK h.ld h.k3 (by decide), RO.keepD hK h.ld h.r3⟩
end Go.Proofs.YticlacjpgjkhcaaGreatDoor
