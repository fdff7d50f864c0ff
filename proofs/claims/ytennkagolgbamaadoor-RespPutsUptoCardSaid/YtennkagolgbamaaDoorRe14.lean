/- The walk of the law RespMany. -/
import Derived.Test.YtennkagolgbamaaDoorRe13
namespace Go.Proofs.YtennkagolgbamaaDoor
open Go.ChangeShapes Go.WideShapes Go.ChangeAt Go.RowKit Go.Resp

theorem row_cell {W : World} {base : Nat} {a : Addr} {cs : List Value} (h : W.cells? base a 1 = some cs) : ∃ u, W.cell? a = some u ∧ cs = [u] := by
  obtain ⟨h1, h2, h3⟩ := World.cells?_some h
  match cs, h2 with
  | [u], _ =>
    refine ⟨u, ?_, rfl⟩
    have := h3 0 (by simp)
    obtain ⟨b, off, spot⟩ := a
    simpa [Addr.add] using this
/-- A slice of slices of texts. -/
def RSl (w : World) (v : Value) (xss : List (List ByteArray)) : Prop := ∃ A cap, v = .slice A xss.length cap ∧ xss.length ≤ cap ∧ cap ≤ maxLen ∧
  (xss ≠ [] → ∃ blk off, A = some ⟨blk, off, none⟩ ∧ blk < w.heap.size ∧ ∀ i xs, xss[i]? = some xs → ∃ u, w.cell? ⟨blk, off + i, none⟩ = some u ∧ SSl w u xs)
theorem RSl.of_trod {H : Type} {enc : TypeId × Value → H} {W : World} {v : Value} {d : DataW H} {ps : List MemPlace} (h : DataW.Trod enc Tryd.prog W 0 (fun _ => true) true 46 v d ps) (hv : ∃ A n c, v = .slice A n c) : ∃ xss, RSl W v xss := by
  obtain ⟨A, n, c, rfl⟩ := hv
  obtain ⟨f, hm⟩ := h
  have hc1 : Tryd.prog.cellsOf 32 = 1 := by kernel_rfl
  rcases Go.Deep.open_slice Tryd.underlying46 hm with ⟨hcs, _⟩ | ⟨a, len, cap, m, n', D, Pl, hcs, _, hl, hc, hs, _, hrow⟩
  · obtain ⟨rfl, rfl, rfl⟩ : A = none ∧ n = 0 ∧ c = 0 := by simpa [Value.cells] using hcs
    exact ⟨[], none, 0, rfl, Nat.le_refl _, Nat.zero_le _, fun h => absurd rfl h⟩
  · obtain ⟨rfl, rfl, rfl⟩ : A = some a ∧ n = len ∧ c = cap := by simpa [Value.cells] using hcs
    simp only [if_true] at hs
    subst hs
    rw [hc1] at hrow
    have hr2 : ∀ i, i < m → ∃ u xs, W.cell? (a.add i) = some u ∧ SSl W u xs := by
      intro i hi
      obtain ⟨cs', h1, h2⟩ := hrow i hi
      rw [Nat.mul_one] at h1
      obtain ⟨u, hu, rfl⟩ := row_cell h1
      have hsh : ∃ A n c, u = .slice A n c := by
        rcases open_strings Tryd.underlying32 Tryd.underlying9 (by kernel_rfl) h2 with ⟨hcs, _⟩ | ⟨a, len, cap, ss, hcs, _⟩
        · injection hcs with h _; exact ⟨_, _, _, h⟩
        · injection hcs with h _; exact ⟨_, _, _, h⟩
      obtain ⟨A, n, c, rfl⟩ := hsh
      obtain ⟨xs, hxs⟩ := SSl.of_trod (H := H) (enc := enc) (d := D i) (ps := Pl i) ⟨n', by simpa [Value.cells] using h2⟩ ⟨A, n, c, rfl⟩
      exact ⟨_, xs, hu, hxs⟩
    obtain ⟨U, hU⟩ : ∃ U : Nat → Value, ∀ i, i < m → ∃ xs, W.cell? (a.add i) = some (U i) ∧ SSl W (U i) xs := by
      refine ⟨fun i => if h : i < m then (hr2 i h).choose else Value.bool false, fun i hi => ?_⟩
      have := (hr2 i hi).choose_spec
      simp only [dif_pos hi]
      exact this
    obtain ⟨X, hX⟩ : ∃ X : Nat → List ByteArray, ∀ i, i < m → W.cell? (a.add i) = some (U i) ∧ SSl W (U i) (X i) := by
      refine ⟨fun i => if h : i < m then (hU i h).choose else [], fun i hi => ?_⟩
      have := (hU i hi).choose_spec
      simp only [dif_pos hi]
      exact this
    have e : ((List.range n).map X).length = n := by simp
    refine ⟨(List.range n).map X, some a, m, by rw [e], by rw [e]; exact hl, hc, fun hne => ?_⟩
    have hn : 0 < n := by
      rcases Nat.eq_zero_or_pos n with h | h
      · subst h; simp at hne
      · exact h
    obtain ⟨b, off, rfl, hb, hcell'⟩ := at_of (fun i hi => (hX i hi).1) (by omega)
    refine ⟨b, off, rfl, hb, fun i xs hi => ?_⟩
    rw [List.getElem?_map] at hi
    obtain ⟨j, hj, rfl⟩ := Option.map_eq_some_iff.1 hi
    obtain ⟨hj1, hj2⟩ := List.getElem?_eq_some_iff.1 hj
    simp at hj1 hj2
    subst hj2
    exact ⟨_, hcell' i (by omega), (hX i (by omega)).2⟩
theorem RSl.below {w w' : World} {v : Value} {xss : List (List ByteArray)} (h : RSl w v xss) (hb : Below w.heap.size w w') : RSl w' v xss := by
  obtain ⟨A, cap, h1, h2, h3, h4⟩ := h
  refine ⟨A, cap, h1, h2, h3, fun hne => ?_⟩
  obtain ⟨blk, off, h5, h6, h7⟩ := h4 hne
  have := Below.size hb
  refine ⟨blk, off, h5, by omega, fun i s hs => ?_⟩
  obtain ⟨u, hu, hx⟩ := h7 i s hs
  exact ⟨u, (hb.cell (p := ⟨blk, off + i, none⟩) h6).trans hu, hx.below hb⟩
def allF (xss : List (List ByteArray)) : List UInt8 := xss.flatMap frameL
def okB (xs : List ByteArray) : Bool := fewB xs && !xs.isEmpty
theorem okB_few {xs : List ByteArray} (h : okB xs = true) : fewB xs = true ∧ xs ≠ [] := by
  unfold okB at h
  rw [Bool.and_eq_true] at h
  refine ⟨h.1, fun e => ?_⟩
  subst e
  simp at h
theorem allF_len : ∀ (xss : List (List ByteArray)), (∀ xs ∈ xss, okB xs = true) → (allF xss).length ≤ 7000 * xss.length := by
  intro xss
  induction xss with
  | nil => intro _; simp [allF]
  | cons x r ih =>
    intro h
    have h1 := ih (fun y hy => h y (by simp [hy]))
    have h2 := few_len x (okB_few (h x (by simp))).1
    unfold allF at h1 ⊢
    rw [List.flatMap_cons, List.length_append, List.length_cons]
    omega
theorem BSl.drop {w : World} {A : Option Addr} {blk off n c : Nat} {l : List UInt8} (hA : A = some ⟨blk, off, none⟩) (h : BSl w (.slice A n c) l) (k : Nat) (hk : k ≤ n) : BSl w (.slice (if c = k then some ⟨blk, off, none⟩ else some ⟨blk, off + k, none⟩) (n - k) (c - k)) (l.drop k) := by
  obtain ⟨A', cap, h1, h2, h3, h4⟩ := h
  injection h1 with e1 e2 e3
  subst e1 e2 e3
  refine ⟨_, _, by rw [List.length_drop], by rw [List.length_drop]; omega, by omega, fun hne => ?_⟩
  have hlt : k < l.length := by
    rcases Nat.lt_or_ge k l.length with g | g
    · exact g
    · rw [List.drop_of_length_le g] at hne; exact absurd rfl hne
  obtain ⟨blk', off', h5, h6, h7⟩ := h4 (by intro e2; subst e2; simp at hlt)
  rw [hA] at h5
  injection h5 with h5
  injection h5 with h5 h8
  subst h5 h8
  rw [if_neg (by omega)]
  refine ⟨blk, off + k, rfl, h6, fun i c hc => ?_⟩
  rw [List.getElem?_drop] at hc
  rw [Nat.add_assoc]
  exact h7 (k + i) c hc
end Go.Proofs.YtennkagolgbamaaDoor
