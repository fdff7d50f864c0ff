/- plane.Sum over points at whole numbers. -/
import Derived.Test.YtlgfgjcbdnnhfaaDoorPl2
import Derived.Deep.MidRow
import Derived.Below
namespace Go.Proofs.YtlgfgjcbdnnhfaaDoor
open Go.ChangeShapes Go.WideShapes Go.ChangeAt Go.RowKit Go.Fl

/-- A point's two cells. -/
def ptC (x y : Int) : List Value := [.string ⟨#[]⟩, .complex .f64 (fi x) (fi y)]
/-- A row of points. -/
def PSl (w : World) (v : Value) (ps : List (Int × Int)) : Prop := ∃ A cap, v = .slice A ps.length cap ∧ ps.length ≤ cap ∧ cap ≤ maxLen ∧
  (ps ≠ [] → ∃ blk, A = some ⟨blk, 0, none⟩ ∧ blk < w.heap.size ∧ ∀ i x y, ps[i]? = some (x, y) → w.rangeAt blk (0 + i * 2) (ptC x y))
def sumX (ps : List (Int × Int)) : Int := (ps.map (·.1)).sum
def sumY (ps : List (Int × Int)) : Int := (ps.map (·.2)).sum
/-- Every part is within 1,000 and there are no more than 20. -/
def FewP (ps : List (Int × Int)) : Prop := ps.length ≤ 20 ∧ ∀ x y, (x, y) ∈ ps → (-1000 ≤ x ∧ x ≤ 1000) ∧ (-1000 ≤ y ∧ y ≤ 1000)
theorem sum_small (l : List Int) (h : ∀ x ∈ l, -1000 ≤ x ∧ x ≤ 1000) : -1000 * (l.length : Int) ≤ l.sum ∧ l.sum ≤ 1000 * (l.length : Int) := by
  induction l with
  | nil => simp
  | cons a r ih =>
    have h1 := ih (fun x hx => h x (by simp [hx]))
    have h2 := h a (by simp)
    rw [List.sum_cons, List.length_cons]
    omega
theorem FewP.take {ps : List (Int × Int)} (h : FewP ps) (k : Nat) (hk : k ≤ 20) : okI (sumX (ps.take k)) = true ∧ okI (sumY (ps.take k)) = true := by
  have hl : (ps.take k).length ≤ 20 := by rw [List.length_take]; omega
  have h1 := sum_small ((ps.take k).map (·.1)) (fun x hx => by
    obtain ⟨p, hp, rfl⟩ := List.mem_map.1 hx
    exact (h.2 p.1 p.2 (List.mem_of_mem_take hp)).1)
  have h2 := sum_small ((ps.take k).map (·.2)) (fun x hx => by
    obtain ⟨p, hp, rfl⟩ := List.mem_map.1 hx
    exact (h.2 p.1 p.2 (List.mem_of_mem_take hp)).2)
  rw [List.length_map] at h1 h2
  unfold okI sumX sumY
  exact ⟨decide_eq_true (by omega), decide_eq_true (by omega)⟩
theorem sum_rev (l : List Int) : l.reverse.sum = l.sum := by
  induction l with
  | nil => rfl
  | cons a r ih => rw [List.reverse_cons, List.sum_append, ih]; simp; omega
set_option maxHeartbeats 2000000 in
theorem Sum8 (v : Value) (ps : List (Int × Int)) (w : World) (h : PSl w v ps) (hf : FewP ps) : Calls Tryd.prog 8 #[v] w fun e w' => e = .returned (.tuple #[.complex .f64 (fi (sumX ps)) (fi (sumY ps)), .bool true]) ∧ Below w.heap.size w w' := by
  obtain ⟨A, cap, rfl, h1, h2, h3⟩ := h
  unfold maxLen at h2
  have H3 := Lib.hid h3
  have HF := Lib.hid hf
  clear h3
  have hst := fun (w : World) (a : Addr) (x y : Nat) => run_store Tryd.prog w a (.complex .f64 x y) .plain rfl
  go_enter Tryd.func8, Tryd.ntmps8
  go_wp2
  go_loopw [4, 11] (fun c i wr => ∃ k : Nat, k ≤ ps.length ∧ i = .int .i64 k ∧ c = .complex .f64 (fi (sumX (ps.take k))) (fi (sumY (ps.take k))) ∧ Hid (Below w.heap.size w wr)) (fun _ i _ => ps.length - (intOf i).toNat)
  case atStart => exact ⟨0, Nat.zero_le _, rfl, by rw [List.take_zero]; show Value.complex .f64 0 0 = Value.complex .f64 (fi 0) (fi 0); rw [fi_zero], Lib.hid (Below.refl _ _)⟩
  case round =>
    obtain ⟨k, hk, rfl, rfl, HB⟩ := hrel
    have h20 : ps.length ≤ 20 := HF.out.1
    by_cases hlt : k < ps.length
    · obtain ⟨blk, rfl, hblk, hc⟩ := H3.out (by intro e; rw [e] at hlt; simp at hlt)
      obtain ⟨⟨x, y⟩, hp⟩ : ∃ p, ps[k]? = some p := ⟨_, List.getElem?_eq_getElem hlt⟩
      have hr := hc k x y hp
      have d0 := (HB.out.cell (p := ⟨blk, 0 + k * 2 + 0, none⟩) hblk).trans (hr 0 _ rfl)
      have d1 := (HB.out.cell (p := ⟨blk, 0 + k * 2 + 1, none⟩) hblk).trans (hr 1 _ rfl)
      have e2 : ps.take (k + 1) = ps.take k ++ [(x, y)] := by rw [List.take_add_one, hp]; rfl
      obtain ⟨o1, o2⟩ := FewP.take HF.out k (by omega)
      obtain ⟨o3, o4⟩ := FewP.take HF.out (k + 1) (by omega)
      have ex : sumX (ps.take (k + 1)) = sumX (ps.take k) + x := by rw [e2]; unfold sumX; simp
      have ey : sumY (ps.take (k + 1)) = sumY (ps.take k) + y := by rw [e2]; unfold sumY; simp
      have hb := HF.out.2 x y (List.mem_of_getElem? hp)
      have ad := fun w => Add_any (sumX (ps.take k)) (sumY (ps.take k)) x y o1 o2 (decide_eq_true (by omega)) (decide_eq_true (by omega)) w
      rw [← ex, ← ey] at ad
      unfold ptI at ad
      rw [o3, o4] at ad
      have AD := Lib.hid ad
      have i1 : (k : Int) < (ps.length : Int) := by omega
      have hp1 : ps.length ≤ cap := h1
      rw [Nat.zero_add, Nat.add_zero] at d0
      rw [Nat.zero_add] at d1
      clear ad hc hr hp o1 o2 o3 o4 ex ey hb e2
      go_wp2_with (first | (go_at_call 10; (with_reducible refine (AD.out _).mono ?_); rintro e w2 ⟨rfl, rfl⟩))
      exact ⟨⟨k + 1, by omega, by go_num, rfl, Lib.hid (HB.out.trans (((Below.refl wr.heap.size wr).alloc (Nat.le_refl _) _).mono (Below.size HB.out)))⟩, by simp [intOf]; omega⟩
    · obtain rfl : k = ps.length := by omega
      rw [List.take_length]
      go_wp2
      go_ret2
      exact ⟨rfl, HB.out⟩
end Go.Proofs.YtlgfgjcbdnnhfaaDoor
