/- lists: the same commands on both sides. -/
import Derived.Test.YtnfflkappbjoeaaDoorSp2
import Derived.Test.YtnfflkappbjoeaaDoorFr1
import Derived.Deep.RegionHeld3
import Derived.Deep.AppendSrc
namespace Go.Proofs.YtnfflkappbjoeaaDoor
open Go.ChangeShapes Go.WideShapes Go.ChangeAt Go.RowKit Go.Resp

theorem RsO.at_ {c : Nat} {w : World} {v : Value} {xss : List (List ByteArray)} (h : RsO c w v xss) (k : Nat) (xs : List ByteArray) (hk : xss[k]? = some xs) : ∃ g cap u, v = .slice (some ⟨g, 0, none⟩) xss.length cap ∧ g < w.heap.size ∧ w.cell? ⟨g, 0 + k, none⟩ = some u ∧ SSl w u xs := by
  obtain ⟨vs, h1, h2, h3⟩ := h
  have hlt : k < xss.length := (List.getElem?_eq_some_iff.1 hk).1
  obtain ⟨u, hu⟩ : ∃ u, vs[k]? = some u := ⟨_, List.getElem?_eq_getElem (by omega)⟩
  rcases h1.2 with ⟨g1, g2⟩ | ⟨g, cap, cur, r1, r2, r3, r4, r5, r6, r7⟩
  · omega
  · refine ⟨g, cap, u, r1, lt_of_block r3, ?_, (h3 k u xs hu hk).1⟩
    rw [Nat.zero_add, cell_of_row w g k cur 26 (0, 0) r3]
    have : (cur.toList.take (xss.length * 1))[k]? = some u := by rw [r7]; exact hu
    rw [List.getElem?_take_of_lt (by omega)] at this
    rw [← Array.getElem?_toList]
    exact this
set_option maxHeartbeats 4000000 in
theorem lists10 (c1 c2 : Nat) (v1 v2 : Value) (xss : List (List ByteArray)) (w : World) (h1 : RsO c1 w v1 xss) (h2 : RsO c2 w v2 xss) : Calls Tryd.prog 10 #[v1, v2] w fun e w' => e = .returned (.bool true) ∧ Below w.heap.size w w' := by
  have A1 := Lib.hid (RsO.at_ h1)
  have A2 := Lib.hid (RsO.at_ h2)
  obtain ⟨A, cap, rfl, p1, p2⟩ := h1.form
  obtain ⟨A', cap', rfl, q1, q2⟩ := h2.form
  unfold maxLen at p2 q2
  clear h1 h2
  go_enter Tryd.func10, Tryd.ntmps10
  go_wp2
  go_loopw [5] (fun i wr => ∃ k : Nat, k ≤ xss.length ∧ i = .int .i64 k ∧ Hid (Below w.heap.size w wr)) (fun i _ => xss.length - (intOf i).toNat)
  case atStart => exact ⟨0, Nat.zero_le _, rfl, Lib.hid (Below.refl _ _)⟩
  case round =>
    obtain ⟨k, hk, rfl, HB⟩ := hrel
    by_cases hlt : k < xss.length
    · obtain ⟨xs, hxs⟩ : ∃ xs, xss[k]? = some xs := ⟨_, List.getElem?_eq_getElem hlt⟩
      obtain ⟨g, cp, u, e1, hg, hu, hs1⟩ := A1.out k xs hxs
      obtain ⟨g', cp', u', e2, hg', hu', hs2⟩ := A2.out k xs hxs
      injection e1 with e1 _ e1c; subst e1 e1c
      injection e2 with e2 _ e2c; subst e2 e2c
      have i1 : (k : Int) < (xss.length : Int) := by omega
      have c1 := (HB.out.cell (p := ⟨g, 0 + k, none⟩) hg).trans hu
      have c2 := (HB.out.cell (p := ⟨g', 0 + k, none⟩) hg').trans hu'
      rw [Nat.zero_add] at c1 c2
      have TX := Lib.hid (show ∀ X : World, (X.cell? ⟨g, k, none⟩ = some u ∧ X.cell? ⟨g', k, none⟩ = some u' ∧ Below w.heap.size w X) → Calls Tryd.prog 17 #[u, u'] X fun e w' => e = .returned (.bool true) ∧ Below X.heap.size X w' from
        fun X hX => (Texts20 u u' xs xs X (hs1.below hX.2.2) (hs2.below hX.2.2)).mono fun e w' ⟨q1, n, q2⟩ => ⟨by rw [q1]; simp, by rw [q2]; exact below_drewN (Below.refl _ _) n⟩)
      clear hu hu' hs1 hs2 hxs
      go_wp2
      have S0 : wr.drew.cell? ⟨g, k, none⟩ = some u ∧ wr.drew.cell? ⟨g', k, none⟩ = some u' ∧ Below w.heap.size w wr.drew := ⟨c1, c2, HB.out.trans ⟨rfl, rfl, rfl, Nat.le_refl _, fun _ _ => rfl⟩⟩
      have SK := Lib.hid (show ∀ X Y : World, (X.cell? ⟨g, k, none⟩ = some u ∧ X.cell? ⟨g', k, none⟩ = some u' ∧ Below w.heap.size w X) → Below X.heap.size X Y → (Y.cell? ⟨g, k, none⟩ = some u ∧ Y.cell? ⟨g', k, none⟩ = some u' ∧ Below w.heap.size w Y) from
        fun X Y ⟨q1, q2, q3⟩ q4 => ⟨(q4.cell (p := ⟨g, k, none⟩) (Nat.lt_of_lt_of_le hg (Below.size q3))).trans q1, (q4.cell (p := ⟨g', k, none⟩) (Nat.lt_of_lt_of_le hg' (Below.size q3))).trans q2, q3.trans (q4.mono (Below.size q3))⟩)
      go_region_held3 (fun X => X.cell? ⟨g, k, none⟩ = some u ∧ X.cell? ⟨g', k, none⟩ = some u' ∧ Below w.heap.size w X) (first | assumption | (refine SK.out _ _ ?_ hb5; assumption))
        (first | (go_at_call 17; refine (TX.out _ ?_).mono ?_; assumption; rintro e w5 ⟨rfl, hb5⟩))
      go_wp2
      exact ⟨⟨k + 1, by omega, by go_num, Lib.hid ((SK.out _ _ S0 hb5).2.2)⟩, by simp [intOf]; omega⟩
    · obtain rfl : k = xss.length := by omega
      go_wp2
      go_ret
      exact ⟨rfl, HB.out⟩
theorem count_of {l : List UInt8} {ys : List (List (List UInt8))} {r : List UInt8} {b : Bool} (h : AllR l ys r b) : ys.length + r.length ≤ l.length := by
  induction h with
  | more l h => simp
  | bad l h => simp
  | one l xs p ys rest br h h0 hl hx hr ih =>
    rw [List.length_drop] at ih
    rw [List.length_cons]
    omega
theorem RsO.src {c : Nat} {w : World} {v : Value} {xss : List (List ByteArray)} (h : RsO c w v xss) (hne : xss ≠ []) : ∃ (g cap : Nat) (vs : List Value), v = .slice (some ⟨g, 0, none⟩) xss.length cap ∧ vs.length = xss.length ∧ (∀ j u, vs[j]? = some u → w.cell? ((⟨g, 0, none⟩ : Addr).add j) = some u) ∧ (∀ u ∈ vs, u.oneCell' = true) ∧ ∀ (i : Nat) (u : Value) (xs : List ByteArray), vs[i]? = some u → xss[i]? = some xs → SSl w u xs ∧ In9 w u := by
  obtain ⟨vs, h1, h2, h3⟩ := h
  have hpos : 0 < xss.length := List.length_pos_iff.2 hne
  have hone : ∀ u ∈ vs, u.oneCell' = true := by
    intro u hu
    obtain ⟨i, hi⟩ := List.getElem?_of_mem hu
    have hil : i < vs.length := (List.getElem?_eq_some_iff.1 hi).1
    obtain ⟨A, cp, hv, _⟩ := (h3 i u xss[i] hi (List.getElem?_eq_getElem (by omega))).1
    rw [hv]; rfl
  rcases h1.2 with ⟨g1, g2⟩ | ⟨g, cap, cur, r1, r2, r3, r4, r5, r6, r7⟩
  · omega
  · refine ⟨g, cap, vs, r1, h2, fun j u hj => ?_, hone, h3⟩
    have e : (⟨g, 0, none⟩ : Addr).add j = ⟨g, j, none⟩ := by unfold Addr.add; split <;> simp_all
    rw [e, cell_of_row w g j cur 26 (0, 0) r3]
    have hjl : j < vs.length := (List.getElem?_eq_some_iff.1 hj).1
    have : (cur.toList.take (xss.length * 1))[j]? = some u := by rw [r7]; exact hj
    rw [List.getElem?_take_of_lt (by omega)] at this
    rw [← Array.getElem?_toList]
    exact this
/-- Appending a row of rows to a row of rows that the call itself has made. -/
theorem run_append_R (w : World) (ty : TypeId) (B c2 : Nat) (xss yss : List (List ByteArray)) (v u : Value) (h : RsO B w v xss) (h2 : RsO c2 w u yss) (hu : yss = [] → u = .slice none 0 0) (hb : xss.length + yss.length ≤ 1000000) (hB : B ≤ w.heap.size) :
    ∃ v' w', (Builtin.append_ #[22, 22] ty #[v, u]).run Tryd.prog w = .ok v' w' ∧ RsO B w' v' (xss ++ yss) ∧ Keep26 w w' ∧ Below B w w' := by
  obtain ⟨i0, hi, hz0, hz1, hz2⟩ := info_parts info26r
  by_cases hne : yss = []
  · obtain rfl := hu hne
    subst hne
    rw [List.append_nil]
    obtain ⟨vs, h1, h3, h4⟩ := id h
    rcases h1.2 with ⟨g1, g2⟩ | ⟨g, cap, cur, r1, r2, r3, r4, r5, r6, r7⟩
    · subst g1
      refine ⟨_, w, ?_, h, fun _ _ _ _ _ _ => rfl, Below.refl _ _⟩
      have hs := Src.ofNil (P := Tryd.prog) (size := i0.size) w Tryd.underlying22 0
      have hc := hs.cells
      simp [Builtin.append_, run_underlying Tryd.underlying22, sizeOf, typeInfo, hi, hs.len, hc]
    · subst r1
      have hs := Src.ofNil (P := Tryd.prog) (size := i0.size) w Tryd.underlying22 0
      have hrun := run_append_room_src (P := Tryd.prog) w 22 22 ty 26 i0 Tryd.underlying22 hi g 0 xss.length cap (.slice none 0 0) 0 [] hs r4 (fun j hj => by cases hj) (fun j hj => by cases hj)
      exact ⟨_, w, hrun, h, fun _ _ _ _ _ _ => rfl, Below.refl _ _⟩
  · obtain ⟨g, cap, us, rfl, e1, e2, e3, e4⟩ := RsO.src h2 hne
    obtain ⟨vs, h1, h3, h4⟩ := h
    have hpos : 0 < yss.length := List.length_pos_iff.2 hne
    obtain ⟨g2, cap2, w', hr, q1, q2, q3, q4⟩ := run_append_lies (P := Tryd.prog) w 22 ty B 26 i0 (.slice none 0 0) 1 24 Tryd.underlying22 hi hz0 hz1 hz2 rfl (by decide) v xss.length vs h1 ⟨g, 0, none⟩ yss.length cap us (by rw [e1]; simp) e2 e3 hpos (by unfold maxLen; omega) (by omega) hB _ rfl
    have kp : Keep26 w w' := keep26_of h1 q2
    have kq : ∀ (z : Value) (zs : List ByteArray), SSl w z zs ∧ In9 w z → SSl w' z zs ∧ In9 w' z := fun z zs ⟨a1, a2⟩ => ⟨a1.kept q2.size fun g hg => by
      obtain ⟨cs, fr, hh⟩ := a2 g hg
      exact kp g _ _ _ hh (by decide), a2.kept fun k cs fr hh => kp k _ _ _ hh (by decide)⟩
    refine ⟨_, w', hr, ⟨vs ++ us, by rw [List.length_append]; exact q1, by simp [h3, e1], fun i z zs hi hx => ?_⟩, kp, below_grown h1 hB q2⟩
    by_cases hil : i < vs.length
    · rw [List.getElem?_append_left hil] at hi
      rw [List.getElem?_append_left (by omega)] at hx
      exact kq _ _ (h4 i z zs hi hx)
    · rw [List.getElem?_append_right (by omega)] at hi hx
      rw [← h3] at hx
      exact kq _ _ (e4 _ z zs hi hx)
end Go.Proofs.YtnfflkappbjoeaaDoor
