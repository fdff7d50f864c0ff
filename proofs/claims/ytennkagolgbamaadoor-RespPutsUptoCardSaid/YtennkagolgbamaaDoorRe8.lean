import Derived.Test.YtennkagolgbamaaDoorRe7
namespace Go.Proofs.YtennkagolgbamaaDoor
open Go.ChangeShapes Go.WideShapes Go.ChangeAt Go.RowKit Go.Resp

/-- A slice of texts. -/
def SSl (w : World) (v : Value) (xs : List ByteArray) : Prop := ∃ A cap, v = .slice A xs.length cap ∧ xs.length ≤ cap ∧ cap ≤ maxLen ∧
  (xs ≠ [] → ∃ blk off, A = some ⟨blk, off, none⟩ ∧ blk < w.heap.size ∧ ∀ i s, xs[i]? = some s → w.cell? ⟨blk, off + i, none⟩ = some (.string s))
theorem SSl.below {w w' : World} {v : Value} {xs : List ByteArray} (h : SSl w v xs) (hb : Below w.heap.size w w') : SSl w' v xs := by
  obtain ⟨A, cap, h1, h2, h3, h4⟩ := h
  refine ⟨A, cap, h1, h2, h3, fun hne => ?_⟩
  obtain ⟨blk, off, h5, h6, h7⟩ := h4 hne
  have := Below.size hb
  exact ⟨blk, off, h5, by omega, fun i s hs => (hb.cell (p := ⟨blk, off + i, none⟩) h6).trans (h7 i s hs)⟩
def fewB (xs : List ByteArray) : Bool := xs.all (fun s => decide (s.size ≤ 200)) && decide (xs.length ≤ 20)
theorem few15 (v : Value) (xs : List ByteArray) (w : World) (h : SSl w v xs) : Calls Tryd.prog 15 #[v] w fun e w' => e = .returned (.bool (fewB xs)) ∧ w = w' := by
  obtain ⟨A, cap, rfl, h1, h2, h3⟩ := h
  unfold maxLen at h2
  have H3 := Lib.hid h3
  clear h3
  go_enter Tryd.func15, Tryd.ntmps15
  go_wp2
  go_loop [3] (fun i => ∃ k : Nat, k ≤ xs.length ∧ Hid ((xs.take k).all (fun s => decide (s.size ≤ 200)) = true) ∧ i = .int .i64 k) (fun i => xs.length - (intOf i).toNat)
  case atStart => exact ⟨0, Nat.zero_le _, Lib.hid rfl, rfl⟩
  case round =>
    obtain ⟨k, hk, HA, rfl⟩ := hrel
    by_cases hlt : k < xs.length
    · obtain ⟨blk, off, rfl, hblk, hc⟩ := H3.out (by intro e; rw [e] at hlt; simp at hlt)
      obtain ⟨s, hs⟩ : ∃ s, xs[k]? = some s := ⟨_, List.getElem?_eq_getElem hlt⟩
      have hcell := hc k s hs
      have HX := Lib.hid (And.intro hc hs)
      clear hc hs
      by_cases hb : (200 : Int) < (s.size : Int)
      · have E := Lib.hid (show fewB xs = false by
          unfold fewB
          rw [Bool.and_eq_false_iff]
          left
          rw [List.all_eq_false]
          exact ⟨s, List.mem_of_getElem? HX.out.2, by simp; omega⟩)
        go_wp2
        go_ret
        exact ⟨by simp [E.out], rfl⟩
      · go_wp2
        go_round
        case rel =>
          refine ⟨k + 1, by omega, Lib.hid ?_, by go_num⟩
          have e : xs.take (k + 1) = xs.take k ++ [s] := by
            rw [List.take_add_one, HX.out.2]; rfl
          rw [e, List.all_append, HA.out]
          simp; omega
        case measure => simp [intOf]; omega
    · have hkl : k = xs.length := by omega
      have E := Lib.hid (show fewB xs = decide ((xs.length : Int) ≤ 20) by
        unfold fewB
        have := HA.out
        rw [hkl, List.take_length] at this
        rw [this, Bool.true_and]
        rw [Bool.eq_iff_iff, decide_eq_true_iff, decide_eq_true_iff]
        constructor <;> intro <;> omega)
      clear hkl
      go_wp2
      go_ret
      exact ⟨by simp [E.out], rfl⟩
theorem Texts20 (v1 v2 : Value) (xs ys : List ByteArray) (w : World) (h : SSl w v1 xs) (g : SSl w v2 ys) : Calls Tryd.prog 20 #[v1, v2] w fun e w' => e = .returned (.bool (decide (xs = ys))) ∧ ∃ n, w' = w.drewN n := by
  obtain ⟨A, cap, rfl, h1, h2, h3⟩ := h
  obtain ⟨A', cap', rfl, g1, g2, g3⟩ := g
  unfold maxLen at h2 g2
  have H3 := Lib.hid h3
  have G3 := Lib.hid g3
  clear h3 g3
  by_cases hl : xs.length = ys.length
  · have z1 : ((xs.length : Int) != (ys.length : Int)) = false := by simp [hl]
    have z2 : (xs.length != ys.length) = false := by simp [hl]
    have HL := Lib.hid hl
    clear hl
    go_enter Tryd.func20, Tryd.ntmps20
    go_wp2
    go_loopw [5] (fun i wr => ∃ k : Nat, k ≤ xs.length ∧ Hid (xs.take k = ys.take k) ∧ (∃ n, wr = w.drewN n) ∧ i = .int .i64 k) (fun i _ => xs.length - (intOf i).toNat)
    case atStart => exact ⟨0, Nat.zero_le _, Lib.hid rfl, ⟨0, rfl⟩, rfl⟩
    case round =>
      obtain ⟨k, hk, HA, ⟨n, rfl⟩, rfl⟩ := hrel
      by_cases hlt : k < xs.length
      · obtain ⟨blk, off, rfl, hblk, hc⟩ := H3.out (by intro e; rw [e] at hlt; simp at hlt)
        have hlt2 : k < ys.length := by rw [← HL.out]; exact hlt
        obtain ⟨blk2, off2, rfl, hblk2, hc2⟩ := G3.out (by intro e; rw [e] at hlt2; simp at hlt2)
        obtain ⟨s, hs⟩ : ∃ s, xs[k]? = some s := ⟨_, List.getElem?_eq_getElem hlt⟩
        obtain ⟨t, ht⟩ : ∃ t, ys[k]? = some t := ⟨_, List.getElem?_eq_getElem hlt2⟩
        have hcell := hc k s hs
        have hcell2 := hc2 k t ht
        have HX := Lib.hid (And.intro hc (And.intro hs (And.intro hc2 ht)))
        have i1 : (k : Int) < (xs.length : Int) := by omega
        have i2 : (k : Int) < (ys.length : Int) := by omega
        clear hc hs hc2 ht
        go_wp2
        go_quiet (fail)
        go_wp2
        · have E := Lib.hid (show decide (xs = ys) = false by
            rw [decide_eq_false_iff_not]
            intro e
            subst e
            have h1 := HX.out.2.1
            rw [HX.out.2.2.2] at h1
            obtain rfl := Option.some.inj h1
            simp at *)
          go_ret
          exact ⟨by simp [E.out], n + nq, by simp⟩
        · refine ⟨⟨k + 1, by omega, Lib.hid ?_, ⟨_, rfl⟩, by go_num⟩, ?_⟩
          · have e : s = t := by
              have e1 : s.toList = t.toList := by simp_all
              rw [ByteArray.toList_eq, ByteArray.toList_eq] at e1
              exact Go.WideShapes.bytes_inj e1
            rw [List.take_add_one, List.take_add_one, HX.out.2.1, HX.out.2.2.2, HA.out, e]
          · simp [intOf]; omega
      · have hkl : k = xs.length := by omega
        have E := Lib.hid (show decide (xs = ys) = true by
          have := HA.out
          have h2 : k = ys.length := by rw [← HL.out]; exact hkl
          rw [hkl, List.take_length, HL.out, List.take_length] at this
          simp [this])
        clear hkl
        go_wp2
        go_ret
        exact ⟨by simp [E.out], _, rfl⟩
  · have E := Lib.hid (show decide (xs = ys) = false by simp; intro e; exact hl (by rw [e]))
    have z1 : ((xs.length : Int) != (ys.length : Int)) = true := by rw [bne_iff_ne]; omega
    have z2 : (xs.length != ys.length) = true := by rw [bne_iff_ne]; exact hl
    clear hl
    go_enter Tryd.func20, Tryd.ntmps20
    go_wp2
    go_ret
    exact ⟨by simp [E.out], 0, rfl⟩
end Go.Proofs.YtennkagolgbamaaDoor
