/- The contract of scriptoriumlaw4.Turned: some text comes of it. -/
import Derived.Test.YtennkagolgbamaaDoorRe15
import Derived.Test.YtennkagolgbamaaDoorRe10
import Derived.BigRegion
namespace Go.Proofs.YtennkagolgbamaaDoor
open Go.ChangeShapes Go.WideShapes Go.ChangeAt Go.RowKit Go.Resp

/-- A slice of whole numbers. -/
def ISl (w : World) (v : Value) (zs : List Int) : Prop := ∃ A cap, v = .slice A zs.length cap ∧ zs.length ≤ cap ∧ cap ≤ maxLen ∧
  (zs ≠ [] → ∃ blk off, A = some ⟨blk, off, none⟩ ∧ blk < w.heap.size ∧ ∀ i z, zs[i]? = some z → w.cell? ⟨blk, off + i, none⟩ = some (.int .i64 z))
theorem ISl.below {w w' : World} {v : Value} {xs : List Int} (h : ISl w v xs) (hb : Below w.heap.size w w') : ISl w' v xs := by
  obtain ⟨A, cap, h1, h2, h3, h4⟩ := h
  refine ⟨A, cap, h1, h2, h3, fun hne => ?_⟩
  obtain ⟨blk, off, h5, h6, h7⟩ := h4 hne
  have := Below.size hb
  exact ⟨blk, off, h5, by omega, fun i s hs => (hb.cell (p := ⟨blk, off + i, none⟩) h6).trans (h7 i s hs)⟩
theorem ISl.of_trod {H : Type} {enc : TypeId × Value → H} {W : World} {v : Value} {d : DataW H} {ps : List MemPlace} (h : DataW.Trod enc Tryd.prog W 0 (fun _ => true) true 37 v d ps) (hv : ∃ A n c, v = .slice A n c) : ∃ l, ISl W v l := by
  obtain ⟨A, n, c, rfl⟩ := hv
  obtain ⟨m, hm⟩ := h
  rcases open_ints Tryd.underlying37 Tryd.underlying3 (by kernel_rfl) hm with ⟨hcs, _⟩ | ⟨a, len, cap, zs, hcs, _, hl, hc, hs, _, hcell, hw⟩
  · obtain ⟨rfl, rfl, rfl⟩ : A = none ∧ n = 0 ∧ c = 0 := by simpa [Value.cells] using hcs
    exact ⟨[], none, 0, rfl, Nat.le_refl _, Nat.zero_le _, fun h => absurd rfl h⟩
  · obtain ⟨rfl, rfl, rfl⟩ : A = some a ∧ n = len ∧ c = cap := by simpa [Value.cells] using hcs
    simp only [if_true] at hs
    have e : (zs.take n).length = n := by rw [List.length_take]; omega
    refine ⟨zs.take n, some a, c, by rw [e], by rw [e]; exact hl, hc, fun hne => ?_⟩
    have hn : 0 < n := by
      rcases Nat.eq_zero_or_pos n with h | h
      · subst h; simp at hne
      · exact h
    obtain ⟨b, off, rfl, hb, hcell'⟩ := at_of hcell (by omega)
    refine ⟨b, off, rfl, hb, fun i s hi => ?_⟩
    obtain ⟨hi1, hi2⟩ := List.getElem?_eq_some_iff.1 hi
    rw [e] at hi1
    rw [hcell' i (by omega)]
    rw [List.getElem?_take_of_lt hi1] at hi
    rw [List.getD, hi]; rfl
theorem conv_one (w : World) (c : UInt8) : (convert 27 9 (.slice (some ⟨w.heap.size, 0, none⟩) 1 1)).run Tryd.prog (w.alloc (.cells #[.int .u8 ((c.toNat : Int) / 4)] 5)).drew = .ok (.string ⟨#[UInt8.ofNat (c.toNat / 4)]⟩) (w.alloc (.cells #[.int .u8 ((c.toNat : Int) / 4)] 5)).drew := by
  refine conv_bs (l := [UInt8.ofNat (c.toNat / 4)]) ⟨_, _, rfl, Nat.le_refl _, by unfold maxLen; decide, fun _ => ⟨w.heap.size, 0, rfl, by simp, fun i x hi => ?_⟩⟩
  have hlt := c.toNat_lt
  match i, hi with
  | 0, hi =>
    cases hi
    show (w.alloc (.cells #[.int .u8 ((c.toNat : Int) / 4)] 5)).cell? _ = _
    rw [World.cell?_alloc_new]
    rw [UInt8.toNat_ofNat']
    simp
    omega
set_option maxRecDepth 100000 in
set_option maxHeartbeats 4000000 in
theorem Turned18 (v1 v2 : Value) (s : ByteArray) (hs : s.size ≤ 10000) (zs : List Int) (l : List UInt8) (w : World) (h1 : ISl w v1 zs) (h2 : BSl w v2 l) :
    Calls Tryd.prog 18 #[.string s, v1, v2] w fun e w' => ∃ t : ByteArray, e = .returned (.string t) ∧ t.size ≤ 10010 ∧ Below w.heap.size w w' := by
  obtain ⟨A, cap, rfl, a1, a2, a3⟩ := h1
  obtain ⟨A', cap', rfl, c1, c2, c3⟩ := h2
  unfold maxLen at a2 c2
  have HA := Lib.hid a3
  have HC := Lib.hid c3
  have HB0 := Lib.hid (Below.refl w.heap.size w)
  clear a3 c3
  go_enter Tryd.func18, Tryd.ntmps18
  go_wp2_with fail
  go_loopw [0, 7] (fun a i wr => ∃ (k : Nat) (t : ByteArray), k ≤ 4 ∧ i = .int .i64 k ∧ a = .string t ∧ t.size ≤ 10000 + k ∧ Hid (Below w.heap.size w wr)) (fun _ i _ => 4 - (intOf i).toNat)
  case atStart => exact ⟨0, s, by omega, rfl, rfl, by omega, HB0⟩
  case round =>
    obtain ⟨k, t, hk, rfl, rfl, ht, HB⟩ := hrel
    by_cases g1 : k < zs.length
    · by_cases g2 : k < l.length
      · by_cases g3 : k < 4
        · by_cases g4 : 0 < t.size
          · obtain ⟨blk, off, rfl, hblk, hz⟩ := HA.out (by intro e; rw [e] at g1; simp at g1)
            obtain ⟨blk', off', rfl, hblk', hl⟩ := HC.out (by intro e; rw [e] at g2; simp at g2)
            obtain ⟨z, hzk⟩ : ∃ z, zs[k]? = some z := ⟨_, List.getElem?_eq_getElem g1⟩
            obtain ⟨c, hck⟩ : ∃ c, l[k]? = some c := ⟨_, List.getElem?_eq_getElem g2⟩
            have hc1 := (HB.out.cell (p := ⟨blk, off + k, none⟩) hblk).trans (hz k z hzk)
            have hc2 := (HB.out.cell (p := ⟨blk', off' + k, none⟩) hblk').trans (hl k c hck)
            obtain ⟨q, hq, hq2⟩ := cut_of z t.size g4 (by omega)
            have i1 : (k : Int) < (zs.length : Int) := by omega
            have i2 : (k : Int) < (l.length : Int) := by omega
            have i3 : (k : Int) < 4 := by omega
            have i4 : (0 : Int) < (t.size : Int) := by omega
            have hHA := Lib.hid (And.intro hz (And.intro hl (And.intro hzk hck)))
            clear hz hl hzk hck
            obtain ⟨x, hx⟩ : ∃ x : Int, bits BinOp.and IntKind.u8 (c.toNat : Int) 3 = x := ⟨_, rfl⟩
            by_cases x0 : x = 0
            · have t0 : (x == 0) = true := by simp [x0]
              clear x0
              go_wp2_with fail
              simp only [hq]
              have q0 : (0 : Int) ≤ (q : Int) := by omega
              have q1 : (q : Int) ≤ (t.size : Int) := by omega
              have q2 : (q : Int) + 1 ≤ (t.size : Int) := by omega
              have q3 : IntKind.i64.wrap ((q : Int) + 1) = (q : Int) + 1 := IntWalk.i64_in _ (by omega)
              have hcv := conv_one wr c
              go_region
              clear q3 hq hx hcv
              go_wp2
              refine ⟨⟨k + 1, _, by omega, by go_num, rfl, ?_, Lib.hid ?_⟩, by simp [intOf]; omega⟩
              · simp only [ByteArray.size_append, ByteArray.size_extract]
                have e1 : ({ data := #[UInt8.ofNat (c.toNat / 4)] } : ByteArray).size = 1 := rfl
                omega
              · exact (HB.out.alloc (Below.size HB.out) _).trans ⟨rfl, rfl, rfl, Nat.le_refl _, fun _ _ => rfl⟩
            · have t0 : (x == 0) = false := by simp [x0]
              by_cases x1 : x = 1
              · have t1 : (x == 1) = true := by simp [x1]
                clear x1 x0
                go_wp2_with fail
                simp only [hq]
                have q0 : (0 : Int) ≤ (q : Int) := by omega
                have q1 : (q : Int) ≤ (t.size : Int) := by omega
                have q2 : (q : Int) + 1 ≤ (t.size : Int) := by omega
                have q3 : IntKind.i64.wrap ((q : Int) + 1) = (q : Int) + 1 := IntWalk.i64_in _ (by omega)
                have hcv := conv_one wr c
                go_region
                clear q3 hq hx hcv
                go_wp2
                refine ⟨⟨k + 1, _, by omega, by go_num, rfl, ?_, Lib.hid ?_⟩, by simp [intOf]; omega⟩
                · simp only [ByteArray.size_append, ByteArray.size_extract]
                  have e1 : ({ data := #[UInt8.ofNat (c.toNat / 4)] } : ByteArray).size = 1 := rfl
                  omega
                · exact (HB.out.alloc (Below.size HB.out) _).trans ⟨rfl, rfl, rfl, Nat.le_refl _, fun _ _ => rfl⟩
              · have t1 : (x == 1) = false := by simp [x1]
                by_cases x2 : x = 2
                · have t2 : (x == 2) = true := by simp [x2]
                  clear x2 x1 x0
                  go_wp2_with fail
                  simp only [hq]
                  have q0 : (0 : Int) ≤ (q : Int) := by omega
                  have q1 : (q : Int) ≤ (t.size : Int) := by omega
                  have q2 : (q : Int) + 1 ≤ (t.size : Int) := by omega
                  have q3 : IntKind.i64.wrap ((q : Int) + 1) = (q : Int) + 1 := IntWalk.i64_in _ (by omega)
                  go_region
                  clear q3 hq hx
                  go_wp2
                  refine ⟨⟨k + 1, _, by omega, by go_num, rfl, ?_, Lib.hid ?_⟩, by simp [intOf]; omega⟩
                  · simp only [ByteArray.size_append, ByteArray.size_extract]
                    have e1 : ({ data := #[UInt8.ofNat (c.toNat / 4)] } : ByteArray).size = 1 := rfl
                    omega
                  · exact HB.out.trans ⟨rfl, rfl, rfl, Nat.le_refl _, fun _ _ => rfl⟩
                · have t2 : (x == 2) = false := by simp [x2]
                  clear x2 x1 x0
                  go_wp2_with fail
                  simp only [hq]
                  have q0 : (0 : Int) ≤ (q : Int) := by omega
                  have q1 : (q : Int) ≤ (t.size : Int) := by omega
                  have q2 : (q : Int) + 1 ≤ (t.size : Int) := by omega
                  have q3 : IntKind.i64.wrap ((q : Int) + 1) = (q : Int) + 1 := IntWalk.i64_in _ (by omega)
                  have hcv := conv_one wr c
                  go_region
                  clear q3 hq hx hcv
                  go_wp2
                  refine ⟨⟨k + 1, _, by omega, by go_num, rfl, ?_, Lib.hid ?_⟩, by simp [intOf]; omega⟩
                  · simp only [ByteArray.size_append, ByteArray.size_extract]
                    have e1 : ({ data := #[UInt8.ofNat (c.toNat / 4)] } : ByteArray).size = 1 := rfl
                    omega
                  · exact (HB.out.alloc (Below.size HB.out) _).trans ⟨rfl, rfl, rfl, Nat.le_refl _, fun _ _ => rfl⟩
          · have i1 : (k : Int) < (zs.length : Int) := by omega
            have i2 : (k : Int) < (l.length : Int) := by omega
            have i3 : (k : Int) < 4 := by omega
            have i4 : ¬ (0 : Int) < (t.size : Int) := by omega
            go_wp2
            go_ret
            exact ⟨t, by simp, by omega, HB.out⟩
        · have i1 : (k : Int) < (zs.length : Int) := by omega
          have i2 : (k : Int) < (l.length : Int) := by omega
          have i3 : ¬ (k : Int) < 4 := by omega
          go_wp2
          go_ret
          exact ⟨t, by simp, by omega, HB.out⟩
      · have i1 : (k : Int) < (zs.length : Int) := by omega
        have i2 : ¬ (k : Int) < (l.length : Int) := by omega
        go_wp2
        go_ret
        exact ⟨t, by simp, by omega, HB.out⟩
    · have i1 : ¬ (k : Int) < (zs.length : Int) := by omega
      go_wp2
      go_ret
      exact ⟨t, by simp, by omega, HB.out⟩
end Go.Proofs.YtennkagolgbamaaDoor
