/- The walk of the law RespBack. -/
import Derived.Test.YtennkagolgbamaaDoorRe11
namespace Go.Proofs.YtennkagolgbamaaDoor
open Go.ChangeShapes Go.WideShapes Go.ChangeAt Go.RowKit Go.Resp

theorem back_told (v0 v1 : Value) (cut : Int) (xs : List ByteArray) (lb : List UInt8) (w : World) (h : SSl w v0 xs) (hb : BSl w v1 lb) (hno : fewB xs = false ∨ xs = [] ∨ 100 < lb.length) :
    Calls Tryd.prog 6 #[v0, v1, .int .i64 cut] w fun e w' => e = .returned (.bool true) ∧ Below w.heap.size w w' := by
  have F := few15 v0 xs w h
  obtain ⟨A, cap, rfl, h1, h2, h3⟩ := h
  obtain ⟨A', cap', rfl, g1, g2, g3⟩ := hb
  unfold maxLen at h2 g2
  clear h3 g3
  have T := Lib.hid told_any
  by_cases hf : fewB xs = false
  · rw [hf] at F
    have F' := Lib.hid F
    clear F hno hf
    go_enter Tryd.func6, Tryd.ntmps6
    go_wp2_with (first | (go_at_call 15; (with_reducible refine F'.out.mono ?_); rintro e w1 ⟨rfl, rfl⟩) | (go_at_call 10; (with_reducible refine (T.out _).mono ?_); rintro e w1 ⟨rfl, hb1⟩))
    go_ret
    exact ⟨rfl, by assumption⟩
  · rw [Bool.not_eq_false] at hf
    rw [hf] at F
    by_cases hx : xs = []
    · subst hx
      simp only [List.length_nil] at F
      have F' := Lib.hid F
      clear F
      clear hno hf
      go_enter Tryd.func6, Tryd.ntmps6
      go_wp2_with (first | (go_at_call 15; (with_reducible refine F'.out.mono ?_); rintro e w1 ⟨rfl, rfl⟩) | (go_at_call 10; (with_reducible refine (T.out _).mono ?_); rintro e w1 ⟨rfl, hb1⟩))
      go_ret
      exact ⟨rfl, by assumption⟩
    · have F' := Lib.hid F
      clear F
      have hlb : (100 : Int) < (lb.length : Int) := by
        rcases hno with h | h | h
        · rw [hf] at h; cases h
        · exact absurd h hx
        · omega
      have hz : ((xs.length : Int) == 0) = false := by
        rw [beq_eq_false_iff_ne]; intro e; exact hx (List.eq_nil_of_length_eq_zero (by omega))
      have hz' : (xs.length == 0) = false := by
        rw [beq_eq_false_iff_ne]; intro e; exact hx (List.eq_nil_of_length_eq_zero e)
      clear hno hf hx
      go_enter Tryd.func6, Tryd.ntmps6
      go_wp2_with (first | (go_at_call 15; (with_reducible refine F'.out.mono ?_); rintro e w1 ⟨rfl, rfl⟩) | (go_at_call 10; (with_reducible refine (T.out _).mono ?_); rintro e w1 ⟨rfl, hb1⟩))
      go_ret
      exact ⟨rfl, by assumption⟩
theorem few_len (xs : List ByteArray) (h : fewB xs = true) : 0 < (frameL xs).length ∧ (frameL xs).length ≤ 7000 := by
  have hl : xs.length ≤ 20 := by unfold fewB at h; rw [Bool.and_eq_true, decide_eq_true_iff] at h; exact h.2
  have hs200 : ∀ s ∈ xs, s.size ≤ 200 := by
    unfold fewB at h; rw [Bool.and_eq_true, List.all_eq_true] at h
    exact fun s hs => of_decide_eq_true (h.1 s hs)
  have h1 := flat_len xs hs200 xs.length
  rw [List.take_length] at h1
  have h2 := head_len xs.length (by omega)
  have h3 : 0 < (lineL (42 :: Lib.decDigits xs.length)).length := by unfold lineL; simp
  unfold frameL
  rw [List.length_append]
  omega
theorem own_empty (B : Nat) (w : World) (t : TypeId) (fr : Nat × Nat) (hB : B ≤ w.heap.size) : OwnN B (w.alloc (.cells #[] t fr)) (.slice (some ⟨w.heap.size, 0, none⟩) 0 0) [] :=
  .inl ⟨w.heap.size, 0, rfl, hB, by simp, Nat.le_refl _, Nat.zero_le _, fun i c h => by simp at h, fun j hj => by omega⟩
theorem BSl.below {w w' : World} {v : Value} {l : List UInt8} (h : BSl w v l) (hb : Below w.heap.size w w') : BSl w' v l := by
  obtain ⟨A, cap, h1, h2, h3, h4⟩ := h
  refine ⟨A, cap, h1, h2, h3, fun hne => ?_⟩
  obtain ⟨blk, off, h5, h6, h7⟩ := h4 hne
  have := Below.size hb
  exact ⟨blk, off, h5, by omega, h7.below hb h6⟩
theorem few_n (xs : List ByteArray) (h : fewB xs = true) : xs.length ≤ 20 ∧ ∀ s ∈ xs, s.size ≤ 200 := by
  refine ⟨by unfold fewB at h; rw [Bool.and_eq_true, decide_eq_true_iff] at h; exact h.2, ?_⟩
  unfold fewB at h; rw [Bool.and_eq_true, List.all_eq_true] at h
  exact fun s hs => of_decide_eq_true (h.1 s hs)
theorem few_ok (xs : List ByteArray) (hx : xs ≠ []) (h : fewB xs = true) : 1 ≤ (xs.map fun s => s.data.toList).length ∧ (xs.map fun s => s.data.toList).length ≤ 1024 ∧ ∀ s ∈ (xs.map fun s => s.data.toList), s.length ≤ 16384 := by
  have h1 := few_n xs h
  have h2 : 0 < xs.length := List.length_pos_iff.2 hx
  rw [List.length_map]
  refine ⟨h2, by omega, fun s hs => ?_⟩
  obtain ⟨t, ht, rfl⟩ := List.mem_map.1 hs
  have h3 := h1.2 t ht
  have : t.data.toList.length = t.size := by simp
  omega
theorem few_read (xs : List ByteArray) (hx : xs ≠ []) (h : fewB xs = true) (q : List UInt8) : readT (frameP (xs.map fun s => s.data.toList) ++ q) = (xs.map fun s => s.data.toList, (frameP (xs.map fun s => s.data.toList)).length, 0) := by
  obtain ⟨h1, h2, h3⟩ := few_ok xs hx h
  exact readT_frame _ h1 h2 h3 q
theorem few_cut (xs : List ByteArray) (hx : xs ≠ []) (h : fewB xs = true) (k : Nat) (hk : k < (frameP (xs.map fun s => s.data.toList)).length) : readT ((frameP (xs.map fun s => s.data.toList)).take k) = ([], 0, 1) := by
  obtain ⟨h1, h2, h3⟩ := few_ok xs hx h
  exact readT_frame_cut _ h1 h2 h3 k hk
theorem read_of (w : World) (v : Value) (l : List UInt8) (xs : List (List UInt8)) (p st : Nat) (c : Int) (hc : codeOf st = c) (h : BSl w v l) (hr : readT l = (xs, p, st)) (hm : xs.length ≤ 1024) :
    Calls Tryd.prog 13 #[v] w fun e w' => ∃ v', e = .returned (.tuple #[v', .int .i64 (p : Int), .int .i64 c]) ∧ SSl w' v' (xs.map fun l => ⟨l.toArray⟩) ∧ Below w.heap.size w w' := by
  refine (Read_any w v l h).mono ?_
  rintro e w' ⟨v', ys, q, s2, hr2, rfl, hown, hb⟩
  obtain ⟨rfl, rfl, rfl⟩ : xs = ys ∧ p = q ∧ st = s2 := by
    rw [hr] at hr2; injection hr2 with h1 h2; injection h2 with h2 h3; exact ⟨h1, h2, h3⟩
  subst hc
  exact ⟨v', rfl, SSl.of_own hown hm, hb⟩
theorem BSl.take {w : World} {A : Option Addr} {n c : Nat} {l : List UInt8} (h : BSl w (.slice A n c) l) (k : Nat) (hk : k ≤ n) : BSl w (.slice A k c) (l.take k) := by
  obtain ⟨A', cap, h1, h2, h3, h4⟩ := h
  injection h1 with e1 e2 e3
  subst e1 e2 e3
  have e : (l.take k).length = k := by rw [List.length_take]; omega
  refine ⟨_, _, by rw [e], by rw [e]; omega, h3, fun hne => ?_⟩
  obtain ⟨blk, off, h5, h6, h7⟩ := h4 (by intro e2; subst e2; simp at hne)
  refine ⟨blk, off, h5, h6, fun i c hc => h7 i c ?_⟩
  have hi := (List.getElem?_eq_some_iff.1 hc).1
  rw [List.length_take] at hi
  rwa [List.getElem?_take_of_lt (by omega)] at hc
theorem cut_of (cut : Int) (n : Nat) (h : 0 < n) (h2 : n ≤ 1000000) : ∃ k : Nat, wrap64 ((IntKind.u64.wrap cut).tmod (n : Int)) = (k : Int) ∧ k < n := by
  have e : IntKind.u64.wrap cut = cut % 18446744073709551616 := IntKind.wrap_u64 cut
  have hm : (IntKind.u64.wrap cut).tmod (n : Int) = (cut % 18446744073709551616) % (n : Int) := by
    rw [e]; exact Int.tmod_eq_emod_of_nonneg (Int.emod_nonneg _ (by decide))
  have h3 := Int.emod_nonneg (cut % 18446744073709551616) (show (n : Int) ≠ 0 by omega)
  have h4 := Int.emod_lt_of_pos (cut % 18446744073709551616) (show (0 : Int) < (n : Int) by omega)
  rw [hm, IntWalk.wrap64_in _ (by omega)]
  exact ⟨(cut % 18446744073709551616 % (n : Int)).toNat, by omega, by omega⟩
theorem back_walk (w0 : World) (IT : ItoaOn w0) (v0 v1 : Value) (cut : Int) (xs : List ByteArray) (lb : List UInt8) (w : World) (hi : Inv w0 w) (h : SSl w v0 xs) (hb : BSl w v1 lb) (hf : fewB xs = true) (hx : xs ≠ []) (hlb : lb.length ≤ 100) :
    Calls Tryd.prog 6 #[v0, v1, .int .i64 cut] w fun e w' => e = .returned (.bool true) ∧ Below w.heap.size w w' := by
  have F := few15 v0 xs w h
  rw [hf] at F
  have FR := Frame17 w0 IT v0 xs w hi h hf
  have HH := Lib.hid (And.intro h hb)
  obtain ⟨A, cap, rfl, h1, h2, h3⟩ := h
  obtain ⟨A', cap', rfl, g1, g2, g3⟩ := hb
  unfold maxLen at h2 g2
  clear h3 g3
  have T := Lib.hid told_any
  have F' := Lib.hid F
  have FR' := Lib.hid FR
  clear F FR
  have hz : ((xs.length : Int) == 0) = false := by
    rw [beq_eq_false_iff_ne]; intro e; exact hx (List.eq_nil_of_length_eq_zero (by omega))
  have hz' : (xs.length == 0) = false := by
    rw [beq_eq_false_iff_ne]; intro e; exact hx (List.eq_nil_of_length_eq_zero e)
  have hlb' : ¬ (100 : Int) < (lb.length : Int) := by omega
  obtain ⟨l, hl⟩ : ∃ l, frameL xs = l := ⟨_, rfl⟩
  rw [hl] at FR'
  have HL := Lib.hid hl
  have HX := Lib.hid (And.intro hx hf)
  clear hl hx hf
  go_enter Tryd.func6, Tryd.ntmps6
  go_wp2_with (first | (go_at_call 15; (with_reducible refine F'.out.mono ?_); rintro e w1 ⟨rfl, rfl⟩) | (go_at_call 17; (with_reducible refine FR'.out.mono ?_); rintro e w1 ⟨v1, rfl, hO1, hb1⟩; refine Hid.out ?_))
  refine Lib.hid ?_
  obtain ⟨g, c, rfl, q2, q3, q4, q5, q6⟩ := hO1
  have HO := Lib.hid (show OwnB w.heap.size w1 (.slice (some ⟨g, 0, none⟩) l.length c) l from ⟨g, c, rfl, q2, q3, q4, q5, q6⟩)
  have HB := Lib.hid hb1
  clear hb1 q6
  have hll : 0 < l.length ∧ l.length ≤ 7000 := by
    rw [← HL.out]
    have h1 := few_len xs HX.out.2
    exact h1
  obtain ⟨hl1, hl2⟩ := hll
  have z1 : ((l.length : Int) == 0) = false := by rw [beq_eq_false_iff_ne]; omega
  have z2 : (l.length == 0) = false := by rw [beq_eq_false_iff_ne]; omega
  have bw := Below.size HB.out
  have q1 : ([] : List UInt8).length + l.length ≤ 140737488355328 := by simp; omega
  have q7 : ([] ++ l).length + lb.length ≤ 140737488355328 := by simp; omega
  have b1 : ∀ o, Below w1.heap.size w1 (w1.alloc o) := fun o => (Below.refl _ _).alloc (Nat.le_refl _) _
  have H1 := Lib.hid (fun o => HO.out.slice.below (b1 o))
  have H2 := Lib.hid (HH.out.2.below HB.out)
  have B1 := Lib.hid b1
  clear b1
  go_wp2_with (first | (at_builtin; refine append_N _ rfl _ _ rfl w1.heap.size [] l _ _ rfl (own_empty _ _ _ _ (Nat.le_refl _)) rfl (H1.out _) q1 (by simp) ?_; intro v2 w2 hO2 hb2; have HO2 := Lib.hid hO2; have HB2 := Lib.hid ((B1.out _).trans hb2); clear hO2 hb2; refine Hid.out ?_))
  refine Lib.hid ?_
  have H3 := Lib.hid (H2.out.below HB2.out)
  have bw2 := Below.size HB2.out
  go_wp2_with (first | (at_builtin; refine append_N _ rfl _ _ rfl w1.heap.size ([] ++ l) lb _ _ rfl HO2.out rfl H3.out q7 bw2 ?_; intro v3 w3 hO3 hb3; have HO3 := Lib.hid hO3; have HB3 := Lib.hid (HB2.out.trans hb3); clear hO3 hb3; refine Hid.out ?_))
  refine Lib.hid ?_
  have RT : readT ([] ++ l ++ lb) = (xs.map (fun s => s.data.toList), l.length, 0) := by
    rw [List.nil_append, ← HL.out, frameL_P]
    exact few_read xs HX.out.1 HX.out.2 lb
  have RD := read_of w3 v3 _ _ _ 0 0 rfl HO3.out.slice RT (by rw [List.length_map]; have := few_n xs HX.out.2; omega)
  rw [bytes_back] at RD
  have RD' := Lib.hid RD
  clear RD RT
  go_wp2_with (first | (go_at_call 13; (with_reducible refine RD'.out.mono ?_); rintro e w4 ⟨v4, rfl, hy, hb4⟩; have HY := Lib.hid hy; have HB4 := Lib.hid (HB3.out.trans (hb4.mono (Below.size HB3.out))); clear hy hb4; refine Hid.out ?_))
  refine Lib.hid ?_
  obtain ⟨k, hk, hk2⟩ := cut_of cut l.length hl1 (by omega)
  have RT2 : readT (l.take k) = ([], 0, 1) := by
    rw [← HL.out, frameL_P]
    exact few_cut xs HX.out.1 HX.out.2 k (by rw [← frameL_P, HL.out]; exact hk2)
  have RD2 := read_of w4 (.slice (some ⟨g, 0, none⟩) k c) _ _ _ 1 0 rfl (HO.out.slice.below HB4.out |>.take k (by omega)) RT2 (by simp)
  simp only [List.map_nil] at RD2
  have RD2' := Lib.hid RD2
  clear RD2 RT2
  have bw4 := Below.size HB4.out
  go_wp2_with (first | (go_at_call 13; (with_reducible refine RD2'.out.mono ?_); rintro e w5 ⟨v5, rfl, hy, hb5⟩; refine Hid.out ?_))
  obtain ⟨A5, c5, rfl, _, _, _⟩ := hy
  simp only [List.length_nil]
  refine Lib.hid ?_
  have HB5 := Lib.hid (HB4.out.trans (hb5.mono bw4))
  have HY5 := Lib.hid (HY.out.below hb5)
  clear hb5
  go_wp2_with (first | (go_at_call 10; (with_reducible refine (T.out _).mono ?_); rintro e w6 ⟨rfl, hb6⟩; refine Hid.out ?_))
  refine Lib.hid ?_
  have TX := Texts20 v4 _ xs xs w6 (HY5.out.below hb6) ((HH.out.1.below (HB.out.trans (HB5.out.mono bw))).below hb6)
  rw [show decide (xs = xs) = true by simp] at TX
  have TX' := Lib.hid TX
  have HB6 := Lib.hid (HB5.out.trans (hb6.mono (Below.size HB5.out)))
  clear TX hb6
  go_wp2_with (first | (go_at_call 20; (with_reducible refine TX'.out.mono ?_); rintro e w7 ⟨rfl, n7, rfl⟩))
  go_ret
  exact ⟨by simp, below_drewN (HB.out.trans (HB6.out.mono bw)) n7⟩
end Go.Proofs.YtennkagolgbamaaDoor
