/- The walk of the law RespReads. -/
import Derived.Test.YtennkagolgbamaaDoorRe18
import Derived.Deep.RegionHeld3
namespace Go.Proofs.YtennkagolgbamaaDoor
open Go.ChangeShapes Go.WideShapes Go.ChangeAt Go.RowKit Go.Resp

theorem SSl.own {B : Nat} {w : World} {v : Value} {xs : List (List UInt8)} (h : w.ownsRow B 9 1 v xs.length (xs.map strV)) : SSl w v (xs.map fun l => ⟨l.toArray⟩) := by
  rcases h.2 with ⟨hv, h0⟩ | ⟨g, cap, cur, hv, hB, hh, hn, hc, hs, ht⟩
  · obtain rfl : xs = [] := List.eq_nil_of_length_eq_zero h0
    exact ⟨none, 0, hv, Nat.le_refl _, Nat.zero_le _, fun h => absurd rfl h⟩
  · refine ⟨_, cap, by rw [hv, List.length_map], by rw [List.length_map]; exact hn, hc, fun _ => ⟨g, 0, rfl, (Array.getElem?_eq_some_iff.1 hh).1, fun i s hs => ?_⟩⟩
    rw [List.getElem?_map] at hs
    obtain ⟨c, hc, rfl⟩ := Option.map_eq_some_iff.1 hs
    have := World.ownsRow.cells h (g := g) (by rw [hv]; rfl) i (strV c) (by rw [List.getElem?_map, hc]; rfl)
    refine Eq.trans ?_ this
    unfold Addr.add
    by_cases h0 : i = 0
    · subst h0; simp
    · simp [h0]
theorem BSl.shape {w : World} {v : Value} {l : List UInt8} (h : BSl w v l) : ∃ A cap, v = .slice A l.length cap := by
  obtain ⟨A, cap, h, _⟩ := h; exact ⟨A, cap, h⟩
theorem ISl.shape {w : World} {v : Value} {l : List Int} (h : ISl w v l) : ∃ A cap, v = .slice A l.length cap := by
  obtain ⟨A, cap, h, _⟩ := h; exact ⟨A, cap, h⟩
theorem SSl.shape {w : World} {v : Value} {l : List ByteArray} (h : SSl w v l) : ∃ A cap, v = .slice A l.length cap := by
  obtain ⟨A, cap, h, _⟩ := h; exact ⟨A, cap, h⟩
theorem reads_told (v0 v1 v2 v3 : Value) (cut : Int) (xs : List ByteArray) (lb : List UInt8) (w : World) (h : SSl w v0 xs) (hb : BSl w v1 lb) (hno : fewB xs = false ∨ 400 < lb.length) :
    Calls Tryd.prog 5 #[v0, v1, v2, v3, .int .i64 cut] w fun e w' => e = .returned (.bool true) ∧ Below w.heap.size w w' := by
  have F := few15 v0 xs w h
  obtain ⟨A, cap, rfl⟩ := h.shape
  obtain ⟨A', cap', rfl, g1, g2, g3⟩ := hb
  unfold maxLen at g2
  clear g3
  have T := Lib.hid told_any
  by_cases hf : fewB xs = false
  · rw [hf] at F
    have F' := Lib.hid F
    clear F hno hf h
    go_enter Tryd.func5, Tryd.ntmps5
    go_wp2_with (first | (go_at_call 15; (with_reducible refine F'.out.mono ?_); rintro e w1 ⟨rfl, rfl⟩) | (go_at_call 10; (with_reducible refine (T.out _).mono ?_); rintro e w1 ⟨rfl, hb1⟩))
    go_ret
    exact ⟨rfl, by assumption⟩
  · have hlb : (400 : Int) < (lb.length : Int) := by
      rcases hno with h | h
      · exact absurd h hf
      · omega
    rw [Bool.not_eq_false] at hf
    rw [hf] at F
    have F' := Lib.hid F
    clear F hno hf h
    go_enter Tryd.func5, Tryd.ntmps5
    go_wp2_with (first | (go_at_call 15; (with_reducible refine F'.out.mono ?_); rintro e w1 ⟨rfl, rfl⟩) | (go_at_call 10; (with_reducible refine (T.out _).mono ?_); rintro e w1 ⟨rfl, hb1⟩))
    go_ret
    exact ⟨rfl, by assumption⟩
set_option maxRecDepth 100000 in
set_option maxHeartbeats 8000000 in
theorem reads_walk (w0 : World) (IT : ItoaOn w0) (v0 v1 v2 v3 : Value) (cut : Int) (xs : List ByteArray) (lb lt : List UInt8) (zs : List Int) (w : World) (hi : Inv w0 w) (h : SSl w v0 xs) (hb : BSl w v1 lb) (h2 : ISl w v2 zs) (h3 : BSl w v3 lt) (hf : fewB xs = true) (hlb : lb.length ≤ 400) :
    Calls Tryd.prog 5 #[v0, v1, v2, v3, .int .i64 cut] w fun e w' => e = .returned (.bool true) ∧ Below w.heap.size w w' := by
  have F := few15 v0 xs w h
  rw [hf] at F
  have RF := RefFrame16 w0 IT v0 xs w hi h hf
  have FR := fun wx (hx : Below w.heap.size w wx) => Frame17 w0 IT v0 xs wx (hi.on hx) (h.below hx) hf
  have HB := Lib.hid (And.intro hb (And.intro h2 h3))
  obtain ⟨A, cap, rfl⟩ := h.shape
  obtain ⟨A1, cap1, rfl⟩ := hb.shape
  obtain ⟨A2, cap2, rfl⟩ := h2.shape
  obtain ⟨A3, cap3, rfl⟩ := h3.shape
  have T := Lib.hid told_any
  have F' := Lib.hid F
  have RF' := Lib.hid RF
  have FR' := Lib.hid FR
  have HF := Lib.hid hf
  have hlb' : ¬ (400 : Int) < (lb.length : Int) := by omega
  clear F RF FR h hb h2 h3 hf IT hi
  go_enter Tryd.func5, Tryd.ntmps5
  go_wp2_with (first | (go_at_call 15; (with_reducible refine F'.out.mono ?_); rintro e w1 ⟨rfl, rfl⟩) | (go_at_call 16; (with_reducible refine RF'.out.mono ?_); rintro e w1 ⟨⟨s, rfl, hs⟩, hb1⟩; refine Hid.out ?_))
  have hsz : s.size ≤ 7000 := by
    have := (few_len xs HF.out).2
    rw [← hs] at this
    simpa using this
  have HS := Lib.hid hs
  have FR1 := Lib.hid (FR'.out w1 hb1)
  have HB1 := Lib.hid hb1
  clear hs hb1
  refine Lib.hid ?_
  go_wp2_with (first | (go_at_call 17; (with_reducible refine FR1.out.mono ?_); rintro e w2 ⟨v4, rfl, hO, hb2⟩; refine Hid.out ?_))
  have hcv := conv_bs hO.slice
  have es : (⟨(frameL xs).toArray⟩ : ByteArray) = s := by rw [← HS.out]
  rw [es] at hcv
  have HB2 := Lib.hid (HB1.out.trans (hb2.mono (Below.size HB1.out)))
  clear hO hb2 es
  refine Lib.hid ?_
  go_wp2_with fail
  obtain ⟨sb, hsb⟩ : ∃ sb : ByteArray, (⟨lb.toArray⟩ : ByteArray) = sb := ⟨_, rfl⟩
  have hsbl : sb.size ≤ 400 := by rw [← hsb]; simpa [ByteArray.size] using hlb
  have b2 := Below.size HB2.out
  have hBL := HB.out.1.below HB2.out
  have S0 : (convert 27 9 (.slice A1 lb.length cap1)).run Tryd.prog w2.drew = .ok (.string sb) w2.drew ∧ Below w2.heap.size w2 w2.drew :=
    ⟨by have := conv_bs (w := w2.drew) (hBL.below ⟨rfl, rfl, rfl, Nat.le_refl _, fun _ _ => rfl⟩); rw [hsb] at this; exact this, ⟨rfl, rfl, rfl, Nat.le_refl _, fun _ _ => rfl⟩⟩
  have SK := Lib.hid (show ∀ wa wb : World, ((convert 27 9 (.slice A1 lb.length cap1)).run Tryd.prog wa = .ok (.string sb) wa ∧ Below w2.heap.size w2 wa) → Below wa.heap.size wa wb → ((convert 27 9 (.slice A1 lb.length cap1)).run Tryd.prog wb = .ok (.string sb) wb ∧ Below w2.heap.size w2 wb) from
    fun wa wb h hb => by
      have h2 := h.2.trans (hb.mono h.2.size)
      refine ⟨?_, h2⟩
      have := conv_bs (w := wb) (hBL.below h2)
      rw [hsb] at this
      exact this)
  have SA := Lib.hid (show ∀ (wa : World) (o : Obj), ((convert 27 9 (.slice A1 lb.length cap1)).run Tryd.prog wa = .ok (.string sb) wa ∧ Below w2.heap.size w2 wa) → ((convert 27 9 (.slice A1 lb.length cap1)).run Tryd.prog (wa.alloc o) = .ok (.string sb) (wa.alloc o) ∧ Below w2.heap.size w2 (wa.alloc o)) from
    fun wa o h => SK.out wa _ h ((Below.refl _ _).alloc (Nat.le_refl _) o))
  have TU := Lib.hid (show ∀ X : World, ((convert 27 9 (.slice A1 lb.length cap1)).run Tryd.prog X = .ok (.string sb) X ∧ Below w2.heap.size w2 X) → Calls Tryd.prog 18 #[.string s, .slice A2 zs.length cap2, .slice A3 lt.length cap3] X fun e w' => ∃ t : ByteArray, e = .returned (.string t) ∧ t.size ≤ 10010 ∧ Below X.heap.size X w' from
    fun X h => Turned18 _ _ s (by omega) zs lt X ((HB.out.2.1.below HB2.out).below h.2) ((HB.out.2.2.below HB2.out).below h.2))
  obtain ⟨k, hk, hk2⟩ := cut_of cut (s.size + 1) (by omega) (by omega)
  have hk' : wrap64 ((IntKind.u64.wrap cut).tmod ((s.size : Int) + 1)) = (k : Int) := by simpa using hk
  have k0 : (0 : Int) ≤ (k : Int) := by omega
  have k1 : (k : Int) ≤ (s.size : Int) := by omega
  have m1 : ¬ (5 + sb.size > 9223372036854775807) := by omega
  have m2 : ¬ (s.size + s.size > 9223372036854775807) := by omega
  have q3 : IntKind.i64.wrap ((s.size : Int) + 1) = (s.size : Int) + 1 := IntWalk.i64_in _ (by omega)
  have q4 : IntKind.u64.wrap ((s.size : Int) + 1) = (s.size : Int) + 1 := by rw [IntKind.wrap_u64]; omega
  have q5 : (((s.size : Int) + 1) == 0) = false := by rw [beq_eq_false_iff_ne]; omega
  have q6 : ¬ ((s.size : Int) + 1 = 0) := by omega
  have hk3 : IntKind.i64.wrap ((IntKind.u64.wrap cut).tmod ((s.size : Int) + 1)) = (k : Int) := (IntWalk.i64_left _).trans hk'
  clear hk hBL hsb
  go_region_held3 (fun w' => (convert 27 9 (.slice A1 lb.length cap1)).run Tryd.prog w' = .ok (.string sb) w' ∧ Below w2.heap.size w2 w') (first | exact S0 | exact SA.out _ _ (by assumption) | exact SK.out _ _ (by assumption) (by assumption))
    (first | (go_at_call 18; refine (TU.out _ ?_).mono ?_; assumption; rintro e w5 ⟨t, rfl, ht, hb5⟩))
  have b5 : Below w.heap.size w w5 := HB2.out.trans ((show Below w2.heap.size w2 w2.drew from ⟨rfl, rfl, rfl, Nat.le_refl _, fun _ _ => rfl⟩).trans hb5 |>.mono b2)
  obtain ⟨X6, hX6⟩ : ∃ X6 : List ByteArray, [s, sb, t, s.extract 0 k, ⟨#[42, 50, 13, 10, 36]⟩ ++ sb, s ++ s] = X6 := ⟨_, rfl⟩
  have hsizes : ∀ x ∈ X6, x.size ≤ 20000 := by
    rw [← hX6]
    intro x hx
    simp only [List.mem_cons, List.not_mem_nil, or_false] at hx
    rcases hx with rfl | rfl | rfl | rfl | rfl | rfl
    · omega
    · omega
    · omega
    · rw [ByteArray.size_extract]; omega
    · rw [ByteArray.size_append]; show 5 + _ ≤ _; omega
    · rw [ByteArray.size_append]; omega
  have hlen6 : X6.length = 6 := by rw [← hX6]; rfl
  obtain ⟨wl, hwl⟩ : ∃ wl, w5.alloc (.cells #[.string s, .string sb, .string t, .string (s.extract 0 k), .string (⟨#[42, 50, 13, 10, 36]⟩ ++ sb), .string (s ++ s)] 9) = wl := ⟨_, rfl⟩
  have hcells : ∀ i x, X6[i]? = some x → wl.cell? ⟨w5.heap.size, i, none⟩ = some (.string x) := by
    intro i x hi
    rw [← hwl, World.cell?_alloc_new]
    rw [← hX6] at hi
    match i, hi with
    | 0, hi => cases hi; rfl
    | 1, hi => cases hi; rfl
    | 2, hi => cases hi; rfl
    | 3, hi => cases hi; rfl
    | 4, hi => cases hi; rfl
    | 5, hi => cases hi; rfl
  have bl : Below w.heap.size w wl := by rw [← hwl]; exact b5.alloc b5.size _
  have zl : w5.heap.size < wl.heap.size := by rw [← hwl]; simp
  rw [hwl]
  have HX := Lib.hid (And.intro hsizes hlen6)
  have HC0 := Lib.hid (And.intro bl (And.intro hcells zl))
  clear hX6 hwl hb5 b5 hsizes hlen6 hcells bl zl hk' hk3 q3 q4 q5 q6 hcv S0 SK SA TU m1 m2 ht hsbl
  go_wp2_with fail
  go_loopw [61] (fun i wr => ∃ j : Nat, j ≤ 6 ∧ i = .int .i64 j ∧ Hid (Below w.heap.size w wr ∧ (∀ i x, X6[i]? = some x → wr.cell? ⟨w5.heap.size, i, none⟩ = some (.string x)) ∧ w5.heap.size < wr.heap.size)) (fun i _ => 6 - (intOf i).toNat)
  case atStart => exact ⟨0, by omega, rfl, HC0⟩
  case round =>
    obtain ⟨j, hj, rfl, HR⟩ := hrel
    by_cases hlt : j < 6
    · obtain ⟨x, hx⟩ : ∃ x, X6[j]? = some x := ⟨_, List.getElem?_eq_getElem (by rw [HX.out.2]; exact hlt)⟩
      have hxs := HX.out.1 x (List.mem_of_getElem? hx)
      have hc := HR.out.2.1 j x hx
      have hjk : (j : Int) < 6 := by omega
      have hcv := conv_sb
      have hml : x.size ≤ maxLen := by unfold maxLen; omega
      have R1 := Lib.hid (Read_any _ _ _ (BSl_bytes wr x hml))
      have R2 := Lib.hid (fun W => RefRead19 x (by omega) W)
      clear hx hml
      go_wp2_with (first | (go_at_call 13; (with_reducible refine R1.out.mono ?_); rintro e w6 ⟨v6, ys, p6, st6, hr6, rfl, hown6, hb6⟩; refine Hid.out ?_))
      have HY := Lib.hid (And.intro hr6 (SSl.own hown6))
      have HB6 := Lib.hid ((Lib.bytesWorld_below wr 5 x).trans (hb6.mono (by rw [Lib.bytesWorld_size]; omega)))
      clear hr6 hown6 hb6
      refine Lib.hid ?_
      go_wp2_with (first | (go_at_call 19; (with_reducible refine (R2.out _).mono ?_); rintro e w7 ⟨v7, zs7, p7, st7, hr7, rfl, hown7, hb7⟩; refine Hid.out ?_))
      obtain ⟨rfl, rfl, rfl⟩ : ys = zs7 ∧ p6 = p7 ∧ st6 = st7 := by
        rw [HY.out.1] at hr7; injection hr7 with h1 h2; injection h2 with h2 h3; exact ⟨h1, h2, h3⟩
      have TX := Texts20 v6 v7 _ _ w7 (HY.out.2.below hb7) (SSl.own hown7)
      rw [show decide (ys.map (fun l : List UInt8 => (⟨l.toArray⟩ : ByteArray)) = ys.map (fun l : List UInt8 => (⟨l.toArray⟩ : ByteArray))) = true by simp] at TX
      have TX' := Lib.hid TX
      have HB7 := Lib.hid (HB6.out.trans (hb7.mono HB6.out.size))
      clear TX hr7 hown7 hb7
      refine Lib.hid ?_
      go_wp2_with (first | (go_at_call 20; (with_reducible refine TX'.out.mono ?_); rintro e w8 ⟨rfl, n8, rfl⟩))
      exact ⟨⟨j + 1, by omega, by go_num, Lib.hid ⟨below_drewN (HR.out.1.trans (HB7.out.mono HR.out.1.size)) n8, fun i x hi => (HB7.out.cell (p := ⟨w5.heap.size, i, none⟩) HR.out.2.2).trans (HR.out.2.1 i x hi), by have h1 := HB7.out.size; have h2 := HR.out.2.2; show _ < w7.heap.size; omega⟩⟩, by simp [intOf]; omega⟩
    · have hj6 : j = 6 := by omega
      subst hj6
      go_wp2_with (first | (go_at_call 10; (with_reducible refine (T.out _).mono ?_); rintro e w6 ⟨rfl, hb6⟩))
      go_ret
      exact ⟨by simp, HR.out.1.trans (Below.mono (by assumption) HR.out.1.size)⟩
theorem reads_law (v0 v1 v2 v3 : Value) (cut : Int) (xs : List ByteArray) (lb lt : List UInt8) (zs : List Int) (w : World) (hT : Tab w) (h : SSl w v0 xs) (hb : BSl w v1 lb) (h2 : ISl w v2 zs) (h3 : BSl w v3 lt) :
    Calls Tryd.prog 5 #[v0, v1, v2, v3, .int .i64 cut] w fun e w' => e = .returned (.bool true) ∧ Below w.heap.size w w' := by
  by_cases hno : fewB xs = false ∨ 400 < lb.length
  · exact reads_told v0 v1 v2 v3 cut xs lb w h hb hno
  · have h1 : fewB xs = true := by
      cases hf : fewB xs with
      | true => rfl
      | false => exact absurd (.inl hf) hno
    exact reads_walk w (ItoaOn.of hT) v0 v1 v2 v3 cut xs lb lt zs w (Below.refl _ _) h hb h2 h3 h1 (by rcases Nat.lt_or_ge 400 lb.length with g | g; exact absurd (.inr g) hno; exact g)
end Go.Proofs.YtennkagolgbamaaDoor
