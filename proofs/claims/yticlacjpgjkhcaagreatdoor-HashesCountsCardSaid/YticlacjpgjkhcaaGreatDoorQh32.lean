/- Texts joined: C12, Q1, Q2, Q3 -/
import Derived.Test.YticlacjpgjkhcaaGreatDoorQh31
import Derived.Test.YticlacjpgjkhcaaGreatDoorQh24

/- What the program tells of a few hashes. -/
namespace Go.Proofs.YticlacjpgjkhcaaGreatDoor
open Go.ChangeShapes Go.WideShapes Go.ChangeAt Go.RowKit

theorem nd_ba (u v : ByteArray) : (namesD [(⟨#[98]⟩, v), (⟨#[97]⟩, u)]).Nodup := by
  show ([⟨#[98]⟩, ⟨#[97]⟩] : List ByteArray).Nodup
  decide
theorem nd_ab (u v : ByteArray) : (namesD [(⟨#[97]⟩, u), (⟨#[98]⟩, v)]).Nodup := by
  show ([⟨#[97]⟩, ⟨#[98]⟩] : List ByteArray).Nodup
  decide
theorem srt_ba (u v : ByteArray) : srtF [(⟨#[98]⟩, v), (⟨#[97]⟩, u)] = [(⟨#[97]⟩, u), (⟨#[98]⟩, v)] := by
  rw [srtF_ext (nd_ba u v) (nd_ab u v) fun n => ?_]
  · refine srtF_of (nd_ab u v) ?_
    unfold Rises
    show ([⟨#[97]⟩, ⟨#[98]⟩] : List ByteArray).Pairwise fun a b => leN a b = true
    refine List.Pairwise.cons (fun x hx => ?_) (List.Pairwise.cons (fun x hx => by cases hx) List.Pairwise.nil)
    have : x = ⟨#[98]⟩ := by simpa using hx
    subst this
    decide
  · simp only [findD]
    by_cases h1 : ⟨#[98]⟩ = n
    · subst h1
      rw [if_pos rfl, if_neg (by decide), if_pos rfl]
    · rw [if_neg h1]
      by_cases h2 : ⟨#[97]⟩ = n
      · rw [if_pos h2, if_pos h2]
      · rw [if_neg h2, if_neg h2, if_neg h1]
theorem fb_ba (u : ByteArray) (hu : u.size ≤ 21) : FBd [(⟨#[98]⟩, ⟨#[51]⟩), (⟨#[97]⟩, u)] 4000 := ⟨nd_ba u _, by simp, fun p hp => by
  simp at hp
  rcases hp with rfl | rfl
  · exact ⟨by decide, by decide⟩
  · exact ⟨(by decide : (1 : Nat) ≤ 4000), by show u.size ≤ 4000; omega⟩⟩
theorem dels_ab (u v : ByteArray) : delsD [(⟨#[97]⟩, u), (⟨#[98]⟩, v)] [⟨#[97]⟩, ⟨#[98]⟩, ⟨#[99]⟩] = [] := by kernel_rfl
theorem gone_ab (u v : ByteArray) : goneD [(⟨#[97]⟩, u), (⟨#[98]⟩, v)] [⟨#[97]⟩, ⟨#[98]⟩, ⟨#[99]⟩] = 2 := by kernel_rfl
theorem t_a (W0 : World) (bS bM : Nat)  (X : World) (hL : LDF W0 X bS bM []) (q : Nat) (hq : X.heap.size = q) : Calls Tryz.prog 23 #[.pointer (some ⟨bS, 0, none⟩), .slice (some ⟨q, 0, none⟩) 8 8] (X.alloc (.cells #[.string ⟨#[72, 83, 69, 84]⟩, .string ⟨#[107]⟩, .string ⟨#[98]⟩, .string ⟨#[49]⟩, .string ⟨#[97]⟩, .string ⟨#[50]⟩, .string ⟨#[98]⟩, .string ⟨#[51]⟩] 9)) fun e w' => e = .returned (.agg #[.int .i64 3, .int .i64 2, .string ⟨#[]⟩, .slice none 0 0]) ∧ LDF W0 w' bS bM (dF [(⟨#[98]⟩, ⟨#[51]⟩), (⟨#[97]⟩, ⟨#[50]⟩)]) ∧ Kp X.heap.size (fun i => i ≠ bS ∧ i ≠ bM) X w' := by
  subst hq
  have hp : putsD [] [(⟨#[98]⟩, ⟨#[49]⟩), (⟨#[97]⟩, ⟨#[50]⟩), (⟨#[98]⟩, ⟨#[51]⟩)] = [(⟨#[98]⟩, ⟨#[51]⟩), (⟨#[97]⟩, ⟨#[50]⟩)] := by kernel_rfl
  have hok : okF ⟨#[107]⟩ (srtF (putsD [] [(⟨#[98]⟩, ⟨#[49]⟩), (⟨#[97]⟩, ⟨#[50]⟩), (⟨#[98]⟩, ⟨#[51]⟩)])) := by
    rw [hp]
    exact (fb_ba _ (by decide)).ok (by omega) (by simp)
  have hDD : setX ⟨#[107]⟩ (some (srtF (putsD [] [(⟨#[98]⟩, ⟨#[49]⟩), (⟨#[97]⟩, ⟨#[50]⟩), (⟨#[98]⟩, ⟨#[51]⟩)]))) [] = dF [(⟨#[98]⟩, ⟨#[51]⟩), (⟨#[97]⟩, ⟨#[50]⟩)] := by
    rw [hp, xo_some (by simp)]
    exact dF_set [] _
  exact lit0 X hL [⟨#[72, 83, 69, 84]⟩, ⟨#[107]⟩, ⟨#[98]⟩, ⟨#[49]⟩, ⟨#[97]⟩, ⟨#[50]⟩, ⟨#[98]⟩, ⟨#[51]⟩] (by simp) (fun vA w h hA => d_HSET W0 bS bM [] ⟨#[107]⟩ [] rfl (by simp) [(⟨#[98]⟩, ⟨#[49]⟩), (⟨#[97]⟩, ⟨#[50]⟩), (⟨#[98]⟩, ⟨#[51]⟩)] (by simp) hok (by simp) (by simp) vA w h hA) hDD (by kernel_rfl) rfl
theorem t_b (W0 : World) (bS bM : Nat) (X : World) (hL : LDF W0 X bS bM (dF [(⟨#[98]⟩, ⟨#[51]⟩), (⟨#[97]⟩, ⟨#[50]⟩)])) (q : Nat) (hq : X.heap.size = q) : Calls Tryz.prog 23 #[.pointer (some ⟨bS, 0, none⟩), .slice (some ⟨q, 0, none⟩) 2 2] (X.alloc (.cells #[.string ⟨#[72, 71, 69, 84, 65, 76, 76]⟩, .string ⟨#[107]⟩] 9)) fun e w' => ∃ A m c, e = .returned (.agg #[.int .i64 6, .int .i64 0, .string ⟨#[]⟩, .slice A m c]) ∧ (RO [some ⟨#[97]⟩, some ⟨#[50]⟩, some ⟨#[98]⟩, some ⟨#[51]⟩]) X.heap.size w' (.slice A m c) ∧ LDF W0 w' bS bM (dF [(⟨#[98]⟩, ⟨#[51]⟩), (⟨#[97]⟩, ⟨#[50]⟩)]) ∧ Kp X.heap.size (fun i => i ≠ bS ∧ i ≠ bM) X w' := by
  have h := q_all W0 bS bM [(⟨#[98]⟩, ⟨#[51]⟩), (⟨#[97]⟩, ⟨#[50]⟩)] 4000 (by omega) (fb_ba _ (by decide)) X hL q hq
  rw [srt_ba] at h
  exact h
theorem t_c (W0 : World) (bS bM : Nat) (hT : Tab W0) (X : World) (hL : LDF W0 X bS bM (dF [(⟨#[98]⟩, ⟨#[51]⟩), (⟨#[97]⟩, ⟨#[50]⟩)])) (q : Nat) (hq : X.heap.size = q) : Calls Tryz.prog 23 #[.pointer (some ⟨bS, 0, none⟩), .slice (some ⟨q, 0, none⟩) 4 4] (X.alloc (.cells #[.string ⟨#[72, 73, 78, 67, 82, 66, 89]⟩, .string ⟨#[107]⟩, .string ⟨#[97]⟩, .string ⟨#[53]⟩] 9)) fun e w' => e = .returned (.agg #[.int .i64 3, .int .i64 7, .string ⟨#[]⟩, .slice none 0 0]) ∧ LDF W0 w' bS bM (dF [(⟨#[98]⟩, ⟨#[51]⟩), (⟨#[97]⟩, numT 7)]) ∧ Kp X.heap.size (fun i => i ≠ bS ∧ i ≠ bM) X w' :=
  q_incr1 W0 bS bM [(⟨#[98]⟩, ⟨#[51]⟩), (⟨#[97]⟩, ⟨#[50]⟩)] 4000 (by omega) (fb_ba _ (by decide)) hT ⟨#[97]⟩ ⟨#[53]⟩ (by decide) 5 (by decide) (by kernel_rfl) ⟨by decide, by decide⟩ ⟨#[50]⟩ 2 (by decide) (by kernel_rfl) ⟨by decide, by decide⟩ (by decide) (by kernel_rfl) X hL q hq
theorem t_d (W0 : World) (bS bM : Nat) (u : ByteArray) (X : World) (hL : LDF W0 X bS bM (dF [(⟨#[98]⟩, ⟨#[51]⟩), (⟨#[97]⟩, u)])) (q : Nat) (hq : X.heap.size = q) : Calls Tryz.prog 23 #[.pointer (some ⟨bS, 0, none⟩), .slice (some ⟨q, 0, none⟩) 5 5] (X.alloc (.cells #[.string ⟨#[72, 68, 69, 76]⟩, .string ⟨#[107]⟩, .string ⟨#[97]⟩, .string ⟨#[98]⟩, .string ⟨#[99]⟩] 9)) fun e w' => e = .returned (.agg #[.int .i64 3, .int .i64 2, .string ⟨#[]⟩, .slice none 0 0]) ∧ LDF W0 w' bS bM [] ∧ Kp X.heap.size (fun i => i ≠ bS ∧ i ≠ bM) X w' := by
  subst hq
  have hps : ∀ (i : Nat) (n : ByteArray), ([⟨#[97]⟩, ⟨#[98]⟩, ⟨#[99]⟩] : List ByteArray)[i]? = some n → n.size ≤ 1000000 := by
    intro i n h
    have := List.mem_of_getElem? h
    simp at this
    rcases this with rfl | rfl | rfl <;> decide
  exact lit0 X hL [⟨#[72, 68, 69, 76]⟩, ⟨#[107]⟩, ⟨#[97]⟩, ⟨#[98]⟩, ⟨#[99]⟩] (by simp) (fun vA w h hA => d_HDEL W0 bS bM (dF [(⟨#[98]⟩, ⟨#[51]⟩), (⟨#[97]⟩, u)]) ⟨#[107]⟩ [(⟨#[97]⟩, u), (⟨#[98]⟩, ⟨#[51]⟩)] (by rw [dF_find, srt_ba]) (by simp) [⟨#[97]⟩, ⟨#[98]⟩, ⟨#[99]⟩] (by simp) (by simp) (fun h => absurd (dels_ab u ⟨#[51]⟩) h) (fun n hn => by rw [dels_ab u ⟨#[51]⟩] at hn; cases hn) hps (dF_len _) vA w h hA) (by rw [dels_ab]; exact dF_set [(⟨#[98]⟩, ⟨#[51]⟩), (⟨#[97]⟩, u)] []) (by rw [gone_ab]; rfl) rfl
set_option maxRecDepth 100000 in
set_option maxHeartbeats 8000000 in
theorem told {W0 : World} (hT : Tab W0) : Calls Tryz.prog 21 #[] W0 fun e w' => e = .returned (.bool true) ∧ Below W0.heap.size W0 w' := by
  have NW := Lib.hid (New9 W0)
  go_enter Tryz.func21, Tryz.ntmps21
  go_wp2_with (first | (go_at_call 11; (with_reducible refine (NW.out).mono ?_); rintro e v0 ⟨bS, bM, rfl, hS0, hbS, hbM, hB0⟩; have L0 := Lib.hid (LD.mk0 KF okF hS0 hB0 hbS hbM); clear hS0 hbS hbM hB0; refine Hid.out ?_))
  refine Lib.hid ?_
  have D1 := Lib.hid (t_a W0 bS bM  (v0) L0.out (v0.heap.size) rfl)
  go_wp2_with (first | (go_at_call 23; (with_reducible refine (D1.out).mono ?_); rintro e v1 ⟨rfl, hL1, hK1⟩; have L1 := Lib.hid hL1; clear hL1 hK1; refine Hid.out ?_))
  refine Lib.hid ?_
  have M1 := Lib.hid (L1.out.old (alloc_old (o := .cells #[.int .i64 3, .int .i64 2, .string ⟨#[]⟩, .slice none 0 0] 29)))
  have ma1 := Lib.hid (heap_alloc_new v1 (.cells #[.int .i64 3, .int .i64 2, .string ⟨#[]⟩, .slice none 0 0] 29))
  have D2 := Lib.hid (t_b W0 bS bM  (v1.alloc (.cells #[.int .i64 3, .int .i64 2, .string ⟨#[]⟩, .slice none 0 0] 29)) M1.out (v1.heap.size + 1) (by simp))
  go_wp2_with (first | (go_at_call 23; (with_reducible refine (D2.out).mono ?_); rintro e v2 ⟨A2, m2, c2, rfl, hR2, hL2, hK2⟩; have L2 := Lib.hid hL2; have ka2 := Lib.hid (keepL hK2 M1.out ma1.out (by decide)); have kR2 := Lib.hid hR2; clear hL2 hK2 hR2; refine Hid.out ?_))
  refine Lib.hid ?_
  have M2 := Lib.hid (L2.out.old (alloc_old (o := .cells #[.int .i64 6, .int .i64 0, .string ⟨#[]⟩, .slice A2 m2 c2] 29)))
  have ma2 := Lib.hid (blk_below ka2.out (alloc_old (o := .cells #[.int .i64 6, .int .i64 0, .string ⟨#[]⟩, .slice A2 m2 c2] 29)))
  have mR22 := Lib.hid (RO.below kR2.out (alloc_old (o := .cells #[.int .i64 6, .int .i64 0, .string ⟨#[]⟩, .slice A2 m2 c2] 29)))
  have mb2 := Lib.hid (heap_alloc_new v2 (.cells #[.int .i64 6, .int .i64 0, .string ⟨#[]⟩, .slice A2 m2 c2] 29))
  have D3 := Lib.hid (t_c W0 bS bM hT (v2.alloc (.cells #[.int .i64 6, .int .i64 0, .string ⟨#[]⟩, .slice A2 m2 c2] 29)) M2.out (v2.heap.size + 1) (by simp))
  go_wp2_with (first | (go_at_call 23; (with_reducible refine (D3.out).mono ?_); rintro e v3 ⟨rfl, hL3, hK3⟩; have L3 := Lib.hid hL3; have ka3 := Lib.hid (keepL hK3 M2.out ma2.out (by decide)); have kR23 := Lib.hid (RO.keepD hK3 M2.out mR22.out); have kb3 := Lib.hid (keepL hK3 M2.out mb2.out (by decide)); clear hL3 hK3; refine Hid.out ?_))
  refine Lib.hid ?_
  have M3 := Lib.hid (L3.out.old (alloc_old (o := .cells #[.int .i64 3, .int .i64 7, .string ⟨#[]⟩, .slice none 0 0] 29)))
  have ma3 := Lib.hid (blk_below ka3.out (alloc_old (o := .cells #[.int .i64 3, .int .i64 7, .string ⟨#[]⟩, .slice none 0 0] 29)))
  have mR23 := Lib.hid (RO.below kR23.out (alloc_old (o := .cells #[.int .i64 3, .int .i64 7, .string ⟨#[]⟩, .slice none 0 0] 29)))
  have mb3 := Lib.hid (blk_below kb3.out (alloc_old (o := .cells #[.int .i64 3, .int .i64 7, .string ⟨#[]⟩, .slice none 0 0] 29)))
  have mc3 := Lib.hid (heap_alloc_new v3 (.cells #[.int .i64 3, .int .i64 7, .string ⟨#[]⟩, .slice none 0 0] 29))
  have D4 := Lib.hid (t_d W0 bS bM (numT 7) (v3.alloc (.cells #[.int .i64 3, .int .i64 7, .string ⟨#[]⟩, .slice none 0 0] 29)) M3.out (v3.heap.size + 1) (by simp))
  go_wp2_with (first | (go_at_call 23; (with_reducible refine (D4.out).mono ?_); rintro e v4 ⟨rfl, hL4, hK4⟩; have L4 := Lib.hid hL4; have ka4 := Lib.hid (keepL hK4 M3.out ma3.out (by decide)); have kR24 := Lib.hid (RO.keepD hK4 M3.out mR23.out); have kb4 := Lib.hid (keepL hK4 M3.out mb3.out (by decide)); have kc4 := Lib.hid (keepL hK4 M3.out mc3.out (by decide)); clear hL4 hK4; refine Hid.out ?_))
  refine Lib.hid ?_
  have M4 := Lib.hid (L4.out.old (alloc_old (o := .cells #[.int .i64 3, .int .i64 2, .string ⟨#[]⟩, .slice none 0 0] 29)))
  have ma4 := Lib.hid (blk_below ka4.out (alloc_old (o := .cells #[.int .i64 3, .int .i64 2, .string ⟨#[]⟩, .slice none 0 0] 29)))
  have mR24 := Lib.hid (RO.below kR24.out (alloc_old (o := .cells #[.int .i64 3, .int .i64 2, .string ⟨#[]⟩, .slice none 0 0] 29)))
  have mb4 := Lib.hid (blk_below kb4.out (alloc_old (o := .cells #[.int .i64 3, .int .i64 2, .string ⟨#[]⟩, .slice none 0 0] 29)))
  have mc4 := Lib.hid (blk_below kc4.out (alloc_old (o := .cells #[.int .i64 3, .int .i64 2, .string ⟨#[]⟩, .slice none 0 0] 29)))
  have md4 := Lib.hid (heap_alloc_new v4 (.cells #[.int .i64 3, .int .i64 2, .string ⟨#[]⟩, .slice none 0 0] 29))
  obtain ⟨⟨a0, a1, a2, a3⟩, _⟩ := cells4 ma4.out
  obtain ⟨⟨b0, b1, b2, b3⟩, _⟩ := cells4 mb4.out
  obtain ⟨⟨c0, c1, c2, c3⟩, _⟩ := cells4 mc4.out
  obtain ⟨⟨d0, d1, d2, d3⟩, _⟩ := cells4 md4.out
  obtain ⟨rfl, ⟨g, rfl⟩, hcc⟩ := mR24.out.form (by simp)
  have cw := row_cell mR24.out 2 (.string ⟨#[97]⟩) rfl
  have cw2 := row_cell mR24.out 14 (.string ⟨#[51]⟩) rfl
  have AL := Lib.hid (All0 bS bM _ (LD.sp0 M4.out))
  go_wp2_with (first | (go_at_call 24; (with_reducible refine (AL.out).mono ?_); rintro e v9 ⟨rfl, h9⟩; have L9 := Lib.hid (M4.out.old h9); clear h9))
  go_ret
  exact ⟨by simp, L9.out.below⟩
end Go.Proofs.YticlacjpgjkhcaaGreatDoor

/- A law's do where a row of fields of the law's own stands beside the space: the two stay apart. -/
namespace Go.Proofs.YticlacjpgjkhcaaGreatDoor
open Go.ChangeShapes Go.WideShapes Go.ChangeAt Go.RowKit

/-- Hashes whose rows are new, but for those that are as y0. -/
def KF2 (c : Nat) (y0 : List (ByteArray × ByteArray)) : Kd (List (ByteArray × ByteArray)) where
  kd := 3
  nz := ⟨by decide, by decide⟩
  V := fun w x a b d e => VF w x a b d e ∧ (x ≠ y0 → ∀ g, Own a b d e g → c ≤ g)
  kept := fun h hb => ⟨KF.kept h.1 hb, h.2⟩
  typ := fun h hg => KF.typ h.1 hg
/-- Hashes whose rows are not block q. -/
def KFq (q : Nat) : Kd (List (ByteArray × ByteArray)) where
  kd := 3
  nz := ⟨by decide, by decide⟩
  V := fun w x a b d e => VF w x a b d e ∧ ∀ g, Own a b d e g → g ≠ q
  kept := fun h hb => ⟨KF.kept h.1 hb, h.2⟩
  typ := fun h hg => KF.typ h.1 hg
def KF2ok (c : Nat) (y0 : List (ByteArray × ByteArray)) : KdOk (KF2 c y0) okF where
  sz := KFok.sz
  may := fun k F A3 A4 A5 A6 an3 ac3 an4 ac4 an5 ac5 an6 ac6 w hk hV => KFok.may k F A3 A4 A5 A6 an3 ac3 an4 ac4 an5 ac5 an6 ac6 w hk hV.1
  clone := by
    rintro k F A3 A4 A5 A6 an3 ac3 an4 ac4 an5 ac5 an6 ac6 w hk hV
    have hg0 : F ≠ y0 → c ≤ w.heap.size := fun hne => by
      have hv := hV.1
      obtain ⟨g, rfl, rfl, rfl, rfl, rfl, rfl, rfl, rfl, rfl, rfl, rfl⟩ := VF.form A3 A4 A5 A6 an3 ac3 an4 ac4 an5 ac5 an6 ac6 hv
      have h1 := hV.2 hne g (.inr (.inl rfl))
      have h2 := KF.lt (x := F) hv (.inr (.inl rfl))
      exact Nat.le_trans h1 (Nat.le_of_lt h2)
    refine (KFok.clone k F A3 A4 A5 A6 an3 ac3 an4 ac4 an5 ac5 an6 ac6 w hk hV.1).mono ?_
    rintro e w' ⟨Y3, Y4, Y5, Y6, yn3, yc3, yn4, yc4, yn5, yc5, yn6, yc6, rfl, hV', hg', hb⟩
    exact ⟨Y3, Y4, Y5, Y6, yn3, yc3, yn4, yc4, yn5, yc5, yn6, yc6, rfl, ⟨hV', fun hne g hg => Nat.le_trans (hg0 hne) (hg' g hg)⟩, hg', hb⟩
  size := fun k F A3 A4 A5 A6 an3 ac3 an4 ac4 an5 ac5 an6 ac6 w hk hV => KFok.size k F A3 A4 A5 A6 an3 ac3 an4 ac4 an5 ac5 an6 ac6 w hk hV.1
theorem AllE.conv {α : Type} (K K2 : Kd α) (hk : K2.kd = K.kd) {w : World} : ∀ {D : List (ByteArray × α)} {l : MapT.Ents}, (∀ p ∈ D, ∀ a b d e, K.V w p.2 a b d e → K2.V w p.2 a b d e) → AllE K w D l → AllE K2 w D l
  | [], [], _, _ => trivial
  | p :: _, _ :: _, hV, h => by
    obtain ⟨⟨h1, A3, A4, A5, A6, an3, ac3, an4, ac4, an5, ac5, an6, ac6, h2, h3⟩, h4⟩ := h
    exact ⟨⟨h1, A3, A4, A5, A6, an3, ac3, an4, ac4, an5, ac5, an6, ac6, by rw [hk]; exact h2, hV p List.mem_cons_self _ _ _ _ h3⟩, AllE.conv K K2 hk (fun p hp => hV p (List.mem_cons_of_mem _ hp)) h4⟩
  | [], _ :: _, _, h => h.elim
  | _ :: _, [], _, h => h.elim
theorem SPG.conv {α : Type} (K K2 : Kd α) (ok : ByteArray → α → Prop) (hk : K2.kd = K.kd) {w : World} {bS bM : Nat} {D : List (ByteArray × α)} (hV : ∀ p ∈ D, ∀ a b d e, K.V w p.2 a b d e → K2.V w p.2 a b d e) (h : SPG K ok w bS bM D) : SPG K2 ok w bS bM D := by
  obtain ⟨⟨l, h1, h2⟩, h3⟩ := h
  exact ⟨⟨l, h1, AllE.conv K K2 hk hV h2⟩, h3⟩
theorem EC.conv {α : Type} (K K2 : Kd α) (hk : K2.kd = K.kd) {c : Nat} {w : World} (hV : ∀ (x : α) (a b d e : Value), K.V w x a b d e → (∀ g, Own a b d e g → c ≤ g) → K2.V w x a b d e) : ∀ {p : ByteArray × Option α} {cs : List Value}, EC K c w p cs → EC K2 c w p cs
  | (k, none), cs, h => h
  | (k, some x), cs, h => by
    obtain ⟨A3, A4, A5, A6, an3, ac3, an4, ac4, an5, ac5, an6, ac6, h1, h2, h3⟩ := h
    exact ⟨A3, A4, A5, A6, an3, ac3, an4, ac4, an5, ac5, an6, ac6, by rw [hk]; exact h1, hV _ _ _ _ _ h2 h3, h3⟩
theorem ALC.conv {α : Type} (K K2 : Kd α) (hk : K2.kd = K.kd) {c : Nat} {w : World} (hV : ∀ (x : α) (a b d e : Value), K.V w x a b d e → (∀ g, Own a b d e g → c ≤ g) → K2.V w x a b d e) : ∀ {D : List (ByteArray × Option α)} {l : List (List Value)}, ALC K c w D l → ALC K2 c w D l
  | [], [], _ => trivial
  | _ :: _, _ :: _, h => ⟨EC.conv K K2 hk hV h.1, ALC.conv K K2 hk hV h.2⟩
  | [], _ :: _, h => h.elim
  | _ :: _, [], h => h.elim
theorem EL.conv {α : Type} (K K2 : Kd α) (hk : K2.kd = K.kd) {des : List (ByteArray × Option α)} {c : Nat} {w : World} {v : Value} (hV : ∀ (x : α) (a b d e : Value), K.V w x a b d e → (∀ g, Own a b d e g → c ≤ g) → K2.V w x a b d e) (h : EL K des c w v) : EL K2 des c w v := by
  obtain ⟨css, h1, h2⟩ := h
  exact ⟨css, h1, ALC.conv K K2 hk hV h2⟩
/-- A law's do, by another kind for what is laid. -/
theorem do_DH2 {α : Type} (K K2 : Kd α) (ok : ByteArray → α → Prop) (hO2 : KdOk K2 ok) (RAW NAME : ByteArray) (F : FuncId) (bS bM : Nat) (D : List (ByteArray × α)) (xs : List ByteArray) (vA : Value) (k n : Int) (s : ByteArray) (R : Nat → World → Value → Prop) (hR : RKeep R) (des : List (ByteArray × Option α)) (hm : MayD ok des D) (w : World) (hS : SPG K ok w bS bM D) (hS2 : SPG K2 ok w bS bM D) (hEL : ∀ c X v, w.heap.size ≤ c → EL K des c X v → EL K2 des c X v) (hA : SSl w vA xs) (hx : xs[0]? = some RAW) (hfit : ∀ X, SSl X vA xs → Calls Tryz.prog 95 #[vA] X fun e w' => e = .returned (.int .i64 0) ∧ Below X.heap.size X w') (hup : ∀ X, Calls Tryz.prog 96 #[.string RAW] X fun e w' => e = .returned (.string NAME) ∧ Below X.heap.size X w')
    (hsel : MapT.find NAME flH = some (.func (.func F) #[] #[])) (hent : ∀ (args : Array Value) (w : World), (callFunc F args).run Tryz.prog w = .ok (.enter F args) w) (hF : ∀ X, Below w.heap.size w X → CmdD K ok F bS bM D 1 xs k n s R des X) :
    Calls Tryz.prog 23 #[.pointer (some ⟨bS, 0, none⟩), vA] w fun e w' => ∃ A m c, e = .returned (.agg #[.int .i64 k, .int .i64 n, .string s, .slice A m c]) ∧ R w.heap.size w' (.slice A m c) ∧ SPG K2 ok w' bS bM (applyD des D) ∧ Kp w.heap.size (fun i => i ≠ bS ∧ i ≠ bM) w w' := by
  refine do_okG K2 ok hO2 bS bM D vA k n s R hR des hm w hS2 (fun X hX => ?_)
  obtain ⟨⟨l, hSP, hAE⟩, hall⟩ := SPG.below K ok hS hX
  refine (Do_okH RAW NAME F bS bM l 1 xs vA k n s R (EL K des) hR (EL.keep K des) X hSP (hA.below hX) hx hfit hup hsel hent (fun W hW Y j vB hY _ hJ hss => ?_)).mono ?_
  · refine (hF Y ((hX.trans (hW.mono (Below.size hX))).trans (hY.mono (Nat.le_trans (Below.size hX) (Below.size hW)))) j vB (SPG.below K ok hS ((hX.trans (hW.mono (Below.size hX))).trans (hY.mono (Nat.le_trans (Below.size hX) (Below.size hW))))) hJ hss).mono ?_
    rintro e w' ⟨A, m, c, rfl, hRR, ⟨vl, ⟨A', n', c', rfl⟩, hJ', css, hE', hA'⟩, hK⟩
    exact ⟨A, m, c, rfl, hRR, ⟨A', n', c', hJ', css, hE', hA'⟩, hK⟩
  · rintro e w' ⟨A, m, c, A', n', c', rfl, h1, h2, h3⟩
    exact ⟨A, m, c, A', n', c', rfl, h1, hEL _ _ _ (Below.size hX) h2, h3⟩
set_option maxRecDepth 100000 in
set_option maxHeartbeats 8000000 in
theorem do_ok0 (bS : Nat) (vA : Value) (k n : Int) (s : ByteArray) (w : World) (hD : ∀ X, Below w.heap.size w X → Calls Tryz.prog 31 #[.pointer (some ⟨bS, 0, none⟩), .int .i64 1, vA] X fun e w' => (∃ A' c', e = .returned (.tuple #[.agg #[.int .i64 k, .int .i64 n, .string s, .slice none 0 0], .slice A' 0 c', .bool true])) ∧ Below X.heap.size X w') : Calls Tryz.prog 23 #[.pointer (some ⟨bS, 0, none⟩), vA] w fun e w' => e = .returned (.agg #[.int .i64 k, .int .i64 n, .string s, .slice none 0 0]) ∧ Below w.heap.size w w' := by
  have A1 := Lib.hid (alloc_old (w := w) (o := .cells #[.int .i64 0, .int .i64 0, .string ⟨#[]⟩, .slice none 0 0] 29))
  have hr := Lib.hid (heap_alloc_new w (.cells #[.int .i64 0, .int .i64 0, .string ⟨#[]⟩, .slice none 0 0] 29))
  have D := Lib.hid (hD _ A1.out)
  clear hD
  go_enter Tryz.func23, Tryz.ntmps23
  go_wp2_with (first | (go_at_call 31; (with_reducible refine (D.out).mono ?_); rintro e w5 ⟨⟨A', c', rfl⟩, hb5⟩; have B5 := Lib.hid (A1.out.trans (hb5.mono (Below.size A1.out))); have R5 := Lib.hid (blk_below hr.out hb5); clear hb5; refine Hid.out ?_))
  refine Lib.hid ?_
  have B6 := Lib.hid (show Below w.heap.size w (w5.alloc (.cells #[.int .i64 k, .int .i64 n, .string s, .slice none 0 0] 29)) from B5.out.trans (alloc_old.mono (Below.size B5.out)))
  have o6 := Lib.hid (heap_alloc_new w5 (.cells #[.int .i64 k, .int .i64 n, .string s, .slice none 0 0] 29))
  have R6 := Lib.hid (blk_below R5.out (alloc_old (o := .cells #[.int .i64 k, .int .i64 n, .string s, .slice none 0 0] 29)))
  go_wp2_with fail
  generalize (w5.alloc (.cells #[.int .i64 k, .int .i64 n, .string s, .slice none 0 0] 29)) = w6 at B6 o6 R6 ⊢
  refine wp_loop_once ?_
  obtain ⟨⟨d0, d1, d2, d3⟩, _⟩ := cells4 o6.out
  obtain ⟨⟨c0, c1, c2, c3⟩, ⟨f0, f1, f2, f3⟩⟩ := cells4 R6.out
  go_wp2
  exact bodyPost_ret (v := .agg #[.int .i64 k, .int .i64 n, .string s, .slice none 0 0]) (by simp [results, Tryz.results23, go_sem, c0, c1, c2, c3]) rfl ⟨rfl, ((((B6.out.setCell (Nat.le_refl _) _).setCell (Nat.le_refl _) _).setCell (Nat.le_refl _) _).setCell (Nat.le_refl _) _)⟩
end Go.Proofs.YticlacjpgjkhcaaGreatDoor

/- HSET of one field beside a row of fields of the law's own. -/
namespace Go.Proofs.YticlacjpgjkhcaaGreatDoor
open Go.ChangeShapes Go.WideShapes Go.ChangeAt Go.RowKit

theorem dF_congr {F G : List (ByteArray × ByteArray)} (h : srtF G = srtF F) : dF G = dF F := by
  have : G = [] ↔ F = [] := (srtF_nil (F := G)).symm.trans (by rw [h]; exact srtF_nil)
  unfold dF
  by_cases hf : F = []
  · rw [if_pos hf, if_pos (this.2 hf)]
  · rw [if_neg hf, if_neg (fun e => hf (this.1 e)), h]
theorem dF_mem {F : List (ByteArray × ByteArray)} {p : ByteArray × List (ByteArray × ByteArray)} (h : p ∈ dF F) : p.2 = srtF F := by
  unfold dF at h
  by_cases hf : F = []
  · rw [if_pos hf] at h
    cases h
  · rw [if_neg hf] at h
    rw [List.mem_singleton.1 h]
theorem q_setV (W0 : World) (bS bM : Nat) (F : List (ByteArray × ByteArray)) (B : Nat) (hB : B ≤ 4000) (hb : FBd F B) (n t : ByteArray) (hn : n.size ≤ B) (ht : t.size ≤ B) (Qs : Nat → Prop) (X : World) (vA : Value) (hLY : LDF W0 X bS bM (dF F)) (hQ : ∀ q, Qs q → q < X.heap.size ∧ SPG (KFq q) okF X bS bM (dF F)) (hA : SSl X vA [⟨#[72, 83, 69, 84]⟩, ⟨#[107]⟩, n, t]) : Calls Tryz.prog 23 #[.pointer (some ⟨bS, 0, none⟩), vA] X fun e w' => e = .returned (.agg #[.int .i64 3, .int .i64 (if (findD n F).isNone = true then 1 else 0), .string ⟨#[]⟩, .slice none 0 0]) ∧ LDF W0 w' bS bM (dF (putD n t F)) ∧ (∀ q, Qs q → SPG (KFq q) okF w' bS bM (dF (putD n t F))) ∧ Kp X.heap.size (fun i => i ≠ bS ∧ i ≠ bM) X w' := by
  have hok : okF ⟨#[107]⟩ (srtF (putsD (srtF F) [(n, t)])) := by
    rw [srtF_puts [(n, t)] hb.nd]
    refine okF_of (by decide) (putsD_ne1 n t F) (by have := len_putF n t F; have := hb.few; show (putD n t F).length ≤ 16; omega) (nd_putD hb.nd) (fun p hp => ?_)
    rcases mem_putF hp with hp | rfl
    · have := hb.sz p hp; exact ⟨by omega, by omega⟩
    · exact ⟨by show n.size ≤ 4000; omega, by show t.size ≤ 4000; omega⟩
  have hnn : ((newsD (srtF F) [(n, t)] : Nat) : Int) = if (findD n F).isNone = true then 1 else 0 := by
    rw [news_congr [(n, t)] (fun n => findD_srtF F n)]
    show (((if (findD n F).isNone = true then 1 else 0) + 0 : Nat) : Int) = _
    split <;> rfl
  have hsrt : srtF (putsD (srtF F) [(n, t)]) = srtF (putD n t F) := srtF_put hb.nd n t
  rw [← hnn]
  have hcmd := fun Z => cHSET bS bM (dF F) 1 ⟨#[72, 83, 69, 84]⟩ ⟨#[107]⟩ (srtF F) [(n, t)] (putsD_ne (by simp)) hok (ok_names hok) (fun i p hp => ok_names hok p.1 (mem_names.2 (puts_find hp))) (by rw [len_srtF]; exact Nat.succ_le_succ hb.few) (dF_find F) (by rw [len_srtF]; exact hb.few) Z
  have hm : MayD okF (dEff ⟨#[107]⟩ (some (srtF (putsD (srtF F) [(n, t)]))) (dF F)) (dF F) := may_eff okF _ _ _ (fun x hx => by cases hx; exact hok) (dF_len F)
  by_cases he : srtF (putD n t F) = srtF F
  · have hne : F ≠ [] := by
      rintro rfl
      exact putsD_ne1 n t [] (srtF_nil.1 (he.trans (srtF_nil.2 rfl)))
    have hdes : dEff ⟨#[107]⟩ (some (srtF (putsD (srtF F) [(n, t)]))) (dF F) = [] := by
      rw [hsrt, he]
      have hf : findD ⟨#[107]⟩ (dF F) = some (srtF F) := by unfold dF; rw [if_neg hne]; simp [findD]
      unfold dEff
      rw [hf]
      simp
    rw [hdes] at hcmd
    refine (do_ok0 bS _ 3 ((newsD (srtF F) [(n, t)] : Nat) : Int) ⟨#[]⟩ _ (fun Y hY => ?_)).mono ?_
    · obtain ⟨⟨l, hSP, hAE⟩, hall⟩ := SPG.below KF okF hLY.sp hY
      refine (Do_okH ⟨#[72, 83, 69, 84]⟩ ⟨#[72, 83, 69, 84]⟩ 77 bS bM l 1 _ _ 3 ((newsD (srtF F) [(n, t)] : Nat) : Int) ⟨#[]⟩ R0 (EL KF []) R0.keep (EL.keep KF []) Y hSP (hA.below hY) rfl (fun Z h => Fits_HSET _ _ rfl (by simp) (by simp) (by simp) Z h) hu_HSET sel_HSET ent_HSET (fun W hW Z j vB hZ _ hJ hss => ?_)).mono ?_
      · refine (hcmd Z j vB (SPG.below KF okF hLY.sp ((hY.trans (hW.mono (Below.size hY))).trans (hZ.mono (Nat.le_trans (Below.size hY) (Below.size hW))))) hJ hss).mono ?_
        rintro e w' ⟨A, m, c, rfl, hRR, ⟨vl, ⟨A', n', c', rfl⟩, hJ', css, hE', hA'⟩, hK⟩
        exact ⟨A, m, c, rfl, hRR, ⟨A', n', c', hJ', css, hE', hA'⟩, hK⟩
      · rintro e w' ⟨A, m, c, A', n', c', rfl, h1, ⟨css, h2, h4⟩, h3⟩
        cases h1
        have hlen := ALC.len KF h4
        obtain ⟨hn', _⟩ := h2.form
        rw [hlen] at hn'
        subst hn'
        exact ⟨⟨A', c', rfl⟩, h3⟩
    · rintro e w' ⟨rfl, h1⟩
      rw [dF_congr he]
      exact ⟨rfl, hLY.old h1, fun q hq => SPG.below (KFq q) okF (hQ q hq).2 h1, Kp.of h1⟩
  · refine (do_DH2 KF (KF2 X.heap.size (srtF F)) okF (KF2ok _ _) ⟨#[72, 83, 69, 84]⟩ ⟨#[72, 83, 69, 84]⟩ 77 bS bM (dF F) _ _ 3 ((newsD (srtF F) [(n, t)] : Nat) : Int) ⟨#[]⟩ R0 R0.keep _ hm _ hLY.sp (SPG.conv KF (KF2 _ _) okF rfl (fun p hp a b d e hv => ⟨hv, fun h => absurd (dF_mem hp) h⟩) hLY.sp) (fun c Y v hc h => EL.conv KF (KF2 _ _) rfl (fun x a b d e hv ho => ⟨hv, fun _ g hg => Nat.le_trans hc (ho g hg)⟩) h) hA rfl (fun Z h => Fits_HSET _ _ rfl (by simp) (by simp) (by simp) Z h) hu_HSET sel_HSET ent_HSET (fun Z _ => hcmd Z)).mono ?_
    rintro e w' ⟨A, m, c, rfl, h1, h2, h3⟩
    cases h1
    rw [apply_eff, show setX ⟨#[107]⟩ (some (srtF (putsD (srtF F) [(n, t)]))) (dF F) = dF (putD n t F) from puts1_set hb.nd n t] at h2
    have h4 : SPG KF okF w' bS bM (dF (putD n t F)) := SPG.conv (KF2 _ _) KF okF rfl (fun p hp a b d e hv => hv.1) h2
    refine ⟨rfl, hLY.step h4 h3, fun q hq => SPG.conv (KF2 _ _) (KFq q) okF rfl (fun p hp a b d e hv => ⟨hv.1, fun g hg => ?_⟩) h2, h3⟩
    have h5 := hv.2 (by rw [dF_mem hp]; exact he) g hg
    have h6 := (hQ q hq).1
    omega
end Go.Proofs.YticlacjpgjkhcaaGreatDoor

/- The law's own row of fields: a name's place, a text set. -/
namespace Go.Proofs.YticlacjpgjkhcaaGreatDoor
open Go.ChangeShapes Go.WideShapes Go.ChangeAt Go.RowKit

theorem row_setG {w : World} {c : Nat} {e : TypeId} {m g C n : Nat} {xs : List Value} (h : w.ownsRow c e m (.slice (some ⟨g, 0, none⟩) n C) n xs) (j : Nat) (v : Value) : (w.setCell ⟨g, j, none⟩ v).ownsRow c e m (.slice (some ⟨g, 0, none⟩) n C) n (xs.set j v) := by
  unfold World.ownsRow at h ⊢
  obtain ⟨h1, ⟨h2, _⟩ | ⟨g', cap, cur, h2, h3, h4, h5, h6, h7, h8⟩⟩ := h
  · cases h2
  · cases h2
    refine ⟨by rw [List.length_set]; exact h1, .inr ⟨g, C, cur.setIfInBounds j v, rfl, h3, set_cells h4, h5, h6, by simpa using h7, ?_⟩⟩
    rw [Array.toList_setIfInBounds, List.take_set, h8]
theorem cF_set (t : ByteArray) : ∀ (l : List (ByteArray × ByteArray)) (i : Nat) (p : ByteArray × ByteArray), l[i]? = some p → (l.flatMap cF).set (i * 2 + 1) (.string t) = (l.set i (p.1, t)).flatMap cF
  | [], _, _, h => by simp at h
  | q :: r, 0, p, h => by
    simp at h
    subst h
    rfl
  | q :: r, i + 1, p, h => by
    have ih := cF_set t r i p (by simpa using h)
    rw [List.flatMap_cons, List.set_cons_succ, List.flatMap_cons, ← ih, show (i + 1) * 2 + 1 = i * 2 + 1 + 1 + 1 by omega]
    rfl
theorem RF.setText {w : World} {c g C n : Nat} {l : List (ByteArray × ByteArray)} (h : RF w c (.slice (some ⟨g, 0, none⟩) n C) l) (hn : l.length = n) (i : Nat) (p : ByteArray × ByteArray) (hi : l[i]? = some p) (t : ByteArray) : RF (w.setCell ⟨g, i * 2 + 1, none⟩ (.string t)) c (.slice (some ⟨g, 0, none⟩) n C) (l.set i (p.1, t)) := by
  subst hn
  have := row_setG h (i * 2 + 1) (.string t)
  rw [cF_set t l i p hi] at this
  unfold RF
  rw [List.length_set]
  exact this
theorem find_at {n t0 : ByteArray} : ∀ {F : List (ByteArray × ByteArray)}, findD n F = some t0 → ∃ m, F[m]? = some (n, t0) ∧ (∀ q p, q < m → F[q]? = some p → p.1 ≠ n) ∧ ∀ t, putD n t F = F.set m (n, t)
  | [], h => by cases h
  | (y, v) :: r, h => by
    by_cases hy : y = n
    · subst hy
      simp [findD] at h
      subst h
      exact ⟨0, rfl, fun q p hq => by omega, fun t => by simp [putD]⟩
    · simp [findD, hy] at h
      obtain ⟨m, h1, h2, h3⟩ := find_at h
      refine ⟨m + 1, by simpa using h1, fun q p hq hp => ?_, fun t => by simp [putD, hy, h3]⟩
      cases q with
      | zero => simp at hp; subst hp; exact hy
      | succ q => exact h2 q p (by omega) (by simpa using hp)
set_option maxRecDepth 100000 in
set_option maxHeartbeats 4000000 in
theorem place_m (c : Nat) (A : Option Addr) (C : Nat) (F : List (ByteArray × ByteArray)) (N : Nat) (hN : F.length = N) (hN2 : N ≤ 1000) (n : ByteArray) (m : Nat) (hm : m ≤ N) (hq : ∀ q p, q < m → F[q]? = some p → p.1 ≠ n) (he : m = N ∨ ∃ t, F[m]? = some (n, t)) (r : Int) (hr : r = if m = N then -1 else (m : Int)) (w : World) (h : RF w c (.slice A N C) F) : Calls Tryz.prog 22 #[.slice A N C, .string n] w fun e w' => e = .returned (.int .i64 r) ∧ Below w.heap.size w w' := by
  have HN := Lib.hid hN
  have HQ := Lib.hid hq
  have HE := Lib.hid he
  have HR := Lib.hid h
  have HR9 := Lib.hid hr
  clear hq he h hN hr
  go_enter Tryz.func22, Tryz.ntmps22
  go_wp2
  go_loopw [5] (fun iv wr => ∃ i : Nat, i ≤ m ∧ iv = .int .i64 i ∧ Hid (Below w.heap.size w wr)) (fun iv _ => N - (intOf iv).toNat)
  case atStart => exact ⟨0, Nat.zero_le _, rfl, Lib.hid (Below.refl _ _)⟩
  case round =>
    obtain ⟨i, hi, rfl, HW⟩ := hrel
    by_cases hlt : i < N
    · have q0 : (i : Int) < (N : Int) := by omega
      obtain ⟨p, hp⟩ : ∃ p, F[i]? = some p := ⟨_, List.getElem?_eq_getElem (by rw [HN.out]; exact hlt)⟩
      have hne0 : F ≠ [] := by intro e; have := HN.out; rw [e] at this; simp at this; omega
      obtain ⟨g, C', hA, _⟩ := HR.out.form hne0
      rw [HN.out] at hA
      cases hA
      obtain ⟨d0, d1⟩ := (HR.out.below HW.out).at HN.out i p hp
      have HP := Lib.hid hp
      clear hp hne0
      by_cases hpn : p.1.toList = n.toList
      · have hpe : p.1 = n := bytes_inj (by rw [← ByteArray.toList_eq, ← ByteArray.toList_eq]; exact hpn)
        have him : i = m := by
          rcases Nat.lt_or_ge i m with h | h
          · exact absurd hpe (HQ.out i p h HP.out)
          · omega
        have hmn : ¬ m = N := by omega
        have hr := HR9.out
        rw [if_neg hmn, ← him] at hr
        subst hr
        have hpb : (p.1.toList == n.toList) = true := by rw [beq_iff_eq]; exact hpn
        clear him hpe
        go_wp2
        go_ret
        exact ⟨rfl, HW.out⟩
      · have him : i < m := by
          rcases Nat.lt_or_ge i m with h | h
          · exact h
          · have e : i = m := by omega
            rcases HE.out with h1 | ⟨t, h1⟩
            · exfalso; omega
            · have h2 := HP.out
              rw [e, h1] at h2
              cases h2
              exact absurd rfl hpn
        have hpb : (p.1.toList == n.toList) = false := by rw [beq_eq_false_iff_ne]; exact hpn
        go_wp2
        exact ⟨⟨i + 1, by omega, by go_num, HW⟩, by simp [intOf]; omega⟩
    · have q0 : ¬ (i : Int) < (N : Int) := by omega
      have hmn : m = N := by omega
      have hr := HR9.out
      rw [if_pos hmn] at hr
      subst hr
      clear hmn
      go_wp2
      go_ret
      exact ⟨rfl, HW.out⟩
theorem AllE.move {α : Type} (K K2 : Kd α) (hk : K2.kd = K.kd) {w w' : World} (hV : ∀ (x : α) (a b d e : Value), K.V w x a b d e → K2.V w' x a b d e) : ∀ {D : List (ByteArray × α)} {l : MapT.Ents}, AllE K w D l → AllE K2 w' D l
  | [], [], _ => trivial
  | _ :: _, _ :: _, h => by
    obtain ⟨⟨h1, A3, A4, A5, A6, an3, ac3, an4, ac4, an5, ac5, an6, ac6, h2, h3⟩, h4⟩ := h
    exact ⟨⟨h1, A3, A4, A5, A6, an3, ac3, an4, ac4, an5, ac5, an6, ac6, by rw [hk]; exact h2, hV _ _ _ _ _ h3⟩, AllE.move K K2 hk hV h4⟩
  | [], _ :: _, h => h.elim
  | _ :: _, [], h => h.elim
theorem SPG.move {α : Type} (K K2 : Kd α) (ok : ByteArray → α → Prop) (hk : K2.kd = K.kd) {w w' : World} {bS bM : Nat} {D : List (ByteArray × α)} (hV : ∀ (x : α) (a b d e : Value), K.V w x a b d e → K2.V w' x a b d e) (h1 : w'.heap[bS]? = w.heap[bS]?) (h2 : w'.heap[bM]? = w.heap[bM]?) (h : SPG K ok w bS bM D) : SPG K2 ok w' bS bM D := by
  obtain ⟨⟨l, h3, h4⟩, h5⟩ := h
  exact ⟨⟨l, h3.kept h1 h2, AllE.move K K2 hk hV h4⟩, h5⟩
/-- A block of the law's own has turned. -/
theorem SPG.own {w w' : World} {bS bM q : Nat} {D : List (ByteArray × List (ByteArray × ByteArray))} (h : SPG (KFq q) okF w bS bM D) (hq : q ≠ bS ∧ q ≠ bM) (hb : ∀ i, i < w.heap.size → i ≠ q → w'.heap[i]? = w.heap[i]?) (g : Nat) (hg : g = q ∨ w.heap.size ≤ g) : SPG KF okF w' bS bM D ∧ SPG (KFq g) okF w' bS bM D := by
  have hl := SPG.lt _ _ h
  have hk : ∀ (x : List (ByteArray × ByteArray)) (a b d e : Value), (KFq q).V w x a b d e → KF.V w' x a b d e := fun x a b d e hv => KF.kept hv.1 (fun r hr => hb r (KF.lt hv.1 hr) (hv.2 r hr))
  refine ⟨SPG.move (KFq q) KF okF rfl hk (hb _ hl.1 (Ne.symm hq.1)) (hb _ hl.2.1 (Ne.symm hq.2)) h, SPG.move (KFq q) (KFq g) okF rfl (fun x a b d e hv => ⟨hk x a b d e hv, fun r hr => ?_⟩) (hb _ hl.1 (Ne.symm hq.1)) (hb _ hl.2.1 (Ne.symm hq.2)) h⟩
  have h1 := hv.2 r hr
  have h2 := KF.lt hv.1 hr
  omega
theorem SPG.fresh {w w' : World} {bS bM : Nat} {D : List (ByteArray × List (ByteArray × ByteArray))} (h : SPG KF okF w bS bM D) (hb : ∀ i, i < w.heap.size → w'.heap[i]? = w.heap[i]?) (g : Nat) (hg : w.heap.size ≤ g) : SPG KF okF w' bS bM D ∧ SPG (KFq g) okF w' bS bM D := by
  have hl := SPG.lt _ _ h
  have hk : ∀ (x : List (ByteArray × ByteArray)) (a b d e : Value), KF.V w x a b d e → KF.V w' x a b d e := fun x a b d e hv => KF.kept hv (fun r hr => hb r (KF.lt hv hr))
  refine ⟨SPG.move KF KF okF rfl hk (hb _ hl.1) (hb _ hl.2.1) h, SPG.move KF (KFq g) okF rfl (fun x a b d e hv => ⟨hk x a b d e hv, fun r hr => ?_⟩) (hb _ hl.1) (hb _ hl.2.1) h⟩
  have h2 := KF.lt hv hr
  omega
/-- The space, and the law's own row beside it, behind a call that began at wr. -/
structure PS (w wr : World) (bS bM : Nat) (F : List (ByteArray × ByteArray)) (Qs : Nat → Prop) (Y : World) : Prop where
  ld : LDF w Y bS bM (dF F)
  sep : ∀ q, Qs q → q < wr.heap.size ∧ SPG (KFq q) okF Y bS bM (dF F)
  kp : Kp wr.heap.size (fun i => i ≠ bS ∧ i ≠ bM) wr Y
  nq : ∀ q, Qs q → q ≠ bS ∧ q ≠ bM
theorem PS.old {w wr : World} {bS bM : Nat} {F : List (ByteArray × ByteArray)} {Qs : Nat → Prop} {Y Z : World} (h : PS w wr bS bM F Qs Y) (hb : Below Y.heap.size Y Z) : PS w wr bS bM F Qs Z :=
  ⟨h.ld.old hb, fun q hq => ⟨(h.sep q hq).1, SPG.below (KFq q) okF (h.sep q hq).2 hb⟩, h.kp.trans ((Kp.of hb).mono h.kp.size (fun _ h => h)), h.nq⟩
theorem PS.set {w wr : World} {bS bM : Nat} {F : List (ByteArray × ByteArray)} {Qs : Nat → Prop} (B : Nat) (hB : B ≤ 4000) (hb : FBd F B) (n t : ByteArray) (hn : n.size ≤ B) (ht : t.size ≤ B) (x : Int) (hx : (if (findD n F).isNone = true then 1 else 0) = x) (Y : World) (vA : Value) (h : PS w wr bS bM F Qs Y) (hA : SSl Y vA [⟨#[72, 83, 69, 84]⟩, ⟨#[107]⟩, n, t]) : Calls Tryz.prog 23 #[.pointer (some ⟨bS, 0, none⟩), vA] Y fun e w' => e = .returned (.agg #[.int .i64 3, .int .i64 x, .string ⟨#[]⟩, .slice none 0 0]) ∧ PS w wr bS bM (putD n t F) Qs w' ∧ (∀ (b : Nat) (cs : Array Value) (ty : TypeId), Y.heap[b]? = some (.cells cs ty) → ty ≠ 57 → w'.heap[b]? = some (.cells cs ty)) := by
  subst hx
  refine (q_setV w bS bM F B hB hb n t hn ht Qs Y vA h.ld (fun q hq => ⟨Nat.lt_of_lt_of_le (h.sep q hq).1 h.kp.size, (h.sep q hq).2⟩) hA).mono ?_
  rintro e w' ⟨rfl, h1, h2, h3⟩
  exact ⟨rfl, ⟨h1, fun q hq => ⟨(h.sep q hq).1, h2 q hq⟩, h.kp.trans (h3.mono h.kp.size (fun _ h => h)), h.nq⟩, fun b cs ty hb ht => keepL h3 h.ld hb ht⟩
theorem SPG.rep {α : Type} (K : Kd α) (ok : ByteArray → α → Prop) {w w' : World} {bS bM b : Nat} {D : List (ByteArray × α)} {cs : Array Value} (h : SPG K ok w bS bM D) (hb : w.heap[b]? = some (.cells cs 29)) (hK : ∀ i, i ≠ b → w'.heap[i]? = w.heap[i]?) : SPG K ok w' bS bM D := by
  have hne := SPG.ne K ok h hb (by decide)
  refine SPG.move K K ok rfl (fun x a c d e hv => K.kept hv (fun g hg => hK g (fun e => ?_))) (hK _ (Ne.symm hne.1)) (hK _ (Ne.symm hne.2)) h
  obtain ⟨cs2, t, h1, _, _, _, _, h6⟩ := K.typ hv hg
  rw [e, hb] at h1
  cases h1
  exact h6 rfl
theorem PS.set4 {w wr : World} {bS bM : Nat} {F : List (ByteArray × ByteArray)} {Qs : Nat → Prop} {Y : World} (h : PS w wr bS bM F Qs Y) {b : Nat} {cs : Array Value} (hb : Y.heap[b]? = some (.cells cs 29)) (hl : wr.heap.size ≤ b) (hw : w.heap.size ≤ wr.heap.size) (v0 v1 v2 v3 : Value) : PS w wr bS bM F Qs ((((Y.setCell ⟨b, 0, none⟩ v0).setCell ⟨b, 1, none⟩ v1).setCell ⟨b, 2, none⟩ v2).setCell ⟨b, 3, none⟩ v3) := by
  have hk : ∀ i, i ≠ b → ((((Y.setCell ⟨b, 0, none⟩ v0).setCell ⟨b, 1, none⟩ v1).setCell ⟨b, 2, none⟩ v2).setCell ⟨b, 3, none⟩ v3).heap[i]? = Y.heap[i]? := fun i hi => far4 _ _ _ _ hi
  have hwb : w.heap.size ≤ b := Nat.le_trans hw hl
  refine ⟨⟨SPG.rep KF okF h.ld.sp hb hk, (((h.ld.below.setCell (p := ⟨b, 0, none⟩) hwb v0).setCell (p := ⟨b, 1, none⟩) hwb v1).setCell (p := ⟨b, 2, none⟩) hwb v2).setCell (p := ⟨b, 3, none⟩) hwb v3, h.ld.hS, h.ld.hM⟩, fun q hq => ⟨(h.sep q hq).1, SPG.rep (KFq q) okF (h.sep q hq).2 hb hk⟩, ?_, h.nq⟩
  exact ((((h.kp.setCell (p := ⟨b, 0, none⟩) (by show ¬ (b < _ ∧ _); omega) v0).setCell (p := ⟨b, 1, none⟩) (by show ¬ (b < _ ∧ _); omega) v1).setCell (p := ⟨b, 2, none⟩) (by show ¬ (b < _ ∧ _); omega) v2).setCell (p := ⟨b, 3, none⟩) (by show ¬ (b < _ ∧ _); omega) v3)
theorem blk4 {Y : World} {b : Nat} {a0 a1 a2 a3 : Value} {t : TypeId} (hb : Y.heap[b]? = some (.cells #[a0, a1, a2, a3] t)) (v0 v1 v2 v3 : Value) : ((((Y.setCell ⟨b, 0, none⟩ v0).setCell ⟨b, 1, none⟩ v1).setCell ⟨b, 2, none⟩ v2).setCell ⟨b, 3, none⟩ v3).heap[b]? = some (.cells #[v0, v1, v2, v3] t) := by
  have h0 : (Y.setCell ⟨b, 0, none⟩ v0).heap[b]? = some (.cells #[v0, a1, a2, a3] t) := set_cells hb
  have h1 : ((Y.setCell ⟨b, 0, none⟩ v0).setCell ⟨b, 1, none⟩ v1).heap[b]? = some (.cells #[v0, v1, a2, a3] t) := set_cells h0
  have h2 : (((Y.setCell ⟨b, 0, none⟩ v0).setCell ⟨b, 1, none⟩ v1).setCell ⟨b, 2, none⟩ v2).heap[b]? = some (.cells #[v0, v1, v2, a3] t) := set_cells h1
  exact set_cells h2
end Go.Proofs.YticlacjpgjkhcaaGreatDoor
