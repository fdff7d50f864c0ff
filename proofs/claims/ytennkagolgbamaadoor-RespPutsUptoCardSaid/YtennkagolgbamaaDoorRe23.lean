/- The document's Put. -/
import Derived.Test.YtennkagolgbamaaDoorRe22
import Derived.Deep.RegionHeld3
namespace Go.Proofs.YtennkagolgbamaaDoor
open Go.ChangeShapes Go.WideShapes Go.ChangeAt Go.RowKit Go.Resp

def RefAt (w0 : World) (k n : Int) (s : ByteArray) (l : Value) (out : List UInt8) : Prop := ∀ w, Inv w0 w → Calls Tryd.prog 12 #[.agg #[.int .i64 k, .int .i64 n, .string s, l]] w fun e w' => (∃ t : ByteArray, e = .returned (.string t) ∧ t.data.toList = out) ∧ Below w.heap.size w w'
theorem Print24 {w0 : World} (hT : Tab w0) (n : Int) (hn : Fits n) (w : World) (hi : Inv w0 w) : Calls Tryd.prog 24 #[.int .i64 n] w fun e w' => e = .returned (.string ⟨(Lib.itoa n).toArray⟩) ∧ Below w.heap.size w w' := by
  have F := Lib.hid (Fmt22 hT n hn w hi)
  go_enter Tryd.func24, Tryd.ntmps24
  go_wp2_with (first | (go_at_call 22; (with_reducible refine F.out.mono ?_); rintro e w1 ⟨rfl, hb1⟩))
  go_ret
  exact ⟨rfl, hb1⟩
set_option maxHeartbeats 2000000 in
theorem ref_one (w0 : World) (n : Int) (s : ByteArray) (l : Value) (hs : s.size ≤ 1048576) : RefAt w0 1 n s l (lineL (43 :: s.data.toList)) := by
  intro w hi
  have hd : ({ data := #[43] } ++ s : ByteArray).size = 1 + s.size := by rw [ByteArray.size_append]; rfl
  have B := Lib.hid (box_below w (.cells #[.int .i64 1, .int .i64 n, .string s, l] 24))
  go_enter Tryd.func12, Tryd.ntmps12
  go_wp2
  go_ret
  exact ⟨⟨_, rfl, by unfold lineL; simp⟩, B.out⟩
set_option maxHeartbeats 2000000 in
theorem ref_two {w0 : World} (hT : Tab w0) (n : Int) (hn : Fits n) (s : ByteArray) (l : Value) : RefAt w0 2 n s l (lineL (45 :: 69 :: 82 :: 82 :: 32 :: Lib.itoa n)) := by
  intro w hi
  have F := Lib.hid (fun w => Print24 hT n hn w)
  have HI := Lib.hid (hi.on (box_below w (.cells #[.int .i64 2, .int .i64 n, .string s, l] 24)))
  have hq := itoaB_len n hn
  have hd : ({ data := #[45, 69, 82, 82, 32] } ++ (⟨(Lib.itoa n).toArray⟩ : ByteArray)).size = 5 + (Lib.itoa n).length := by rw [ByteArray.size_append]; rfl
  clear hi
  go_enter Tryd.func12, Tryd.ntmps12
  go_wp2_with (first | (go_at_call 24; (with_reducible refine (F.out _ HI.out).mono ?_); rintro e w1 ⟨rfl, hb1⟩; have HB1 := Lib.hid hb1; clear hb1))
  go_ret
  exact ⟨⟨_, rfl, by unfold lineL; simp⟩, (box_below _ _).trans (HB1.out.mono (by simp))⟩
set_option maxHeartbeats 2000000 in
theorem ref_three {w0 : World} (hT : Tab w0) (n : Int) (hn : Fits n) (s : ByteArray) (l : Value) : RefAt w0 3 n s l (lineL (58 :: Lib.itoa n)) := by
  intro w hi
  have F := Lib.hid (fun w => Print24 hT n hn w)
  have HI := Lib.hid (hi.on (box_below w (.cells #[.int .i64 3, .int .i64 n, .string s, l] 24)))
  have hq := itoaB_len n hn
  have hd : ({ data := #[58] } ++ (⟨(Lib.itoa n).toArray⟩ : ByteArray)).size = 1 + (Lib.itoa n).length := by rw [ByteArray.size_append]; rfl
  clear hi
  go_enter Tryd.func12, Tryd.ntmps12
  go_wp2_with (first | (go_at_call 24; (with_reducible refine (F.out _ HI.out).mono ?_); rintro e w1 ⟨rfl, hb1⟩; have HB1 := Lib.hid hb1; clear hb1))
  go_ret
  exact ⟨⟨_, rfl, by unfold lineL; simp⟩, (box_below _ _).trans (HB1.out.mono (by simp))⟩
set_option maxHeartbeats 2000000 in
theorem ref_five (w0 : World) (n : Int) (s : ByteArray) (l : Value) : RefAt w0 5 n s l (lineL [36, 45, 49]) := by
  intro w hi
  go_enter Tryd.func12, Tryd.ntmps12
  go_wp2
  go_ret
  exact ⟨⟨_, rfl, by unfold lineL; simp⟩, box_below _ _⟩
set_option maxHeartbeats 2000000 in
theorem ref_seven (w0 : World) (n : Int) (s : ByteArray) (l : Value) : RefAt w0 7 n s l (lineL [42, 45, 49]) := by
  intro w hi
  go_enter Tryd.func12, Tryd.ntmps12
  go_wp2
  go_ret
  exact ⟨⟨_, rfl, by unfold lineL; simp⟩, box_below _ _⟩
set_option maxHeartbeats 2000000 in
theorem ref_none (w0 : World) (k n : Int) (s : ByteArray) (l : Value) (h1 : k ≠ 1) (h2 : k ≠ 2) (h3 : k ≠ 3) (h4 : k ≠ 4) (h5 : k ≠ 5) (h6 : k ≠ 6) (h7 : k ≠ 7) : RefAt w0 k n s l [] := by
  intro w hi
  go_enter Tryd.func12, Tryd.ntmps12
  go_wp2
  go_ret
  exact ⟨⟨_, rfl, rfl⟩, box_below _ _⟩
set_option maxHeartbeats 2000000 in
theorem ref_four {w0 : World} (hT : Tab w0) (n : Int) (s : ByteArray) (l : Value) (hs : s.size ≤ 1048576) : RefAt w0 4 n s l (lineL (36 :: Lib.decDigits s.size) ++ lineL s.data.toList) := by
  intro w hi
  obtain ⟨wb, hwb⟩ : ∃ wb, wb = w.alloc (.cells #[.int .i64 4, .int .i64 n, .string s, l] 24) := ⟨_, rfl⟩
  have bw : Below w.heap.size w wb := by rw [hwb]; exact box_below w _
  have hc0 : wb.cell? ⟨w.heap.size, 2, none⟩ = some (.string s) := by rw [hwb, World.cell?_alloc_mark]; rfl
  have hlt : w.heap.size < wb.heap.size := by rw [hwb]; simp
  have hd1 := dec_len s.size (by omega)
  have hd2 : (digB s.size).size ≤ 21 := hd1
  have IW : Inv w0 wb := hi.on bw
  have S0 : wb.drew.cell? ⟨w.heap.size, 2, none⟩ = some (.string s) ∧ Below wb.heap.size wb wb.drew := ⟨hc0, ⟨rfl, rfl, rfl, Nat.le_refl _, fun _ _ => rfl⟩⟩
  have SK := Lib.hid (show ∀ X Y : World, (X.cell? ⟨w.heap.size, 2, none⟩ = some (.string s) ∧ Below wb.heap.size wb X) → Below X.heap.size X Y → (Y.cell? ⟨w.heap.size, 2, none⟩ = some (.string s) ∧ Below wb.heap.size wb Y) from
    fun X Y ⟨q1, q2⟩ q3 => ⟨(q3.cell (p := ⟨w.heap.size, 2, none⟩) (Nat.lt_of_lt_of_le hlt (Below.size q2))).trans q1, q2.trans (q3.mono (Below.size q2))⟩)
  have ITS := Lib.hid (show ∀ X : World, (X.cell? ⟨w.heap.size, 2, none⟩ = some (.string s) ∧ Below wb.heap.size wb X) → Calls Tryd.prog 23 #[.int .i64 (s.size : Int)] X fun e w' => e = .returned (.string (digB s.size)) ∧ Below X.heap.size X w' from
    fun X h => Itoa23 hT s.size (by omega) X (IW.on h.2))
  have c36 : (ByteArray.mk #[36]).size = 1 := rfl
  have c13 : (ByteArray.mk #[13, 10]).size = 2 := rfl
  have m1 : ¬ (1 + (digB s.size).size > 9223372036854775807) := by omega
  have m2 : ¬ (1 + (digB s.size).size + 2 > 9223372036854775807) := by omega
  have m3 : ¬ (1 + (digB s.size).size + 2 + s.size > 9223372036854775807) := by omega
  have m4 : ¬ (1 + (digB s.size).size + 2 + s.size + 2 > 9223372036854775807) := by omega
  have BW := Lib.hid bw
  clear IW hi bw
  go_enter Tryd.func12, Tryd.ntmps12
  go_wp2
  rw [← hwb]
  clear hwb
  go_region_held3 (fun w' => w'.cell? ⟨w.heap.size, 2, none⟩ = some (.string s) ∧ Below wb.heap.size wb w') (first | exact S0 | exact SK.out _ _ (by assumption) (by assumption) | exact SK.out _ _ ⟨by assumption, by assumption⟩ (by assumption))
    (first | (go_at_call 23; refine (ITS.out _ ?_).mono ?_; assumption; rintro e w5 ⟨rfl, hb5⟩))
  go_wp2
  go_ret
  refine ⟨⟨_, rfl, by unfold lineL digB; simp⟩, BW.out.trans ((?_ : Below wb.heap.size wb _).mono (Nat.le_of_lt hlt))⟩
  exact (SK.out _ _ S0 hb5).2
set_option maxHeartbeats 4000000 in
theorem ref_six {w0 : World} (hT : Tab w0) (n : Int) (s : ByteArray) (A : Option Addr) (m cap blk off : Nat) (ks ns : Nat → Int) (ss : Nat → ByteArray) (ls : Nat → Value) (bs : Nat → Nat) (outs : Nat → List UInt8)
    (hm : m ≤ cap) (hc : cap ≤ maxLen) (hA : 0 < m → A = some ⟨blk, off, none⟩ ∧ blk < w0.heap.size)
    (hcell : ∀ i, i < m → w0.rangeAt blk (off + i * 4) (repC (ks i) (ns i) (ss i) (ls i)))
    (hsl : ∀ i, i < m → ∃ A' n' c', ls i = .slice A' n' c') (ih : ∀ i, i < m → RefAt w0 (ks i) (ns i) (ss i) (ls i) (outs i)) (hlen : ∀ i, i < m → (outs i).length ≤ 40 * bs i) (hb : ((List.range m).map bs).sum ≤ 1048576) (hm2 : m ≤ 1048576) :
    RefAt w0 6 n s (.slice A m cap) (lineL (42 :: Lib.decDigits m) ++ (List.range m).flatMap outs) := by
  intro w hi
  obtain ⟨wb, hwb⟩ : ∃ wb, wb = w.alloc (.cells #[.int .i64 6, .int .i64 n, .string s, .slice A m cap] 24) := ⟨_, rfl⟩
  have bw : Below w.heap.size w wb := by rw [hwb]; exact box_below w _
  have hbox : wb.rangeAt w.heap.size 0 (repC 6 n s (.slice A m cap)) := by rw [hwb]; exact box_at w 6 n s _ _ _
  have hlt0 : w.heap.size < wb.heap.size := by rw [hwb]; simp
  have hd1 := dec_len m (by omega)
  have hd2 : (digB m).size ≤ 21 := hd1
  have c42 : (ByteArray.mk #[42]).size = 1 := rfl
  have c13 : (ByteArray.mk #[13, 10]).size = 2 := rfl
  have hd : ({ data := #[42] } ++ digB m : ByteArray).size = 1 + (digB m).size := by rw [ByteArray.size_append]; rfl
  have IW := Lib.hid (show Inv w0 wb from hi.on bw)
  have F := Lib.hid (fun w => Itoa23 hT m (by omega) w)
  have IH := Lib.hid ih
  have HA := Lib.hid (And.intro hA (And.intro hcell hc))
  have HL := Lib.hid (And.intro hlen hb)
  have BW := Lib.hid bw
  have HS := Lib.hid hsl
  have hq : (lineL (42 :: Lib.decDigits m)).length ≤ 30 := by unfold lineL; simp; omega
  have HLA := Lib.hid (show ({ data := #[42] } ++ digB m ++ { data := #[13, 10] } : ByteArray).data.toList = lineL (42 :: Lib.decDigits m) by unfold lineL digB; simp)
  obtain ⟨c0, c1, c2, c3⟩ := range_cells hbox
  rw [Nat.zero_add] at c3
  have HC3 := Lib.hid c3
  clear hi bw hbox hsl ih hA hcell hlen hb c0 c1 c2 hc
  go_enter Tryd.func12, Tryd.ntmps12
  go_wp2_with (first | (go_at_call 23; rw [← hwb]; (with_reducible refine (F.out _ IW.out).mono ?_); rintro e w1 ⟨rfl, hb1⟩; have HB1 := Lib.hid hb1; clear hb1 hwb))
  go_loopw [4, 5] (fun b i wr => ∃ (j : Nat) (t : ByteArray), j ≤ m ∧ i = .int .i64 j ∧ b = .string t ∧ t.size ≤ 100000000 ∧ Hid (t.data.toList = lineL (42 :: Lib.decDigits m) ++ (List.range j).flatMap outs ∧ Below wb.heap.size wb wr)) (fun _ i _ => m - (intOf i).toNat)
  case atStart =>
    refine ⟨0, _, Nat.zero_le _, rfl, rfl, ?_, Lib.hid ⟨?_, HB1.out⟩⟩
    · rw [ByteArray.size_append, hd]; omega
    · rw [HLA.out]; simp
  case round =>
    obtain ⟨j, t, hj, rfl, rfl, ht, HR⟩ := hrel
    have hm64 : (m : Int) ≤ 9223372036854775807 := by omega
    have c3r := (HR.out.2.cell (p := ⟨w.heap.size, 3, none⟩) hlt0).trans HC3.out
    by_cases hlt : j < m
    · have hjm : ((j : Int) < (m : Int)) := by omega
      have IR : Inv w0 wr := IW.out.on HR.out.2
      obtain ⟨rfl, hblk⟩ := HA.out.1 (by omega)
      obtain ⟨d0, d1, d2, d3⟩ := range_cells (rangeAt_below (HA.out.2.1 j hlt) IR hblk)
      obtain ⟨A', n', c', hls⟩ := HS.out j hlt
      have hP := IH.out j hlt
      rw [hls] at hP d3
      have P := Lib.hid (hP wr IR)
      have e8 : (List.range (j + 1)).flatMap outs = (List.range j).flatMap outs ++ outs j := by rw [List.range_succ, List.flatMap_append]; simp
      have q1 : (lineL (42 :: Lib.decDigits m) ++ (List.range j).flatMap outs).length + (outs j).length ≤ 100000000 := by
        have h1 := flat_sum outs bs (j + 1) (fun i hi => HL.out.1 i (by omega))
        have h2 : ((List.range (j + 1)).map bs).sum ≤ ((List.range m).map bs).sum := sum_mono bs (j + 1) m (by omega)
        have h3 := HL.out.2
        rw [e8, List.length_append] at h1
        rw [List.length_append]
        omega
      have E8 := Lib.hid e8
      have Q1 := Lib.hid q1
      clear hP IR e8 q1
      go_wp2_with (first | (go_at_call 12; (with_reducible refine P.out.mono ?_); rintro e w3 ⟨⟨t3, rfl, ht3⟩, hb3⟩; have HT3 := Lib.hid ht3; have HB3 := Lib.hid (HR.out.2.trans (hb3.mono (Below.size HR.out.2))); have hs3 : t.size + t3.size ≤ 100000000 := by (have e1 : t3.size = (outs j).length := by (rw [← ht3]; simp)); (have e2 : t.size = (lineL (42 :: Lib.decDigits m) ++ (List.range j).flatMap outs).length := by (rw [← HR.out.1]; simp)); (have e3 := Q1.out); omega))
      refine ⟨⟨j + 1, _, by omega, by go_num, rfl, by rw [ByteArray.size_append]; exact hs3, Lib.hid ⟨?_, HB3.out⟩⟩, by simp [intOf]; omega⟩
      rw [E8.out, ← List.append_assoc, ← HR.out.1, ← HT3.out]
      simp
    · have hjm : ¬ ((j : Int) < (m : Int)) := by omega
      obtain rfl : j = m := by omega
      go_wp2
      go_ret
      exact ⟨⟨t, rfl, HR.out.1⟩, BW.out.trans (HR.out.2.mono (Nat.le_of_lt hlt0))⟩
theorem Ref12 {w0 : World} (hT : Tab w0) {k n : Int} {s : ByteArray} {l : Value} {b : Nat} {out : List UInt8} (h : RV w0 k n s l b out) (hb1 : b ≤ 1048576) : RefAt w0 k n s l out := by
  induction h with
  | mk k n s A m cap blk off ks ns ss ls bs outs b hk hn hm hc hA hcell hv hb ih =>
    have hle : ∀ i, i < m → bs i ≤ ((List.range m).map bs).sum := fun i hi => le_sum bs m i hi
    have h2 := sum_ge bs m (fun i hi => (hv i hi).pos)
    unfold putL
    by_cases h1 : k = 1
    · subst h1; exact ref_one w0 n s _ (by omega)
    rw [if_neg h1]
    by_cases h1 : k = 2
    · subst h1; exact ref_two hT n hn s _
    rw [if_neg h1]
    by_cases h1 : k = 3
    · subst h1; exact ref_three hT n hn s _
    rw [if_neg h1]
    by_cases h1 : k = 4
    · subst h1; exact ref_four hT n s _ (by omega)
    rw [if_neg h1]
    by_cases h1 : k = 5
    · subst h1; exact ref_five w0 n s _
    rw [if_neg h1]
    by_cases h1 : k = 7
    · subst h1; exact ref_seven w0 n s _
    rw [if_neg h1]
    by_cases h1 : k = 6
    · subst h1
      exact ref_six hT n s A m cap blk off ks ns ss ls bs outs hm hc hA hcell (fun i hi => (hv i hi).sl) (fun i hi => ih i hi (by have := hle i hi; omega)) (fun i hi => (hv i hi).len (by have := hle i hi; omega)) (by omega) (by omega)
    rw [if_neg h1]
    exact ref_none w0 k n s _ (by assumption) (by assumption) (by assumption) (by assumption) (by assumption) (by assumption) (by assumption)
end Go.Proofs.YtennkagolgbamaaDoor
