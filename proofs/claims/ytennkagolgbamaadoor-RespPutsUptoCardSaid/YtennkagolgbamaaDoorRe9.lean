import Derived.Test.YtennkagolgbamaaDoorRe8
import Derived.Test.YtennkagolgbamaaDoorReF
namespace Go.Proofs.YtennkagolgbamaaDoor
open Go.ChangeShapes Go.WideShapes Go.ChangeAt Go.RowKit Go.Resp

theorem lineO (s : ByteArray) (hs : s.size + 2 ≤ 9223372036854775807) (w : World) : Calls Tryd.prog 21 #[.string s] w fun e w' => ∃ v, e = .returned v ∧ OwnB w.heap.size w' v (s.data.toList ++ [13, 10]) ∧ Below w.heap.size w w' := by
  have hcv := conv_sb
  have HB := Lib.hid (OwnB.bytes w (s ++ ⟨#[13, 10]⟩) (by rw [ByteArray.size_append]; unfold maxLen; exact hs))
  go_enter Tryd.func21, Tryd.ntmps21
  go_wp2
  go_ret
  have h := HB.out
  rw [data_app, ByteArray.size_append] at h
  exact ⟨_, rfl, h, Lib.bytesWorld_below w 5 _⟩
/-- What Itoa answers, in every world that the call comes to. -/
def ItoaOn (w0 : World) : Prop := ∀ n : Nat, n ≤ 200 → ∀ w, Inv w0 w → Calls Tryd.prog 23 #[.int .i64 (n : Int)] w fun e w' => e = .returned (.string (digB n)) ∧ Below w.heap.size w w'
def partL (s : ByteArray) : List UInt8 := lineL (36 :: Lib.decDigits s.size) ++ lineL s.data.toList
def frameL (xs : List ByteArray) : List UInt8 := lineL (42 :: Lib.decDigits xs.length) ++ xs.flatMap partL
theorem partL_len (s : ByteArray) (hs : s.size ≤ 200) : (partL s).length ≤ 300 := by
  have h := digB_size s.size (by omega)
  have h2 : (Lib.decDigits s.size).length ≤ 5 := h
  have h3 : s.data.toList.length = s.size := by simp
  unfold partL lineL
  simp only [List.length_append, List.length_cons, List.length_nil, h3]
  omega
theorem flat_len (xs : List ByteArray) (h : ∀ s ∈ xs, s.size ≤ 200) (k : Nat) : ((xs.take k).flatMap partL).length ≤ 300 * k := by
  induction xs generalizing k with
  | nil => simp
  | cons x r ih =>
    cases k with
    | zero => simp
    | succ k =>
      have h1 := ih (fun s hs => h s (by simp [hs])) k
      have h2 := partL_len x (h x (by simp))
      rw [List.take_succ_cons, List.flatMap_cons, List.length_append]
      omega
theorem head_len (n : Nat) (h : n ≤ 200) : (lineL (42 :: Lib.decDigits n)).length ≤ 20 := by
  have h := digB_size n (by omega)
  unfold digB at h
  simp [ByteArray.size] at h
  unfold lineL
  simp
  omega
set_option maxHeartbeats 4000000 in
theorem Frame17 (w0 : World) (IT : ItoaOn w0) (v : Value) (xs : List ByteArray) (w : World) (hi : Inv w0 w) (h : SSl w v xs) (hf : fewB xs = true) :
    Calls Tryd.prog 17 #[v] w fun e w' => ∃ v', e = .returned v' ∧ OwnB w.heap.size w' v' (frameL xs) ∧ Below w.heap.size w w' := by
  obtain ⟨A, cap, rfl, h1, h2, h3⟩ := h
  have hl : xs.length ≤ 20 := by unfold fewB at hf; rw [Bool.and_eq_true, decide_eq_true_iff] at hf; exact hf.2
  have hs200 : ∀ s ∈ xs, s.size ≤ 200 := by
    unfold fewB at hf; rw [Bool.and_eq_true, List.all_eq_true] at hf
    exact fun s hs => of_decide_eq_true (hf.1 s hs)
  unfold maxLen at h2; unfold ItoaOn at IT
  have H3 := Lib.hid h3
  have HS := Lib.hid hs200
  have HI := Lib.hid hi
  have IT := Lib.hid IT
  have L := Lib.hid lineO
  clear h3 hs200 hf hi
  have hd0 := digB_size xs.length (by omega)
  have hd1 : ({ data := #[42] } ++ digB xs.length : ByteArray).size = 1 + (digB xs.length).size := by rw [ByteArray.size_append]; rfl
  go_enter Tryd.func17, Tryd.ntmps17
  go_wp2_with (first | (go_at_call 23;  (with_reducible refine (IT.out _ (by omega) _ HI.out).mono ?_); rintro e w1 ⟨rfl, hb1⟩) | (go_at_call 21; refine Hid.out ?_))
  refine Lib.hid ?_
  refine (L.out _ (by rw [hd1]; omega) _).mono ?_
  rintro e w2 ⟨v2, rfl, hO, hb2⟩
  have HO := Lib.hid (And.intro hO (And.intro hb1 hb2))
  clear hO hb1 hb2
  go_wp2
  go_loopw [3, 13] (fun b i wr => ∃ k : Nat, k ≤ xs.length ∧ i = .int .i64 k ∧ Hid (OwnB w.heap.size wr b (lineL (42 :: Lib.decDigits xs.length) ++ (xs.take k).flatMap partL) ∧ Below w.heap.size w wr)) (fun _ i _ => xs.length - (intOf i).toNat)
  case atStart =>
    refine ⟨0, Nat.zero_le _, rfl, Lib.hid ⟨?_, HO.out.2.1.trans (HO.out.2.2.mono (Below.size HO.out.2.1))⟩⟩
    obtain ⟨⟨g, c, q1, q2, q3, q4⟩, q5, q6⟩ := HO.out
    have e1 : (({ data := #[42] } ++ digB xs.length : ByteArray).data.toList ++ [13, 10]) = lineL (42 :: Lib.decDigits xs.length) ++ (xs.take 0).flatMap partL := by
      unfold lineL digB; simp
    rw [e1] at q1 q4
    exact ⟨g, c, q1, Nat.le_trans (Below.size q5) q2, q3, q4⟩
  case round =>
    obtain ⟨k, hk, rfl, HR⟩ := hrel
    by_cases hlt : k < xs.length
    · obtain ⟨blk, off, rfl, hblk, hc⟩ := H3.out (by intro e; rw [e] at hlt; simp at hlt)
      obtain ⟨s, hs⟩ : ∃ s, xs[k]? = some s := ⟨_, List.getElem?_eq_getElem hlt⟩
      have hs2 := HS.out s (List.mem_of_getElem? hs)
      have hcell := hc k s hs
      have HX := Lib.hid (And.intro hc hs)
      have hcell2 := (HR.out.2.cell (p := ⟨blk, off + k, none⟩) hblk).trans hcell
      have hd2 := digB_size s.size (by omega)
      have hd3 : ((ByteArray.mk #[36]) ++ digB s.size).size = 1 + (digB s.size).size := by rw [ByteArray.size_append]; rfl
      have HW := Lib.hid (show Inv w0 wr from HI.out.on HR.out.2)
      clear hc hs hcell
      go_wp2_with (first | (go_at_call 23; (with_reducible refine (IT.out _ (by omega) _ HW.out).mono ?_); rintro e w3 ⟨rfl, hb3⟩) | (go_at_call 21; refine Hid.out ?_))
      refine Lib.hid ?_
      refine (L.out _ (by rw [hd3]; omega) _).mono ?_
      rintro e w4 ⟨v4, rfl, hO4, hb4⟩
      have HO4 := Lib.hid (And.intro hO4 (And.intro hb3 hb4))
      clear hO4 hb3 hb4
      have z3 : w.heap.size ≤ w3.heap.size := Nat.le_trans (Below.size HR.out.2) (Below.size HO4.out.2.1)
      have b4 : Below w.heap.size w w4 := (HR.out.2.trans (HO4.out.2.1.mono (Below.size HR.out.2))).trans (HO4.out.2.2.mono z3)
      have qf := flat_len xs HS.out k
      have qh := head_len xs.length (by omega)
      have qd : (Lib.decDigits s.size).length ≤ 5 := hd2
      have qe : (((ByteArray.mk #[36]) ++ digB s.size).data.toList ++ [13, 10]).length ≤ 20 := by
        rw [data_app]
        simp only [List.length_append, List.length_cons, List.length_nil]
        have : (digB s.size).data.toList.length = (digB s.size).size := by simp
        have : ({ data := #[36] } : ByteArray).data.toList.length = 1 := rfl
        omega
      have qs : (s.data.toList ++ [13, 10]).length ≤ 220 := by
        rw [List.length_append]
        have : s.data.toList.length = s.size := by simp
        have : [13, 10].length = 2 := rfl
        omega
      have q1 : (lineL (42 :: Lib.decDigits xs.length) ++ List.flatMap partL (List.take k xs)).length + (((ByteArray.mk #[36]) ++ digB s.size).data.toList ++ [13, 10]).length ≤ 140737488355328 := by
        rw [List.length_append]; omega
      have q2 : (lineL (42 :: Lib.decDigits xs.length) ++ List.flatMap partL (List.take k xs) ++ (((ByteArray.mk #[36]) ++ digB s.size).data.toList ++ [13, 10])).length + (s.data.toList ++ [13, 10]).length ≤ 140737488355328 := by
        rw [List.length_append, List.length_append]; omega
      clear qf qh qd qe qs
      have HB1 := Lib.hid ((HR.out.1.below HO4.out.2.1).below HO4.out.2.2)
      have HB2 := Lib.hid HO4.out.1.slice
      go_wp2_with (first | (at_builtin; refine append_B _ rfl _ _ rfl w.heap.size _ _ _ _ rfl HB1.out rfl HB2.out (by simp) q1 (Below.size b4) ?_; intro v5 w5 hO5 hb5; refine Hid.out ?_))
      have HO5 := Lib.hid (And.intro hO5 hb5)
      clear hO5 hb5
      refine Lib.hid ?_
      have z5 : w.heap.size ≤ w5.heap.size := Nat.le_trans z3 (Nat.le_trans (Below.size HO4.out.2.2) (Below.size HO5.out.2))
      have hs4 : s.size + 2 ≤ 9223372036854775807 := by omega
      go_wp2_with (first | (go_at_call 21; (with_reducible refine (L.out _ hs4 _).mono ?_); rintro e w6 ⟨v6, rfl, hO6, hb6⟩; refine Hid.out ?_))
      have HO6 := Lib.hid (And.intro hO6 hb6)
      clear hO6 hb6
      have HB3 := Lib.hid (HO5.out.1.below HO6.out.2)
      have HB4 := Lib.hid HO6.out.1.slice
      refine Lib.hid ?_
      go_wp2_with (first | (at_builtin; refine append_B _ rfl _ _ rfl w.heap.size _ _ _ _ rfl HB3.out rfl HB4.out (by simp) q2 (Nat.le_trans z5 (Below.size HO6.out.2)) ?_; intro v7 w7 hO7 hb7; refine Hid.out ?_))
      have HO7 := Lib.hid (And.intro hO7 hb7)
      clear hO7 hb7
      refine Lib.hid ?_
      go_wp2
      have b7 : Below w.heap.size w w7 := ((b4.trans HO5.out.2).trans (HO6.out.2.mono z5)).trans HO7.out.2
      refine ⟨⟨k + 1, by omega, by go_num, Lib.hid ⟨?_, b7⟩⟩, by simp [intOf]; omega⟩
      have h7 := HO7.out.1
      have e7 : ∀ T : List UInt8, T ++ (((ByteArray.mk #[36]) ++ digB s.size).data.toList ++ [13, 10]) ++ (s.data.toList ++ [13, 10]) = T ++ partL s := by
        intro T; unfold partL lineL digB; simp
      rw [e7] at h7
      have e8 : xs.take (k + 1) = xs.take k ++ [s] := by rw [List.take_add_one, HX.out.2]; rfl
      rw [e8, List.flatMap_append, ← List.append_assoc]
      simpa using h7
    · have hkl : k = xs.length := by omega
      subst hkl
      have h := HR.out
      rw [List.take_length] at h
      have HF := Lib.hid h
      clear h
      go_wp2
      go_ret
      exact ⟨_, rfl, HF.out.1, HF.out.2⟩
end Go.Proofs.YtennkagolgbamaaDoor
