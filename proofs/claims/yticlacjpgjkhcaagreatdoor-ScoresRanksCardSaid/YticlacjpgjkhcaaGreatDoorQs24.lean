/- Texts joined: V3S, V4S, V6S, V7S, V5S -/
import Derived.Test.YticlacjpgjkhcaaGreatDoorQs23
import Derived.Test.YticlacjpgjkhcaaGreatDoorQs13
import Derived.Test.YticlacjpgjkhcaaGreatDoorQs1
set_option linter.unusedVariables false
set_option linter.unusedSimpArgs false

/- Values of kind S: their texts. -/
namespace Go.Proofs.YticlacjpgjkhcaaGreatDoor
open Go.ChangeShapes Go.WideShapes Go.ChangeAt Go.RowKit

/-- The texts of elements. -/
def tS (l : List (ByteArray × Int)) : List ByteArray := l.flatMap fun p => [p.1]
theorem tS_len (l : List (ByteArray × Int)) : (tS l).length = l.length * 1 := by
  induction l with
  | nil => rfl
  | cons p r ih =>
    unfold tS at ih ⊢
    rw [List.flatMap_cons, List.length_append, ih, List.length_cons]
    simp
    omega
theorem tS_snoc (l : List (ByteArray × Int)) (i : Nat) (p : ByteArray × Int) (h : l[i]? = some p) : tS (l.take (i + 1)) = tS (l.take i) ++ [p.1] := by
  unfold tS
  rw [List.take_add_one, h]
  simp
set_option maxRecDepth 100000 in
set_option maxHeartbeats 4000000 in
theorem textsS (kd : Int) (g C : Nat) (l : List (ByteArray × Int)) (n : Nat) (hn : l.length = n) (hm : n ≤ 1000) (c : Nat) (w : World) (h : RS w c (.slice (some ⟨g, 0, none⟩) n C) l) : Calls Tryz.prog 166 #[.agg #[.int .i64 kd, .string ⟨#[]⟩, .slice none 0 0, .slice none 0 0, .slice (some ⟨g, 0, none⟩) n C, .slice none 0 0]] w fun e w' => ∃ v, e = .returned v ∧ TO w' w.heap.size v (tS l) ∧ Below w.heap.size w w' := by
  have CL := Lib.hid (fun X => Clone57 X)
  have hb := Lib.hid (heap_alloc_new w (.cells #[.int .i64 kd, .string ⟨#[]⟩, .slice none 0 0, .slice none 0 0, .slice (some ⟨g, 0, none⟩) n C, .slice none 0 0] 64))
  have B0 := Lib.hid (alloc_old (w := w) (o := .cells #[.int .i64 kd, .string ⟨#[]⟩, .slice none 0 0, .slice none 0 0, .slice (some ⟨g, 0, none⟩) n C, .slice none 0 0] 64))
  have HR := Lib.hid h
  have HN := Lib.hid hn
  clear h hn
  obtain ⟨⟨c0, c1, c2, c3, c4, c5⟩, _⟩ := cells6 hb.out
  go_enter Tryz.func166, Tryz.ntmps166
  go_wp2_with (first | (go_at_call 145; (with_reducible refine (CL.out _).mono ?_); rintro e w2 ⟨rfl, hw2⟩; subst hw2))
  have T0 := Lib.hid (show TO (w.alloc (.cells #[.int .i64 kd, .string ⟨#[]⟩, .slice none 0 0, .slice none 0 0, .slice (some ⟨g, 0, none⟩) n C, .slice none 0 0] 64)) (w.alloc (.cells #[.int .i64 kd, .string ⟨#[]⟩, .slice none 0 0, .slice none 0 0, .slice (some ⟨g, 0, none⟩) n C, .slice none 0 0] 64)).heap.size (.slice none 0 0) (tS (l.take 0)) from World.ownsRow_nil _ _ _ _)
  generalize (w.alloc (.cells #[.int .i64 kd, .string ⟨#[]⟩, .slice none 0 0, .slice none 0 0, .slice (some ⟨g, 0, none⟩) n C, .slice none 0 0] 64)) = W at hb B0 T0 c0 c1 c2 c3 c4 c5 ⊢
  go_loopw [3, 16] (fun t i wr => Value.slice none 0 0 = t ∧ i = .int .i64 0 ∧ W = wr) (fun _ _ _ => 0)
  case atStart => exact ⟨rfl, rfl, rfl⟩
  case round =>
  obtain ⟨rfl, rfl, rfl⟩ := hrel
  obtain ⟨⟨c0, c1, c2, c3, c4, c5⟩, _⟩ := cells6 hb.out
  go_wp2
  go_loopw [3, 31] (fun ov iv wr => ∃ i : Nat, i ≤ n ∧ iv = .int .i64 i ∧ Hid (TO wr W.heap.size ov (tS (l.take i)) ∧ Below W.heap.size W wr)) (fun _ iv _ => n - (iOfL iv).toNat)
  case atStart => exact ⟨0, Nat.zero_le _, rfl, Lib.hid ⟨T0.out, Below.refl _ _⟩⟩
  case round =>
  obtain ⟨i, hi, rfl, HI⟩ := hrel
  by_cases hlt : i < n
  · obtain ⟨p, hp⟩ : ∃ p, l[i]? = some p := ⟨_, List.getElem?_eq_getElem (by rw [HN.out]; exact hlt)⟩
    have q1 : (i : Int) < (n : Int) := by omega
    obtain ⟨d0, d1⟩ := (HR.out.below (belT B0.out HI.out.2)).at HN.out i p hp
    have hln : (tS (l.take i)).length = i * 1 := by rw [tS_len, List.length_take, HN.out]; congr 1; omega
    have HLN := Lib.hid hln
    have HTK := Lib.hid (tS_snoc l i p hp)
    have A2 := Lib.hid ((alloc_old (w := wr) (o := .cells #[.string p.1, .int .i64 p.2] 52)).trans ((alloc_old (w := wr.alloc (.cells #[.string p.1, .int .i64 p.2] 52)) (o := .cells #[.string p.1] 9)).mono (by simp)))
    have b5 := Lib.hid (show ((wr.alloc (.cells #[.string p.1, .int .i64 p.2] 52)).alloc (.cells #[.string p.1] 9)).heap[wr.heap.size + 1]? = some (.cells #[.string p.1] 9) from heap2L wr _)
    have R5 := Lib.hid (show TO _ W.heap.size _ _ from row_below HI.out.1 A2.out)
    have z5 := Lib.hid (Nat.le_trans (Below.size HI.out.2) (Below.size A2.out))
    clear hp hln
    go_wp2_with (first | (at_builtin; refine append_TO _ rfl _ _ rfl W.heap.size _ _ (i * 1) HLN.out rfl R5.out [p.1] 1 rfl _ rfl b5.out (by decide) (by omega) z5.out ?_; intro g6 C6 w6 h6 h7 h8; have T6 := Lib.hid h6; have G6 := Lib.hid h7; clear h6 h7 h8))
    refine ⟨⟨i + 1, hlt, by go_num, Lib.hid ⟨?_, ?_⟩⟩, by simp [iOfL]; omega⟩
    · rw [HTK.out]
      have h9 := T6.out
      rw [Nat.mul_one] at h9
      exact h9
    · exact (HI.out.2.trans (A2.out.mono (Below.size HI.out.2))).grown G6.out z5.out (fun b hb => (row_own R5.out b hb).1)
  · obtain rfl : n = i := by omega
    have q1 : ¬ (n : Int) < (n : Int) := by omega
    obtain ⟨w5, rfl⟩ : ∃ w5, w5 = wr := ⟨_, rfl⟩
    obtain ⟨A9, C9, rfl, _, _⟩ := row_form HI.out.1
    obtain ⟨⟨c0, c1, c2, c3, c4, c5⟩, _⟩ := cells6 (blk_below hb.out HI.out.2)
    go_wp2
    go_loopw [3, 44] (fun t i wr => Value.slice A9 (tS (l.take n)).length C9 = t ∧ i = .int .i64 0 ∧ w5 = wr) (fun _ _ _ => 0)
    case atStart => exact ⟨rfl, rfl, rfl⟩
    case round =>
    obtain ⟨rfl, rfl, rfl⟩ := hrel
    obtain ⟨⟨c0, c1, c2, c3, c4, c5⟩, _⟩ := cells6 (blk_below hb.out HI.out.2)
    go_wp2
    go_ret
    have hT := HI.out.1
    rw [List.take_of_length_le (by rw [HN.out]; exact Nat.le_refl _)] at hT ⊢
    exact ⟨_, rfl, row_mono hT (Below.size B0.out), belT B0.out HI.out.2⟩
end Go.Proofs.YticlacjpgjkhcaaGreatDoor

/- Values of kind S: their size; which may be. -/
namespace Go.Proofs.YticlacjpgjkhcaaGreatDoor
open Go.ChangeShapes Go.WideShapes Go.ChangeAt Go.RowKit

set_option maxRecDepth 100000 in
set_option maxHeartbeats 4000000 in
theorem SizeS (g C : Nat) (l : List (ByteArray × Int)) (n : Nat) (hn : l.length = n) (h1 : 1 ≤ n) (hm : n ≤ 1000) (c : Nat) (w : World) (h : RS w c (.slice (some ⟨g, 0, none⟩) n C) l) (hs : sumSz (tS l) ≤ 1000000000) : Calls Tryz.prog 113 #[.agg #[.int .i64 4, .string ⟨#[]⟩, .slice none 0 0, .slice none 0 0, .slice (some ⟨g, 0, none⟩) n C, .slice none 0 0]] w fun e w' => e = .returned (.int .i64 (16 + 16 * (n : Int) + (sumSz (tS l) : Int))) ∧ Below w.heap.size w w' := by
  obtain ⟨W, hW⟩ : ∃ W, (w.alloc (.cells #[.int .i64 4, .string ⟨#[]⟩, .slice none 0 0, .slice none 0 0, .slice (some ⟨g, 0, none⟩) n C, .slice none 0 0] 64)).alloc (.cells #[.int .i64 0, .string ⟨#[]⟩, .slice none 0 0, .slice none 0 0, .slice (some ⟨g, 0, none⟩) n C, .slice none 0 0] 64) = W := ⟨_, rfl⟩
  have hb0 : W.heap[w.heap.size]? = some (.cells #[.int .i64 4, .string ⟨#[]⟩, .slice none 0 0, .slice none 0 0, .slice (some ⟨g, 0, none⟩) n C, .slice none 0 0] 64) := by rw [← hW]; exact blk_below (heap_alloc_new w _) alloc_old
  have hb1 : W.heap[w.heap.size + 1]? = some (.cells #[.int .i64 0, .string ⟨#[]⟩, .slice none 0 0, .slice none 0 0, .slice (some ⟨g, 0, none⟩) n C, .slice none 0 0] 64) := by rw [← hW]; exact heap2L w _
  have hB : Below w.heap.size w W := by rw [← hW]; exact alloc_old.trans (alloc_old.mono (by simp))
  have LN := Lib.hid (LenS (some ⟨g, 0, none⟩) n C W)
  have TX := Lib.hid (fun X (hX : Below w.heap.size w X) => textsS 0 g C l n hn hm c X (h.below hX))
  have B0 := Lib.hid hB
  have H0 := Lib.hid hb0
  have H1 := Lib.hid hb1
  have q1 := sz_q1 n (by omega)
  have q2 := sz_q2 n (by omega)
  have HTN := Lib.hid (show (tS l).length = n * 1 by rw [tS_len, hn])
  obtain ⟨⟨c0, c1, c2, c3, c4, c5⟩, _⟩ := cells6 hb0
  obtain ⟨⟨d0, d1, d2, d3, d4, d5⟩, _⟩ := cells6 hb1
  clear h hb0 hb1 hB hn
  obtain ⟨xs, hxs⟩ : ∃ xs, tS l = xs := ⟨_, rfl⟩
  rw [hxs] at TX HTN hs ⊢
  clear hxs
  go_enter Tryz.func113, Tryz.ntmps113
  go_wp2_with (first | (go_at_call 165; (with_reducible refine (LN.out).mono ?_); rintro e w2 ⟨rfl, hb2⟩; have B2 := Lib.hid (B0.out.trans (hb2.mono (Below.size B0.out))); have R1 := Lib.hid (blk_below H1.out hb2); clear hb2; obtain ⟨⟨e0, e1, e2, e3, e4, e5⟩, _⟩ := cells6 R1.out; have T2 := Lib.hid (TX.out w2 B2.out)) | (go_at_call 166; (with_reducible refine (T2.out).mono ?_); rintro e w3 ⟨v3, rfl, hT3, hb3⟩; have T3 := Lib.hid hT3; have B3 := Lib.hid (B2.out.trans (hb3.mono (Below.size B2.out))); clear hT3 hb3; refine Hid.out ?_))
  refine Lib.hid ?_
  have hne : xs ≠ [] := by intro e; have := HTN.out; rw [e] at this; simp at this; omega
  obtain ⟨A3, cap3, rfl, s2, s3, s4⟩ := T3.out.ssl
  obtain ⟨blk, off, rfl, hblt, hcell⟩ := s4 hne
  clear s2 s3 s4
  have HCL := Lib.hid hcell
  have hxm : xs.length ≤ 1000000 := by rw [HTN.out]; omega
  clear hcell c0 c1 c2 c3 c4 c5 d0 d1 d2 d3 d4 d5 e0 e1 e2 e3 e4 e5 hne
  go_wp2
  go_loopw [4, 44] (fun m i wr => ∃ k : Nat, k ≤ xs.length ∧ i = .int .i64 k ∧ m = .int .i64 (16 + 16 * (n : Int) + (sumSz (xs.take k) : Int)) ∧ w3 = wr) (fun _ i _ => xs.length - (iOfL i).toNat)
  case atStart => exact ⟨0, Nat.zero_le _, rfl, by simp [sumSz], rfl⟩
  case round =>
    obtain ⟨k, hk, rfl, rfl, rfl⟩ := hrel
    by_cases hlt : k < xs.length
    · have i0 : (k : Int) < (xs.length : Int) := by omega
      obtain ⟨s, hs0⟩ := some_at hlt
      have x0 := HCL.out k s hs0
      have e9 := sumSz_take hs0
      have e8 := sumSz_le xs (k + 1)
      have q3 := sz_q3 n (sumSz (xs.take k)) s.size (by omega) (by omega)
      rw [← e9] at q3
      have HE := Lib.hid e9
      clear hs0 e8 e9
      go_wp2
      exact ⟨⟨k + 1, hlt, by go_num, rfl, trivial⟩, by simp [iOfL]; omega⟩
    · have i0 : ¬ (k : Int) < (xs.length : Int) := by omega
      have hkk : xs.take k = xs := List.take_of_length_le (by omega)
      rw [hkk]
      clear hkk hlt
      go_wp2
      go_ret
      exact ⟨by simp, B3.out⟩
end Go.Proofs.YticlacjpgjkhcaaGreatDoor

/- Values of kind S: copies. -/
namespace Go.Proofs.YticlacjpgjkhcaaGreatDoor
open Go.ChangeShapes Go.WideShapes Go.ChangeAt Go.RowKit

set_option maxRecDepth 100000 in
set_option maxHeartbeats 4000000 in
theorem VCloneS (g0 cap : Nat) (l : List (ByteArray × Int)) (n : Nat) (hn : l.length = n) (h1 : 1 ≤ n) (hm : n ≤ 1000) (c : Nat) (w : World) (h : RS w c (.slice (some ⟨g0, 0, none⟩) n cap) l) : Calls Tryz.prog 93 #[.agg #[.int .i64 4, .string ⟨#[]⟩, .slice none 0 0, .slice none 0 0, .slice (some ⟨g0, 0, none⟩) n cap, .slice none 0 0]] w fun e w' => ∃ g C, e = .returned (.agg #[.int .i64 4, .string ⟨#[]⟩, .slice none 0 0, .slice none 0 0, .slice (some ⟨g, 0, none⟩) n C, .slice none 0 0]) ∧ RS w' (w.heap.size + 2) (.slice (some ⟨g, 0, none⟩) n C) l ∧ Below w.heap.size w w' := by
  go_enter Tryz.func93, Tryz.ntmps93
  go_wp2
  obtain ⟨W, hW⟩ : ∃ W, (w.alloc (.cells #[.int .i64 4, .string ⟨#[]⟩, .slice none 0 0, .slice none 0 0, .slice (some ⟨g0, 0, none⟩) n cap, .slice none 0 0] 64)).alloc (.cells #[.int .i64 0, .string ⟨#[]⟩, .slice none 0 0, .slice none 0 0, .slice none 0 0, .slice none 0 0] 64) = W := ⟨_, rfl⟩
  have hz : W.heap.size = w.heap.size + 2 := by rw [← hW]; simp
  have hb0 : W.heap[w.heap.size]? = some (.cells #[.int .i64 4, .string ⟨#[]⟩, .slice none 0 0, .slice none 0 0, .slice (some ⟨g0, 0, none⟩) n cap, .slice none 0 0] 64) := by rw [← hW]; exact blk_below (heap_alloc_new w _) alloc_old
  have hb1 : W.heap[w.heap.size + 1]? = some (.cells #[.int .i64 0, .string ⟨#[]⟩, .slice none 0 0, .slice none 0 0, .slice none 0 0, .slice none 0 0] 64) := by rw [← hW]; have := heap_alloc_new (w.alloc (.cells #[.int .i64 4, .string ⟨#[]⟩, .slice none 0 0, .slice none 0 0, .slice (some ⟨g0, 0, none⟩) n cap, .slice none 0 0] 64)) (.cells #[.int .i64 0, .string ⟨#[]⟩, .slice none 0 0, .slice none 0 0, .slice none 0 0, .slice none 0 0] 64); rw [World.size_alloc] at this; exact this
  have hB : Below w.heap.size w W := by rw [← hW]; exact alloc_old.trans (alloc_old.mono (by simp))
  have CK := Lib.hid (CloneS c g0 cap l n hn h1 (by omega) W.drew (h.below hB.drew))
  have K := Lib.hid (show ∀ X, Below (w.heap.size + 1) W X → ((X.cell? ⟨w.heap.size, 0, none⟩ = some (.int .i64 4) ∧ X.cell? ⟨w.heap.size, 1, none⟩ = some (.string ⟨#[]⟩) ∧ X.cell? ⟨w.heap.size, 2, none⟩ = some (.slice none 0 0) ∧ X.cell? ⟨w.heap.size, 3, none⟩ = some (.slice none 0 0) ∧ X.cell? ⟨w.heap.size, 4, none⟩ = some (.slice (some ⟨g0, 0, none⟩) n cap) ∧ X.cell? ⟨w.heap.size, 5, none⟩ = some (.slice none 0 0)) ∧ Below (w.heap.size + 1) W X) from fun X hb => by
    obtain ⟨⟨c0, c1, c2, c3, c4, c5⟩, _⟩ := cells6 ((hb.block _ (Nat.lt_succ_self _)).trans hb0)
    exact ⟨⟨c0, c1, c2, c3, c4, c5⟩, hb⟩)
  have ST := Lib.hid (show ∀ X v0 v1 v2 v3 v4 v5, ((X.cell? ⟨w.heap.size, 0, none⟩ = some (.int .i64 4) ∧ X.cell? ⟨w.heap.size, 1, none⟩ = some (.string ⟨#[]⟩) ∧ X.cell? ⟨w.heap.size, 2, none⟩ = some (.slice none 0 0) ∧ X.cell? ⟨w.heap.size, 3, none⟩ = some (.slice none 0 0) ∧ X.cell? ⟨w.heap.size, 4, none⟩ = some (.slice (some ⟨g0, 0, none⟩) n cap) ∧ X.cell? ⟨w.heap.size, 5, none⟩ = some (.slice none 0 0)) ∧ Below (w.heap.size + 1) W X) → (fun X => (X.cell? ⟨w.heap.size, 0, none⟩ = some (.int .i64 4) ∧ X.cell? ⟨w.heap.size, 1, none⟩ = some (.string ⟨#[]⟩) ∧ X.cell? ⟨w.heap.size, 2, none⟩ = some (.slice none 0 0) ∧ X.cell? ⟨w.heap.size, 3, none⟩ = some (.slice none 0 0) ∧ X.cell? ⟨w.heap.size, 4, none⟩ = some (.slice (some ⟨g0, 0, none⟩) n cap) ∧ X.cell? ⟨w.heap.size, 5, none⟩ = some (.slice none 0 0)) ∧ Below (w.heap.size + 1) W X) (((((((X).setCell ⟨w.heap.size + 1, 0, none⟩ v0).setCell ⟨w.heap.size + 1, 1, none⟩ v1).setCell ⟨w.heap.size + 1, 2, none⟩ v2).setCell ⟨w.heap.size + 1, 3, none⟩ v3).setCell ⟨w.heap.size + 1, 4, none⟩ v4).setCell ⟨w.heap.size + 1, 5, none⟩ v5) from fun X v0 v1 v2 v3 v4 v5 hX => K.out _ ((((((hX.2.setCell (p := ⟨w.heap.size + 1, 0, none⟩) (Nat.le_refl _) v0).setCell (p := ⟨w.heap.size + 1, 1, none⟩) (Nat.le_refl _) v1).setCell (p := ⟨w.heap.size + 1, 2, none⟩) (Nat.le_refl _) v2).setCell (p := ⟨w.heap.size + 1, 3, none⟩) (Nat.le_refl _) v3).setCell (p := ⟨w.heap.size + 1, 4, none⟩) (Nat.le_refl _) v4).setCell (p := ⟨w.heap.size + 1, 5, none⟩) (Nat.le_refl _) v5))
  have S0 : (W.drew.cell? ⟨w.heap.size, 0, none⟩ = some (.int .i64 4) ∧ W.drew.cell? ⟨w.heap.size, 1, none⟩ = some (.string ⟨#[]⟩) ∧ W.drew.cell? ⟨w.heap.size, 2, none⟩ = some (.slice none 0 0) ∧ W.drew.cell? ⟨w.heap.size, 3, none⟩ = some (.slice none 0 0) ∧ W.drew.cell? ⟨w.heap.size, 4, none⟩ = some (.slice (some ⟨g0, 0, none⟩) n cap) ∧ W.drew.cell? ⟨w.heap.size, 5, none⟩ = some (.slice none 0 0)) ∧ Below (w.heap.size + 1) W W.drew := K.out _ (Below.refl _ W).drew
  have B0 := Lib.hid hB.drew
  have H1 := Lib.hid (show W.drew.heap[w.heap.size + 1]? = some (.cells #[.int .i64 0, .string ⟨#[]⟩, .slice none 0 0, .slice none 0 0, .slice none 0 0, .slice none 0 0] 64) from hb1)
  have hzd : w.heap.size + 1 ≤ W.drew.heap.size := by show _ ≤ W.heap.size; omega
  have hz2 : w.heap.size + 2 ≤ W.drew.heap.size := by show _ ≤ W.heap.size; omega
  obtain ⟨⟨c0, c1, c2, c3, c4, c5⟩, ⟨f0, f1, f2, f3, f4, f5⟩⟩ := cells6 H1.out
  rw [hW]
  clear hW hz hb0 hb1 hB h
  go_region_held3 (fun X => (X.cell? ⟨w.heap.size, 0, none⟩ = some (.int .i64 4) ∧ X.cell? ⟨w.heap.size, 1, none⟩ = some (.string ⟨#[]⟩) ∧ X.cell? ⟨w.heap.size, 2, none⟩ = some (.slice none 0 0) ∧ X.cell? ⟨w.heap.size, 3, none⟩ = some (.slice none 0 0) ∧ X.cell? ⟨w.heap.size, 4, none⟩ = some (.slice (some ⟨g0, 0, none⟩) n cap) ∧ X.cell? ⟨w.heap.size, 5, none⟩ = some (.slice none 0 0)) ∧ Below (w.heap.size + 1) W X) (first | (with_reducible exact S0) | (with_reducible exact S3.out) | (refine ST.out _ _ _ _ _ _ _ ?_; assumption))
    (first | (go_at_call 147; (with_reducible refine (CK.out).mono ?_); rintro e w3 ⟨g, C, rfl, hT, hb⟩; have HT := Lib.hid hT; have S3 := Lib.hid (K.out w3 ((Below.refl _ W).drew.trans (hb.mono hzd))); have R3 := Lib.hid (blk_below H1.out hb); have B3 := Lib.hid (B0.out.trans (hb.mono (Below.size B0.out))); clear hT hb; obtain ⟨⟨c0, c1, c2, c3, c4, c5⟩, ⟨f0, f1, f2, f3, f4, f5⟩⟩ := cells6 R3.out) | (go_at_call 145; (with_reducible refine (Clone57 _).mono ?_); rintro e w' ⟨rfl, rfl⟩) | (go_at_call 146; (with_reducible refine (Clone58 _).mono ?_); rintro e w' ⟨rfl, rfl⟩) | (go_at_call 147; (with_reducible refine (Clone59 _).mono ?_); rintro e w' ⟨rfl, rfl⟩) | (go_at_call 148; (with_reducible refine (Clone60 _).mono ?_); rintro e w' ⟨rfl, rfl⟩))
  go_wp2
  have hgo : ∀ g', (Value.slice (some ⟨g, 0, none⟩) n C).ownBlock = some g' → g' ≠ w.heap.size + 1 := fun g' hg' => by
    have := (row_own HT.out g' hg').1
    omega
  exact bodyPost_ret (v := .agg #[.int .i64 4, .string ⟨#[]⟩, .slice none 0 0, .slice none 0 0, .slice (some ⟨g, 0, none⟩) n C, .slice none 0 0]) (by simp [results, Tryz.results93, go_sem, c0, c1, c2, c3, c4, c5]) rfl ⟨g, C, rfl, (HT.out.kept (fun g' hg' => far60 _ _ _ _ _ _ (hgo g' hg'))).mono hz2, (((((B3.out.setCell (Nat.le_succ _) _).setCell (Nat.le_succ _) _).setCell (Nat.le_succ _) _).setCell (Nat.le_succ _) _).setCell (Nat.le_succ _) _).setCell (Nat.le_succ _) _⟩
end Go.Proofs.YticlacjpgjkhcaaGreatDoor

/- Entries of kind S: copies, sizes, which may be. -/
namespace Go.Proofs.YticlacjpgjkhcaaGreatDoor
open Go.ChangeShapes Go.WideShapes Go.ChangeAt Go.RowKit

set_option maxRecDepth 100000 in
set_option maxHeartbeats 4000000 in
theorem sCloneS (k : ByteArray) (u : Int) (g0 cap : Nat) (l : List (ByteArray × Int)) (n : Nat) (hn : l.length = n) (h1 : 1 ≤ n) (hm : n ≤ 1000) (c : Nat) (w : World) (h : RS w c (.slice (some ⟨g0, 0, none⟩) n cap) l) : Calls Tryz.prog 34 #[.agg #[.string k, .int .i64 4, .string ⟨#[]⟩, .slice none 0 0, .slice none 0 0, .slice (some ⟨g0, 0, none⟩) n cap, .slice none 0 0, .int .i64 u]] w fun e w' => ∃ g C, e = .returned (.agg #[.string k, .int .i64 4, .string ⟨#[]⟩, .slice none 0 0, .slice none 0 0, .slice (some ⟨g, 0, none⟩) n C, .slice none 0 0, .int .i64 u]) ∧ RS w' w.heap.size (.slice (some ⟨g, 0, none⟩) n C) l ∧ Below w.heap.size w w' := by
  have hb1 := Lib.hid (show ((w.alloc (.cells #[.string k, .int .i64 4, .string ⟨#[]⟩, .slice none 0 0, .slice none 0 0, .slice (some ⟨g0, 0, none⟩) n cap, .slice none 0 0, .int .i64 u] 66)).alloc (.cells #[.string ⟨#[]⟩, .int .i64 0, .string ⟨#[]⟩, .slice none 0 0, .slice none 0 0, .slice none 0 0, .slice none 0 0, .int .i64 0] 66)).heap[w.heap.size]? = some (.cells #[.string k, .int .i64 4, .string ⟨#[]⟩, .slice none 0 0, .slice none 0 0, .slice (some ⟨g0, 0, none⟩) n cap, .slice none 0 0, .int .i64 u] 66) from blk_below (heap_alloc_new w _) alloc_old)
  have hb2 := Lib.hid (heap2L (o := .cells #[.string k, .int .i64 4, .string ⟨#[]⟩, .slice none 0 0, .slice none 0 0, .slice (some ⟨g0, 0, none⟩) n cap, .slice none 0 0, .int .i64 u] 66) w (.cells #[.string ⟨#[]⟩, .int .i64 0, .string ⟨#[]⟩, .slice none 0 0, .slice none 0 0, .slice none 0 0, .slice none 0 0, .int .i64 0] 66))
  have hb3 := Lib.hid (show Below w.heap.size w ((w.alloc (.cells #[.string k, .int .i64 4, .string ⟨#[]⟩, .slice none 0 0, .slice none 0 0, .slice (some ⟨g0, 0, none⟩) n cap, .slice none 0 0, .int .i64 u] 66)).alloc (.cells #[.string ⟨#[]⟩, .int .i64 0, .string ⟨#[]⟩, .slice none 0 0, .slice none 0 0, .slice none 0 0, .slice none 0 0, .int .i64 0] 66)) from alloc_old.trans (alloc_old.mono (by simp)))
  have V := Lib.hid (VCloneS g0 cap l n hn h1 hm c _ (h.below hb3.out))
  have hz : ((w.alloc (.cells #[.string k, .int .i64 4, .string ⟨#[]⟩, .slice none 0 0, .slice none 0 0, .slice (some ⟨g0, 0, none⟩) n cap, .slice none 0 0, .int .i64 u] 66)).alloc (.cells #[.string ⟨#[]⟩, .int .i64 0, .string ⟨#[]⟩, .slice none 0 0, .slice none 0 0, .slice none 0 0, .slice none 0 0, .int .i64 0] 66)).heap.size = w.heap.size + 2 := by simp
  have HZ := Lib.hid hz
  clear h hz
  go_enter Tryz.func34, Tryz.ntmps34
  go_wp2_with (first | (go_at_call 93; (with_reducible refine (V.out).mono ?_); rintro e w1 ⟨g, C, rfl, hT, h1⟩; have HT := Lib.hid hT; have B1 := Lib.hid h1; clear hT h1; obtain ⟨⟨c0, c1, c2, c3, c4, c5, c6, c7⟩, ⟨f0, f1, f2, f3, f4, f5, f6, f7⟩, z1⟩ := cells8 (blk_below hb1.out B1.out); obtain ⟨⟨d0, d1, d2, d3, d4, d5, d6, d7⟩, ⟨g0, g1, g2, g3, g4, g5, g6, g7⟩, z2⟩ := cells8 (blk_below hb2.out B1.out)))
  have hz := HZ.out
  have hno : ∀ g', (Value.slice (some ⟨g, 0, none⟩) n C).ownBlock = some g' → g' ≠ w.heap.size ∧ g' ≠ w.heap.size + 1 := fun g' hg' => by
    have := (row_own HT.out g' hg').1
    omega
  exact bodyPost_ret (v := .agg #[.string k, .int .i64 4, .string ⟨#[]⟩, .slice none 0 0, .slice none 0 0, .slice (some ⟨g, 0, none⟩) n C, .slice none 0 0, .int .i64 u]) (by simp [results, Tryz.results34, go_sem, d0, d1, d2, d3, d4, d5, d6, d7]) rfl ⟨g, C, rfl, (HT.out.kept (fun g' hg' => (far8b (hno g' hg').2 _ _ _ _ _ _ _ _).trans (far6b (hno g' hg').1 _ _ _ _ _ _))).mono (by omega), ((((((((((((((hb3.out.trans (B1.out.mono (by omega))).setCell (Nat.le_refl _) _).setCell (Nat.le_refl _) _).setCell (Nat.le_refl _) _).setCell (Nat.le_refl _) _).setCell (Nat.le_refl _) _).setCell (Nat.le_refl _) _).setCell (Nat.le_succ _) _).setCell (Nat.le_succ _) _).setCell (Nat.le_succ _) _).setCell (Nat.le_succ _) _).setCell (Nat.le_succ _) _).setCell (Nat.le_succ _) _).setCell (Nat.le_succ _) _).setCell (Nat.le_succ _) _⟩
set_option maxRecDepth 100000 in
set_option maxHeartbeats 4000000 in
theorem sSizeS (k : ByteArray) (u : Int) (hk : k.size ≤ 1000000) (g0 cap : Nat) (l : List (ByteArray × Int)) (n : Nat) (hn : l.length = n) (h1 : 1 ≤ n) (hm : n ≤ 1000) (c : Nat) (w : World) (h : RS w c (.slice (some ⟨g0, 0, none⟩) n cap) l) (hs : sumSz (tS l) ≤ 1000000000) : Calls Tryz.prog 50 #[.agg #[.string k, .int .i64 4, .string ⟨#[]⟩, .slice none 0 0, .slice none 0 0, .slice (some ⟨g0, 0, none⟩) n cap, .slice none 0 0, .int .i64 u]] w fun e w' => e = .returned (.int .i64 (48 + (k.size : Int) + 16 * (n : Int) + (sumSz (tS l) : Int))) ∧ Below w.heap.size w w' := by
  obtain ⟨q1, q2⟩ := sz_e n (sumSz (tS l)) k.size hk (by omega) hs
  obtain ⟨W, hW⟩ : ∃ W, w.alloc (.cells #[.string k, .int .i64 4, .string ⟨#[]⟩, .slice none 0 0, .slice none 0 0, .slice (some ⟨g0, 0, none⟩) n cap, .slice none 0 0, .int .i64 u] 66) = W := ⟨_, rfl⟩
  have hb1 : W.heap[w.heap.size]? = some (.cells #[.string k, .int .i64 4, .string ⟨#[]⟩, .slice none 0 0, .slice none 0 0, .slice (some ⟨g0, 0, none⟩) n cap, .slice none 0 0, .int .i64 u] 66) := by rw [← hW]; exact heap_alloc_new w _
  have hb3 : Below w.heap.size w W := by rw [← hW]; exact alloc_old
  have hz : w.heap.size ≤ W.heap.size := Below.size hb3
  have Q := Lib.hid (SizeS g0 cap l n hn h1 hm c W.drew (h.below hb3.drew) hs)
  have K := Lib.hid (show ∀ X, Below W.heap.size W X → (X.cell? ⟨w.heap.size, 0, none⟩ = some (.string k) ∧ X.cell? ⟨w.heap.size, 1, none⟩ = some (.int .i64 4) ∧ X.cell? ⟨w.heap.size, 2, none⟩ = some (.string ⟨#[]⟩) ∧ X.cell? ⟨w.heap.size, 3, none⟩ = some (.slice none 0 0) ∧ X.cell? ⟨w.heap.size, 4, none⟩ = some (.slice none 0 0) ∧ X.cell? ⟨w.heap.size, 5, none⟩ = some (.slice (some ⟨g0, 0, none⟩) n cap) ∧ X.cell? ⟨w.heap.size, 6, none⟩ = some (.slice none 0 0)) from fun X hb => by
    obtain ⟨⟨c0, c1, c2, c3, c4, c5, c6, c7⟩, _⟩ := cells8 (blk_below hb1 hb)
    exact ⟨c0, c1, c2, c3, c4, c5, c6⟩)
  have S0 : ((W.drew.cell? ⟨w.heap.size, 0, none⟩ = some (.string k) ∧ W.drew.cell? ⟨w.heap.size, 1, none⟩ = some (.int .i64 4) ∧ W.drew.cell? ⟨w.heap.size, 2, none⟩ = some (.string ⟨#[]⟩) ∧ W.drew.cell? ⟨w.heap.size, 3, none⟩ = some (.slice none 0 0) ∧ W.drew.cell? ⟨w.heap.size, 4, none⟩ = some (.slice none 0 0) ∧ W.drew.cell? ⟨w.heap.size, 5, none⟩ = some (.slice (some ⟨g0, 0, none⟩) n cap) ∧ W.drew.cell? ⟨w.heap.size, 6, none⟩ = some (.slice none 0 0)) ∧ Below W.heap.size W W.drew) := ⟨K.out _ (Below.refl W.heap.size W).drew, (Below.refl W.heap.size W).drew⟩
  have SK := Lib.hid (show ∀ Y X : World, Below X.heap.size X Y → ((X.cell? ⟨w.heap.size, 0, none⟩ = some (.string k) ∧ X.cell? ⟨w.heap.size, 1, none⟩ = some (.int .i64 4) ∧ X.cell? ⟨w.heap.size, 2, none⟩ = some (.string ⟨#[]⟩) ∧ X.cell? ⟨w.heap.size, 3, none⟩ = some (.slice none 0 0) ∧ X.cell? ⟨w.heap.size, 4, none⟩ = some (.slice none 0 0) ∧ X.cell? ⟨w.heap.size, 5, none⟩ = some (.slice (some ⟨g0, 0, none⟩) n cap) ∧ X.cell? ⟨w.heap.size, 6, none⟩ = some (.slice none 0 0)) ∧ Below W.heap.size W X) → ((Y.cell? ⟨w.heap.size, 0, none⟩ = some (.string k) ∧ Y.cell? ⟨w.heap.size, 1, none⟩ = some (.int .i64 4) ∧ Y.cell? ⟨w.heap.size, 2, none⟩ = some (.string ⟨#[]⟩) ∧ Y.cell? ⟨w.heap.size, 3, none⟩ = some (.slice none 0 0) ∧ Y.cell? ⟨w.heap.size, 4, none⟩ = some (.slice none 0 0) ∧ Y.cell? ⟨w.heap.size, 5, none⟩ = some (.slice (some ⟨g0, 0, none⟩) n cap) ∧ Y.cell? ⟨w.heap.size, 6, none⟩ = some (.slice none 0 0)) ∧ Below W.heap.size W Y) from fun Y X hb h => ⟨K.out _ (belT h.2 hb), belT h.2 hb⟩)
  have HB := Lib.hid hb3
  clear hb1 hb3 h
  go_enter Tryz.func50, Tryz.ntmps50
  go_wp2

  clear hW
  go_region_held3 (fun X => ((X.cell? ⟨w.heap.size, 0, none⟩ = some (.string k) ∧ X.cell? ⟨w.heap.size, 1, none⟩ = some (.int .i64 4) ∧ X.cell? ⟨w.heap.size, 2, none⟩ = some (.string ⟨#[]⟩) ∧ X.cell? ⟨w.heap.size, 3, none⟩ = some (.slice none 0 0) ∧ X.cell? ⟨w.heap.size, 4, none⟩ = some (.slice none 0 0) ∧ X.cell? ⟨w.heap.size, 5, none⟩ = some (.slice (some ⟨g0, 0, none⟩) n cap) ∧ X.cell? ⟨w.heap.size, 6, none⟩ = some (.slice none 0 0)) ∧ Below W.heap.size W X)) (first | exact S0 | exact SK.out _ _ (by assumption) (by assumption) | exact SK.out _ _ (by assumption) ⟨by assumption, by assumption⟩)
    (first | (go_at_call 113; refine (Q.out).mono ?_; rintro e w5 ⟨rfl, hb5⟩))
  go_wp2
  go_ret
  exact ⟨by simp, HB.out.trans ((belT S0.2 hb5).mono hz)⟩
set_option maxRecDepth 100000 in
set_option maxHeartbeats 4000000 in
theorem sMayS (k : ByteArray) (hk1 : 1 ≤ k.size) (hk : k.size ≤ 512) (u : Int) (hu0 : 0 ≤ u) (hu1 : u ≤ 1125899906842624) (g0 cap n : Nat) (w : World) (hV : ∀ X, Below w.heap.size w X → Calls Tryz.prog 114 #[.agg #[.int .i64 4, .string ⟨#[]⟩, .slice none 0 0, .slice none 0 0, .slice (some ⟨g0, 0, none⟩) n cap, .slice none 0 0]] X fun e w' => e = .returned (.bool true) ∧ Below X.heap.size X w') : Calls Tryz.prog 51 #[.agg #[.string k, .int .i64 4, .string ⟨#[]⟩, .slice none 0 0, .slice none 0 0, .slice (some ⟨g0, 0, none⟩) n cap, .slice none 0 0, .int .i64 u]] w fun e w' => e = .returned (.bool true) ∧ Below w.heap.size w w' := by
  have i1 : (1 : Int) ≤ (k.size : Int) := by omega
  have i2 : (k.size : Int) ≤ 512 := by omega
  have V := Lib.hid (hV (w.alloc (.cells #[.string k, .int .i64 4, .string ⟨#[]⟩, .slice none 0 0, .slice none 0 0, .slice (some ⟨g0, 0, none⟩) n cap, .slice none 0 0, .int .i64 u] 66)) alloc_old)
  have hb1 := Lib.hid (heap_alloc_new w (.cells #[.string k, .int .i64 4, .string ⟨#[]⟩, .slice none 0 0, .slice none 0 0, .slice (some ⟨g0, 0, none⟩) n cap, .slice none 0 0, .int .i64 u] 66))
  clear hV hk1 hk
  go_enter Tryz.func51, Tryz.ntmps51
  go_wp2_with (first | (go_at_call 114; (with_reducible refine (V.out).mono ?_); rintro e w1 ⟨rfl, h1⟩; have B1 := Lib.hid h1; clear h1; obtain ⟨⟨c0, c1, c2, c3, c4, c5, c6, c7⟩, _, z1⟩ := cells8 (blk_below hb1.out B1.out)))
  go_ret
  exact ⟨by simp, alloc_old.trans (B1.out.mono (by simp))⟩
end Go.Proofs.YticlacjpgjkhcaaGreatDoor

/- Values of kind S: which may be. -/
namespace Go.Proofs.YticlacjpgjkhcaaGreatDoor
open Go.ChangeShapes Go.WideShapes Go.ChangeAt Go.RowKit

set_option maxRecDepth 100000 in
set_option maxHeartbeats 4000000 in
theorem lessS (p q : ByteArray × Int) (h : ltZ p q = true) (w : World) : Calls Tryz.prog 173 #[.agg #[.string p.1, .int .i64 p.2], .agg #[.string q.1, .int .i64 q.2]] w fun e w' => e = .returned (.bool true) ∧ Below w.heap.size w w' := by
  have B := Lib.hid (show Below w.heap.size w ((w.alloc (.cells #[.string p.1, .int .i64 p.2] 52)).alloc (.cells #[.string q.1, .int .i64 q.2] 52)) from alloc_old.trans (alloc_old.mono (by simp)))
  rcases ltZ_iff.1 h with h1 | ⟨h1, h2⟩
  · have e1 : decide (p.2 < q.2) = true := decide_eq_true h1
    clear h
    go_enter Tryz.func173, Tryz.ntmps173
    go_wp2
    exact bodyPost_ret (v := .bool true) (by simp [results, Tryz.results173, go_sem]) rfl ⟨rfl, B.out⟩
  · have e1 : decide (p.2 < q.2) = false := decide_eq_false (by omega)
    have e0 : ¬ p.2 < q.2 := by omega
    have e2 : (p.2 == q.2) = true := by simp [h1]
    have e3 : Op.bytesLess p.1.toList q.1.toList = true := by rw [less_bl]; exact decide_eq_true h2
    clear h h1 h2
    go_enter Tryz.func173, Tryz.ntmps173
    go_wp2
    exact bodyPost_ret (v := .bool true) (by simp [results, Tryz.results173, go_sem]) rfl ⟨rfl, B.out⟩
def seenS (l : List (ByteArray × Int)) : MapT.Ents := l.map fun p => (p.1, Value.int .i64 1)
theorem seen_none (k : ByteArray) : ∀ l : List (ByteArray × Int), k ∉ l.map Prod.fst → MapT.find k (seenS l) = none
  | [], _ => rfl
  | (a, b) :: r, h => by
    have h1 : ¬ a = k := fun e => h (by simp [e])
    have h2 : k ∉ r.map Prod.fst := fun e => h (by simp at e ⊢; exact .inr e)
    show (if a = k then _ else MapT.find k (seenS r)) = none
    rw [if_neg h1, seen_none k r h2]
theorem seen_put (k : ByteArray) (s : Int) : ∀ l : List (ByteArray × Int), k ∉ l.map Prod.fst → MapT.put k (.int .i64 1) (seenS l) = seenS (l ++ [(k, s)])
  | [], _ => rfl
  | (a, b) :: r, h => by
    have h1 : ¬ a = k := fun e => h (by simp [e])
    have h2 : k ∉ r.map Prod.fst := fun e => h (by simp at e ⊢; exact .inr e)
    show (if a = k then _ else (a, Value.int .i64 1) :: MapT.put k (.int .i64 1) (seenS r)) = _
    rw [if_neg h1, seen_put k s r h2]
    rfl
theorem seen_some (k : ByteArray) (s : Int) : ∀ l : List (ByteArray × Int), k ∉ l.map Prod.fst → MapT.find k (seenS (l ++ [(k, s)])) = some (.int .i64 1)
  | [], _ => if_pos rfl
  | (a, b) :: r, h => by
    have h1 : ¬ a = k := fun e => h (by simp [e])
    have h2 : k ∉ r.map Prod.fst := fun e => h (by simp at e ⊢; exact .inr e)
    show (if a = k then _ else MapT.find k (seenS (r ++ [(k, s)]))) = _
    rw [if_neg h1, seen_some k s r h2]
set_option maxRecDepth 100000 in
set_option maxHeartbeats 4000000 in
/-- No name is there twice. -/
theorem onceS (g C : Nat) (l : List (ByteArray × Int)) (n : Nat) (hn : l.length = n) (hm : n ≤ 1000000) (hnd : (l.map Prod.fst).Nodup) (c : Nat) (w : World) (h : RS w c (.slice (some ⟨g, 0, none⟩) n C) l) : Calls Tryz.prog 174 #[.slice (some ⟨g, 0, none⟩) n C] w fun e w' => e = .returned (.bool true) ∧ Below w.heap.size w w' := by
  have hmm := @run_makeMap Tryz.prog
  have HR := Lib.hid h
  have HN := Lib.hid hn
  have HD := Lib.hid hnd
  have M0 := Lib.hid (MapT.MB.made w)
  have B0 := Lib.hid (alloc_old (w := w) (o := .map #[] 0))
  clear h hn hnd
  go_enter Tryz.func174, Tryz.ntmps174
  go_wp2
  go_loopw [9] (fun kv wr => ∃ k : Nat, k ≤ n ∧ kv = .int .i64 k ∧ Hid (MapT.MB wr w.heap.size (seenS (l.take k)) ∧ Below w.heap.size w wr)) (fun kv _ => n - (iOfL kv).toNat)
  case atStart => exact ⟨0, Nat.zero_le _, rfl, Lib.hid ⟨by rw [List.take_zero]; exact M0.out, B0.out⟩⟩
  case round =>
    obtain ⟨k, hk, rfl, HQ⟩ := hrel
    by_cases hlt : k < n
    · have i0 : (k : Int) < (n : Int) := by omega
      obtain ⟨p, hp⟩ : ∃ p, l[k]? = some p := ⟨_, List.getElem?_eq_getElem (by rw [HN.out]; exact hlt)⟩
      obtain ⟨d0, d1⟩ := (HR.out.below HQ.out.2).at HN.out k p hp
      have ht : l.take (k + 1) = l.take k ++ [p] := by rw [List.take_add_one, hp]; rfl
      have hni : p.1 ∉ (l.take k).map Prod.fst := fun hmem => by
        have h9 := HD.out
        have e9 : l = l.take k ++ p :: l.drop (k + 1) := by
          obtain ⟨hi, he⟩ := List.getElem?_eq_some_iff.1 hp
          rw [← he, List.getElem_cons_drop, List.take_append_drop]
        rw [e9, List.map_append, List.nodup_append] at h9
        exact h9.2.2 _ hmem _ (by simp) rfl
      obtain ⟨W1, hW1⟩ : ∃ W1, wr.alloc (.cells #[.string p.1, .int .i64 p.2] 52) = W1 := ⟨_, rfl⟩
      have bW : Below wr.heap.size wr W1 := by rw [← hW1]; exact alloc_old
      have zW : W1.heap[wr.heap.size]? = some (.cells #[.string p.1, .int .i64 p.2] 52) := by rw [← hW1]; exact heap_alloc_new wr _
      have mW := HQ.out.1.below bW
      have LK := MapT.run_lookup (P := Tryz.prog) Tryz.underlying242 Tryz.underlying9 mW p.1 false (.int .i64 0) (by kernel_rfl)
      rw [seen_none _ _ hni] at LK
      simp only [Option.getD_none, Bool.false_eq_true, if_false] at LK
      obtain ⟨w2, hrun, m1, g1, z1⟩ := MapT.run_update (P := Tryz.prog) Tryz.underlying242 Tryz.underlying9 mW p.1 (.int .i64 1)
      rw [seen_put p.1 p.2 _ hni, ← ht] at m1
      have LK2 := MapT.run_lookup (P := Tryz.prog) Tryz.underlying242 Tryz.underlying9 m1 p.1 false (.int .i64 0) (by kernel_rfl)
      rw [ht, seen_some p.1 p.2 _ hni] at LK2
      simp only [Option.getD_some, Bool.false_eq_true, if_false] at LK2
      have hw0 := Below.size HQ.out.2
      have hw1 : w.heap.size < wr.heap.size := HQ.out.1.lt
      have z2 := (grown_block g1 (lt_blk zW) (by omega)).trans zW
      obtain ⟨e0, e1⟩ : W1.cell? ⟨wr.heap.size, 0, none⟩ = some (.string p.1) ∧ W1.cell? ⟨wr.heap.size, 1, none⟩ = some (.int .i64 p.2) := ⟨(cell_of_row _ _ _ _ _ (0, 0) zW).trans rfl, (cell_of_row _ _ _ _ _ (0, 0) zW).trans rfl⟩
      have f0 : w2.cell? ⟨wr.heap.size, 0, none⟩ = some (.string p.1) := (cell_of_row _ _ _ _ _ (0, 0) z2).trans rfl
      have HX := Lib.hid (show MapT.MB w2 w.heap.size (seenS (l.take (k + 1))) ∧ Below w.heap.size w w2 from ⟨m1, (HQ.out.2.trans (bW.mono hw0)).grown g1 (by have := Below.size bW; omega) (fun q hq => by cases hq; exact Nat.le_refl _)⟩)
      clear ht hni hp mW m1 g1 z1 z2 zW bW
      go_wp2
      exact ⟨⟨k + 1, hlt, by go_num, HX⟩, by simp [iOfL]; omega⟩
    · have i0 : ¬ (k : Int) < (n : Int) := by omega
      clear hlt
      go_wp2
      go_ret
      exact ⟨by simp, HQ.out.2⟩
set_option maxRecDepth 100000 in
set_option maxHeartbeats 4000000 in
theorem MayS (g C : Nat) (l : List (ByteArray × Int)) (n : Nat) (hn : l.length = n) (h1 : 1 ≤ n) (hm : n ≤ 1000) (c : Nat) (w : World) (h : RS w c (.slice (some ⟨g, 0, none⟩) n C) l) (hsz : ∀ s ∈ tS l, s.size ≤ 4096) (hs : 16 + 16 * n + sumSz (tS l) ≤ 262144) (hr : ∀ (i : Nat) (p q : ByteArray × Int), l[i]? = some p → l[i + 1]? = some q → ltZ p q = true) (hnd : (l.map Prod.fst).Nodup) : Calls Tryz.prog 114 #[.agg #[.int .i64 4, .string ⟨#[]⟩, .slice none 0 0, .slice none 0 0, .slice (some ⟨g, 0, none⟩) n C, .slice none 0 0]] w fun e w' => e = .returned (.bool true) ∧ Below w.heap.size w w' := by
  have CN := Lib.hid (fun X => countS (some ⟨g, 0, none⟩) n C X)
  have TX := Lib.hid (fun X (hX : Below w.heap.size w X) => textsS 4 g C l n hn hm c X (h.below hX))
  have SZ := Lib.hid (fun X (hX : Below w.heap.size w X) => SizeS g C l n hn h1 hm c X (h.below hX) (by omega))
  have F1 := Lib.hid (fun X (hX : Below w.heap.size w X) => riseS (some ⟨g, 0, none⟩) C l n hn h1 (by omega) c X (h.below hX) (fun i p q hp hq Y => lessS p q (hr i p q hp hq) Y))
  have F2 := Lib.hid rise49
  have F3 := Lib.hid rise51
  have F4 := Lib.hid (fun X (hX : Below w.heap.size w X) => onceS g C l n hn (by omega) hnd c X (h.below hX))
  have B0 := Lib.hid (alloc_old (w := w) (o := .cells #[.int .i64 4, .string ⟨#[]⟩, .slice none 0 0, .slice none 0 0, .slice (some ⟨g, 0, none⟩) n C, .slice none 0 0] 64))
  have R0 := Lib.hid (heap_alloc_new w (.cells #[.int .i64 4, .string ⟨#[]⟩, .slice none 0 0, .slice none 0 0, .slice (some ⟨g, 0, none⟩) n C, .slice none 0 0] 64))
  have HTN := Lib.hid (show (tS l).length = n * 1 by rw [tS_len, hn])
  have g1 : ¬ (n : Int) < 1 := by omega
  have g2 : ¬ (1000 : Int) < (n : Int) := by omega
  have g3 : 16 + 16 * (n : Int) + (sumSz (tS l) : Int) ≤ 262144 := by omega
  obtain ⟨xs, hxs⟩ : ∃ xs, tS l = xs := ⟨_, rfl⟩
  rw [hxs] at TX SZ HTN hsz g3
  have HSZ := Lib.hid hsz
  clear h hs hxs hr hn hsz
  go_enter Tryz.func114, Tryz.ntmps114
  go_wp2_with (first | (go_at_call 167; (with_reducible refine (CN.out _).mono ?_); rintro e w1 ⟨rfl, hb⟩; have B1 := Lib.hid (B0.out.trans (hb.mono (Below.size B0.out))); have R1 := Lib.hid (blk_below R0.out hb); clear hb; obtain ⟨⟨c0, c1, c2, c3, c4, c5⟩, _⟩ := cells6 R1.out; refine Hid.out ?_))
  refine Lib.hid ?_
  have RN := Lib.hid (heap_alloc_new w1 (.cells #[.int .i64 0, .int .i64 0, .int .i64 (n : Int), .int .i64 0] 186))
  have B2 := Lib.hid (B1.out.trans ((alloc_old (o := .cells #[.int .i64 0, .int .i64 0, .int .i64 (n : Int), .int .i64 0] 186)).mono (Below.size B1.out)))
  have R2 := Lib.hid (blk_below R1.out (alloc_old (o := .cells #[.int .i64 0, .int .i64 0, .int .i64 (n : Int), .int .i64 0] 186)))
  obtain ⟨⟨c0, c1, c2, c3, c4, c5⟩, _⟩ := cells6 R2.out
  obtain ⟨⟨n0, n1, n2, n3⟩, _⟩ := cells4 RN.out
  have T2 := Lib.hid (TX.out _ B2.out)
  go_wp2_with (first | (go_at_call 166; (with_reducible refine (T2.out).mono ?_); rintro e w3 ⟨v3, rfl, hT3, hb⟩; have T3 := Lib.hid hT3; clear hT3; have B3 := Lib.hid (B2.out.trans (hb.mono (Below.size B2.out))); have R3 := Lib.hid (blk_below R2.out hb); clear hb; obtain ⟨⟨c0, c1, c2, c3, c4, c5⟩, _⟩ := cells6 R3.out; refine Hid.out ?_))
  refine Lib.hid ?_
  have hne : xs ≠ [] := by intro e; have := HTN.out; rw [e] at this; simp at this; omega
  obtain ⟨A3, cap3, rfl, s2, s3, s4⟩ := T3.out.ssl
  obtain ⟨blk, off, rfl, hblt, hcell⟩ := s4 hne
  clear s2 s3 s4 n0 n1 n2 n3 hne
  have HCL := Lib.hid hcell
  have hxm : xs.length ≤ 1000000 := by rw [HTN.out]; omega
  clear hcell
  go_wp2
  go_loopw [62] (fun i wr => ∃ k : Nat, k ≤ xs.length ∧ i = .int .i64 k ∧ w3 = wr) (fun i _ => xs.length - (iOfL i).toNat)
  case atStart => exact ⟨0, Nat.zero_le _, rfl, rfl⟩
  case round =>
    obtain ⟨k, hk, rfl, rfl⟩ := hrel
    by_cases hlt : k < xs.length
    · have i0 : (k : Int) < (xs.length : Int) := by omega
      obtain ⟨s, hs0⟩ := some_at hlt
      have x0 := HCL.out k s hs0
      have hs1 := HSZ.out s (List.mem_of_getElem? hs0)
      have i1 : ¬ (4096 : Int) < (s.size : Int) := by omega
      clear hs0 hs1
      go_wp2
      exact ⟨⟨k + 1, hlt, by go_num, trivial⟩, by simp [iOfL]; omega⟩
    · have i0 : ¬ (k : Int) < (xs.length : Int) := by omega
      clear hlt
      go_wp2
      go_loopw [73] (fun i wr => i = .int .i64 0 ∧ w3 = wr) (fun _ _ => 0)
      case atStart => exact ⟨rfl, rfl⟩
      case round =>
        obtain ⟨rfl, rfl⟩ := hrel
        go_wp2_with (first | (go_at_call 168; (with_reducible refine (F2.out _ _).mono ?_); rintro e w4 ⟨rfl, hb⟩; have B4 := Lib.hid (B3.out.trans (hb.mono (Below.size B3.out))); have R4 := Lib.hid (blk_below R3.out hb); clear hb; obtain ⟨⟨c0, c1, c2, c3, c4, c5⟩, _⟩ := cells6 R4.out) | (go_at_call 170; (with_reducible refine (F3.out _ _).mono ?_); rintro e w5 ⟨rfl, hb⟩; have B5 := Lib.hid (B4.out.trans (hb.mono (Below.size B4.out))); have R5 := Lib.hid (blk_below R4.out hb); clear hb; obtain ⟨⟨c0, c1, c2, c3, c4, c5⟩, _⟩ := cells6 R5.out; have F15 := Lib.hid (F1.out _ B5.out)) | (go_at_call 172; (with_reducible refine (F15.out).mono ?_); rintro e w6 ⟨rfl, hb⟩; have B6 := Lib.hid (B5.out.trans (hb.mono (Below.size B5.out))); have R6 := Lib.hid (blk_below R5.out hb); clear hb; obtain ⟨⟨c0, c1, c2, c3, c4, c5⟩, _⟩ := cells6 R6.out; have F16 := Lib.hid (F4.out _ B6.out)) | (go_at_call 174; (with_reducible refine (F16.out).mono ?_); rintro e w7 ⟨rfl, hb⟩; have B7 := Lib.hid (B6.out.trans (hb.mono (Below.size B6.out))); have R7 := Lib.hid (blk_below R6.out hb); clear hb; obtain ⟨⟨c0, c1, c2, c3, c4, c5⟩, _⟩ := cells6 R7.out; have S7 := Lib.hid (SZ.out _ B7.out)) | (go_at_call 113; (with_reducible refine (S7.out).mono ?_); rintro e w8 ⟨rfl, hb⟩; have B8 := Lib.hid (B7.out.trans (hb.mono (Below.size B7.out))); clear hb))
        go_ret
        exact ⟨by simp, B8.out⟩
end Go.Proofs.YticlacjpgjkhcaaGreatDoor
