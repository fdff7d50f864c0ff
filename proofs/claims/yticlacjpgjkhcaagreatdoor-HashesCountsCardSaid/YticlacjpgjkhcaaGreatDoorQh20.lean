/- Texts joined: V4F, V6F, V7F, V5F, EqF -/
import Derived.Test.YticlacjpgjkhcaaGreatDoorQh19

/- Values of kind F: their size; which may be. -/
namespace Go.Proofs.YticlacjpgjkhcaaGreatDoor
open Go.ChangeShapes Go.WideShapes Go.ChangeAt Go.RowKit

set_option maxRecDepth 100000 in
set_option maxHeartbeats 4000000 in
theorem SizeF (g C : Nat) (l : List (ByteArray × ByteArray)) (n : Nat) (hn : l.length = n) (h1 : 1 ≤ n) (hm : n ≤ 1000) (c : Nat) (w : World) (h : RF w c (.slice (some ⟨g, 0, none⟩) n C) l) (hs : sumSz (tF l) ≤ 1000000000) : Calls Tryz.prog 113 #[.agg #[.int .i64 3, .string ⟨#[]⟩, .slice none 0 0, .slice (some ⟨g, 0, none⟩) n C, .slice none 0 0, .slice none 0 0]] w fun e w' => e = .returned (.int .i64 (16 + 16 * (n : Int) + (sumSz (tF l) : Int))) ∧ Below w.heap.size w w' := by
  obtain ⟨W, hW⟩ : ∃ W, (w.alloc (.cells #[.int .i64 3, .string ⟨#[]⟩, .slice none 0 0, .slice (some ⟨g, 0, none⟩) n C, .slice none 0 0, .slice none 0 0] 64)).alloc (.cells #[.int .i64 0, .string ⟨#[]⟩, .slice none 0 0, .slice (some ⟨g, 0, none⟩) n C, .slice none 0 0, .slice none 0 0] 64) = W := ⟨_, rfl⟩
  have hb0 : W.heap[w.heap.size]? = some (.cells #[.int .i64 3, .string ⟨#[]⟩, .slice none 0 0, .slice (some ⟨g, 0, none⟩) n C, .slice none 0 0, .slice none 0 0] 64) := by rw [← hW]; exact blk_below (heap_alloc_new w _) alloc_old
  have hb1 : W.heap[w.heap.size + 1]? = some (.cells #[.int .i64 0, .string ⟨#[]⟩, .slice none 0 0, .slice (some ⟨g, 0, none⟩) n C, .slice none 0 0, .slice none 0 0] 64) := by rw [← hW]; exact heap2L w _
  have hB : Below w.heap.size w W := by rw [← hW]; exact alloc_old.trans (alloc_old.mono (by simp))
  have LN := Lib.hid (LenF (some ⟨g, 0, none⟩) n C W)
  have TX := Lib.hid (fun X (hX : Below w.heap.size w X) => textsF 0 g C l n hn hm c X (h.below hX))
  have B0 := Lib.hid hB
  have H0 := Lib.hid hb0
  have H1 := Lib.hid hb1
  have q1 := sz_q1 n (by omega)
  have q2 := sz_q2 n (by omega)
  have HTN := Lib.hid (show (tF l).length = n * 2 by rw [tF_len, hn])
  obtain ⟨⟨c0, c1, c2, c3, c4, c5⟩, _⟩ := cells6 hb0
  obtain ⟨⟨d0, d1, d2, d3, d4, d5⟩, _⟩ := cells6 hb1
  clear h hb0 hb1 hB hn
  obtain ⟨xs, hxs⟩ : ∃ xs, tF l = xs := ⟨_, rfl⟩
  rw [hxs] at TX HTN hs ⊢
  clear hxs
  go_enter Tryz.func113, Tryz.ntmps113
  go_wp2_with (first | (go_at_call 165; (with_reducible refine (LN.out).mono ?_); rintro e w2 ⟨rfl, hb2⟩; have B2 := Lib.hid (B0.out.trans (hb2.mono (Below.size B0.out))); have R1 := Lib.hid (blk_below H1.out hb2); clear hb2; obtain ⟨⟨e0, e1, e2, e3, e4, e5⟩, _⟩ := cells6 R1.out; have T2 := Lib.hid (TX.out w2 B2.out)) | (go_at_call 166; (with_reducible refine (T2.out).mono ?_); rintro e w3 ⟨v3, rfl, hT3, hb3⟩; have T3 := Lib.hid hT3; have B3 := Lib.hid (B2.out.trans (hb3.mono (Below.size B2.out))); clear hT3 hb3; refine Hid.out ?_))
  refine Lib.hid ?_
  have hne : xs ≠ [] := by intro e; have := HTN.out; rw [e] at this; simp at this; omega
  obtain ⟨A3, cap3, rfl, s2, s3, s4⟩ := T3.out.ssl
  obtain ⟨blk, off, rfl, hblt, hcell⟩ := s4 hne
  clear s2 s3 s4
  have HCL := Lib.hid hcell
  have hxm : xs.length ≤ 1000000 := by rw [HTN.out]; omega
  clear hcell c0 c1 c2 c3 c4 c5 d0 d1 d2 d3 d4 d5 e0 e1 e2 e3 e4 e5 hne
  go_wp2
  go_loopw [4, 44] (fun m i wr => ∃ k : Nat, k ≤ xs.length ∧ i = .int .i64 k ∧ m = .int .i64 (16 + 16 * (n : Int) + (sumSz (xs.take k) : Int)) ∧ w3 = wr) (fun _ i _ => xs.length - (iOfL i).toNat)
  case atStart => exact ⟨0, Nat.zero_le _, rfl, by simp [sumSz], rfl⟩
  case round =>
    obtain ⟨k, hk, rfl, rfl, rfl⟩ := hrel
    by_cases hlt : k < xs.length
    · have i0 : (k : Int) < (xs.length : Int) := by omega
      obtain ⟨s, hs0⟩ := some_at hlt
      have x0 := HCL.out k s hs0
      have e9 := sumSz_take hs0
      have e8 := sumSz_le xs (k + 1)
      have q3 := sz_q3 n (sumSz (xs.take k)) s.size (by omega) (by omega)
      rw [← e9] at q3
      have HE := Lib.hid e9
      clear hs0 e8 e9
      go_wp2
      exact ⟨⟨k + 1, hlt, by go_num, rfl, trivial⟩, by simp [iOfL]; omega⟩
    · have i0 : ¬ (k : Int) < (xs.length : Int) := by omega
      have hkk : xs.take k = xs := List.take_of_length_le (by omega)
      rw [hkk]
      clear hkk hlt
      go_wp2
      go_ret
      exact ⟨by simp, B3.out⟩
end Go.Proofs.YticlacjpgjkhcaaGreatDoor

/- Values of kind F: copies. -/
namespace Go.Proofs.YticlacjpgjkhcaaGreatDoor
open Go.ChangeShapes Go.WideShapes Go.ChangeAt Go.RowKit

set_option maxRecDepth 100000 in
set_option maxHeartbeats 4000000 in
theorem VCloneF (g0 cap : Nat) (l : List (ByteArray × ByteArray)) (n : Nat) (hn : l.length = n) (h1 : 1 ≤ n) (hm : n ≤ 1000) (c : Nat) (w : World) (h : RF w c (.slice (some ⟨g0, 0, none⟩) n cap) l) : Calls Tryz.prog 93 #[.agg #[.int .i64 3, .string ⟨#[]⟩, .slice none 0 0, .slice (some ⟨g0, 0, none⟩) n cap, .slice none 0 0, .slice none 0 0]] w fun e w' => ∃ g C, e = .returned (.agg #[.int .i64 3, .string ⟨#[]⟩, .slice none 0 0, .slice (some ⟨g, 0, none⟩) n C, .slice none 0 0, .slice none 0 0]) ∧ RF w' (w.heap.size + 2) (.slice (some ⟨g, 0, none⟩) n C) l ∧ Below w.heap.size w w' := by
  go_enter Tryz.func93, Tryz.ntmps93
  go_wp2
  obtain ⟨W, hW⟩ : ∃ W, (w.alloc (.cells #[.int .i64 3, .string ⟨#[]⟩, .slice none 0 0, .slice (some ⟨g0, 0, none⟩) n cap, .slice none 0 0, .slice none 0 0] 64)).alloc (.cells #[.int .i64 0, .string ⟨#[]⟩, .slice none 0 0, .slice none 0 0, .slice none 0 0, .slice none 0 0] 64) = W := ⟨_, rfl⟩
  have hz : W.heap.size = w.heap.size + 2 := by rw [← hW]; simp
  have hb0 : W.heap[w.heap.size]? = some (.cells #[.int .i64 3, .string ⟨#[]⟩, .slice none 0 0, .slice (some ⟨g0, 0, none⟩) n cap, .slice none 0 0, .slice none 0 0] 64) := by rw [← hW]; exact blk_below (heap_alloc_new w _) alloc_old
  have hb1 : W.heap[w.heap.size + 1]? = some (.cells #[.int .i64 0, .string ⟨#[]⟩, .slice none 0 0, .slice none 0 0, .slice none 0 0, .slice none 0 0] 64) := by rw [← hW]; have := heap_alloc_new (w.alloc (.cells #[.int .i64 3, .string ⟨#[]⟩, .slice none 0 0, .slice (some ⟨g0, 0, none⟩) n cap, .slice none 0 0, .slice none 0 0] 64)) (.cells #[.int .i64 0, .string ⟨#[]⟩, .slice none 0 0, .slice none 0 0, .slice none 0 0, .slice none 0 0] 64); rw [World.size_alloc] at this; exact this
  have hB : Below w.heap.size w W := by rw [← hW]; exact alloc_old.trans (alloc_old.mono (by simp))
  have CK := Lib.hid (CloneF c g0 cap l n hn h1 (by omega) W.drew (h.below hB.drew))
  have K := Lib.hid (show ∀ X, Below (w.heap.size + 1) W X → ((X.cell? ⟨w.heap.size, 0, none⟩ = some (.int .i64 3) ∧ X.cell? ⟨w.heap.size, 1, none⟩ = some (.string ⟨#[]⟩) ∧ X.cell? ⟨w.heap.size, 2, none⟩ = some (.slice none 0 0) ∧ X.cell? ⟨w.heap.size, 3, none⟩ = some (.slice (some ⟨g0, 0, none⟩) n cap) ∧ X.cell? ⟨w.heap.size, 4, none⟩ = some (.slice none 0 0) ∧ X.cell? ⟨w.heap.size, 5, none⟩ = some (.slice none 0 0)) ∧ Below (w.heap.size + 1) W X) from fun X hb => by
    obtain ⟨⟨c0, c1, c2, c3, c4, c5⟩, _⟩ := cells6 ((hb.block _ (Nat.lt_succ_self _)).trans hb0)
    exact ⟨⟨c0, c1, c2, c3, c4, c5⟩, hb⟩)
  have ST := Lib.hid (show ∀ X v0 v1 v2 v3 v4 v5, ((X.cell? ⟨w.heap.size, 0, none⟩ = some (.int .i64 3) ∧ X.cell? ⟨w.heap.size, 1, none⟩ = some (.string ⟨#[]⟩) ∧ X.cell? ⟨w.heap.size, 2, none⟩ = some (.slice none 0 0) ∧ X.cell? ⟨w.heap.size, 3, none⟩ = some (.slice (some ⟨g0, 0, none⟩) n cap) ∧ X.cell? ⟨w.heap.size, 4, none⟩ = some (.slice none 0 0) ∧ X.cell? ⟨w.heap.size, 5, none⟩ = some (.slice none 0 0)) ∧ Below (w.heap.size + 1) W X) → (fun X => (X.cell? ⟨w.heap.size, 0, none⟩ = some (.int .i64 3) ∧ X.cell? ⟨w.heap.size, 1, none⟩ = some (.string ⟨#[]⟩) ∧ X.cell? ⟨w.heap.size, 2, none⟩ = some (.slice none 0 0) ∧ X.cell? ⟨w.heap.size, 3, none⟩ = some (.slice (some ⟨g0, 0, none⟩) n cap) ∧ X.cell? ⟨w.heap.size, 4, none⟩ = some (.slice none 0 0) ∧ X.cell? ⟨w.heap.size, 5, none⟩ = some (.slice none 0 0)) ∧ Below (w.heap.size + 1) W X) (((((((X).setCell ⟨w.heap.size + 1, 0, none⟩ v0).setCell ⟨w.heap.size + 1, 1, none⟩ v1).setCell ⟨w.heap.size + 1, 2, none⟩ v2).setCell ⟨w.heap.size + 1, 3, none⟩ v3).setCell ⟨w.heap.size + 1, 4, none⟩ v4).setCell ⟨w.heap.size + 1, 5, none⟩ v5) from fun X v0 v1 v2 v3 v4 v5 hX => K.out _ ((((((hX.2.setCell (p := ⟨w.heap.size + 1, 0, none⟩) (Nat.le_refl _) v0).setCell (p := ⟨w.heap.size + 1, 1, none⟩) (Nat.le_refl _) v1).setCell (p := ⟨w.heap.size + 1, 2, none⟩) (Nat.le_refl _) v2).setCell (p := ⟨w.heap.size + 1, 3, none⟩) (Nat.le_refl _) v3).setCell (p := ⟨w.heap.size + 1, 4, none⟩) (Nat.le_refl _) v4).setCell (p := ⟨w.heap.size + 1, 5, none⟩) (Nat.le_refl _) v5))
  have S0 : (W.drew.cell? ⟨w.heap.size, 0, none⟩ = some (.int .i64 3) ∧ W.drew.cell? ⟨w.heap.size, 1, none⟩ = some (.string ⟨#[]⟩) ∧ W.drew.cell? ⟨w.heap.size, 2, none⟩ = some (.slice none 0 0) ∧ W.drew.cell? ⟨w.heap.size, 3, none⟩ = some (.slice (some ⟨g0, 0, none⟩) n cap) ∧ W.drew.cell? ⟨w.heap.size, 4, none⟩ = some (.slice none 0 0) ∧ W.drew.cell? ⟨w.heap.size, 5, none⟩ = some (.slice none 0 0)) ∧ Below (w.heap.size + 1) W W.drew := K.out _ (Below.refl _ W).drew
  have B0 := Lib.hid hB.drew
  have H1 := Lib.hid (show W.drew.heap[w.heap.size + 1]? = some (.cells #[.int .i64 0, .string ⟨#[]⟩, .slice none 0 0, .slice none 0 0, .slice none 0 0, .slice none 0 0] 64) from hb1)
  have hzd : w.heap.size + 1 ≤ W.drew.heap.size := by show _ ≤ W.heap.size; omega
  have hz2 : w.heap.size + 2 ≤ W.drew.heap.size := by show _ ≤ W.heap.size; omega
  obtain ⟨⟨c0, c1, c2, c3, c4, c5⟩, ⟨f0, f1, f2, f3, f4, f5⟩⟩ := cells6 H1.out
  rw [hW]
  clear hW hz hb0 hb1 hB h
  go_region_held3 (fun X => (X.cell? ⟨w.heap.size, 0, none⟩ = some (.int .i64 3) ∧ X.cell? ⟨w.heap.size, 1, none⟩ = some (.string ⟨#[]⟩) ∧ X.cell? ⟨w.heap.size, 2, none⟩ = some (.slice none 0 0) ∧ X.cell? ⟨w.heap.size, 3, none⟩ = some (.slice (some ⟨g0, 0, none⟩) n cap) ∧ X.cell? ⟨w.heap.size, 4, none⟩ = some (.slice none 0 0) ∧ X.cell? ⟨w.heap.size, 5, none⟩ = some (.slice none 0 0)) ∧ Below (w.heap.size + 1) W X) (first | (with_reducible exact S0) | (with_reducible exact S3.out) | (refine ST.out _ _ _ _ _ _ _ ?_; assumption))
    (first | (go_at_call 146; (with_reducible refine (CK.out).mono ?_); rintro e w3 ⟨g, C, rfl, hT, hb⟩; have HT := Lib.hid hT; have S3 := Lib.hid (K.out w3 ((Below.refl _ W).drew.trans (hb.mono hzd))); have R3 := Lib.hid (blk_below H1.out hb); have B3 := Lib.hid (B0.out.trans (hb.mono (Below.size B0.out))); clear hT hb; obtain ⟨⟨c0, c1, c2, c3, c4, c5⟩, ⟨f0, f1, f2, f3, f4, f5⟩⟩ := cells6 R3.out) | (go_at_call 145; (with_reducible refine (Clone57 _).mono ?_); rintro e w' ⟨rfl, rfl⟩) | (go_at_call 146; (with_reducible refine (Clone58 _).mono ?_); rintro e w' ⟨rfl, rfl⟩) | (go_at_call 147; (with_reducible refine (Clone59 _).mono ?_); rintro e w' ⟨rfl, rfl⟩) | (go_at_call 148; (with_reducible refine (Clone60 _).mono ?_); rintro e w' ⟨rfl, rfl⟩))
  go_wp2
  have hgo : ∀ g', (Value.slice (some ⟨g, 0, none⟩) n C).ownBlock = some g' → g' ≠ w.heap.size + 1 := fun g' hg' => by
    have := (row_own HT.out g' hg').1
    omega
  exact bodyPost_ret (v := .agg #[.int .i64 3, .string ⟨#[]⟩, .slice none 0 0, .slice (some ⟨g, 0, none⟩) n C, .slice none 0 0, .slice none 0 0]) (by simp [results, Tryz.results93, go_sem, c0, c1, c2, c3, c4, c5]) rfl ⟨g, C, rfl, (HT.out.kept (fun g' hg' => far60 _ _ _ _ _ _ (hgo g' hg'))).mono hz2, (((((B3.out.setCell (Nat.le_succ _) _).setCell (Nat.le_succ _) _).setCell (Nat.le_succ _) _).setCell (Nat.le_succ _) _).setCell (Nat.le_succ _) _).setCell (Nat.le_succ _) _⟩
end Go.Proofs.YticlacjpgjkhcaaGreatDoor

/- Entries of kind F: copies, sizes, which may be. -/
namespace Go.Proofs.YticlacjpgjkhcaaGreatDoor
open Go.ChangeShapes Go.WideShapes Go.ChangeAt Go.RowKit

set_option maxRecDepth 100000 in
set_option maxHeartbeats 4000000 in
theorem sCloneF (k : ByteArray) (u : Int) (g0 cap : Nat) (l : List (ByteArray × ByteArray)) (n : Nat) (hn : l.length = n) (h1 : 1 ≤ n) (hm : n ≤ 1000) (c : Nat) (w : World) (h : RF w c (.slice (some ⟨g0, 0, none⟩) n cap) l) : Calls Tryz.prog 34 #[.agg #[.string k, .int .i64 3, .string ⟨#[]⟩, .slice none 0 0, .slice (some ⟨g0, 0, none⟩) n cap, .slice none 0 0, .slice none 0 0, .int .i64 u]] w fun e w' => ∃ g C, e = .returned (.agg #[.string k, .int .i64 3, .string ⟨#[]⟩, .slice none 0 0, .slice (some ⟨g, 0, none⟩) n C, .slice none 0 0, .slice none 0 0, .int .i64 u]) ∧ RF w' w.heap.size (.slice (some ⟨g, 0, none⟩) n C) l ∧ Below w.heap.size w w' := by
  have hb1 := Lib.hid (show ((w.alloc (.cells #[.string k, .int .i64 3, .string ⟨#[]⟩, .slice none 0 0, .slice (some ⟨g0, 0, none⟩) n cap, .slice none 0 0, .slice none 0 0, .int .i64 u] 66)).alloc (.cells #[.string ⟨#[]⟩, .int .i64 0, .string ⟨#[]⟩, .slice none 0 0, .slice none 0 0, .slice none 0 0, .slice none 0 0, .int .i64 0] 66)).heap[w.heap.size]? = some (.cells #[.string k, .int .i64 3, .string ⟨#[]⟩, .slice none 0 0, .slice (some ⟨g0, 0, none⟩) n cap, .slice none 0 0, .slice none 0 0, .int .i64 u] 66) from blk_below (heap_alloc_new w _) alloc_old)
  have hb2 := Lib.hid (heap2L (o := .cells #[.string k, .int .i64 3, .string ⟨#[]⟩, .slice none 0 0, .slice (some ⟨g0, 0, none⟩) n cap, .slice none 0 0, .slice none 0 0, .int .i64 u] 66) w (.cells #[.string ⟨#[]⟩, .int .i64 0, .string ⟨#[]⟩, .slice none 0 0, .slice none 0 0, .slice none 0 0, .slice none 0 0, .int .i64 0] 66))
  have hb3 := Lib.hid (show Below w.heap.size w ((w.alloc (.cells #[.string k, .int .i64 3, .string ⟨#[]⟩, .slice none 0 0, .slice (some ⟨g0, 0, none⟩) n cap, .slice none 0 0, .slice none 0 0, .int .i64 u] 66)).alloc (.cells #[.string ⟨#[]⟩, .int .i64 0, .string ⟨#[]⟩, .slice none 0 0, .slice none 0 0, .slice none 0 0, .slice none 0 0, .int .i64 0] 66)) from alloc_old.trans (alloc_old.mono (by simp)))
  have V := Lib.hid (VCloneF g0 cap l n hn h1 hm c _ (h.below hb3.out))
  have hz : ((w.alloc (.cells #[.string k, .int .i64 3, .string ⟨#[]⟩, .slice none 0 0, .slice (some ⟨g0, 0, none⟩) n cap, .slice none 0 0, .slice none 0 0, .int .i64 u] 66)).alloc (.cells #[.string ⟨#[]⟩, .int .i64 0, .string ⟨#[]⟩, .slice none 0 0, .slice none 0 0, .slice none 0 0, .slice none 0 0, .int .i64 0] 66)).heap.size = w.heap.size + 2 := by simp
  have HZ := Lib.hid hz
  clear h hz
  go_enter Tryz.func34, Tryz.ntmps34
  go_wp2_with (first | (go_at_call 93; (with_reducible refine (V.out).mono ?_); rintro e w1 ⟨g, C, rfl, hT, h1⟩; have HT := Lib.hid hT; have B1 := Lib.hid h1; clear hT h1; obtain ⟨⟨c0, c1, c2, c3, c4, c5, c6, c7⟩, ⟨f0, f1, f2, f3, f4, f5, f6, f7⟩, z1⟩ := cells8 (blk_below hb1.out B1.out); obtain ⟨⟨d0, d1, d2, d3, d4, d5, d6, d7⟩, ⟨g0, g1, g2, g3, g4, g5, g6, g7⟩, z2⟩ := cells8 (blk_below hb2.out B1.out)))
  have hz := HZ.out
  have hno : ∀ g', (Value.slice (some ⟨g, 0, none⟩) n C).ownBlock = some g' → g' ≠ w.heap.size ∧ g' ≠ w.heap.size + 1 := fun g' hg' => by
    have := (row_own HT.out g' hg').1
    omega
  exact bodyPost_ret (v := .agg #[.string k, .int .i64 3, .string ⟨#[]⟩, .slice none 0 0, .slice (some ⟨g, 0, none⟩) n C, .slice none 0 0, .slice none 0 0, .int .i64 u]) (by simp [results, Tryz.results34, go_sem, d0, d1, d2, d3, d4, d5, d6, d7]) rfl ⟨g, C, rfl, (HT.out.kept (fun g' hg' => (far8b (hno g' hg').2 _ _ _ _ _ _ _ _).trans (far6b (hno g' hg').1 _ _ _ _ _ _))).mono (by omega), ((((((((((((((hb3.out.trans (B1.out.mono (by omega))).setCell (Nat.le_refl _) _).setCell (Nat.le_refl _) _).setCell (Nat.le_refl _) _).setCell (Nat.le_refl _) _).setCell (Nat.le_refl _) _).setCell (Nat.le_refl _) _).setCell (Nat.le_succ _) _).setCell (Nat.le_succ _) _).setCell (Nat.le_succ _) _).setCell (Nat.le_succ _) _).setCell (Nat.le_succ _) _).setCell (Nat.le_succ _) _).setCell (Nat.le_succ _) _).setCell (Nat.le_succ _) _⟩
set_option maxRecDepth 100000 in
set_option maxHeartbeats 4000000 in
theorem sSizeF (k : ByteArray) (u : Int) (hk : k.size ≤ 1000000) (g0 cap : Nat) (l : List (ByteArray × ByteArray)) (n : Nat) (hn : l.length = n) (h1 : 1 ≤ n) (hm : n ≤ 1000) (c : Nat) (w : World) (h : RF w c (.slice (some ⟨g0, 0, none⟩) n cap) l) (hs : sumSz (tF l) ≤ 1000000000) : Calls Tryz.prog 50 #[.agg #[.string k, .int .i64 3, .string ⟨#[]⟩, .slice none 0 0, .slice (some ⟨g0, 0, none⟩) n cap, .slice none 0 0, .slice none 0 0, .int .i64 u]] w fun e w' => e = .returned (.int .i64 (48 + (k.size : Int) + 16 * (n : Int) + (sumSz (tF l) : Int))) ∧ Below w.heap.size w w' := by
  obtain ⟨q1, q2⟩ := sz_e n (sumSz (tF l)) k.size hk (by omega) hs
  obtain ⟨W, hW⟩ : ∃ W, w.alloc (.cells #[.string k, .int .i64 3, .string ⟨#[]⟩, .slice none 0 0, .slice (some ⟨g0, 0, none⟩) n cap, .slice none 0 0, .slice none 0 0, .int .i64 u] 66) = W := ⟨_, rfl⟩
  have hb1 : W.heap[w.heap.size]? = some (.cells #[.string k, .int .i64 3, .string ⟨#[]⟩, .slice none 0 0, .slice (some ⟨g0, 0, none⟩) n cap, .slice none 0 0, .slice none 0 0, .int .i64 u] 66) := by rw [← hW]; exact heap_alloc_new w _
  have hb3 : Below w.heap.size w W := by rw [← hW]; exact alloc_old
  have hz : w.heap.size ≤ W.heap.size := Below.size hb3
  have Q := Lib.hid (SizeF g0 cap l n hn h1 hm c W.drew (h.below hb3.drew) hs)
  have K := Lib.hid (show ∀ X, Below W.heap.size W X → (X.cell? ⟨w.heap.size, 0, none⟩ = some (.string k) ∧ X.cell? ⟨w.heap.size, 1, none⟩ = some (.int .i64 3) ∧ X.cell? ⟨w.heap.size, 2, none⟩ = some (.string ⟨#[]⟩) ∧ X.cell? ⟨w.heap.size, 3, none⟩ = some (.slice none 0 0) ∧ X.cell? ⟨w.heap.size, 4, none⟩ = some (.slice (some ⟨g0, 0, none⟩) n cap) ∧ X.cell? ⟨w.heap.size, 5, none⟩ = some (.slice none 0 0) ∧ X.cell? ⟨w.heap.size, 6, none⟩ = some (.slice none 0 0)) from fun X hb => by
    obtain ⟨⟨c0, c1, c2, c3, c4, c5, c6, c7⟩, _⟩ := cells8 (blk_below hb1 hb)
    exact ⟨c0, c1, c2, c3, c4, c5, c6⟩)
  have S0 : ((W.drew.cell? ⟨w.heap.size, 0, none⟩ = some (.string k) ∧ W.drew.cell? ⟨w.heap.size, 1, none⟩ = some (.int .i64 3) ∧ W.drew.cell? ⟨w.heap.size, 2, none⟩ = some (.string ⟨#[]⟩) ∧ W.drew.cell? ⟨w.heap.size, 3, none⟩ = some (.slice none 0 0) ∧ W.drew.cell? ⟨w.heap.size, 4, none⟩ = some (.slice (some ⟨g0, 0, none⟩) n cap) ∧ W.drew.cell? ⟨w.heap.size, 5, none⟩ = some (.slice none 0 0) ∧ W.drew.cell? ⟨w.heap.size, 6, none⟩ = some (.slice none 0 0)) ∧ Below W.heap.size W W.drew) := ⟨K.out _ (Below.refl W.heap.size W).drew, (Below.refl W.heap.size W).drew⟩
  have SK := Lib.hid (show ∀ Y X : World, Below X.heap.size X Y → ((X.cell? ⟨w.heap.size, 0, none⟩ = some (.string k) ∧ X.cell? ⟨w.heap.size, 1, none⟩ = some (.int .i64 3) ∧ X.cell? ⟨w.heap.size, 2, none⟩ = some (.string ⟨#[]⟩) ∧ X.cell? ⟨w.heap.size, 3, none⟩ = some (.slice none 0 0) ∧ X.cell? ⟨w.heap.size, 4, none⟩ = some (.slice (some ⟨g0, 0, none⟩) n cap) ∧ X.cell? ⟨w.heap.size, 5, none⟩ = some (.slice none 0 0) ∧ X.cell? ⟨w.heap.size, 6, none⟩ = some (.slice none 0 0)) ∧ Below W.heap.size W X) → ((Y.cell? ⟨w.heap.size, 0, none⟩ = some (.string k) ∧ Y.cell? ⟨w.heap.size, 1, none⟩ = some (.int .i64 3) ∧ Y.cell? ⟨w.heap.size, 2, none⟩ = some (.string ⟨#[]⟩) ∧ Y.cell? ⟨w.heap.size, 3, none⟩ = some (.slice none 0 0) ∧ Y.cell? ⟨w.heap.size, 4, none⟩ = some (.slice (some ⟨g0, 0, none⟩) n cap) ∧ Y.cell? ⟨w.heap.size, 5, none⟩ = some (.slice none 0 0) ∧ Y.cell? ⟨w.heap.size, 6, none⟩ = some (.slice none 0 0)) ∧ Below W.heap.size W Y) from fun Y X hb h => ⟨K.out _ (belT h.2 hb), belT h.2 hb⟩)
  have HB := Lib.hid hb3
  clear hb1 hb3 h
  go_enter Tryz.func50, Tryz.ntmps50
  go_wp2

  clear hW
  go_region_held3 (fun X => ((X.cell? ⟨w.heap.size, 0, none⟩ = some (.string k) ∧ X.cell? ⟨w.heap.size, 1, none⟩ = some (.int .i64 3) ∧ X.cell? ⟨w.heap.size, 2, none⟩ = some (.string ⟨#[]⟩) ∧ X.cell? ⟨w.heap.size, 3, none⟩ = some (.slice none 0 0) ∧ X.cell? ⟨w.heap.size, 4, none⟩ = some (.slice (some ⟨g0, 0, none⟩) n cap) ∧ X.cell? ⟨w.heap.size, 5, none⟩ = some (.slice none 0 0) ∧ X.cell? ⟨w.heap.size, 6, none⟩ = some (.slice none 0 0)) ∧ Below W.heap.size W X)) (first | exact S0 | exact SK.out _ _ (by assumption) (by assumption) | exact SK.out _ _ (by assumption) ⟨by assumption, by assumption⟩)
    (first | (go_at_call 113; refine (Q.out).mono ?_; rintro e w5 ⟨rfl, hb5⟩))
  go_wp2
  go_ret
  exact ⟨by simp, HB.out.trans ((belT S0.2 hb5).mono hz)⟩
set_option maxRecDepth 100000 in
set_option maxHeartbeats 4000000 in
theorem sMayF (k : ByteArray) (hk1 : 1 ≤ k.size) (hk : k.size ≤ 512) (u : Int) (hu0 : 0 ≤ u) (hu1 : u ≤ 1125899906842624) (g0 cap n : Nat) (w : World) (hV : ∀ X, Below w.heap.size w X → Calls Tryz.prog 114 #[.agg #[.int .i64 3, .string ⟨#[]⟩, .slice none 0 0, .slice (some ⟨g0, 0, none⟩) n cap, .slice none 0 0, .slice none 0 0]] X fun e w' => e = .returned (.bool true) ∧ Below X.heap.size X w') : Calls Tryz.prog 51 #[.agg #[.string k, .int .i64 3, .string ⟨#[]⟩, .slice none 0 0, .slice (some ⟨g0, 0, none⟩) n cap, .slice none 0 0, .slice none 0 0, .int .i64 u]] w fun e w' => e = .returned (.bool true) ∧ Below w.heap.size w w' := by
  have i1 : (1 : Int) ≤ (k.size : Int) := by omega
  have i2 : (k.size : Int) ≤ 512 := by omega
  have V := Lib.hid (hV (w.alloc (.cells #[.string k, .int .i64 3, .string ⟨#[]⟩, .slice none 0 0, .slice (some ⟨g0, 0, none⟩) n cap, .slice none 0 0, .slice none 0 0, .int .i64 u] 66)) alloc_old)
  have hb1 := Lib.hid (heap_alloc_new w (.cells #[.string k, .int .i64 3, .string ⟨#[]⟩, .slice none 0 0, .slice (some ⟨g0, 0, none⟩) n cap, .slice none 0 0, .slice none 0 0, .int .i64 u] 66))
  clear hV hk1 hk
  go_enter Tryz.func51, Tryz.ntmps51
  go_wp2_with (first | (go_at_call 114; (with_reducible refine (V.out).mono ?_); rintro e w1 ⟨rfl, h1⟩; have B1 := Lib.hid h1; clear h1; obtain ⟨⟨c0, c1, c2, c3, c4, c5, c6, c7⟩, _, z1⟩ := cells8 (blk_below hb1.out B1.out)))
  go_ret
  exact ⟨by simp, alloc_old.trans (B1.out.mono (by simp))⟩
end Go.Proofs.YticlacjpgjkhcaaGreatDoor

/- Values of kind F: which may be. -/
namespace Go.Proofs.YticlacjpgjkhcaaGreatDoor
open Go.ChangeShapes Go.WideShapes Go.ChangeAt Go.RowKit

set_option maxRecDepth 100000 in
set_option maxHeartbeats 4000000 in
theorem lessF (p q : ByteArray × ByteArray) (h : bl p.1 < bl q.1) (w : World) : Calls Tryz.prog 169 #[.agg #[.string p.1, .string p.2], .agg #[.string q.1, .string q.2]] w fun e w' => e = .returned (.bool true) ∧ Below w.heap.size w w' := by
  have e : Op.bytesLess p.1.toList q.1.toList = true := by rw [less_bl]; exact decide_eq_true h
  go_enter Tryz.func169, Tryz.ntmps169
  go_wp2
  exact bodyPost_ret (v := .bool true) (by simp [results, Tryz.results169, go_sem]) rfl ⟨rfl, alloc_old.trans (alloc_old.mono (by simp))⟩
set_option maxRecDepth 100000 in
set_option maxHeartbeats 4000000 in
theorem MayF (g C : Nat) (l : List (ByteArray × ByteArray)) (n : Nat) (hn : l.length = n) (h1 : 1 ≤ n) (hm : n ≤ 1000) (c : Nat) (w : World) (h : RF w c (.slice (some ⟨g, 0, none⟩) n C) l) (hsz : ∀ s ∈ tF l, s.size ≤ 4096) (hs : 16 + 16 * n + sumSz (tF l) ≤ 262144) (hr : ∀ (i : Nat) (p q : ByteArray × ByteArray), l[i]? = some p → l[i + 1]? = some q → bl p.1 < bl q.1) : Calls Tryz.prog 114 #[.agg #[.int .i64 3, .string ⟨#[]⟩, .slice none 0 0, .slice (some ⟨g, 0, none⟩) n C, .slice none 0 0, .slice none 0 0]] w fun e w' => e = .returned (.bool true) ∧ Below w.heap.size w w' := by
  have CN := Lib.hid (fun X => countF (some ⟨g, 0, none⟩) n C X)
  have TX := Lib.hid (fun X (hX : Below w.heap.size w X) => textsF 3 g C l n hn hm c X (h.below hX))
  have SZ := Lib.hid (fun X (hX : Below w.heap.size w X) => SizeF g C l n hn h1 hm c X (h.below hX) (by omega))
  have F1 := Lib.hid (fun X (hX : Below w.heap.size w X) => riseF (some ⟨g, 0, none⟩) C l n hn h1 (by omega) c X (h.below hX) (fun i p q hp hq Y => lessF p q (hr i p q hp hq) Y))
  have F2 := Lib.hid rise51
  have F3 := Lib.hid rise53
  have F4 := Lib.hid once55
  have B0 := Lib.hid (alloc_old (w := w) (o := .cells #[.int .i64 3, .string ⟨#[]⟩, .slice none 0 0, .slice (some ⟨g, 0, none⟩) n C, .slice none 0 0, .slice none 0 0] 64))
  have R0 := Lib.hid (heap_alloc_new w (.cells #[.int .i64 3, .string ⟨#[]⟩, .slice none 0 0, .slice (some ⟨g, 0, none⟩) n C, .slice none 0 0, .slice none 0 0] 64))
  have HTN := Lib.hid (show (tF l).length = n * 2 by rw [tF_len, hn])
  have g1 : ¬ (n : Int) < 1 := by omega
  have g2 : ¬ (1000 : Int) < (n : Int) := by omega
  have g3 : 16 + 16 * (n : Int) + (sumSz (tF l) : Int) ≤ 262144 := by omega
  obtain ⟨xs, hxs⟩ : ∃ xs, tF l = xs := ⟨_, rfl⟩
  rw [hxs] at TX SZ HTN hsz g3
  have HSZ := Lib.hid hsz
  clear h hs hxs hr hn hsz
  go_enter Tryz.func114, Tryz.ntmps114
  go_wp2_with (first | (go_at_call 167; (with_reducible refine (CN.out _).mono ?_); rintro e w1 ⟨rfl, hb⟩; have B1 := Lib.hid (B0.out.trans (hb.mono (Below.size B0.out))); have R1 := Lib.hid (blk_below R0.out hb); clear hb; obtain ⟨⟨c0, c1, c2, c3, c4, c5⟩, _⟩ := cells6 R1.out; refine Hid.out ?_))
  refine Lib.hid ?_
  have RN := Lib.hid (heap_alloc_new w1 (.cells #[.int .i64 0, .int .i64 (n : Int), .int .i64 0, .int .i64 0] 186))
  have B2 := Lib.hid (B1.out.trans ((alloc_old (o := .cells #[.int .i64 0, .int .i64 (n : Int), .int .i64 0, .int .i64 0] 186)).mono (Below.size B1.out)))
  have R2 := Lib.hid (blk_below R1.out (alloc_old (o := .cells #[.int .i64 0, .int .i64 (n : Int), .int .i64 0, .int .i64 0] 186)))
  obtain ⟨⟨c0, c1, c2, c3, c4, c5⟩, _⟩ := cells6 R2.out
  obtain ⟨⟨n0, n1, n2, n3⟩, _⟩ := cells4 RN.out
  have T2 := Lib.hid (TX.out _ B2.out)
  go_wp2_with (first | (go_at_call 166; (with_reducible refine (T2.out).mono ?_); rintro e w3 ⟨v3, rfl, hT3, hb⟩; have T3 := Lib.hid hT3; clear hT3; have B3 := Lib.hid (B2.out.trans (hb.mono (Below.size B2.out))); have R3 := Lib.hid (blk_below R2.out hb); clear hb; obtain ⟨⟨c0, c1, c2, c3, c4, c5⟩, _⟩ := cells6 R3.out; refine Hid.out ?_))
  refine Lib.hid ?_
  have hne : xs ≠ [] := by intro e; have := HTN.out; rw [e] at this; simp at this; omega
  obtain ⟨A3, cap3, rfl, s2, s3, s4⟩ := T3.out.ssl
  obtain ⟨blk, off, rfl, hblt, hcell⟩ := s4 hne
  clear s2 s3 s4 n0 n1 n2 n3 hne
  have HCL := Lib.hid hcell
  have hxm : xs.length ≤ 1000000 := by rw [HTN.out]; omega
  clear hcell
  go_wp2
  go_loopw [62] (fun i wr => ∃ k : Nat, k ≤ xs.length ∧ i = .int .i64 k ∧ w3 = wr) (fun i _ => xs.length - (iOfL i).toNat)
  case atStart => exact ⟨0, Nat.zero_le _, rfl, rfl⟩
  case round =>
    obtain ⟨k, hk, rfl, rfl⟩ := hrel
    by_cases hlt : k < xs.length
    · have i0 : (k : Int) < (xs.length : Int) := by omega
      obtain ⟨s, hs0⟩ := some_at hlt
      have x0 := HCL.out k s hs0
      have hs1 := HSZ.out s (List.mem_of_getElem? hs0)
      have i1 : ¬ (4096 : Int) < (s.size : Int) := by omega
      clear hs0 hs1
      go_wp2
      exact ⟨⟨k + 1, hlt, by go_num, trivial⟩, by simp [iOfL]; omega⟩
    · have i0 : ¬ (k : Int) < (xs.length : Int) := by omega
      clear hlt
      go_wp2
      go_loopw [73] (fun i wr => i = .int .i64 0 ∧ w3 = wr) (fun _ _ => 0)
      case atStart => exact ⟨rfl, rfl⟩
      case round =>
        obtain ⟨rfl, rfl⟩ := hrel
        have F13 := Lib.hid (F1.out w3 B3.out)
        go_wp2_with (first | (go_at_call 168; (with_reducible refine (F13.out).mono ?_); rintro e w4 ⟨rfl, hb⟩; have B4 := Lib.hid (B3.out.trans (hb.mono (Below.size B3.out))); have R4 := Lib.hid (blk_below R3.out hb); clear hb; obtain ⟨⟨c0, c1, c2, c3, c4, c5⟩, _⟩ := cells6 R4.out) | (go_at_call 170; (with_reducible refine (F2.out _ _).mono ?_); rintro e w5 ⟨rfl, hb⟩; have B5 := Lib.hid (B4.out.trans (hb.mono (Below.size B4.out))); have R5 := Lib.hid (blk_below R4.out hb); clear hb; obtain ⟨⟨c0, c1, c2, c3, c4, c5⟩, _⟩ := cells6 R5.out) | (go_at_call 172; (with_reducible refine (F3.out _ _).mono ?_); rintro e w6 ⟨rfl, hb⟩; have B6 := Lib.hid (B5.out.trans (hb.mono (Below.size B5.out))); have R6 := Lib.hid (blk_below R5.out hb); clear hb; obtain ⟨⟨c0, c1, c2, c3, c4, c5⟩, _⟩ := cells6 R6.out) | (go_at_call 174; (with_reducible refine (F4.out _).mono ?_); rintro e w7 ⟨rfl, hb⟩; have B7 := Lib.hid (B6.out.trans (hb.mono (Below.size B6.out))); have R7 := Lib.hid (blk_below R6.out hb); clear hb; obtain ⟨⟨c0, c1, c2, c3, c4, c5⟩, _⟩ := cells6 R7.out; have S7 := Lib.hid (SZ.out _ B7.out)) | (go_at_call 113; (with_reducible refine (S7.out).mono ?_); rintro e w8 ⟨rfl, hb⟩; have B8 := Lib.hid (B7.out.trans (hb.mono (Below.size B7.out))); clear hb))
        go_ret
        exact ⟨by simp, B8.out⟩
end Go.Proofs.YticlacjpgjkhcaaGreatDoor

/- Values of kind F: which are equal. -/
namespace Go.Proofs.YticlacjpgjkhcaaGreatDoor
open Go.ChangeShapes Go.WideShapes Go.ChangeAt Go.RowKit

set_option maxRecDepth 100000 in
set_option maxHeartbeats 4000000 in
theorem EqF_len (A B : Option Addr) (n C m E : Nat) (hne : n ≠ m) (w : World) : Calls Tryz.prog 233 #[.slice A n C, .slice B m E] w fun e w' => e = .returned (.bool false) ∧ Below w.heap.size w w' := by
  have q : ¬ ((n : Int) = (m : Int)) := by omega
  go_enter Tryz.func233, Tryz.ntmps233
  go_wp2
  exact bodyPost_ret (v := .bool false) (by simp [results, Tryz.results233, go_sem]) rfl ⟨rfl, Below.refl _ _⟩
set_option maxRecDepth 100000 in
set_option maxHeartbeats 4000000 in
theorem EqF (A B : Option Addr) (n C E c c' : Nat) (l r : List (ByteArray × ByteArray)) (hl : l.length = n) (hr : r.length = n) (h1 : 1 ≤ n) (_hm : n ≤ 9223372036854775807) (w : World) (h : RF w c (.slice A n C) l) (h' : RF w c' (.slice B n E) r) : Calls Tryz.prog 233 #[.slice A n C, .slice B n E] w fun e w' => e = .returned (.bool (decide (l = r))) ∧ Below w.heap.size w w' := by
  obtain ⟨g, C', hA, hC⟩ := h.form (by intro e; rw [e] at hl; simp at hl; omega)
  have hA' : A = some ⟨g, 0, none⟩ := by injection hA
  subst hA'
  obtain ⟨g2, C2, hB, hC2⟩ := h'.form (by intro e; rw [e] at hr; simp at hr; omega)
  have hB' : B = some ⟨g2, 0, none⟩ := by injection hB
  subst hB'
  clear hA hC hB hC2
  have HR := Lib.hid h
  have HS := Lib.hid h'
  have HL := Lib.hid hl
  have HT := Lib.hid hr
  clear h h' hl hr
  go_enter Tryz.func233, Tryz.ntmps233
  go_wp2
  go_loopw [13] (fun iv wr => ∃ i : Nat, i ≤ n ∧ iv = .int .i64 i ∧ Hid (Below w.heap.size w wr) ∧ Hid (∀ j, j < i → l[j]? = r[j]?)) (fun iv _ => n - (iOfL iv).toNat)
  case atStart => exact ⟨0, Nat.zero_le _, rfl, Lib.hid (Below.refl _ _), Lib.hid (fun j hj => absurd hj (Nat.not_lt_zero _))⟩
  case round =>
    obtain ⟨i, hi, rfl, HB, HJ⟩ := hrel
    by_cases hlt : i < n
    · obtain ⟨p, hp⟩ : ∃ p, l[i]? = some p := ⟨_, List.getElem?_eq_getElem (by rw [HL.out]; omega)⟩
      obtain ⟨q, hq⟩ : ∃ q, r[i]? = some q := ⟨_, List.getElem?_eq_getElem (by rw [HT.out]; omega)⟩
      obtain ⟨d0, d1⟩ := (HR.out.below HB.out.drew).at HL.out i p hp
      obtain ⟨e0, e1⟩ := (HS.out.below HB.out.drew).at HT.out i q hq
      have q3 : (i : Int) < (n : Int) := by omega
      have HN := Lib.hid (fun (e : p = q) (j : Nat) (hj : j < i + 1) => show l[j]? = r[j]? from by
        by_cases hji : j < i
        · exact HJ.out j hji
        · obtain rfl : j = i := by omega
          rw [hp, hq, e])
      have HNo := Lib.hid (fun (e : l = r) => show p = q from by rw [e, hq] at hp; exact (Option.some.inj hp).symm)
      clear hp hq
      have hstop := ()
      have w1 : IntKind.i64.wrap (i : Int) = (i : Int) := IntWalk.i64_in _ (by omega)
      have TLI : ∀ x y : ByteArray, x.toList = y.toList → x = y := fun x y e => Go.WideShapes.bytes_inj (by rw [ByteArray.toList_eq, ByteArray.toList_eq] at e; exact e)
      by_cases z1 : p.1.toList = q.1.toList
      · by_cases z2 : p.2.toList = q.2.toList
        · have HJ2 := Lib.hid (HN.out (Prod.ext (TLI _ _ z1) (TLI _ _ z2)))
          clear TLI
          go_wp2
          go_region
          go_wp2
          exact ⟨⟨i + 1, by omega, by go_num, Lib.hid HB.out.drew, HJ2⟩, by simp [iOfL]; omega⟩
        · have hne : l ≠ r := fun e => z2 (by rw [HNo.out e])
          clear TLI
          go_wp2
          go_region
          go_wp2
          go_ret
          exact ⟨by simp [hne], HB.out.drew⟩
      · have hne : l ≠ r := fun e => z1 (by rw [HNo.out e])
        clear TLI
        go_wp2
        go_region
        go_wp2
        go_ret
        exact ⟨by simp [hne], HB.out.drew⟩
    · obtain rfl : n = i := by omega
      have q1 : ¬ (n : Int) < (n : Int) := by omega
      have hlr : l = r := List.ext_getElem? fun j => by
        by_cases hj : j < n
        · exact HJ.out j hj
        · rw [List.getElem?_eq_none (by rw [HL.out]; omega), List.getElem?_eq_none (by rw [HT.out]; omega)]
      have HLR := Lib.hid hlr
      clear hlr
      go_wp2
      go_ret
      exact ⟨by simp [HLR.out], HB.out⟩
end Go.Proofs.YticlacjpgjkhcaaGreatDoor
