/- The law's own few examples (told) answer true. -/
import Derived.Test.YtnfflkappbjoeaaDoorSe9
namespace Go.Proofs.YtnfflkappbjoeaaDoor
open Go.ChangeShapes Go.WideShapes Go.ChangeAt Go.RowKit Go.Resp

theorem SSl.but {w w' : World} {v : Value} {xs : List ByteArray} (h : SSl w v xs) {b : Nat} {cs : Array Value} (hs : Ses w b cs) (hn : noStr cs = true) (hb : But b w.heap.size w w') : SSl w' v xs := by
  obtain ⟨A, cap, h1, h2, h3, h4⟩ := h
  refine ⟨A, cap, h1, h2, h3, fun hne => ?_⟩
  obtain ⟨blk, off, h5, h6, h7⟩ := h4 hne
  have hz := hb.size
  refine ⟨blk, off, h5, by omega, fun j s hs2 => ?_⟩
  have hc := h7 j s hs2
  refine (hb.cell (p := ⟨blk, off + j, none⟩) h6 (fun e => ?_)).trans hc
  have e' : blk = b := e
  subst e'
  rw [hs.cell] at hc
  exact ses_str hn _ _ hc
theorem Blk.but {w w' : World} {g : Nat} {t : TypeId} {cs : Array Value} (h : Blk w g t cs) {b : Nat} (hg : g ≠ b) (hb : But b w.heap.size w w') : Blk w' g t cs := (hb.block g h.lt hg).trans h
theorem Queue_fresh (b c n m : Nat) (hbc : b < c) (q0 k2 k3 k4 vin vout br mu sp : Value) (X : World) (hm : X.heap.size = m) (h : Ses X b #[vin, vout, br, mu, sp, q0, k2, k3, k4]) (hq : QSl c X q0 n) (hn : n < 256) (hc : c ≤ X.heap.size) :
    Calls Tryd.prog 13 #[.pointer (some ⟨b, 0, none⟩), .slice (some ⟨m, 0, none⟩) 2 2] (X.alloc (.cells #[.string ⟨#[71, 69, 84]⟩, .string ⟨#[107]⟩] 9)) fun e w' => e = .returned (replyV 1 0 ⟨#[81, 85, 69, 85, 69, 68]⟩) ∧ ∃ q1, Ses w' b #[vin, vout, br, mu, sp, q1, k2, k3, k4] ∧ QSl c w' q1 (n + 1) ∧ But b c X w' := by
  subst hm
  have hbl := blk_new X X.heap.size rfl 9 #[.string ⟨#[71, 69, 84]⟩, .string ⟨#[107]⟩]
  refine (Queue_ok b c X.heap.size 0 n 2 hbc q0 k2 k3 k4 vin vout br mu sp _ (h.alloc _) (hq.below ((Below.refl _ _).alloc (Nat.le_refl _) _)) hn (hbl.cell 0) (hbl.cell 1) (by simp; omega)).mono ?_
  rintro e w' ⟨rfl, q1, h1, h2, h3⟩
  exact ⟨rfl, q1, h1, h2, ((But.refl b c X).allocFar hc _).trans h3⟩
theorem Queue_fresh_full (b c n m : Nat) (hbc : b < c) (q0 k2 k3 k4 vin vout br mu sp : Value) (X : World) (hm : X.heap.size = m) (h : Ses X b #[vin, vout, br, mu, sp, q0, k2, k3, k4]) (hq : QSl c X q0 n) (hn : 256 ≤ n) (hc : c ≤ X.heap.size) :
    Calls Tryd.prog 13 #[.pointer (some ⟨b, 0, none⟩), .slice (some ⟨m, 0, none⟩) 2 2] (X.alloc (.cells #[.string ⟨#[71, 69, 84]⟩, .string ⟨#[107]⟩] 9)) fun e w' => e = .returned (replyV 2 8 ⟨#[]⟩) ∧ Ses w' b #[vin, vout, br, mu, .bool true, q0, k2, k3, k4] ∧ QSl c w' q0 n ∧ But b c X w' := by
  subst hm
  have hbl := blk_new X X.heap.size rfl 9 #[.string ⟨#[71, 69, 84]⟩, .string ⟨#[107]⟩]
  refine (Queue_full b c X.heap.size 0 n 2 hbc q0 k2 k3 k4 vin vout br mu sp _ (h.alloc _) (hq.below ((Below.refl _ _).alloc (Nat.le_refl _) _)) hn (hbl.cell 0) (by simp; omega)).mono ?_
  rintro e w' ⟨rfl, h1, h2, h3⟩
  exact ⟨rfl, h1, h2, ((But.refl b c X).allocFar hc _).trans h3⟩
theorem Queue_fresh_one (b c n m : Nat) (hbc : b < c) (q0 k2 k3 k4 vin vout br mu sp : Value) (X : World) (hm : X.heap.size = m) (h : Ses X b #[vin, vout, br, mu, sp, q0, k2, k3, k4]) (hq : QSl c X q0 n) (hc : c ≤ X.heap.size) :
    Calls Tryd.prog 13 #[.pointer (some ⟨b, 0, none⟩), .slice (some ⟨m, 0, none⟩) 1 1] (X.alloc (.cells #[.string ⟨#[71, 69, 84]⟩] 9)) fun e w' => e = .returned (replyV 2 2 ⟨#[]⟩) ∧ Ses w' b #[vin, vout, br, mu, .bool true, q0, k2, k3, k4] ∧ QSl c w' q0 n ∧ But b c X w' := by
  subst hm
  have hbl := blk_new X X.heap.size rfl 9 #[.string ⟨#[71, 69, 84]⟩]
  refine (Queue_one b c X.heap.size 0 n 1 hbc q0 k2 k3 k4 vin vout br mu sp _ (h.alloc _) (hq.below ((Below.refl _ _).alloc (Nat.le_refl _) _)) (hbl.cell 0) (by simp; omega)).mono ?_
  rintro e w' ⟨rfl, h1, h2, h3⟩
  exact ⟨rfl, h1, h2, ((But.refl b c X).allocFar hc _).trans h3⟩
def PI1 : ByteArray := ⟨#[42, 49, 13, 10, 36, 52, 13, 10, 80, 73]⟩
def PI2 : ByteArray := ⟨#[78, 71, 13, 10]⟩
theorem read1 : readT ([] ++ PI1.data.toList) = ([], 0, 1) := by kernel_rfl
theorem read2 : readT ([] ++ PI1.data.toList ++ PI2.data.toList) = ([[80, 73, 78, 71]], 14, 0) := by kernel_rfl
set_option maxRecDepth 100000 in
set_option maxHeartbeats 4000000 in
theorem told10 (w : World) : Calls Tryd.prog 4 #[] w fun e w' => e = .returned (.bool true) ∧ Below w.heap.size w w' := by
  have N := Lib.hid (fun w => New5 w)
  have hb0 := Lib.hid (Below.refl w.heap.size w)
  go_enter Tryd.func4, Tryd.ntmps4
  go_wp2_with (first | (go_at_call 7; (with_reducible refine (N.out _).mono ?_); rintro e w1 ⟨rfl, hw1⟩; refine Hid.out ?_))
  obtain ⟨b, hb⟩ : ∃ b, w.heap.size = b := ⟨_, rfl⟩
  have S1 : Ses w1 b ses0 := by rw [← hw1, ← hb]; exact heap_alloc_new w _
  have b1 : Below b w w1 := by rw [← hw1]; exact (Below.refl _ _).alloc (by omega) _
  have z1 : b + 1 ≤ w1.heap.size := S1.lt
  rw [hb]
  unfold ses0 at S1
  have HS1 := Lib.hid S1
  have HB1 := Lib.hid b1
  have HW := Lib.hid hb
  clear S1 b1 hw1 hb
  refine Lib.hid ?_
  have P1 := Lib.hid (Push_ok b (b + 1) (Nat.lt_succ_self b) PI1 [] w1 _ _ _ _ _ _ _ _ HS1.out (.inr ⟨rfl, rfl⟩) z1 (by decide) (In5.nil _))
  unfold PI1 at P1
  go_wp2_with (first | (go_at_call 8; (with_reducible refine P1.out.mono ?_); rintro e w2 ⟨rfl, vin2, hs2, ho2, hb2, hI2, _⟩; refine Hid.out ?_))
  have HI2 := Lib.hid hI2
  clear hI2
  have HS2 := Lib.hid hs2
  have HO2 := Lib.hid ho2
  have HB2 := Lib.hid (HB1.out.trans (hb2.below (by omega)))
  have z2 : b + 1 ≤ w2.heap.size := Nat.le_trans z1 hb2.size
  clear hs2 ho2 hb2
  refine Lib.hid ?_
  have N1 := Lib.hid (Next_more b _ w2 _ _ _ _ _ _ _ _ _ HS2.out HO2.out.slice read1)
  go_wp2_with (first | (go_at_call 11; (with_reducible refine N1.out.mono ?_); rintro e w3 ⟨rfl, hb3⟩; refine Hid.out ?_))
  have HI3 := Lib.hid (HI2.out.below hb3)
  have HS3 := Lib.hid (HS2.out.below hb3)
  have HO3 := Lib.hid (HO2.out.below hb3)
  have HB3 := Lib.hid (HB2.out.trans (hb3.mono (by omega)))
  have z3 : b + 1 ≤ w3.heap.size := Nat.le_trans z2 hb3.size
  clear hb3
  refine Lib.hid ?_
  have P2 := Lib.hid (Push_ok b (b + 1) (Nat.lt_succ_self b) PI2 _ w3 _ _ _ _ _ _ _ _ HS3.out HO3.out z3 (by decide) HI3.out)
  unfold PI2 at P2
  go_wp2_with (first | (go_at_call 8; (with_reducible refine P2.out.mono ?_); rintro e w4 ⟨rfl, vin4, hs4, ho4, hb4, hI4, _⟩; refine Hid.out ?_))
  have HI4 := Lib.hid hI4
  clear hI4
  have HS4 := Lib.hid hs4
  have HO4 := Lib.hid ho4
  have HB4 := Lib.hid (HB3.out.trans (hb4.below (by omega)))
  have z4 : b + 1 ≤ w4.heap.size := Nat.le_trans z3 hb4.size
  have ns4 : noStr #[vin4, .slice none 0 0, .bool false, .bool false, .bool false, .slice none 0 0, .slice none 0 0, .slice none 0 0, .slice none 0 0] = true := by
    obtain ⟨A, c, h, _⟩ := ho4.slice
    rw [h]; rfl
  clear hs4 ho4 hb4
  refine Lib.hid ?_
  have N2 := Lib.hid (Next_ok b (b + 1) (b + 1) (Nat.lt_succ_self b) _ _ 14 w4 _ _ _ _ _ _ _ _ _ HS4.out HO4.out read2 (by decide) (by decide) (by decide) z4 z4 HI4.out ns4)
  clear ns4
  go_wp2_with (first | (go_at_call 11; (with_reducible refine N2.out.mono ?_); rintro e w5 ⟨⟨v5, rfl, hx5⟩, vin5, hs5, ho5, hb5, _⟩; refine Hid.out ?_))
  have ns5 : noStr #[vin5, .slice none 0 0, .bool false, .bool false, .bool false, .slice none 0 0, .slice none 0 0, .slice none 0 0, .slice none 0 0] = true := by
    obtain ⟨A, c, h, _⟩ := ho5.slice
    rw [h]; rfl
  have HS5 := Lib.hid hs5
  have HX5 := Lib.hid hx5
  have HNS := Lib.hid ns5
  have HB5 := Lib.hid (HB4.out.trans (hb5.below (by omega)))
  have z5 : b + 1 ≤ w5.heap.size := Nat.le_trans z4 hb5.size
  obtain ⟨A5, c5, rfl, _, _, hcell⟩ := hx5
  obtain ⟨g5, o5, rfl, hg5, hcell5⟩ := hcell (by simp)
  have hc5 := Lib.hid (hcell5 0 _ rfl)
  have E1 : ([[80, 73, 78, 71]].map fun l : List UInt8 => (⟨l.toArray⟩ : ByteArray)).length = 1 := rfl
  rw [E1]
  clear hs5 ho5 hb5 hcell hcell5 ns5 E1
  refine Lib.hid ?_
  have BG := Lib.hid (Begin_ok b w5.heap.size w5 _ _ _ _ _ _ _ _ HS5.out (Nat.le_refl _))
  unfold replyV at BG
  go_wp2_with (first | (go_at_call 12; (with_reducible refine BG.out.mono ?_); rintro e w6 ⟨rfl, hs6, hb6⟩; refine Hid.out ?_))
  have HX6 := Lib.hid (HX5.out.but HS5.out HNS.out hb6)
  have HS6 := Lib.hid hs6
  have HNS6 := Lib.hid (show noStr #[vin5, .slice none 0 0, .bool false, .bool true, .bool false, .slice none 0 0, .slice none 0 0, .slice none 0 0, .slice none 0 0] = true by simpa [noStr, isStr] using HNS.out)
  have HB6 := Lib.hid (HB5.out.trans (hb6.below (by omega)))
  have z6 : b + 1 ≤ w6.heap.size := Nat.le_trans z5 hb6.size
  clear hs6 hb6
  refine Lib.hid ?_
  have QF0 := Queue_fresh b (w6.heap.size + 1) 0 (w6.heap.size + 1) (by omega) _ _ _ _ _ _ _ _ _ (w6.alloc (.cells #[.int .i64 1, .int .i64 0, .string ⟨#[79, 75]⟩, .slice none 0 0] 40)) (by simp) (HS6.out.alloc _) (QSl.nil _ _) (by omega) (by simp)
  unfold replyV at QF0
  have QF := Lib.hid QF0
  clear QF0
  go_wp2_with (first | (go_at_call 13; (with_reducible refine QF.out.mono ?_); rintro e w7 ⟨rfl, q7, hs7, hq7, hb7⟩; refine Hid.out ?_))
  have hE := blk_new w6 w6.heap.size rfl 40 #[.int .i64 1, .int .i64 0, .string ⟨#[79, 75]⟩, .slice none 0 0]
  have hal := (Below.refl w6.heap.size w6).alloc (Nat.le_refl _) (.cells #[.int .i64 1, .int .i64 0, .string ⟨#[79, 75]⟩, .slice none 0 0] 40)
  have hb7' : But b (w6.alloc (.cells #[.int .i64 1, .int .i64 0, .string ⟨#[79, 75]⟩, .slice none 0 0] 40)).heap.size (w6.alloc (.cells #[.int .i64 1, .int .i64 0, .string ⟨#[79, 75]⟩, .slice none 0 0] 40)) w7 := by simpa using hb7
  have HE7 := Lib.hid (hE.but (by omega) hb7')
  have HX7 := Lib.hid ((HX6.out.below hal).but (HS6.out.alloc _) HNS6.out hb7')
  have HS7 := Lib.hid hs7
  have HQ7 := Lib.hid hq7
  have HB7 := Lib.hid ((HB6.out.trans (hal.mono (by omega))).trans (hb7.below (by omega)))
  have z7 : b + 1 ≤ w7.heap.size := by have := hb7.size; simp at this; omega
  have ns7 : noStr #[vin5, .slice none 0 0, .bool false, .bool true, .bool false, q7, .slice none 0 0, .slice none 0 0, .slice none 0 0] = true := by
    have h0 := HNS.out
    obtain ⟨A, c, h⟩ := hq7.form
    rw [h]; simpa [noStr, isStr] using h0
  have HNS7 := Lib.hid ns7
  have hw67 : w6.heap.size < w7.heap.size := HE7.out.lt
  clear hs7 hq7 hb7 hb7' hE hal ns7
  refine Lib.hid ?_
  have X7 := Lib.hid (End_ok b (w6.heap.size + 1) (w7.heap.size + 1) (w7.alloc (.cells #[.int .i64 1, .int .i64 0, .string ⟨#[81, 85, 69, 85, 69, 68]⟩, .slice none 0 0] 40)) _ _ _ _ _ _ _ _ _ _ (HS7.out.alloc _) (HQ7.out.below ((Below.refl _ _).alloc (Nat.le_refl _) _)))
  go_wp2_with (first | (go_at_call 14; (with_reducible refine X7.out.mono ?_); rintro e w8 ⟨⟨A8, c8, rfl⟩, hs8, hb8⟩; refine Hid.out ?_))
  have hE := blk_new w7 w7.heap.size rfl 40 #[.int .i64 1, .int .i64 0, .string ⟨#[81, 85, 69, 85, 69, 68]⟩, .slice none 0 0]
  have hal := (Below.refl w7.heap.size w7).alloc (Nat.le_refl _) (.cells #[.int .i64 1, .int .i64 0, .string ⟨#[81, 85, 69, 85, 69, 68]⟩, .slice none 0 0] 40)
  have hb8' : But b (w7.alloc (.cells #[.int .i64 1, .int .i64 0, .string ⟨#[81, 85, 69, 85, 69, 68]⟩, .slice none 0 0] 40)).heap.size (w7.alloc (.cells #[.int .i64 1, .int .i64 0, .string ⟨#[81, 85, 69, 85, 69, 68]⟩, .slice none 0 0] 40)) w8 := by simpa using hb8
  have hE8 := hE.but (by omega) hb8'
  have hE7 := (HE7.out.below hal).but (by omega) hb8'
  have hX8 := (HX7.out.below hal).but (HS7.out.alloc _) HNS7.out hb8'
  obtain ⟨A9, c9, h9, _, _, hcell⟩ := hX8
  injection h9 with h9 _ h9c
  subst h9 h9c
  obtain ⟨g9, o9, h9, _, hcell9⟩ := hcell (by simp)
  injection h9 with h9
  injection h9 with h9 h10
  subst h9 h10
  have hc8 : w8.cell? ⟨g5, o5, none⟩ = some (.string ⟨#[80, 73, 78, 71]⟩) := hcell9 0 _ rfl
  have e7 : w8.cell? ⟨w6.heap.size, 2, none⟩ = some (.string ⟨#[79, 75]⟩) := hE7.cell 2
  have e8 : w8.cell? ⟨w7.heap.size, 2, none⟩ = some (.string ⟨#[81, 85, 69, 85, 69, 68]⟩) := hE8.cell 2
  have HB8 := Lib.hid ((HB7.out.trans (hal.mono (by omega))).trans (hb8.below (by omega)))
  have M8 := Lib.hid (Multi_ok b false w8 _ _ _ _ _ _ _ _ hs8)
  clear hE hal hb8' hE8 hE7 hcell hcell9 hs8 hb8
  refine Lib.hid ?_
  go_wp2_with (first | (go_at_call 15; (with_reducible refine M8.out.mono ?_); rintro e w9 ⟨rfl, rfl⟩))
  go_ret
  exact ⟨by simp, by rw [HW.out]; exact HB8.out⟩
end Go.Proofs.YtnfflkappbjoeaaDoor
