/- What is done of a text (lib.of). -/
import Derived.Test.YtjoegdnefdaokaaDoorLb3
namespace Go.Proofs.YtjoegdnefdaokaaDoor
open Go.ChangeShapes Go.WideShapes Go.ChangeAt Go.RowKit

/-- The cell of a result, known whole, behind calls that leave what was there. -/
theorem cells4 {W w : World} {B : Nat} {a b c d : Value} (hb : Below W.heap.size W w) (hB : W.heap[B]? = some (.cells #[a, b, c, d] 28 (0, 0))) :
    (w.cell? ⟨B, 0, none⟩ = some a ∧ w.cell? ⟨B, 1, none⟩ = some b ∧ w.cell? ⟨B, 2, none⟩ = some c ∧ w.cell? ⟨B, 3, none⟩ = some d) ∧
    (w.frozen? ⟨B, 0, none⟩ = false ∧ w.frozen? ⟨B, 1, none⟩ = false ∧ w.frozen? ⟨B, 2, none⟩ = false ∧ w.frozen? ⟨B, 3, none⟩ = false) ∧ B < w.heap.size := by
  have hlt : B < W.heap.size := (Array.getElem?_eq_some_iff.1 hB).1
  have h : w.heap[B]? = some (.cells #[a, b, c, d] 28 (0, 0)) := (hb.block B hlt).trans hB
  have hlt2 : B < w.heap.size := (Array.getElem?_eq_some_iff.1 h).1
  refine ⟨⟨?_, ?_, ?_, ?_⟩, ⟨?_, ?_, ?_, ?_⟩, hlt2⟩ <;> simp [World.cell?, World.frozen?, h]
theorem belT {W w1 w2 : World} (h1 : Below W.heap.size W w1) (h2 : Below w1.heap.size w1 w2) : Below W.heap.size W w2 := h1.trans (h2.mono (Below.size h1))
theorem belA {W w1 w2 : World} {o : Obj} (h1 : Below W.heap.size W w1) (h2 : Below (w1.alloc o).heap.size (w1.alloc o) w2) : Below W.heap.size W w2 :=
  belT h1 (((Below.refl w1.heap.size w1).alloc (Nat.le_refl _) o).trans (h2.mono (by simp)))
theorem alloc_old {w : World} {o : Obj} : Below w.heap.size w (w.alloc o) := (Below.refl w.heap.size w).alloc (Nat.le_refl _) o
theorem fin4 {w w2 : World} {o : Obj} (h : Below (w.alloc o).heap.size (w.alloc o) w2) (a b c d : Value) :
    Below w.heap.size w ((((w2.setCell ⟨w.heap.size, 0, none⟩ a).setCell ⟨w.heap.size, 1, none⟩ b).setCell ⟨w.heap.size, 2, none⟩ c).setCell ⟨w.heap.size, 3, none⟩ d) :=
  (((((alloc_old).trans (h.mono (by simp))).setCell (Nat.le_refl _) a).setCell (Nat.le_refl _) b).setCell (Nat.le_refl _) c).setCell (Nat.le_refl _) d
theorem toList_ne {s : ByteArray} (h : 1 ≤ s.size) : ¬ s.toList = [] := by
  intro e
  have h2 : (s.toList).length = s.size := by rw [ByteArray.toList_eq]; simp
  rw [e] at h2
  simp at h2
  omega
set_option maxHeartbeats 2000000 in
theorem of_upper (s : ByteArray) (hs : s.size ≤ 1000000) (v : Value) (w : World) : Calls Tryd.prog 19 #[.string ⟨#[117, 112, 112, 101, 114]⟩, .string s, v] w
    fun e w' => e = .returned (.tuple #[.agg #[.int .i64 3, .int .i64 0, .string ⟨((List.range s.size).map (upAt s)).toArray⟩, .slice none 0 0], .int .i64 0]) ∧ Below w.heap.size w w' := by
  have T := Lib.hid (fun w => turned_up s hs w)
  have K := Lib.hid (fun w => text15 ⟨((List.range s.size).map (upAt s)).toArray⟩ w)
  have hn := Lib.hid (heap_alloc_new w (.cells #[.int .i64 0, .int .i64 0, .string ⟨#[]⟩, .slice none 0 0] 28))
  go_enter Tryd.func19, Tryd.ntmps19
  go_wp2_with (first | (go_at_call 25; (with_reducible refine (T.out _).mono ?_); rintro e w1 ⟨rfl, h1⟩; have B1 := Lib.hid h1; clear h1) | (go_at_call 15; (with_reducible refine (K.out _).mono ?_); rintro e w2 ⟨rfl, h2⟩; have B2 := Lib.hid (belT B1.out h2); clear h2; obtain ⟨⟨c0, c1, c2, c3⟩, ⟨f0, f1, f2, f3⟩, hz⟩ := cells4 B2.out hn.out))
  exact bodyPost_ret (v := .tuple #[.agg #[.int .i64 3, .int .i64 0, .string ⟨((List.range s.size).map (upAt s)).toArray⟩, .slice none 0 0], .int .i64 0]) (by simp [results, Tryd.results19, go_sem, c0, c1, c2, c3, hz]) rfl ⟨rfl, fin4 B2.out _ _ _ _⟩
set_option maxHeartbeats 2000000 in
theorem of_lower (s : ByteArray) (hs : s.size ≤ 1000000) (v : Value) (w : World) : Calls Tryd.prog 19 #[.string ⟨#[108, 111, 119, 101, 114]⟩, .string s, v] w
    fun e w' => e = .returned (.tuple #[.agg #[.int .i64 3, .int .i64 0, .string ⟨((List.range s.size).map (lowAt s)).toArray⟩, .slice none 0 0], .int .i64 0]) ∧ Below w.heap.size w w' := by
  have T := Lib.hid (fun w => turned_low s hs w)
  have K := Lib.hid (fun w => text15 ⟨((List.range s.size).map (lowAt s)).toArray⟩ w)
  have hn := Lib.hid (heap_alloc_new w (.cells #[.int .i64 0, .int .i64 0, .string ⟨#[]⟩, .slice none 0 0] 28))
  go_enter Tryd.func19, Tryd.ntmps19
  go_wp2_with (first | (go_at_call 25; (with_reducible refine (T.out _).mono ?_); rintro e w1 ⟨rfl, h1⟩; have B1 := Lib.hid h1; clear h1) | (go_at_call 15; (with_reducible refine (K.out _).mono ?_); rintro e w2 ⟨rfl, h2⟩; have B2 := Lib.hid (belT B1.out h2); clear h2; obtain ⟨⟨c0, c1, c2, c3⟩, ⟨f0, f1, f2, f3⟩, hz⟩ := cells4 B2.out hn.out))
  exact bodyPost_ret (v := .tuple #[.agg #[.int .i64 3, .int .i64 0, .string ⟨((List.range s.size).map (lowAt s)).toArray⟩, .slice none 0 0], .int .i64 0]) (by simp [results, Tryd.results19, go_sem, c0, c1, c2, c3, hz]) rfl ⟨rfl, fin4 B2.out _ _ _ _⟩
set_option maxHeartbeats 2000000 in
theorem of_reverse (s : ByteArray) (hs : s.size ≤ 1000000) (v : Value) (w : World) : Calls Tryd.prog 19 #[.string ⟨#[114, 101, 118, 101, 114, 115, 101]⟩, .string s, v] w
    fun e w' => e = .returned (.tuple #[.agg #[.int .i64 3, .int .i64 0, .string ⟨((List.range s.size).map (revAt s)).toArray⟩, .slice none 0 0], .int .i64 0]) ∧ Below w.heap.size w w' := by
  have T := Lib.hid (fun w => reverse28 s hs w)
  have K := Lib.hid (fun w => text15 ⟨((List.range s.size).map (revAt s)).toArray⟩ w)
  have hn := Lib.hid (heap_alloc_new w (.cells #[.int .i64 0, .int .i64 0, .string ⟨#[]⟩, .slice none 0 0] 28))
  go_enter Tryd.func19, Tryd.ntmps19
  go_wp2_with (first | (go_at_call 28; (with_reducible refine (T.out _).mono ?_); rintro e w1 ⟨rfl, h1⟩; have B1 := Lib.hid h1; clear h1) | (go_at_call 15; (with_reducible refine (K.out _).mono ?_); rintro e w2 ⟨rfl, h2⟩; have B2 := Lib.hid (belT B1.out h2); clear h2; obtain ⟨⟨c0, c1, c2, c3⟩, ⟨f0, f1, f2, f3⟩, hz⟩ := cells4 B2.out hn.out))
  exact bodyPost_ret (v := .tuple #[.agg #[.int .i64 3, .int .i64 0, .string ⟨((List.range s.size).map (revAt s)).toArray⟩, .slice none 0 0], .int .i64 0]) (by simp [results, Tryd.results19, go_sem, c0, c1, c2, c3, hz]) rfl ⟨rfl, fin4 B2.out _ _ _ _⟩
set_option maxHeartbeats 2000000 in
theorem of_sub_two (s : ByteArray) (v : Value) (w : World) (ps : List (Int × Int × ByteArray)) (h : ASl w v ps) (i j : Int) (e1 : ps.getD 1 nilP = (2, i, ⟨#[]⟩)) (e2 : ps.getD 2 nilP = (2, j, ⟨#[]⟩)) (r : ByteArray) (hr : ∀ w, Calls Tryd.prog 32 #[.string s, .int .i64 i, .int .i64 j] w fun e w' => e = .returned (.string r) ∧ w = w') : Calls Tryd.prog 19 #[.string ⟨#[115, 117, 98]⟩, .string s, v] w
    fun e w' => e = .returned (.tuple #[.agg #[.int .i64 3, .int .i64 0, .string r, .slice none 0 0], .int .i64 0]) ∧ Below w.heap.size w w' := by
  have A1 := Lib.hid (fun w1 (hb : Below w.heap.size w w1) => show Calls Tryd.prog 14 #[v, .int .i64 1] w1 (fun e w' => e = .returned (.agg #[.int .i64 2, .int .i64 i, .string ⟨#[]⟩, .slice none 0 0]) ∧ Below w1.heap.size w1 w') from by have := arg14 v ps w1 (h.below hb) 1; rw [e1] at this; exact this)
  have A2 := Lib.hid (fun w1 (hb : Below w.heap.size w w1) => show Calls Tryd.prog 14 #[v, .int .i64 2] w1 (fun e w' => e = .returned (.agg #[.int .i64 2, .int .i64 j, .string ⟨#[]⟩, .slice none 0 0]) ∧ Below w1.heap.size w1 w') from by have := arg14 v ps w1 (h.below hb) 2; rw [e2] at this; exact this)
  have N1 := Lib.hid (fun w => number_int i 1 w)
  have N2 := Lib.hid (fun w => number_int j (-1) w)
  have R := Lib.hid hr
  have K := Lib.hid (fun w => text15 r w)
  have b0 := Lib.hid (show Below w.heap.size w (w.alloc (.cells #[.int .i64 0, .int .i64 0, .string ⟨#[]⟩, .slice none 0 0] 28)) from alloc_old)
  clear e1 e2 h hr
  have hn := Lib.hid (heap_alloc_new w (.cells #[.int .i64 0, .int .i64 0, .string ⟨#[]⟩, .slice none 0 0] 28))
  go_enter Tryd.func19, Tryd.ntmps19
  go_wp2_with (first | (go_at_call 14; (with_reducible refine (A1.out _ b0.out).mono ?_); rintro e w1 ⟨rfl, h1⟩; have B1 := Lib.hid h1; clear h1) | (go_at_call 31; (with_reducible refine (N1.out _).mono ?_); rintro e w2 ⟨rfl, h2⟩; have B2 := Lib.hid (belT B1.out h2); clear h2; have b2 := Lib.hid (b0.out.trans (B2.out.mono (by simp)))) | (go_at_call 14; (with_reducible refine (A2.out _ b2.out).mono ?_); rintro e w3 ⟨rfl, h3⟩; have B3 := Lib.hid (belT B2.out h3); clear h3) | (go_at_call 31; (with_reducible refine (N2.out _).mono ?_); rintro e w4 ⟨rfl, h4⟩; have B4 := Lib.hid (belT B3.out h4); clear h4) | (go_at_call 32; (with_reducible refine (R.out _).mono ?_); rintro e w5 ⟨rfl, rfl⟩) | (go_at_call 15; (with_reducible refine (K.out _).mono ?_); rintro e w6 ⟨rfl, h6⟩; have B6 := Lib.hid (belT B4.out h6); clear h6; obtain ⟨⟨c0, c1, c2, c3⟩, ⟨f0, f1, f2, f3⟩, hz⟩ := cells4 B6.out hn.out))
  exact bodyPost_ret (v := .tuple #[.agg #[.int .i64 3, .int .i64 0, .string r, .slice none 0 0], .int .i64 0]) (by simp [results, Tryd.results19, go_sem, c0, c1, c2, c3, hz]) rfl ⟨rfl, fin4 B6.out _ _ _ _⟩
set_option maxHeartbeats 2000000 in
theorem of_sub_one (s : ByteArray) (v : Value) (w : World) (ps : List (Int × Int × ByteArray)) (h : ASl w v ps) (i : Int) (e1 : ps.getD 1 nilP = (2, i, ⟨#[]⟩)) (e2 : ps.getD 2 nilP = nilP) (r : ByteArray) (hr : ∀ w, Calls Tryd.prog 32 #[.string s, .int .i64 i, .int .i64 (-1)] w fun e w' => e = .returned (.string r) ∧ w = w') : Calls Tryd.prog 19 #[.string ⟨#[115, 117, 98]⟩, .string s, v] w
    fun e w' => e = .returned (.tuple #[.agg #[.int .i64 3, .int .i64 0, .string r, .slice none 0 0], .int .i64 0]) ∧ Below w.heap.size w w' := by
  have A1 := Lib.hid (fun w1 (hb : Below w.heap.size w w1) => show Calls Tryd.prog 14 #[v, .int .i64 1] w1 (fun e w' => e = .returned (.agg #[.int .i64 2, .int .i64 i, .string ⟨#[]⟩, .slice none 0 0]) ∧ Below w1.heap.size w1 w') from by have := arg14 v ps w1 (h.below hb) 1; rw [e1] at this; exact this)
  have A2 := Lib.hid (fun w1 (hb : Below w.heap.size w w1) => show Calls Tryd.prog 14 #[v, .int .i64 2] w1 (fun e w' => e = .returned (.agg #[.int .i64 0, .int .i64 0, .string ⟨#[]⟩, .slice none 0 0]) ∧ Below w1.heap.size w1 w') from by have := arg14 v ps w1 (h.below hb) 2; rw [e2] at this; exact this)
  have N1 := Lib.hid (fun w => number_int i 1 w)
  have N2 := Lib.hid (fun w => number_nil (-1) w)
  have R := Lib.hid hr
  have K := Lib.hid (fun w => text15 r w)
  have b0 := Lib.hid (show Below w.heap.size w (w.alloc (.cells #[.int .i64 0, .int .i64 0, .string ⟨#[]⟩, .slice none 0 0] 28)) from alloc_old)
  clear e1 e2 h hr
  have hn := Lib.hid (heap_alloc_new w (.cells #[.int .i64 0, .int .i64 0, .string ⟨#[]⟩, .slice none 0 0] 28))
  go_enter Tryd.func19, Tryd.ntmps19
  go_wp2_with (first | (go_at_call 14; (with_reducible refine (A1.out _ b0.out).mono ?_); rintro e w1 ⟨rfl, h1⟩; have B1 := Lib.hid h1; clear h1) | (go_at_call 31; (with_reducible refine (N1.out _).mono ?_); rintro e w2 ⟨rfl, h2⟩; have B2 := Lib.hid (belT B1.out h2); clear h2; have b2 := Lib.hid (b0.out.trans (B2.out.mono (by simp)))) | (go_at_call 14; (with_reducible refine (A2.out _ b2.out).mono ?_); rintro e w3 ⟨rfl, h3⟩; have B3 := Lib.hid (belT B2.out h3); clear h3) | (go_at_call 31; (with_reducible refine (N2.out _).mono ?_); rintro e w4 ⟨rfl, h4⟩; have B4 := Lib.hid (belT B3.out h4); clear h4) | (go_at_call 32; (with_reducible refine (R.out _).mono ?_); rintro e w5 ⟨rfl, rfl⟩) | (go_at_call 15; (with_reducible refine (K.out _).mono ?_); rintro e w6 ⟨rfl, h6⟩; have B6 := Lib.hid (belT B4.out h6); clear h6; obtain ⟨⟨c0, c1, c2, c3⟩, ⟨f0, f1, f2, f3⟩, hz⟩ := cells4 B6.out hn.out))
  exact bodyPost_ret (v := .tuple #[.agg #[.int .i64 3, .int .i64 0, .string r, .slice none 0 0], .int .i64 0]) (by simp [results, Tryd.results19, go_sem, c0, c1, c2, c3, hz]) rfl ⟨rfl, fin4 B6.out _ _ _ _⟩
set_option maxHeartbeats 2000000 in
theorem of_byte_pos (s : ByteArray) (hs : s.size ≤ 1000000) (v : Value) (w : World) (ps : List (Int × Int × ByteArray)) (h : ASl w v ps) (k : Nat) (hk1 : 1 ≤ k) (hk : k ≤ s.size) (e1 : ps.getD 1 nilP = (2, (k : Int), ⟨#[]⟩)) : Calls Tryd.prog 19 #[.string ⟨#[98, 121, 116, 101]⟩, .string s, v] w
    fun e w' => e = .returned (.tuple #[.agg #[.int .i64 2, .int .i64 ((byteAt s (k - 1)).toNat : Int), .string ⟨#[]⟩, .slice none 0 0], .int .i64 0]) ∧ Below w.heap.size w w' := by
  have hix : ∀ w, (Instr.index 9 (.string s) (.int .i64 ((k : Int) - 1))).run Tryd.prog w = .ok (.int .u8 ((byteAt s (k - 1)).toNat : Int)) w := fun w => by
    rw [run_index_string w 9 s .i64 _ Tryd.underlying9, dif_pos ⟨by omega, by omega⟩]
    have g1 : ((k : Int) - 1).toNat = k - 1 := by omega
    have g2 : s.data.toList[k - 1]? = some (s[k - 1]'(by omega)) := by rw [List.getElem?_eq_getElem (by simp; omega)]; rfl
    simp only [g1]
    unfold byteAt
    rw [List.getD, g2]
    rfl
  have A1 := Lib.hid (fun w1 (hb : Below w.heap.size w w1) => show Calls Tryd.prog 14 #[v, .int .i64 1] w1 (fun e w' => e = .returned (.agg #[.int .i64 2, .int .i64 (k : Int), .string ⟨#[]⟩, .slice none 0 0]) ∧ Below w1.heap.size w1 w') from by have := arg14 v ps w1 (h.below hb) 1; rw [e1] at this; exact this)
  have N1 := Lib.hid (fun w => number_int (k : Int) 1 w)
  have K := Lib.hid (fun w => whole18 ((byteAt s (k - 1)).toNat : Int) w)
  have i1 : ¬ (k : Int) < 0 := by omega
  have hw : wrap64 ((byteAt s (k - 1)).toNat : Int) = ((byteAt s (k - 1)).toNat : Int) := IntWalk.wrap64_in _ (by have := (byteAt s (k - 1)).toNat_lt; omega)
  have i3 : ¬ (k : Int) < 1 := by omega
  have i4 : ¬ (s.size : Int) < (k : Int) := by omega
  have b0 := Lib.hid (show Below w.heap.size w (w.alloc (.cells #[.int .i64 0, .int .i64 0, .string ⟨#[]⟩, .slice none 0 0] 28)) from alloc_old)
  clear e1 h
  have hn := Lib.hid (heap_alloc_new w (.cells #[.int .i64 0, .int .i64 0, .string ⟨#[]⟩, .slice none 0 0] 28))
  go_enter Tryd.func19, Tryd.ntmps19
  go_wp2_with (first | (go_at_call 14; (with_reducible refine (A1.out _ b0.out).mono ?_); rintro e w1 ⟨rfl, h1⟩; have B1 := Lib.hid h1; clear h1) | (go_at_call 31; (with_reducible refine (N1.out _).mono ?_); rintro e w2 ⟨rfl, h2⟩; have B2 := Lib.hid (belT B1.out h2); clear h2) | (go_at_call 18; (with_reducible refine (K.out _).mono ?_); rintro e w6 ⟨rfl, h6⟩; have B6 := Lib.hid (belT B2.out h6); clear h6; obtain ⟨⟨c0, c1, c2, c3⟩, ⟨f0, f1, f2, f3⟩, hz⟩ := cells4 B6.out hn.out))
  exact bodyPost_ret (v := .tuple #[.agg #[.int .i64 2, .int .i64 ((byteAt s (k - 1)).toNat : Int), .string ⟨#[]⟩, .slice none 0 0], .int .i64 0]) (by simp [results, Tryd.results19, go_sem, c0, c1, c2, c3, hz]) rfl ⟨rfl, fin4 B6.out _ _ _ _⟩
set_option maxHeartbeats 2000000 in
theorem of_byte_neg (s : ByteArray) (hs : s.size ≤ 1000000) (v : Value) (w : World) (ps : List (Int × Int × ByteArray)) (h : ASl w v ps) (k : Nat) (hk1 : 1 ≤ k) (hk : k ≤ s.size) (e1 : ps.getD 1 nilP = (2, ((k : Int) - s.size - 1), ⟨#[]⟩)) : Calls Tryd.prog 19 #[.string ⟨#[98, 121, 116, 101]⟩, .string s, v] w
    fun e w' => e = .returned (.tuple #[.agg #[.int .i64 2, .int .i64 ((byteAt s (k - 1)).toNat : Int), .string ⟨#[]⟩, .slice none 0 0], .int .i64 0]) ∧ Below w.heap.size w w' := by
  have hix : ∀ w, (Instr.index 9 (.string s) (.int .i64 ((k : Int) - 1))).run Tryd.prog w = .ok (.int .u8 ((byteAt s (k - 1)).toNat : Int)) w := fun w => by
    rw [run_index_string w 9 s .i64 _ Tryd.underlying9, dif_pos ⟨by omega, by omega⟩]
    have g1 : ((k : Int) - 1).toNat = k - 1 := by omega
    have g2 : s.data.toList[k - 1]? = some (s[k - 1]'(by omega)) := by rw [List.getElem?_eq_getElem (by simp; omega)]; rfl
    simp only [g1]
    unfold byteAt
    rw [List.getD, g2]
    rfl
  have A1 := Lib.hid (fun w1 (hb : Below w.heap.size w w1) => show Calls Tryd.prog 14 #[v, .int .i64 1] w1 (fun e w' => e = .returned (.agg #[.int .i64 2, .int .i64 ((k : Int) - s.size - 1), .string ⟨#[]⟩, .slice none 0 0]) ∧ Below w1.heap.size w1 w') from by have := arg14 v ps w1 (h.below hb) 1; rw [e1] at this; exact this)
  have N1 := Lib.hid (fun w => number_int ((k : Int) - s.size - 1) 1 w)
  have K := Lib.hid (fun w => whole18 ((byteAt s (k - 1)).toNat : Int) w)
  have i1 : (k : Int) - s.size - 1 < 0 := by omega
  have i2 : -(s.size : Int) ≤ (k : Int) - s.size - 1 := by omega
  have i5 : (k : Int) - s.size - 1 + s.size + 1 = k := by omega
  have hw : wrap64 ((byteAt s (k - 1)).toNat : Int) = ((byteAt s (k - 1)).toNat : Int) := IntWalk.wrap64_in _ (by have := (byteAt s (k - 1)).toNat_lt; omega)
  have i3 : ¬ (k : Int) < 1 := by omega
  have i4 : ¬ (s.size : Int) < (k : Int) := by omega
  have b0 := Lib.hid (show Below w.heap.size w (w.alloc (.cells #[.int .i64 0, .int .i64 0, .string ⟨#[]⟩, .slice none 0 0] 28)) from alloc_old)
  clear e1 h
  have hn := Lib.hid (heap_alloc_new w (.cells #[.int .i64 0, .int .i64 0, .string ⟨#[]⟩, .slice none 0 0] 28))
  go_enter Tryd.func19, Tryd.ntmps19
  go_wp2_with (first | (go_at_call 14; (with_reducible refine (A1.out _ b0.out).mono ?_); rintro e w1 ⟨rfl, h1⟩; have B1 := Lib.hid h1; clear h1) | (go_at_call 31; (with_reducible refine (N1.out _).mono ?_); rintro e w2 ⟨rfl, h2⟩; have B2 := Lib.hid (belT B1.out h2); clear h2) | (go_at_call 18; (with_reducible refine (K.out _).mono ?_); rintro e w6 ⟨rfl, h6⟩; have B6 := Lib.hid (belT B2.out h6); clear h6; obtain ⟨⟨c0, c1, c2, c3⟩, ⟨f0, f1, f2, f3⟩, hz⟩ := cells4 B6.out hn.out))
  exact bodyPost_ret (v := .tuple #[.agg #[.int .i64 2, .int .i64 ((byteAt s (k - 1)).toNat : Int), .string ⟨#[]⟩, .slice none 0 0], .int .i64 0]) (by simp [results, Tryd.results19, go_sem, c0, c1, c2, c3, hz]) rfl ⟨rfl, fin4 B6.out _ _ _ _⟩
set_option maxHeartbeats 2000000 in
theorem of_find (s : ByteArray) (v : Value) (w : World) (ps : List (Int × Int × ByteArray)) (h : ASl w v ps) (t : ByteArray) (e1 : ps.getD 1 nilP = (3, 0, t)) (q : Nat) (hq : q ≤ 1000000) (hr : ∀ w1, Below w.heap.size w w1 → Calls Tryd.prog 29 #[.string s, .string t] w1 fun e w' => e = .returned (.int .i64 q) ∧ w1 = w') : Calls Tryd.prog 19 #[.string ⟨#[102, 105, 110, 100]⟩, .string s, v] w
    fun e w' => e = .returned (.tuple #[.agg #[.int .i64 2, .int .i64 ((q : Int) + 1), .string ⟨#[]⟩, .slice none 0 0], .int .i64 0]) ∧ Below w.heap.size w w' := by
  have A1 := Lib.hid (fun w1 (hb : Below w.heap.size w w1) => show Calls Tryd.prog 14 #[v, .int .i64 1] w1 (fun e w' => e = .returned (.agg #[.int .i64 3, .int .i64 0, .string t, .slice none 0 0]) ∧ Below w1.heap.size w1 w') from by have := arg14 v ps w1 (h.below hb) 1; rw [e1] at this; exact this)
  have R := Lib.hid hr
  have K := Lib.hid (fun w => whole18 ((q : Int) + 1) w)
  have b0 := Lib.hid (show Below w.heap.size w (w.alloc (.cells #[.int .i64 0, .int .i64 0, .string ⟨#[]⟩, .slice none 0 0] 28)) from alloc_old)
  clear e1 h hr
  have hn := Lib.hid (heap_alloc_new w (.cells #[.int .i64 0, .int .i64 0, .string ⟨#[]⟩, .slice none 0 0] 28))
  go_enter Tryd.func19, Tryd.ntmps19
  go_wp2_with (first | (go_at_call 14; (with_reducible refine (A1.out _ b0.out).mono ?_); rintro e w1 ⟨rfl, h1⟩; have B1 := Lib.hid h1; clear h1; have b1 := Lib.hid (fun o => (b0.out.trans (B1.out.mono (by simp))).trans ((alloc_old (w := w1) (o := o)).mono (by have := Below.size B1.out; simp at this; omega)))) | (go_at_call 29; (with_reducible refine (R.out _ (b1.out _)).mono ?_); rintro e w2 ⟨rfl, rfl⟩) | (go_at_call 18; (with_reducible refine (K.out _).mono ?_); rintro e w6 ⟨rfl, h6⟩; have B6 := Lib.hid (belA B1.out h6); clear h6; obtain ⟨⟨c0, c1, c2, c3⟩, ⟨f0, f1, f2, f3⟩, hz⟩ := cells4 B6.out hn.out))
  exact bodyPost_ret (v := .tuple #[.agg #[.int .i64 2, .int .i64 ((q : Int) + 1), .string ⟨#[]⟩, .slice none 0 0], .int .i64 0]) (by simp [results, Tryd.results19, go_sem, c0, c1, c2, c3, hz]) rfl ⟨rfl, fin4 B6.out _ _ _ _⟩
set_option maxHeartbeats 2000000 in
theorem of_rep_zero (s : ByteArray) (v : Value) (w : World) (ps : List (Int × Int × ByteArray)) (h : ASl w v ps)  (e1 : ps.getD 1 nilP = (2, 0, ⟨#[]⟩)) : Calls Tryd.prog 19 #[.string ⟨#[114, 101, 112]⟩, .string s, v] w
    fun e w' => e = .returned (.tuple #[.agg #[.int .i64 3, .int .i64 0, .string ⟨#[]⟩, .slice none 0 0], .int .i64 0]) ∧ Below w.heap.size w w' := by
  have A1 := Lib.hid (fun w1 (hb : Below w.heap.size w w1) => show Calls Tryd.prog 14 #[v, .int .i64 1] w1 (fun e w' => e = .returned (.agg #[.int .i64 2, .int .i64 0, .string ⟨#[]⟩, .slice none 0 0]) ∧ Below w1.heap.size w1 w') from by have := arg14 v ps w1 (h.below hb) 1; rw [e1] at this; exact this)
  have b0 := Lib.hid (show Below w.heap.size w (w.alloc (.cells #[.int .i64 0, .int .i64 0, .string ⟨#[]⟩, .slice none 0 0] 28)) from alloc_old)
  clear e1 h
  have K := Lib.hid (fun w => text15 ⟨#[]⟩ w)
  have hn := Lib.hid (heap_alloc_new w (.cells #[.int .i64 0, .int .i64 0, .string ⟨#[]⟩, .slice none 0 0] 28))
  go_enter Tryd.func19, Tryd.ntmps19
  go_wp2_with (first | (go_at_call 14; (with_reducible refine (A1.out _ b0.out).mono ?_); rintro e w1 ⟨rfl, h1⟩; have B1 := Lib.hid h1; clear h1) | (go_at_call 15; (with_reducible refine (K.out _).mono ?_); rintro e w6 ⟨rfl, h6⟩; have B6 := Lib.hid (belA B1.out h6); clear h6; obtain ⟨⟨c0, c1, c2, c3⟩, ⟨f0, f1, f2, f3⟩, hz⟩ := cells4 B6.out hn.out))
  all_goals  exact bodyPost_ret (v := .tuple #[.agg #[.int .i64 3, .int .i64 0, .string ⟨#[]⟩, .slice none 0 0], .int .i64 0]) (by simp [results, Tryd.results19, go_sem, c0, c1, c2, c3, hz]) rfl ⟨rfl, fin4 B6.out _ _ _ _⟩
set_option maxHeartbeats 2000000 in
theorem of_rep (s : ByteArray) (hs : s.size ≤ 1000000) (v : Value) (w : World) (ps : List (Int × Int × ByteArray)) (h : ASl w v ps) (c : Nat) (h0 : 1 ≤ s.size) (hc : 1 ≤ c) (hcs : c * s.size ≤ 4096) (e1 : ps.getD 1 nilP = (2, (c : Int), ⟨#[]⟩)) : Calls Tryd.prog 19 #[.string ⟨#[114, 101, 112]⟩, .string s, v] w
    fun e w' => e = .returned (.tuple #[.agg #[.int .i64 3, .int .i64 0, .string ⟨(Lib.repeatL s.data.toList c).toArray⟩, .slice none 0 0], .int .i64 0]) ∧ Below w.heap.size w w' := by
  have hcle : c ≤ 4096 := by have := Nat.mul_le_mul_left c h0; omega
  have hdiv : c ≤ 4096 / s.size := (Nat.le_div_iff_mul_le h0).2 hcs
  have R := Lib.hid (fun w => Tryd.strings_Repeat s c w (by omega) (by rw [Nat.mul_comm]; omega))
  have A1 := Lib.hid (fun w1 (hb : Below w.heap.size w w1) => show Calls Tryd.prog 14 #[v, .int .i64 1] w1 (fun e w' => e = .returned (.agg #[.int .i64 2, .int .i64 (c : Int), .string ⟨#[]⟩, .slice none 0 0]) ∧ Below w1.heap.size w1 w') from by have := arg14 v ps w1 (h.below hb) 1; rw [e1] at this; exact this)
  have b0 := Lib.hid (show Below w.heap.size w (w.alloc (.cells #[.int .i64 0, .int .i64 0, .string ⟨#[]⟩, .slice none 0 0] 28)) from alloc_old)
  clear e1 h
  have K := Lib.hid (fun w => text15 ⟨(Lib.repeatL s.data.toList c).toArray⟩ w)
  have hn := Lib.hid (heap_alloc_new w (.cells #[.int .i64 0, .int .i64 0, .string ⟨#[]⟩, .slice none 0 0] 28))
  have ga : ¬ s.toList = [] := toList_ne h0
  have gb : s.toList.isEmpty = false := by simpa using ga
  have g1 : ¬ (c : Int) < 1 := by omega
  have g2 : ¬ (4096 : Int) / (s.size : Int) < (c : Int) := by have e : ((4096 / s.size : Nat) : Int) = 4096 / (s.size : Int) := rfl; rw [← e]; omega
  go_enter Tryd.func19, Tryd.ntmps19
  go_wp2_with (first | (go_at_call 14; (with_reducible refine (A1.out _ b0.out).mono ?_); rintro e w1 ⟨rfl, h1⟩; have B1 := Lib.hid h1; clear h1))
  go_quiet (fail)
  have BD := Lib.hid (show Below (w.alloc (.cells #[.int .i64 0, .int .i64 0, .string ⟨#[]⟩, .slice none 0 0] 28)).heap.size (w.alloc (.cells #[.int .i64 0, .int .i64 0, .string ⟨#[]⟩, .slice none 0 0] 28)) ((w1.alloc (.cells #[.int .i64 2, .int .i64 (c : Int), .string ⟨#[]⟩, .slice none 0 0] 28)).drewN nq) from belT (belT B1.out alloc_old) (below_drewN (Below.refl (w1.alloc (.cells #[.int .i64 2, .int .i64 (c : Int), .string ⟨#[]⟩, .slice none 0 0] 28)).heap.size (w1.alloc (.cells #[.int .i64 2, .int .i64 (c : Int), .string ⟨#[]⟩, .slice none 0 0] 28))) nq))
  have cN : ((w1.alloc (.cells #[.int .i64 2, .int .i64 (c : Int), .string ⟨#[]⟩, .slice none 0 0] 28)).drewN nq).cell? ⟨w1.heap.size, 1, none⟩ = some (.int .i64 (c : Int)) := by
    refine ((below_drewN (Below.refl (w1.alloc (.cells #[.int .i64 2, .int .i64 (c : Int), .string ⟨#[]⟩, .slice none 0 0] 28)).heap.size (w1.alloc (.cells #[.int .i64 2, .int .i64 (c : Int), .string ⟨#[]⟩, .slice none 0 0] 28))) nq).cell (p := ⟨w1.heap.size, 1, none⟩) (by simp)).trans ?_
    simp
  generalize (w1.alloc (.cells #[.int .i64 2, .int .i64 (c : Int), .string ⟨#[]⟩, .slice none 0 0] 28)).drewN nq = w5 at BD cN ⊢
  go_wp2_with (first | (go_at_call 30; (with_reducible refine (R.out _).mono ?_); rintro e w2 ⟨rfl, h2⟩; have B2 := Lib.hid (belT BD.out h2); clear h2) | (go_at_call 15; (with_reducible refine (K.out _).mono ?_); rintro e w6 ⟨rfl, h6⟩; have B6 := Lib.hid (belT B2.out h6); clear h6; obtain ⟨⟨c0, c1, c2, c3⟩, ⟨f0, f1, f2, f3⟩, hz⟩ := cells4 B6.out hn.out))
  exact bodyPost_ret (v := .tuple #[.agg #[.int .i64 3, .int .i64 0, .string ⟨(Lib.repeatL s.data.toList c).toArray⟩, .slice none 0 0], .int .i64 0]) (by simp [results, Tryd.results19, go_sem, c0, c1, c2, c3, hz]) rfl ⟨rfl, fin4 B6.out _ _ _ _⟩
set_option maxHeartbeats 2000000 in
theorem of_rep_long (s : ByteArray) (hs : s.size ≤ 1000000) (v : Value) (w : World) (ps : List (Int × Int × ByteArray)) (h : ASl w v ps) (c : Nat) (h0 : 1 ≤ s.size) (hc : 1 ≤ c) (hcs : 4096 < c * s.size) (e1 : ps.getD 1 nilP = (2, (c : Int), ⟨#[]⟩)) : Calls Tryd.prog 19 #[.string ⟨#[114, 101, 112]⟩, .string s, v] w
    fun e w' => e = .returned (.tuple #[.agg #[.int .i64 0, .int .i64 0, .string ⟨#[]⟩, .slice none 0 0], .int .i64 8]) ∧ Below w.heap.size w w' := by
  have hdiv : 4096 / s.size < c := (Nat.div_lt_iff_lt_mul h0).2 hcs
  have A1 := Lib.hid (fun w1 (hb : Below w.heap.size w w1) => show Calls Tryd.prog 14 #[v, .int .i64 1] w1 (fun e w' => e = .returned (.agg #[.int .i64 2, .int .i64 (c : Int), .string ⟨#[]⟩, .slice none 0 0]) ∧ Below w1.heap.size w1 w') from by have := arg14 v ps w1 (h.below hb) 1; rw [e1] at this; exact this)
  have b0 := Lib.hid (show Below w.heap.size w (w.alloc (.cells #[.int .i64 0, .int .i64 0, .string ⟨#[]⟩, .slice none 0 0] 28)) from alloc_old)
  clear e1 h
  have hn := Lib.hid (heap_alloc_new w (.cells #[.int .i64 0, .int .i64 0, .string ⟨#[]⟩, .slice none 0 0] 28))
  have ga : ¬ s.toList = [] := toList_ne h0
  have gb : s.toList.isEmpty = false := by simpa using ga
  have g1 : ¬ (c : Int) < 1 := by omega
  have g2 : (4096 : Int) / (s.size : Int) < (c : Int) := by have e : ((4096 / s.size : Nat) : Int) = 4096 / (s.size : Int) := rfl; rw [← e]; omega
  go_enter Tryd.func19, Tryd.ntmps19
  go_wp2_with (first | (go_at_call 14; (with_reducible refine (A1.out _ b0.out).mono ?_); rintro e w1 ⟨rfl, h1⟩; have B1 := Lib.hid h1; clear h1))
  go_quiet (fail)
  have BD := Lib.hid (show Below (w.alloc (.cells #[.int .i64 0, .int .i64 0, .string ⟨#[]⟩, .slice none 0 0] 28)).heap.size (w.alloc (.cells #[.int .i64 0, .int .i64 0, .string ⟨#[]⟩, .slice none 0 0] 28)) ((w1.alloc (.cells #[.int .i64 2, .int .i64 (c : Int), .string ⟨#[]⟩, .slice none 0 0] 28)).drewN nq) from belT (belT B1.out alloc_old) (below_drewN (Below.refl (w1.alloc (.cells #[.int .i64 2, .int .i64 (c : Int), .string ⟨#[]⟩, .slice none 0 0] 28)).heap.size (w1.alloc (.cells #[.int .i64 2, .int .i64 (c : Int), .string ⟨#[]⟩, .slice none 0 0] 28))) nq))
  have cN : ((w1.alloc (.cells #[.int .i64 2, .int .i64 (c : Int), .string ⟨#[]⟩, .slice none 0 0] 28)).drewN nq).cell? ⟨w1.heap.size, 1, none⟩ = some (.int .i64 (c : Int)) := by
    refine ((below_drewN (Below.refl (w1.alloc (.cells #[.int .i64 2, .int .i64 (c : Int), .string ⟨#[]⟩, .slice none 0 0] 28)).heap.size (w1.alloc (.cells #[.int .i64 2, .int .i64 (c : Int), .string ⟨#[]⟩, .slice none 0 0] 28))) nq).cell (p := ⟨w1.heap.size, 1, none⟩) (by simp)).trans ?_
    simp
  generalize (w1.alloc (.cells #[.int .i64 2, .int .i64 (c : Int), .string ⟨#[]⟩, .slice none 0 0] 28)).drewN nq = w5 at BD cN ⊢
  obtain ⟨⟨c0, c1, c2, c3⟩, ⟨f0, f1, f2, f3⟩, hz⟩ := cells4 BD.out hn.out
  go_wp2_with fail
  exact bodyPost_ret (v := .tuple #[.agg #[.int .i64 0, .int .i64 0, .string ⟨#[]⟩, .slice none 0 0], .int .i64 8]) (by simp [results, Tryd.results19, go_sem, c0, c1, c2, c3, hz]) rfl ⟨rfl, fin4 BD.out _ _ _ _⟩
end Go.Proofs.YtjoegdnefdaokaaDoor
