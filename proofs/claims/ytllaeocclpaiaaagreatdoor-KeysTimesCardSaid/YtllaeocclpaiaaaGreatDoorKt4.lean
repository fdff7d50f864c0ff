/- DEL. -/
import Derived.Test.YtllaeocclpaiaaaGreatDoorKt3
import Derived.Test.YtllaeocclpaiaaaGreatDoorShelf
namespace Go.Proofs.YtllaeocclpaiaaaGreatDoor
set_option linter.unusedVariables false
open Go.ChangeShapes Go.WideShapes Go.ChangeAt Go.RowKit

theorem SP.ne_job {w : World} {bS bM j : Nat} {l : MapT.Ents} {now : Int} {vA vl : Value} (h : SP w bS bM l) (hj : JB w j bS now vA vl) : bS ≠ j ∧ bM ≠ j := by
  obtain ⟨⟨mem, h1⟩, ⟨es, c, h2, _⟩, _⟩ := h
  unfold JB at hj
  refine ⟨fun e => ?_, fun e => ?_⟩
  · subst e; rw [h1] at hj; cases hj
  · subst e; rw [h2] at hj; cases hj
/-- How DEL stands behind i keys that are all one. -/
def DelR (w1 wr : World) (j bS : Nat) (now : Int) (vA : Value) (k : ByteArray) (i q : Nat) : Prop :=
  (i = 0 ∧ q = 0 ∧ JB wr j bS now vA (.slice none 0 0) ∧ Below w1.heap.size w1 wr) ∨
  (0 < i ∧ q = 1 ∧ ∃ A n c, JB wr j bS now vA (.slice A n c) ∧ EF wr w1.heap.size (.slice A n c) [⟨k, 0, ⟨#[]⟩, 0⟩] ∧ Kp w1.heap.size (fun i => i ≠ j) w1 wr)
theorem rep_getD (k : ByteArray) (m j : Nat) (h : j < m) : (List.replicate m k).getD j ByteArray.empty = k := by
  rw [List.getD_eq_getElem?_getD, List.getElem?_replicate, if_pos h]
  rfl
theorem rep_contains (k : ByteArray) (i : Nat) (h : 0 < i) : Lib.containsS ((List.replicate i k).take i) k = true := by
  rw [List.take_of_length_le (by simp)]
  exact (Lib.containsS_iff _ _).2 (List.mem_replicate.2 ⟨by omega, rfl⟩)
set_option maxRecDepth 100000 in
set_option maxHeartbeats 8000000 in
theorem del_yes (W0 : World) (bS bM : Nat) (l : MapT.Ents) (now : Int) (k : ByteArray) (m : Nat) (hm1 : 1 ≤ m) (hm : m ≤ 1000) (t : ByteArray) (u : Int) (hf : MapT.find k l = some (.agg #[.string k, .int .i64 1, .string t, .slice none 0 0, .slice none 0 0, .slice none 0 0, .slice none 0 0, .int .i64 u])) (hv : Lives u now) : CmdOk W0 16 bS bM l now (⟨#[68, 69, 76]⟩ :: List.replicate m k) 3 1 ⟨#[]⟩ R0 [⟨k, 0, ⟨#[]⟩, 0⟩] := by
  intro w j vA _ hS hj hA
  have A1 := Lib.hid (alloc_old (w := w) (o := .cells #[.int .i64 0, .int .i64 0, .string ⟨#[]⟩, .slice none 0 0] 36))
  have hr := Lib.hid (heap_alloc_new w (.cells #[.int .i64 0, .int .i64 0, .string ⟨#[]⟩, .slice none 0 0] 36))
  obtain ⟨aA, cap, hv, p1, p2, p3⟩ := hA
  rw [List.length_cons, List.length_replicate] at hv p1
  subst hv
  obtain ⟨blk, off, rfl, hblt, hc⟩ := p3 (by simp)
  have nj := Lib.hid (ne_job_str hj (hc 0 _ rfl))
  have nS := Lib.hid (hS.ne_job hj)
  have HC := Lib.hid hc
  have HJ := Lib.hid hj
  have HS := Lib.hid hS
  have q0 : (1 : Int) ≤ (m : Int) + 1 := by omega
  have q9 : (m : Int) + 1 ≤ (cap : Int) := by omega
  have q8 : (m : Int) ≤ 1000 := by omega
  have hcap : ¬ cap = 1 := by omega
  have hjw := lt_blk HJ.out
  have IN := Lib.hid (fun n w => Int75 n w)
  have hw1 : w.heap.size < (w.alloc (.cells #[.int .i64 0, .int .i64 0, .string ⟨#[]⟩, .slice none 0 0] 36)).heap.size := by simp
  have J1 := Lib.hid (HJ.out.below A1.out)
  have cj2 := J1.out.cells.2.2.1
  clear p3 hc hj hS
  go_enter Tryz.func16, Tryz.ntmps16
  go_wp2_with fail
  generalize (w.alloc (.cells #[.int .i64 0, .int .i64 0, .string ⟨#[]⟩, .slice none 0 0] 36)) = w1 at A1 hr hw1 J1 ⊢
  go_loopw [3, 14] (fun nv iv wr => ∃ (i q : Nat), i ≤ m ∧ nv = .int .i64 q ∧ iv = .int .i64 i ∧ Hid (DelR w1 wr j bS now (.slice (some ⟨blk, off, none⟩) (m + 1) cap) k i q)) (fun _ iv _ => m - (intOf iv).toNat)
  case atStart => exact ⟨0, 0, Nat.zero_le _, rfl, rfl, Lib.hid (.inl ⟨rfl, rfl, J1.out, Below.refl _ _⟩)⟩
  case round =>
    obtain ⟨i, q, hi, rfl, rfl, HQ⟩ := hrel
    by_cases hlt : i < m
    · have q1 : (i : Int) < (m : Int) := by omega
      rcases HQ.out with ⟨rfl, rfl, hJr, hBr⟩ | ⟨h0, rfl, A, n, c, hJr, hEr, hKr⟩
      · have BR := Lib.hid (A1.out.trans (hBr.mono (Nat.le_of_lt hw1)))
        have x1 := (BR.out.cell (p := ⟨blk, off + 1, none⟩) hblt).trans (HC.out 1 k (by rw [List.getElem?_cons_succ, List.getElem?_replicate, if_pos (by omega)]))
        have G := Lib.hid (JGet_yes bS bM j l k now _ _ t u 1 hf hv wr (HS.out.below BR.out) hJr)
        have CE := Lib.hid (fun a c w => Tryz.slices_Contains_string_empty a c k w)
        have hz := Below.size hBr
        have TK := Lib.hid (fun X (hX : Below wr.heap.size wr X) => Take76 j bS now (.slice (some ⟨blk, off, none⟩) (m + 1) cap) none 0 0 [] w1.heap.size X (hJr.below hX) (EF.nil _ _) (Nat.le_trans hz (Below.size hX)) (by simp) k)
        have HBr := Lib.hid hBr
        have HJr := Lib.hid hJr
        clear hBr hJr hz
        go_wp2_with (first | (go_at_call 43; (with_reducible refine (G.out).mono ?_); rintro e w3 ⟨rfl, h3⟩; have B3 := Lib.hid h3; clear h3; refine Hid.out ?_))
        refine Lib.hid ?_
        have B4 := Lib.hid (show Below wr.heap.size wr (w3.alloc (.cells #[.string k, .int .i64 1, .string t, .slice none 0 0, .slice none 0 0, .slice none 0 0, .slice none 0 0, .int .i64 u] 33)) from B3.out.trans (alloc_old.mono (Below.size B3.out)))
        have T4 := Lib.hid (TK.out _ B4.out)
        have y2 := (HJr.out.below B4.out).cells.2.2.1
        go_wp2_with (first | (go_at_call 44; (with_reducible refine (CE.out _ _ _).mono ?_); rintro e w5 ⟨rfl, rfl⟩) | (go_at_call 45; (with_reducible refine (T4.out).mono ?_); rintro e w6 ⟨rfl, hR6, hK6⟩; have HR6 := Lib.hid hR6; have HK6 := Lib.hid hK6; clear hR6 hK6))
        go_round
        case rel =>
          obtain ⟨A2, n2, c2, hJ6, hE6⟩ := HR6.out
          exact ⟨1, 1, by omega, by go_num, by go_num, Lib.hid (.inr ⟨by omega, rfl, A2, n2, c2, hJ6, hE6, (Kp.of (HBr.out.trans (B4.out.mono (Below.size HBr.out)))).trans HK6.out⟩)⟩
        case measure => simp [intOf]; omega
      · have hsz := hKr.size
        have x1 := (hKr.cell (p := ⟨blk, off + 1 + i, none⟩) (by show blk < _; omega) nj.out).trans ((A1.out.cell (p := ⟨blk, off + 1 + i, none⟩) hblt).trans (show w.cell? ⟨blk, off + 1 + i, none⟩ = some (.string k) from by rw [show off + 1 + i = off + (i + 1) by omega]; exact HC.out (i + 1) k (by rw [List.getElem?_cons_succ, List.getElem?_replicate, if_pos (by omega)])))
        have hSr := (HS.out.below A1.out).kept (hKr.block bS (Nat.lt_of_lt_of_le HS.out.lt.1 (Below.size A1.out)) nS.out.1) (hKr.block bM (Nat.lt_of_lt_of_le HS.out.lt.2 (Below.size A1.out)) nS.out.2)
        have G := Lib.hid (JGet_yes bS bM j l k now _ _ t u 1 hf hv wr hSr hJr)
        have CX := Lib.hid (fun X (hX : Below wr.heap.size wr X) => Tryz.slices_Contains_string blk (off + 1) i (cap - 1) (List.replicate i k) k X (by simp) (by omega) (fun j9 hj9 => by rw [List.length_replicate] at hj9; rw [rep_getD k i j9 hj9]; exact (hX.cell (p := ⟨blk, off + 1 + j9, none⟩) (by show blk < _; omega)).trans ((hKr.cell (p := ⟨blk, off + 1 + j9, none⟩) (by show blk < _; omega) nj.out).trans ((A1.out.cell (p := ⟨blk, off + 1 + j9, none⟩) hblt).trans (show w.cell? ⟨blk, off + 1 + j9, none⟩ = some (.string k) from by rw [show off + 1 + j9 = off + (j9 + 1) by omega]; exact HC.out (j9 + 1) k (by rw [List.getElem?_cons_succ, List.getElem?_replicate, if_pos (by omega)]))))))
        have HKr := Lib.hid hKr
        have HJr := Lib.hid hJr
        have HEr := Lib.hid hEr
        have rc : Lib.containsS (List.replicate i k) k = true := by have := rep_contains k i h0; rwa [List.take_of_length_le (by simp)] at this
        have i1 : (1 : Int) ≤ (i : Int) + 1 := by omega
        have i2 : (i : Int) + 1 ≤ (cap : Int) := by omega
        clear hKr hJr hEr hSr
        go_wp2_with (first | (go_at_call 43; (with_reducible refine (G.out).mono ?_); rintro e w3 ⟨rfl, h3⟩; have B3 := Lib.hid h3; clear h3; refine Hid.out ?_))
        refine Lib.hid ?_
        have B4 := Lib.hid (show Below wr.heap.size wr (w3.alloc (.cells #[.string k, .int .i64 1, .string t, .slice none 0 0, .slice none 0 0, .slice none 0 0, .slice none 0 0, .int .i64 u] 33)) from B3.out.trans (alloc_old.mono (Below.size B3.out)))
        have C4 := Lib.hid (CX.out _ B4.out)
        have y2 := (HJr.out.below B4.out).cells.2.2.1
        go_wp2_with (first | (go_at_call 44; (with_reducible refine (C4.out).mono ?_); rintro e w5 ⟨rfl, rfl⟩; refine Hid.out ?_))
        refine Lib.hid ?_
        go_wp2
        go_round
        case rel => exact ⟨i + 1, 1, by omega, by go_num, by go_num, Lib.hid (.inr ⟨by omega, rfl, A, n, c, HJr.out.below B4.out, HEr.out.below B4.out, HKr.out.trans (.of (B4.out.mono hsz))⟩)⟩
        case measure => simp [intOf]; omega
    · have he : i = m := by omega
      have q1 : ¬ (i : Int) < (m : Int) := by omega
      rcases HQ.out with ⟨rfl, _⟩ | ⟨h0, rfl, A, n, c, hJr, hEr, hKr⟩
      · omega
      have HKr := Lib.hid hKr
      have HJr := Lib.hid hJr
      have HEr := Lib.hid hEr
      have R6 := Lib.hid ((hKr.block w.heap.size hw1 (by omega)).trans hr.out)
      clear hKr hJr hEr he
      go_wp2_with (first | (go_at_call 33; (with_reducible refine (IN.out _ _).mono ?_); rintro e w7 ⟨rfl, h7⟩; have B7 := Lib.hid h7; clear h7; obtain ⟨⟨c0, c1, c2, c3⟩, ⟨f0, f1, f2, f3⟩⟩ := cells4 (blk_below R6.out B7.out)))
      obtain ⟨hJ7, hE7, hK7⟩ := eff_after HJr.out HEr.out HKr.out B7.out
      exact bodyPost_ret (v := .agg #[.int .i64 3, .int .i64 1, .string ⟨#[]⟩, .slice none 0 0]) (by simp [results, Tryz.results16, go_sem, c0, c1, c2, c3]) rfl (eff_end hjw (Nat.le_refl _) hw1 A1.out hJ7 hE7 hK7 _ _ _ _)
set_option maxRecDepth 100000 in
set_option maxHeartbeats 8000000 in
theorem del_no (W0 : World) (bS bM : Nat) (l : MapT.Ents) (now : Int) (k : ByteArray) (m : Nat) (hm1 : 1 ≤ m) (hm : m ≤ 1000) (hG : ∀ X, SP X bS bM l → ∀ j vA vl, JB X j bS now vA vl → Calls Tryz.prog 43 #[.pointer (some ⟨j, 0, none⟩), .string k] X fun e w' => e = .returned (.tuple #[.agg #[.string k, .int .i64 0, .string ⟨#[]⟩, .slice none 0 0, .slice none 0 0, .slice none 0 0, .slice none 0 0, .int .i64 0], .bool false]) ∧ Below X.heap.size X w') : CmdOk W0 16 bS bM l now (⟨#[68, 69, 76]⟩ :: List.replicate m k) 3 0 ⟨#[]⟩ R0 [] := by
  intro w j vA _ hS hj hA
  have A1 := Lib.hid (alloc_old (w := w) (o := .cells #[.int .i64 0, .int .i64 0, .string ⟨#[]⟩, .slice none 0 0] 36))
  have hr := Lib.hid (heap_alloc_new w (.cells #[.int .i64 0, .int .i64 0, .string ⟨#[]⟩, .slice none 0 0] 36))
  obtain ⟨aA, cap, hv, p1, p2, p3⟩ := hA
  rw [List.length_cons, List.length_replicate] at hv p1
  subst hv
  obtain ⟨blk, off, rfl, hblt, hc⟩ := p3 (by simp)
  have nj := Lib.hid (ne_job_str hj (hc 0 _ rfl))
  have nS := Lib.hid (hS.ne_job hj)
  have HC := Lib.hid hc
  have HJ := Lib.hid hj
  have HS := Lib.hid hS
  have q0 : (1 : Int) ≤ (m : Int) + 1 := by omega
  have q9 : (m : Int) + 1 ≤ (cap : Int) := by omega
  have q8 : (m : Int) ≤ 1000 := by omega
  have hcap : ¬ cap = 1 := by omega
  have hjw := lt_blk HJ.out
  have IN := Lib.hid (fun n w => Int75 n w)
  have hw1 : w.heap.size < (w.alloc (.cells #[.int .i64 0, .int .i64 0, .string ⟨#[]⟩, .slice none 0 0] 36)).heap.size := by simp
  have J1 := Lib.hid (HJ.out.below A1.out)
  have cj2 := J1.out.cells.2.2.1
  clear p3 hc hj hS
  go_enter Tryz.func16, Tryz.ntmps16
  go_wp2_with fail
  generalize (w.alloc (.cells #[.int .i64 0, .int .i64 0, .string ⟨#[]⟩, .slice none 0 0] 36)) = w1 at A1 hr hw1 J1 ⊢
  go_loopw [3, 14] (fun nv iv wr => ∃ (i : Nat), i ≤ m ∧ nv = .int .i64 0 ∧ iv = .int .i64 i ∧ Hid (Below w1.heap.size w1 wr)) (fun _ iv _ => m - (intOf iv).toNat)
  case atStart => exact ⟨0, Nat.zero_le _, rfl, rfl, Lib.hid (Below.refl _ _)⟩
  case round =>
    obtain ⟨i, hi, rfl, rfl, HQ⟩ := hrel
    by_cases hlt : i < m
    · have q1 : (i : Int) < (m : Int) := by omega
      have BR := Lib.hid (A1.out.trans (HQ.out.mono (Nat.le_of_lt hw1)))
      have x1 := (BR.out.cell (p := ⟨blk, off + 1 + i, none⟩) hblt).trans (show w.cell? ⟨blk, off + 1 + i, none⟩ = some (.string k) from by rw [show off + 1 + i = off + (i + 1) by omega]; exact HC.out (i + 1) k (by rw [List.getElem?_cons_succ, List.getElem?_replicate, if_pos (by omega)]))
      have G := Lib.hid (hG wr (HS.out.below BR.out) j _ _ (HJ.out.below BR.out))
      go_wp2_with (first | (go_at_call 43; (with_reducible refine (G.out).mono ?_); rintro e w3 ⟨rfl, h3⟩; have B3 := Lib.hid h3; clear h3; refine Hid.out ?_))
      refine Lib.hid ?_
      go_wp2
      go_round
      case rel => exact ⟨i + 1, by omega, rfl, by go_num, Lib.hid (HQ.out.trans ((B3.out.trans (alloc_old.mono (Below.size B3.out))).mono (Below.size HQ.out)))⟩
      case measure => simp [intOf]; omega
    · have q1 : ¬ (i : Int) < (m : Int) := by omega
      have R6 := Lib.hid (blk_below hr.out HQ.out)
      go_wp2_with (first | (go_at_call 33; (with_reducible refine (IN.out _ _).mono ?_); rintro e w7 ⟨rfl, h7⟩; have B7 := Lib.hid h7; clear h7; obtain ⟨⟨c0, c1, c2, c3⟩, ⟨f0, f1, f2, f3⟩⟩ := cells4 (blk_below R6.out B7.out)))
      exact bodyPost_ret (v := .agg #[.int .i64 3, .int .i64 0, .string ⟨#[]⟩, .slice none 0 0]) (by simp [results, Tryz.results16, go_sem, c0, c1, c2, c3]) rfl (read_end HJ.out (((((A1.out.trans ((HQ.out.trans (B7.out.mono (Below.size HQ.out))).mono (Nat.le_of_lt hw1))).setCell (Nat.le_refl _) _).setCell (Nat.le_refl _) _).setCell (Nat.le_refl _) _).setCell (Nat.le_refl _) _))
end Go.Proofs.YtllaeocclpaiaaaGreatDoor
