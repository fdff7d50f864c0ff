/- The law's own few examples (told) answer true. -/
import Derived.Test.YtennkagolgbamaaDoorRe4
import Derived.Test.YtennkagolgbamaaDoorShelf
import Derived.Lib.SlBytesConst
namespace Go.Proofs.YtennkagolgbamaaDoor
open Go.ChangeShapes Go.WideShapes Go.ChangeAt Go.RowKit Go.Resp

/-- 'string(b)' of a slice of bytes. -/
theorem conv_bs {w : World} {v : Value} {l : List UInt8} (h : BSl w v l) : (convert 27 9 v).run Tryd.prog w = .ok (.string ⟨l.toArray⟩) w := by
  obtain ⟨A, cap, rfl, h1, h2, h3⟩ := h
  by_cases hl : l = []
  · subst hl
    have := run_convert_bytes_string (P := Tryd.prog) w 27 9 5 A 0 cap Tryd.underlying27 Tryd.underlying5 Tryd.underlying9
    rw [show ([] : List UInt8).length = 0 from rfl, this]
    cases A <;> rfl
  · obtain ⟨blk, off, rfl, h4, h5⟩ := h3 hl
    refine run_convert_bytes_back (P := Tryd.prog) w 27 9 5 ⟨blk, off, none⟩ cap l Tryd.underlying27 Tryd.underlying5 Tryd.underlying9 (fun j hj => ?_)
    have := h5 j l[j] (List.getElem?_eq_getElem hj)
    rw [← this]
    unfold Addr.add
    by_cases h0 : j = 0
    · subst h0; simp
    · simp [h0]
theorem fmt5 (w : World) : Calls Tryd.prog 22 #[.int .i64 5, .int .i64 10] w fun e w' => e = .returned (.string ⟨#[53]⟩) ∧ w = w' := by
  have h := Tryd.strconv_FormatInt_10_small 5 (by decide) w
  have e : (Lib.decDigits 5).toArray = #[53] := by kernel_rfl
  rw [e] at h
  exact h.mono fun _ _ ⟨h1, h2⟩ => ⟨h1, h2.symm⟩
theorem put5 (w : World) : Calls Tryd.prog 11 #[.agg #[.int .i64 3, .int .i64 5, .string ⟨#[]⟩, .slice none 0 0]] w fun e w' => ∃ v, e = .returned v ∧ BSl w' v [58, 53, 13, 10] ∧ Below w.heap.size w w' := by
  have L := Lib.hid (fun w => line21 ⟨#[58, 53]⟩ (by decide) w)
  have hb := Lib.hid (Below.refl w.heap.size w)
  go_enter Tryd.func11, Tryd.ntmps11
  go_wp2_with (first | (go_at_call 22; refine (fmt5 _).mono ?_; rintro e w' ⟨rfl, rfl⟩) | (go_at_call 21; refine (L.out _).mono ?_; rintro e w' ⟨v, rfl, hB, hb2⟩))
  go_ret
  exact ⟨_, rfl, by assumption, (Below.alloc (Below.refl _ _) (Nat.le_refl _) _).trans (Below.mono (by assumption) (by simp))⟩
theorem told1 (w : World) : Calls Tryd.prog 13 #[.slice (some ⟨w.heap.size, 0, none⟩) 15 15] (w.alloc (.cells #[.int .u8 42, .int .u8 49, .int .u8 13, .int .u8 10, .int .u8 36, .int .u8 52, .int .u8 13, .int .u8 10, .int .u8 80, .int .u8 73, .int .u8 78, .int .u8 71, .int .u8 13, .int .u8 10, .int .u8 120] 5 (15, 16)))
    fun e w' => ∃ g cap, e = .returned (.tuple #[.slice (some ⟨g, 0, none⟩) 1 cap, .int .i64 14, .int .i64 0]) ∧ w'.cell? ⟨g, 0, none⟩ = some (.string ⟨#[80, 73, 78, 71]⟩) ∧ g < w'.heap.size ∧ Below w.heap.size w w' := by
  refine (read_const [42, 49, 13, 10, 36, 52, 13, 10, 80, 73, 78, 71, 13, 10, 120] (by unfold maxLen; decide) w).mono ?_
  rintro e w' ⟨v, xs, p, st, hr, rfl, hown, hb⟩
  have hk : readT [42, 49, 13, 10, 36, 52, 13, 10, 80, 73, 78, 71, 13, 10, 120] = ([[80, 73, 78, 71]], 14, 0) := by kernel_rfl
  rw [hk] at hr
  obtain ⟨rfl, rfl, rfl⟩ : [[80, 73, 78, 71]] = xs ∧ 14 = p ∧ 0 = st := by injection hr with h1 h2; injection h2 with h2 h3; exact ⟨h1, h2, h3⟩
  have hown' : w'.ownsRow (w.heap.size + 1) 9 1 v 1 [strV [80, 73, 78, 71]] := hown
  rcases hown'.2 with ⟨_, h0⟩ | ⟨g, cap, cur, hv, hB, hh, hn, hc, hs, ht⟩
  · cases h0
  subst hv
  refine ⟨g, cap, rfl, ?_, (Array.getElem?_eq_some_iff.1 hh).1, ?_⟩
  · exact World.ownsRow.cells hown' (g := g) rfl 0 _ rfl
  · exact (Below.alloc (Below.refl _ _) (Nat.le_refl _) _).trans (hb.mono (by simp))
theorem told_bad (l : List UInt8) (code : Nat) (hk : readT l = ([], 0, code)) (hl : l.length ≤ maxLen) (w : World) : Calls Tryd.prog 13 #[.slice (some ⟨w.heap.size, 0, none⟩) l.length l.length] (w.alloc (.cells (cellsOfB l) 5 (l.length, l.length + 1)))
    fun e w' => ∃ v, e = .returned (.tuple #[v, .int .i64 0, .int .i64 (codeOf code)]) ∧ Below (w.heap.size + 1) (w.alloc (.cells (cellsOfB l) 5 (l.length, l.length + 1))) w' := by
  refine (read_const l hl w).mono ?_
  rintro e w' ⟨v, xs, p, st, hr, rfl, hown, hb⟩
  rw [hk] at hr
  obtain ⟨rfl, rfl, rfl⟩ : [] = xs ∧ 0 = p ∧ code = st := by injection hr with h1 h2; injection h2 with h2 h3; exact ⟨h1, h2, h3⟩
  exact ⟨v, rfl, hb⟩
theorem told2 (w : World) : Calls Tryd.prog 13 #[.slice (some ⟨w.heap.size, 0, none⟩) 1 1] (w.alloc (.cells #[.int .u8 43] 5 (1, 2)))
    fun e w' => ∃ v, e = .returned (.tuple #[v, .int .i64 0, .int .i64 22]) ∧ Below (w.heap.size + 1) (w.alloc (.cells #[.int .u8 43] 5 (1, 2))) w' := told_bad [43] 2 (by kernel_rfl) (by unfold maxLen; decide) w
theorem told3 (w : World) : Calls Tryd.prog 13 #[.slice (some ⟨w.heap.size, 0, none⟩) 10 10] (w.alloc (.cells #[.int .u8 42, .int .u8 49, .int .u8 13, .int .u8 10, .int .u8 36, .int .u8 52, .int .u8 13, .int .u8 10, .int .u8 80, .int .u8 73] 5 (10, 11)))
    fun e w' => ∃ v, e = .returned (.tuple #[v, .int .i64 0, .int .i64 0]) ∧ Below (w.heap.size + 1) (w.alloc (.cells #[.int .u8 42, .int .u8 49, .int .u8 13, .int .u8 10, .int .u8 36, .int .u8 52, .int .u8 13, .int .u8 10, .int .u8 80, .int .u8 73] 5 (10, 11))) w' :=
  told_bad [42, 49, 13, 10, 36, 52, 13, 10, 80, 73] 1 (by kernel_rfl) (by unfold maxLen; decide) w
set_option maxHeartbeats 1000000 in
theorem told_any (w : World) : Calls Tryd.prog 10 #[] w fun e w' => e = .returned (.bool true) ∧ Below w.heap.size w w' := by
  have kc := fun (w : World) (C : Array Value) (n c : Nat) => Lib.run_convert_bytes_const (P := Tryd.prog) w 27 5 C n c Tryd.underlying27 Tryd.underlying5
  go_enter Tryd.func10, Tryd.ntmps10
  go_wp2_with (go_at_call 13; (with_reducible refine (told1 _).mono ?_); rintro e w1 ⟨g, cap, rfl, hc1, hg1, hb1⟩; refine Hid.out ?_)
  refine Lib.hid ?_
  have B1 := Lib.hid hb1
  have C1 := Lib.hid hc1
  clear hb1 hc1
  go_wp2_with (go_at_call 13; (with_reducible refine (told2 _).mono ?_); rintro e w2 ⟨v2, rfl, hb2⟩; refine Hid.out ?_)
  refine Lib.hid ?_
  have B2 := Lib.hid ((Below.alloc (Below.refl w1.heap.size w1) (Nat.le_refl _) _).trans (Below.mono hb2 (by simp)))
  clear hb2
  go_wp2_with (go_at_call 13; (with_reducible refine (told3 _).mono ?_); rintro e w3 ⟨v3, rfl, hb3⟩; refine Hid.out ?_)
  refine Lib.hid ?_
  have B3 := Lib.hid ((Below.alloc (Below.refl w2.heap.size w2) (Nat.le_refl _) _).trans (Below.mono hb3 (by simp)))
  clear hb3
  have hc3 : w3.cell? ⟨g, 0, none⟩ = some (.string ⟨#[80, 73, 78, 71]⟩) := by
    rw [B3.out.cell (p := ⟨g, 0, none⟩) (by have := B2.out.size; show g < _; omega), B2.out.cell (p := ⟨g, 0, none⟩) hg1]
    exact C1.out
  go_wp2_with (go_at_call 11; (with_reducible refine (put5 _).mono ?_); rintro e w4 ⟨v4, rfl, hs4, hb4⟩; have hcv := conv_bs hs4; have B4 := Lib.hid hb4; have S4 := Lib.hid hs4; clear hb4 hs4)
  go_ret
  exact ⟨by simp, B1.out.trans ((B2.out.trans ((B3.out.trans (Below.mono B4.out B3.out.size)).mono B2.out.size)).mono B1.out.size)⟩
end Go.Proofs.YtennkagolgbamaaDoor
