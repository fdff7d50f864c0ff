/- command.groups and Fits at the strings' commands. -/
import Derived.Test.YtllaeocclpaiaaaGreatDoorSt11
namespace Go.Proofs.YtllaeocclpaiaaaGreatDoor
open Go.ChangeShapes Go.WideShapes Go.ChangeAt Go.RowKit

theorem groups_GET (n : Int) (w : World) : Calls Tryz.prog 76 #[.string ⟨#[71, 69, 84]⟩, .int .i64 n] w fun e w' => e = .returned (.bool true) ∧ Below w.heap.size w w' := by
  go_enter Tryz.func76, Tryz.ntmps76
  go_wp2
  go_ret
  exact ⟨rfl, Below.refl _ _⟩
/-- A command whose arguments fit. -/
theorem Fits_ok (K : Nat) (raw b0 : ByteArray) (b1 b2 : Int) (b3 : Bool) (b4 b5 b6 : Int) (l0 : List UInt8) (hl0 : b0 = ⟨l0.toArray⟩) (hK : CmdT.rowsT[K]? = some (l0, b1, b2, b3, b4, b5, b6))
    (hu : ∀ w, Calls Tryz.prog 40 #[.string raw] w fun e w' => e = .returned (.string b0) ∧ Below w.heap.size w w') (v : Value) (xs : List ByteArray) (hx : xs[0]? = some raw) (hlo : b1 ≤ (xs.length : Int)) (hhi : b2 ≤ 0 ∨ (xs.length : Int) ≤ b2)
    (hg : ∀ w, Calls Tryz.prog 76 #[.string b0, .int .i64 (xs.length : Nat)] w fun e w' => e = .returned (.bool true) ∧ Below w.heap.size w w') (w : World) (h : SSl w v xs) :
    Calls Tryz.prog 39 #[v] w fun e w' => e = .returned (.int .i64 0) ∧ Below w.heap.size w w' := by
  have F := Lib.hid (fun w => Find_at K raw b0 b1 b2 b3 b4 b5 b6 l0 hl0 hK hu w)
  have G := Lib.hid hg
  obtain ⟨A, cap, rfl, p1, p2, p3⟩ := h
  have hlt : 0 < xs.length := (List.getElem?_eq_some_iff.1 hx).1
  obtain ⟨blk, off, rfl, hb, hc⟩ := p3 (by intro e; rw [e] at hlt; simp at hlt)
  have d0 := hc 0 raw hx
  rw [Nat.add_zero] at d0
  unfold maxLen at p2
  have i0 : (0 : Int) < (xs.length : Int) := by omega
  have i1 : ((xs.length : Int) == 0) = false := by rw [beq_eq_false_iff_ne]; omega
  have i2 : ¬ (xs.length : Int) < b1 := by omega
  clear hc p3 hx hl0 hK hu hg
  by_cases h2 : 0 < b2
  · have i3 : ¬ b2 < (xs.length : Int) := by
      rcases hhi with h | h
      · exact absurd h2 (Int.not_lt.2 h)
      · exact Int.not_lt.2 h
    clear hhi
    go_enter Tryz.func39, Tryz.ntmps39
    go_wp2_with (first | (go_at_call 75; (with_reducible refine (F.out _).mono ?_); rintro e w1 ⟨rfl, h1⟩; have B1 := Lib.hid h1; clear h1) | (go_at_call 76; (with_reducible refine (G.out _).mono ?_); rintro e w2 ⟨rfl, h3⟩; have B2 := Lib.hid (belA B1.out h3); clear h3))
    go_ret
    exact ⟨by simp, B2.out⟩
  · clear hhi
    go_enter Tryz.func39, Tryz.ntmps39
    go_wp2_with (first | (go_at_call 75; (with_reducible refine (F.out _).mono ?_); rintro e w1 ⟨rfl, h1⟩; have B1 := Lib.hid h1; clear h1) | (go_at_call 76; (with_reducible refine (G.out _).mono ?_); rintro e w2 ⟨rfl, h3⟩; have B2 := Lib.hid (belA B1.out h3); clear h3))
    go_ret
    exact ⟨by simp, B2.out⟩
end Go.Proofs.YtllaeocclpaiaaaGreatDoor
