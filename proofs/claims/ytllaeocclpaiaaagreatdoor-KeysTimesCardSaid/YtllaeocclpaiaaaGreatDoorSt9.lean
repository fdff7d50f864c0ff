/- A job's number among its arguments; what refuses a command. -/
import Derived.Test.YtllaeocclpaiaaaGreatDoorSt8
import Derived.Test.YtllaeocclpaiaaaGreatDoorIn4
namespace Go.Proofs.YtllaeocclpaiaaaGreatDoor
open Go.ChangeShapes Go.WideShapes Go.ChangeAt Go.RowKit

/-- A slice of texts. -/
def SSl (w : World) (v : Value) (xs : List ByteArray) : Prop := ∃ A cap, v = .slice A xs.length cap ∧ xs.length ≤ cap ∧ cap ≤ maxLen ∧
  (xs ≠ [] → ∃ blk off, A = some ⟨blk, off, none⟩ ∧ blk < w.heap.size ∧ ∀ i s, xs[i]? = some s → w.cell? ⟨blk, off + i, none⟩ = some (.string s))
theorem SSl.below {w w' : World} {v : Value} {xs : List ByteArray} (h : SSl w v xs) (hb : Below w.heap.size w w') : SSl w' v xs := by
  obtain ⟨A, cap, h1, h2, h3, h4⟩ := h
  refine ⟨A, cap, h1, h2, h3, fun hne => ?_⟩
  obtain ⟨blk, off, h5, h6, h7⟩ := h4 hne
  have := Below.size hb
  exact ⟨blk, off, h5, by omega, fun i s hs => (hb.cell (p := ⟨blk, off + i, none⟩) h6).trans (h7 i s hs)⟩
set_option maxHeartbeats 2000000 in
theorem JInt_ok (j bS : Nat) (now : Int) (vA vl : Value) (xs : List ByteArray) (i : Nat) (t : ByteArray) (n : Int) (ht : t.size ≤ 100000) (hp : parseI t.data.toList = some n) (hi : xs[i]? = some t) (w : World) (hj : JB w j bS now vA vl) (hA : SSl w vA xs) :
    Calls Tryz.prog 51 #[.pointer (some ⟨j, 0, none⟩), .int .i64 i] w fun e w' => e = .returned (.int .i64 n) ∧ Below w.heap.size w w' := by
  have P := Lib.hid (fun w => show Calls Tryz.prog 80 #[.string t] w (fun e w' => e = .returned (.tuple #[.int .i64 n, .bool true]) ∧ Below w.heap.size w w') from by
    refine (Parse9 t (by omega) w).mono ?_
    rintro e w' ⟨rfl, m, rfl⟩
    rw [hp]
    exact ⟨rfl, below_drewN (Below.refl _ _) m⟩)
  obtain ⟨A, cap, rfl, p1, p2, p3⟩ := hA
  have hlt : i < xs.length := (List.getElem?_eq_some_iff.1 hi).1
  obtain ⟨blk, off, rfl, hb, hc⟩ := p3 (by intro e; rw [e] at hlt; simp at hlt)
  have d0 := hc i t hi
  obtain ⟨_, _, c2, _, _, hz⟩ := hj.cells
  unfold maxLen at p2
  have i1 : (i : Int) < (xs.length : Int) := by omega
  clear hj hc p3 hi hp
  go_enter Tryz.func51, Tryz.ntmps51
  go_wp2_with (first | (go_at_call 80; (with_reducible refine (P.out _).mono ?_); rintro e w1 ⟨rfl, h1⟩; have B1 := Lib.hid h1; clear h1))
  go_ret
  exact ⟨rfl, B1.out⟩
/-- What is thrown by a command that is refused. -/
def failV (n : Int) : Value := .iface 71 (.agg #[.int .i64 n])
theorem Fail69 (n : Int) (w : World) : Calls Tryz.prog 48 #[.int .i64 n] w fun e w' => e = .panicked [{ v := failV n, recovered := false }] ∧ Below w.heap.size w w' := by
  go_enter Tryz.func48, Tryz.ntmps48
  go_wp2
  exact ⟨rfl, rfl, Below.refl _ _⟩
set_option maxHeartbeats 2000000 in
theorem JInt_bad (j bS : Nat) (now : Int) (vA vl : Value) (xs : List ByteArray) (i : Nat) (t : ByteArray) (ht : t.size ≤ 100000) (hp : parseI t.data.toList = none) (hi : xs[i]? = some t) (w : World) (hj : JB w j bS now vA vl) (hA : SSl w vA xs) :
    Calls Tryz.prog 51 #[.pointer (some ⟨j, 0, none⟩), .int .i64 i] w fun e w' => e = .panicked [{ v := failV 4, recovered := false }] ∧ Below w.heap.size w w' := by
  have P := Lib.hid (fun w => show Calls Tryz.prog 80 #[.string t] w (fun e w' => e = .returned (.tuple #[.int .i64 0, .bool false]) ∧ Below w.heap.size w w') from by
    refine (Parse9 t (by omega) w).mono ?_
    rintro e w' ⟨rfl, m, rfl⟩
    rw [hp]
    exact ⟨rfl, below_drewN (Below.refl _ _) m⟩)
  have F := Lib.hid (fun w => Fail69 4 w)
  obtain ⟨A, cap, rfl, p1, p2, p3⟩ := hA
  have hlt : i < xs.length := (List.getElem?_eq_some_iff.1 hi).1
  obtain ⟨blk, off, rfl, hb, hc⟩ := p3 (by intro e; rw [e] at hlt; simp at hlt)
  have d0 := hc i t hi
  obtain ⟨_, _, c2, _, _, hz⟩ := hj.cells
  unfold maxLen at p2
  have i1 : (i : Int) < (xs.length : Int) := by omega
  clear hj hc p3 hi hp
  go_enter Tryz.func51, Tryz.ntmps51
  go_wp2_with (first | (go_at_call 80; (with_reducible refine (P.out _).mono ?_); rintro e w1 ⟨rfl, h1⟩; have B1 := Lib.hid h1; clear h1) | (go_at_call 48; (with_reducible refine (F.out _).mono ?_); rintro e w2 ⟨rfl, h2⟩; have B2 := Lib.hid h2; clear h2))
  exact ⟨rfl, rfl, belT B1.out B2.out⟩
end Go.Proofs.YtllaeocclpaiaaaGreatDoor
