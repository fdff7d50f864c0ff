/- command.Find at any row of the table. -/
import Derived.Test.YtllaeocclpaiaaaGreatDoorSt7
import Derived.Test.YtllaeocclpaiaaaGreatDoorSt10
namespace Go.Proofs.YtllaeocclpaiaaaGreatDoor
open Go.ChangeShapes Go.WideShapes Go.ChangeAt Go.RowKit

/-- A block of seven cells that is known whole. -/
theorem cells7 {X : World} {b : Nat} {a0 a1 a2 a3 a4 a5 a6 : Value} {t : TypeId} (h : X.heap[b]? = some (.cells #[a0, a1, a2, a3, a4, a5, a6] t)) :
    (X.cell? ⟨b, 0, none⟩ = some a0 ∧ X.cell? ⟨b, 1, none⟩ = some a1 ∧ X.cell? ⟨b, 2, none⟩ = some a2 ∧ X.cell? ⟨b, 3, none⟩ = some a3 ∧ X.cell? ⟨b, 4, none⟩ = some a4 ∧ X.cell? ⟨b, 5, none⟩ = some a5 ∧ X.cell? ⟨b, 6, none⟩ = some a6) ∧
    (X.frozen? ⟨b, 0, none⟩ = false ∧ X.frozen? ⟨b, 1, none⟩ = false ∧ X.frozen? ⟨b, 2, none⟩ = false ∧ X.frozen? ⟨b, 3, none⟩ = false ∧ X.frozen? ⟨b, 4, none⟩ = false ∧ X.frozen? ⟨b, 5, none⟩ = false ∧ X.frozen? ⟨b, 6, none⟩ = false) ∧ b < X.heap.size := by
  refine ⟨⟨?_, ?_, ?_, ?_, ?_, ?_, ?_⟩, ⟨?_, ?_, ?_, ?_, ?_, ?_, ?_⟩, (Array.getElem?_eq_some_iff.1 h).1⟩ <;> simp [World.cell?, World.frozen?, h]
def zero7 : Array Value := #[.string ⟨#[]⟩, .int .i64 0, .int .i64 0, .bool false, .int .i64 0, .int .i64 0, .int .i64 0]
theorem row_cells {X : World} {R : Nat} (h : X.heap[R]? = some (.cells CmdT.rowsC 112)) (k : Nat) (r : CmdT.Row) (hk : CmdT.rowsT[k]? = some r) (j : Nat) (v : Value) (hv : (CmdT.rowC r)[j]? = some v) : X.cell? ⟨R, k * 7 + j, none⟩ = some v := by
  have := CmdT.rows_at k j r v hk hv
  simp [World.cell?, h, this]
theorem name_at {k : Nat} {r : CmdT.Row} (h : CmdT.rowsT[k]? = some r) : CmdT.nameAt k = r.1 := by unfold CmdT.nameAt; rw [List.getD, h]; rfl
set_option maxHeartbeats 4000000 in
theorem Find_at (K : Nat) (raw b0 : ByteArray) (b1 b2 : Int) (b3 : Bool) (b4 b5 b6 : Int) (l0 : List UInt8) (hl0 : b0 = ⟨l0.toArray⟩) (hK : CmdT.rowsT[K]? = some (l0, b1, b2, b3, b4, b5, b6))
    (hu : ∀ w, Calls Tryz.prog 40 #[.string raw] w fun e w' => e = .returned (.string b0) ∧ Below w.heap.size w w') (w : World) :
    Calls Tryz.prog 75 #[.string raw] w fun e w' => e = .returned (.tuple #[.agg #[.string b0, .int .i64 b1, .int .i64 b2, .bool b3, .int .i64 b4, .int .i64 b5, .int .i64 b6], .bool true]) ∧ Below w.heap.size w w' := by
  have U := Lib.hid hu
  have R := Lib.hid (fun w => rows96 w)
  have HK := Lib.hid hK
  have HL := Lib.hid hl0
  have hKl : K < 82 := by have := (List.getElem?_eq_some_iff.1 hK).1; rw [CmdT.rowsT_len] at this; exact this
  have HKL := Lib.hid hKl
  clear hu hK hl0 hKl
  go_enter Tryz.func75, Tryz.ntmps75
  go_wp2_with (first | (go_at_call 40; (with_reducible refine (U.out _).mono ?_); rintro e w1 ⟨rfl, hb1⟩; have HB1 := Lib.hid hb1; clear hb1) | (go_at_call 89; (with_reducible refine (R.out _).mono ?_); rintro e w2 ⟨rfl, hw2⟩; refine Hid.out ?_))
  obtain ⟨RR, hR⟩ : ∃ R, w1.heap.size = R := ⟨_, rfl⟩
  rw [hR]
  have hz1 : w1.heap[w.heap.size]? = some (.cells zero7 112) := blk_below (W := w.alloc (.cells zero7 112)) (heap_alloc_new w _) HB1.out
  have hz2 : w2.heap[w.heap.size]? = some (.cells zero7 112) := by rw [← hw2]; exact blk_below hz1 alloc_old
  have hz3 : w2.heap[RR]? = some (.cells CmdT.rowsC 112) := by rw [← hw2, ← hR]; exact heap_alloc_new w1 _
  have hlt1 : w.heap.size < w1.heap.size := (Array.getElem?_eq_some_iff.1 hz1).1
  have hz4 : Below w.heap.size w w2 := by
    rw [← hw2]
    exact ((Below.alloc (Below.refl _ _) (Nat.le_refl _) _).trans (HB1.out.mono (by simp))).alloc (by omega) _
  have HZ := Lib.hid (And.intro hz2 (And.intro hz3 hz4))
  clear hz1 hz2 hz3 hz4 hw2 hR hlt1
  refine Lib.hid ?_
  go_wp2_with fail
  go_loopw [10] (fun i wr => ∃ k : Nat, k ≤ K ∧ i = .int .i64 k ∧ Hid (wr.heap[w.heap.size]? = some (.cells zero7 112) ∧ wr.heap[RR]? = some (.cells CmdT.rowsC 112) ∧ Below w.heap.size w wr)) (fun i _ => 82 - (intOf i).toNat)
  case atStart => exact ⟨0, by omega, rfl, HZ⟩
  case round =>
    obtain ⟨k, hk, rfl, HQ⟩ := hrel
    have hkl := HKL.out
    have ik : (k : Int) < 82 := by omega
    obtain ⟨⟨x, a1, a2, a3, a4, a5, a6⟩, hrow⟩ : ∃ r, CmdT.rowsT[k]? = some r := ⟨_, List.getElem?_eq_getElem (by rw [CmdT.rowsT_len]; omega)⟩
    have hc0 := row_cells HQ.out.2.1 k _ hrow 0 _ rfl
    have hc1 := row_cells HQ.out.2.1 k _ hrow 1 _ rfl
    have hc2 := row_cells HQ.out.2.1 k _ hrow 2 _ rfl
    have hc3 := row_cells HQ.out.2.1 k _ hrow 3 _ rfl
    have hc4 := row_cells HQ.out.2.1 k _ hrow 4 _ rfl
    have hc5 := row_cells HQ.out.2.1 k _ hrow 5 _ rfl
    have hc6 := row_cells HQ.out.2.1 k _ hrow 6 _ rfl
    rw [Nat.add_zero] at hc0
    obtain ⟨a0, ha0⟩ : ∃ a0 : ByteArray, (⟨x.toArray⟩ : ByteArray) = a0 := ⟨_, rfl⟩
    simp only [ha0] at hc0
    by_cases hlt : k < K
    · have hne : ¬ a0.toList = b0.toList := by
        rw [← ha0, HL.out, ByteArray.toList_mk, ByteArray.toList_mk]
        have h1 := CmdT.name_ne HKL.out hlt
        rw [name_at hrow, name_at HK.out] at h1
        exact beq_eq_false_iff_ne.1 h1
      have hne2 : (a0.toList == b0.toList) = false := beq_eq_false_iff_ne.2 hne
      clear hrow ha0
      go_wp2
      have hsz : w.heap.size ≤ wr.heap.size := Below.size HQ.out.2.2
      exact ⟨⟨k + 1, by omega, by go_num, Lib.hid ⟨blk_below HQ.out.1 alloc_old, blk_below HQ.out.2.1 alloc_old, HQ.out.2.2.trans (alloc_old.mono hsz)⟩⟩, by simp [intOf]; omega⟩
    · have hkK : k = K := by omega
      subst hkK
      have hq := hrow.symm.trans HK.out
      cases hq
      have ha1 : b0 = a0 := HL.out.trans ha0
      subst ha1
      obtain ⟨⟨d0, d1, d2, d3, d4, d5, d6⟩, ⟨g0, g1, g2, g3, g4, g5, g6⟩, zz⟩ := cells7 HQ.out.1
      have BB := Lib.hid HQ.out.2.2
      have hsz := Lib.hid (Below.size HQ.out.2.2)
      clear hrow ha0 hlt
      go_wp2
      exact bodyPost_ret (v := .tuple #[.agg #[.string b0, .int .i64 b1, .int .i64 b2, .bool b3, .int .i64 b4, .int .i64 b5, .int .i64 b6], .bool true]) (by simp [results, Tryz.results75, go_sem, d0, d1, d2, d3, d4, d5, d6, zz]) rfl ⟨rfl, ((((((((BB.out.setCell (Nat.le_refl _) _).setCell (Nat.le_refl _) _).setCell (Nat.le_refl _) _).setCell (Nat.le_refl _) _).setCell (Nat.le_refl _) _).setCell (Nat.le_refl _) _).setCell (Nat.le_refl _) _).alloc (by simp; omega) _)⟩
end Go.Proofs.YtllaeocclpaiaaaGreatDoor
