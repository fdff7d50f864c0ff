/- Contracts of command.Find and Fits, at GET. -/
import Derived.Test.YtnfflkappbjoeaaDoorSe5
import Derived.Test.YtnfflkappbjoeaaDoorSe6
namespace Go.Proofs.YtnfflkappbjoeaaDoor
open Go.ChangeShapes Go.WideShapes Go.ChangeAt Go.RowKit Go.Resp

def GET : ByteArray := ⟨#[71, 69, 84]⟩
/-- A block that is known whole. -/
def Blk (w : World) (g : Nat) (t : TypeId) (cs : Array Value) : Prop := w.heap[g]? = some (.cells cs t (0, 0))
theorem Blk.lt {w : World} {g : Nat} {t : TypeId} {cs : Array Value} (h : Blk w g t cs) : g < w.heap.size := lt_of_block h
theorem Blk.cell {w : World} {g : Nat} {t : TypeId} {cs : Array Value} (h : Blk w g t cs) (i : Nat) : w.cell? ⟨g, i, none⟩ = cs[i]? := cell_of_row w g i cs t (0, 0) h
theorem Blk.frozen {w : World} {g : Nat} {t : TypeId} {cs : Array Value} (h : Blk w g t cs) (i : Nat) : w.frozen? ⟨g, i, none⟩ = false := by unfold Blk at h; simp [World.frozen?, h]
theorem Blk.below {w w' : World} {g : Nat} {t : TypeId} {cs : Array Value} (h : Blk w g t cs) (hb : Below w.heap.size w w') : Blk w' g t cs := (hb.block g h.lt).trans h
def zero7 : Array Value := #[.string ⟨#[]⟩, .int .i64 0, .int .i64 0, .bool false, .int .i64 0, .int .i64 0, .int .i64 0]
theorem row_at (k : Nat) (hk : k < 15) : ∃ (nm : ByteArray) (a b : Int) (c : Bool) (d e f : Int), rowsC[k * 7]? = some (.string nm) ∧ rowsC[k * 7 + 1]? = some (.int .i64 a) ∧ rowsC[k * 7 + 2]? = some (.int .i64 b) ∧ rowsC[k * 7 + 3]? = some (.bool c) ∧
    rowsC[k * 7 + 4]? = some (.int .i64 d) ∧ rowsC[k * 7 + 5]? = some (.int .i64 e) ∧ rowsC[k * 7 + 6]? = some (.int .i64 f) ∧ (nm.toList == [71, 69, 84]) = decide (k = 14) := by
  have h : k = 0 ∨ k = 1 ∨ k = 2 ∨ k = 3 ∨ k = 4 ∨ k = 5 ∨ k = 6 ∨ k = 7 ∨ k = 8 ∨ k = 9 ∨ k = 10 ∨ k = 11 ∨ k = 12 ∨ k = 13 ∨ k = 14 := by omega
  rcases h with rfl | rfl | rfl | rfl | rfl | rfl | rfl | rfl | rfl | rfl | rfl | rfl | rfl | rfl | rfl
  · exact ⟨⟨#[68, 69, 76]⟩, 2, 0, true, 1, (-1), 1, by kernel_rfl, by kernel_rfl, by kernel_rfl, by kernel_rfl, by kernel_rfl, by kernel_rfl, by kernel_rfl, by kernel_rfl⟩
  · exact ⟨⟨#[69, 88, 73, 83, 84, 83]⟩, 2, 0, false, 1, (-1), 1, by kernel_rfl, by kernel_rfl, by kernel_rfl, by kernel_rfl, by kernel_rfl, by kernel_rfl, by kernel_rfl, by kernel_rfl⟩
  · exact ⟨⟨#[84, 89, 80, 69]⟩, 2, 2, false, 1, 1, 1, by kernel_rfl, by kernel_rfl, by kernel_rfl, by kernel_rfl, by kernel_rfl, by kernel_rfl, by kernel_rfl, by kernel_rfl⟩
  · exact ⟨⟨#[82, 69, 78, 65, 77, 69]⟩, 3, 3, true, 1, 2, 1, by kernel_rfl, by kernel_rfl, by kernel_rfl, by kernel_rfl, by kernel_rfl, by kernel_rfl, by kernel_rfl, by kernel_rfl⟩
  · exact ⟨⟨#[82, 69, 78, 65, 77, 69, 78, 88]⟩, 3, 3, true, 1, 2, 1, by kernel_rfl, by kernel_rfl, by kernel_rfl, by kernel_rfl, by kernel_rfl, by kernel_rfl, by kernel_rfl, by kernel_rfl⟩
  · exact ⟨⟨#[69, 88, 80, 73, 82, 69]⟩, 3, 3, true, 1, 1, 1, by kernel_rfl, by kernel_rfl, by kernel_rfl, by kernel_rfl, by kernel_rfl, by kernel_rfl, by kernel_rfl, by kernel_rfl⟩
  · exact ⟨⟨#[80, 69, 88, 80, 73, 82, 69]⟩, 3, 3, true, 1, 1, 1, by kernel_rfl, by kernel_rfl, by kernel_rfl, by kernel_rfl, by kernel_rfl, by kernel_rfl, by kernel_rfl, by kernel_rfl⟩
  · exact ⟨⟨#[80, 69, 88, 80, 73, 82, 69, 65, 84]⟩, 3, 3, true, 1, 1, 1, by kernel_rfl, by kernel_rfl, by kernel_rfl, by kernel_rfl, by kernel_rfl, by kernel_rfl, by kernel_rfl, by kernel_rfl⟩
  · exact ⟨⟨#[84, 84, 76]⟩, 2, 2, false, 1, 1, 1, by kernel_rfl, by kernel_rfl, by kernel_rfl, by kernel_rfl, by kernel_rfl, by kernel_rfl, by kernel_rfl, by kernel_rfl⟩
  · exact ⟨⟨#[80, 84, 84, 76]⟩, 2, 2, false, 1, 1, 1, by kernel_rfl, by kernel_rfl, by kernel_rfl, by kernel_rfl, by kernel_rfl, by kernel_rfl, by kernel_rfl, by kernel_rfl⟩
  · exact ⟨⟨#[80, 69, 82, 83, 73, 83, 84]⟩, 2, 2, true, 1, 1, 1, by kernel_rfl, by kernel_rfl, by kernel_rfl, by kernel_rfl, by kernel_rfl, by kernel_rfl, by kernel_rfl, by kernel_rfl⟩
  · exact ⟨⟨#[75, 69, 89, 83]⟩, 1, 1, false, 0, 0, 0, by kernel_rfl, by kernel_rfl, by kernel_rfl, by kernel_rfl, by kernel_rfl, by kernel_rfl, by kernel_rfl, by kernel_rfl⟩
  · exact ⟨⟨#[68, 66, 83, 73, 90, 69]⟩, 1, 1, false, 0, 0, 0, by kernel_rfl, by kernel_rfl, by kernel_rfl, by kernel_rfl, by kernel_rfl, by kernel_rfl, by kernel_rfl, by kernel_rfl⟩
  · exact ⟨⟨#[70, 76, 85, 83, 72, 65, 76, 76]⟩, 1, 1, true, 0, 0, 0, by kernel_rfl, by kernel_rfl, by kernel_rfl, by kernel_rfl, by kernel_rfl, by kernel_rfl, by kernel_rfl, by kernel_rfl⟩
  · exact ⟨⟨#[71, 69, 84]⟩, 2, 2, false, 1, 1, 1, by kernel_rfl, by kernel_rfl, by kernel_rfl, by kernel_rfl, by kernel_rfl, by kernel_rfl, by kernel_rfl, by kernel_rfl⟩
set_option maxHeartbeats 1000000 in
theorem Find_get (w : World) : Calls Tryd.prog 26 #[.string GET] w fun e w' => e = .returned (.tuple #[.agg #[.string GET, .int .i64 2, .int .i64 2, .bool false, .int .i64 1, .int .i64 1, .int .i64 1], .bool true]) ∧ Below w.heap.size w w' := by
  have U := Lib.hid (fun w => Upper23 GET (by decide) (by decide) w)
  have R := Lib.hid (fun w => rows24 w)
  have hb0 := Lib.hid (Below.refl w.heap.size w)
  unfold GET at *
  go_enter Tryd.func26, Tryd.ntmps26
  go_wp2_with (first | (go_at_call 29; (with_reducible refine (U.out _).mono ?_); rintro e w1 ⟨rfl, hb1⟩; have HB1 := Lib.hid hb1; clear hb1) | (go_at_call 30; (with_reducible refine (R.out _).mono ?_); rintro e w2 ⟨rfl, hw2⟩; refine Hid.out ?_))
  obtain ⟨R, hR⟩ : ∃ R, w1.heap.size = R := ⟨_, rfl⟩
  rw [hR]
  have hz1 : Blk w1 w.heap.size 60 zero7 := Blk.below (w := w.alloc (.cells zero7 60)) (heap_alloc_new w _) HB1.out
  have hz2 : Blk w2 w.heap.size 60 zero7 := by rw [← hw2]; exact hz1.below ((Below.refl _ _).alloc (Nat.le_refl _) _)
  have hz3 : Blk w2 R 60 rowsC := by rw [← hw2, ← hR]; exact heap_alloc_new w1 _
  have hz4 : Below w.heap.size w w2 := by
    rw [← hw2]
    exact ((Below.alloc (Below.refl _ _) (Nat.le_refl _) _).trans (HB1.out.mono (by simp))).alloc (by have := hz1.lt; omega) _
  have hz5 : w.heap.size < R := by rw [← hR]; exact hz1.lt
  have HZ := Lib.hid (And.intro hz2 (And.intro hz3 hz4))
  clear hz1 hz2 hz3 hz4 hw2 hR
  refine Lib.hid ?_
  go_wp2_with fail
  go_loopw [10] (fun i wr => ∃ k : Nat, k ≤ 14 ∧ i = .int .i64 k ∧ Hid (Blk wr w.heap.size 60 zero7 ∧ Blk wr R 60 rowsC ∧ Below w.heap.size w wr)) (fun i _ => 82 - (intOf i).toNat)
  case atStart => exact ⟨0, by omega, rfl, HZ⟩
  case round =>
    obtain ⟨k, hk, rfl, HQ⟩ := hrel
    obtain ⟨nm, a, b, c, d, e, f, r0, r1, r2, r3, r4, r5, r6, hnm⟩ := row_at k (by omega)
    have hc0 : wr.cell? ⟨R, k * 7, none⟩ = some (.string nm) := (HQ.out.2.1.cell _).trans r0
    have hc1 : wr.cell? ⟨R, k * 7 + 1, none⟩ = some (.int .i64 a) := (HQ.out.2.1.cell _).trans r1
    have hc2 : wr.cell? ⟨R, k * 7 + 2, none⟩ = some (.int .i64 b) := (HQ.out.2.1.cell _).trans r2
    have hc3 : wr.cell? ⟨R, k * 7 + 3, none⟩ = some (.bool c) := (HQ.out.2.1.cell _).trans r3
    have hc4 : wr.cell? ⟨R, k * 7 + 4, none⟩ = some (.int .i64 d) := (HQ.out.2.1.cell _).trans r4
    have hc5 : wr.cell? ⟨R, k * 7 + 5, none⟩ = some (.int .i64 e) := (HQ.out.2.1.cell _).trans r5
    have hc6 : wr.cell? ⟨R, k * 7 + 6, none⟩ = some (.int .i64 f) := (HQ.out.2.1.cell _).trans r6
    clear r0 r1 r2 r3 r4 r5 r6
    by_cases hlt : k < 14
    · rw [show decide (k = 14) = false by simp; omega] at hnm
      go_wp2
      have hal : ∀ o, Below wr.heap.size wr (wr.alloc o) := fun o => (Below.refl _ _).alloc (Nat.le_refl _) _
      exact ⟨⟨k + 1, by omega, by go_num, Lib.hid ⟨HQ.out.1.below (hal _), HQ.out.2.1.below (hal _), HQ.out.2.2.trans ((hal _).mono (by have := HQ.out.1.lt; omega))⟩⟩, by simp [intOf]; omega⟩
    · obtain rfl : k = 14 := by omega
      clear hc0 hc1 hc2 hc3 hc4 hc5 hc6 hnm
      have hlw : w.heap.size < wr.heap.size := HQ.out.1.lt
      have y0 : wr.cell? ⟨R, 98, none⟩ = some (.string ⟨#[71, 69, 84]⟩) := (HQ.out.2.1.cell 98).trans (by kernel_rfl)
      have y1 : wr.cell? ⟨R, 99, none⟩ = some (.int .i64 2) := (HQ.out.2.1.cell 99).trans (by kernel_rfl)
      have y2 : wr.cell? ⟨R, 100, none⟩ = some (.int .i64 2) := (HQ.out.2.1.cell 100).trans (by kernel_rfl)
      have y3 : wr.cell? ⟨R, 101, none⟩ = some (.bool false) := (HQ.out.2.1.cell 101).trans (by kernel_rfl)
      have y4 : wr.cell? ⟨R, 102, none⟩ = some (.int .i64 1) := (HQ.out.2.1.cell 102).trans (by kernel_rfl)
      have y5 : wr.cell? ⟨R, 103, none⟩ = some (.int .i64 1) := (HQ.out.2.1.cell 103).trans (by kernel_rfl)
      have y6 : wr.cell? ⟨R, 104, none⟩ = some (.int .i64 1) := (HQ.out.2.1.cell 104).trans (by kernel_rfl)
      have z0 := HQ.out.1.cell 0
      have z1 := HQ.out.1.cell 1
      have z2 := HQ.out.1.cell 2
      have z3 := HQ.out.1.cell 3
      have z4 := HQ.out.1.cell 4
      have z5 := HQ.out.1.cell 5
      have z6 := HQ.out.1.cell 6
      have f0 := HQ.out.1.frozen 0
      have f1 := HQ.out.1.frozen 1
      have f2 := HQ.out.1.frozen 2
      have f3 := HQ.out.1.frozen 3
      have f4 := HQ.out.1.frozen 4
      have f5 := HQ.out.1.frozen 5
      have f6 := HQ.out.1.frozen 6
      simp only [zero7, List.getElem?_toArray, List.getElem?_cons_zero, List.getElem?_cons_succ] at z0 z1 z2 z3 z4 z5 z6
      go_wp2
      refine bodyPost_ret (v := .tuple #[.agg #[.string ⟨#[71, 69, 84]⟩, .int .i64 2, .int .i64 2, .bool false, .int .i64 1, .int .i64 1, .int .i64 1], .bool true]) (by simp [results, Tryd.results26, go_sem, z0, z1, z2, z3, z4, z5, z6, hlw]) rfl ⟨rfl, ?_⟩
      refine Below.alloc ?_ (by simp; omega) _
      exact ((((((HQ.out.2.2.setCell (Nat.le_refl _) _).setCell (Nat.le_refl _) _).setCell (Nat.le_refl _) _).setCell (Nat.le_refl _) _).setCell (Nat.le_refl _) _).setCell (Nat.le_refl _) _).setCell (Nat.le_refl _) _
theorem Fits_get (A : Addr) (v : Value) (n cap : Nat) (hn : n = 2) (w : World) (hv : v = .slice (some ⟨A.block, A.off, none⟩) n cap) (h0 : w.cell? ⟨A.block, A.off, none⟩ = some (.string GET)) :
    Calls Tryd.prog 21 #[v] w fun e w' => e = .returned (.int .i64 0) ∧ Below w.heap.size w w' := by
  subst hv hn
  have F := Lib.hid (fun w => Find_get w)
  have G := Lib.hid (fun w => groups21 w)
  have hb0 := Lib.hid (Below.refl w.heap.size w)
  unfold GET at *
  go_enter Tryd.func21, Tryd.ntmps21
  go_wp2_with (first | (go_at_call 26; (with_reducible refine (F.out _).mono ?_); rintro e w1 ⟨rfl, hb1⟩; have HB1 := Lib.hid hb1; clear hb1) | (go_at_call 27; (with_reducible refine (G.out _).mono ?_); rintro e w2 ⟨rfl, rfl⟩))
  go_ret
  exact ⟨by simp, HB1.out.alloc (HB1.out.size) _⟩
theorem Fits_one (A : Addr) (v : Value) (n cap : Nat) (hn : n = 1) (w : World) (hv : v = .slice (some ⟨A.block, A.off, none⟩) n cap) (h0 : w.cell? ⟨A.block, A.off, none⟩ = some (.string GET)) :
    Calls Tryd.prog 21 #[v] w fun e w' => e = .returned (.int .i64 2) ∧ Below w.heap.size w w' := by
  subst hv hn
  have F := Lib.hid (fun w => Find_get w)
  have hb0 := Lib.hid (Below.refl w.heap.size w)
  unfold GET at *
  go_enter Tryd.func21, Tryd.ntmps21
  go_wp2_with (first | (go_at_call 26; (with_reducible refine (F.out _).mono ?_); rintro e w1 ⟨rfl, hb1⟩; have HB1 := Lib.hid hb1; clear hb1))
  go_ret
  exact ⟨by simp, HB1.out.alloc (HB1.out.size) _⟩
end Go.Proofs.YtnfflkappbjoeaaDoor
