/- Texts joined: S4, S5 -/
import Derived.Test.YticlacjpgjkhcaaGreatDoorQs16
import Derived.Test.YticlacjpgjkhcaaGreatDoorQs17
import Derived.Lib.Bytealg
import Derived.Shelf.Spec.TrailingZeros
import Derived.Lib.LaidTab
import Derived.BigQuiet
import Derived.Deep.MidRow
import Derived.Deep.RegionHeld3
set_option linter.unusedVariables false
set_option linter.unusedSimpArgs false

/- Two scores held against each other; trailing zeros of a number. -/
namespace Go.Proofs.YticlacjpgjkhcaaGreatDoor
open Go.ChangeShapes Go.WideShapes Go.ChangeAt Go.RowKit

theorem zcb_lt : ∀ (a b : List UInt8), Lib.compareBytes a b < 0 ↔ a < b
  | [], [] => by simp [Lib.compareBytes]
  | [], y :: b => by simp [Lib.compareBytes]
  | x :: a, [] => by simp [Lib.compareBytes]
  | x :: a, y :: b => by
    unfold Lib.compareBytes
    rw [List.cons_lt_cons_iff]
    by_cases h1 : x < y
    · simp [h1]
    · by_cases h2 : y < x
      · have : x ≠ y := fun e => by subst e; exact UInt8.lt_irrefl x h2
        simp [h1, h2, this]
      · have : x = y := UInt8.le_antisymm (UInt8.not_lt.1 h2) (UInt8.not_lt.1 h1)
        subst this
        simp [UInt8.lt_irrefl, zcb_lt a b]
theorem cells2z {X : World} {b : Nat} {a0 a1 : Value} {t : TypeId} (h : X.heap[b]? = some (.cells #[a0, a1] t)) : X.cell? ⟨b, 0, none⟩ = some a0 ∧ X.cell? ⟨b, 1, none⟩ = some a1 := by
  constructor
  · rw [cell_of_row _ b _ _ t (0, 0) h]; rfl
  · rw [cell_of_row _ b _ _ t (0, 0) h]; rfl
def cmpZ (x y : Int) : Int := if x < y then -1 else if y < x then 1 else 0
def ordZ (a b : ByteArray × Int) : Int := if cmpZ a.2 b.2 = 0 then Lib.compareBytes a.1.data.toList b.1.data.toList else cmpZ a.2 b.2
theorem ordZ_lt (a b : ByteArray × Int) : ordZ a b < 0 ↔ ltZ a b = true := by
  rw [ltZ_iff]
  unfold ordZ cmpZ
  by_cases h1 : a.2 < b.2
  · simp [h1]
  · by_cases h2 : b.2 < a.2
    · simp only [h1, h2, if_true, if_false]
      constructor
      · intro h; simp at h
      · rintro (h | ⟨h, _⟩)
        · exact absurd h (by decide)
        · omega
    · have e : a.2 = b.2 := by omega
      simp only [h1, h2, if_false, if_true]
      rw [zcb_lt]
      constructor
      · intro h; exact .inr ⟨e, h⟩
      · rintro (h | ⟨_, h⟩)
        · exact absurd h (by decide)
        · exact h
set_option maxRecDepth 100000 in
set_option maxHeartbeats 4000000 in
theorem nan64 (x : Int) (w : World) : Calls Tryz.prog 247 #[.int .i64 x] w fun e w' => e = .returned (.bool false) ∧ w' = w := by
  go_enter Tryz.func247, Tryz.ntmps247
  go_wp2
  go_ret
  exact ⟨by simp, rfl⟩
set_option maxRecDepth 100000 in
set_option maxHeartbeats 4000000 in
theorem cmp64 (x y : Int) (w : World) : Calls Tryz.prog 239 #[.int .i64 x, .int .i64 y] w fun e w' => e = .returned (.int .i64 (cmpZ x y)) ∧ w' = w := by
  have NN := Lib.hid (fun x X => nan64 x X)
  unfold cmpZ
  by_cases h1 : x < y
  · rw [if_pos h1]
    go_enter Tryz.func239, Tryz.ntmps239
    go_wp2_with (first | (go_at_call 247; (with_reducible refine (NN.out _ _).mono ?_); rintro e w2 ⟨rfl, rfl⟩))
    go_ret
    exact ⟨rfl, rfl⟩
  · rw [if_neg h1]
    by_cases h2 : y < x
    · rw [if_pos h2]
      go_enter Tryz.func239, Tryz.ntmps239
      go_wp2_with (first | (go_at_call 247; (with_reducible refine (NN.out _ _).mono ?_); rintro e w2 ⟨rfl, rfl⟩))
      go_ret
      exact ⟨rfl, rfl⟩
    · rw [if_neg h2]
      go_enter Tryz.func239, Tryz.ntmps239
      go_wp2_with (first | (go_at_call 247; (with_reducible refine (NN.out _ _).mono ?_); rintro e w2 ⟨rfl, rfl⟩))
      go_ret
      exact ⟨rfl, rfl⟩
set_option maxRecDepth 100000 in
set_option maxHeartbeats 4000000 in
theorem or2 (b : Nat) (r1 r2 : Int) (w : World) (h : w.heap[b]? = some (.cells #[.int .i64 r1, .int .i64 r2] 3)) : Calls Tryz.prog 238 #[.slice (some ⟨b, 0, none⟩) 2 2] w fun e w' => e = .returned (.int .i64 (if r1 = 0 then r2 else r1)) ∧ w' = w := by
  obtain ⟨c0, c1⟩ := cells2z h
  obtain ⟨R, hR⟩ : ∃ R, (if r1 = 0 then r2 else r1) = R := ⟨_, rfl⟩
  rw [hR]
  have HR := Lib.hid hR
  clear hR
  go_enter Tryz.func238, Tryz.ntmps238
  go_wp2
  go_loopw [8] (fun iv wr => ∃ i : Nat, i ≤ 2 ∧ iv = .int .i64 i ∧ Hid (wr = w ∧ (1 ≤ i → r1 = 0) ∧ (2 ≤ i → r2 = 0))) (fun iv _ => 2 - (intOf iv).toNat)
  case atStart => exact ⟨0, by omega, rfl, Lib.hid ⟨rfl, by omega, by omega⟩⟩
  case round =>
    obtain ⟨i, hi, rfl, HQ⟩ := hrel
    obtain ⟨rfl, h1, h2⟩ := HQ.out
    rcases (show i = 0 ∨ i = 1 ∨ i = 2 by omega) with rfl | rfl | rfl
    · by_cases hz : r1 = 0
      · subst hz
        go_wp2
        exact ⟨⟨1, by omega, by go_num, Lib.hid (by refine ⟨?_, ?_, ?_⟩ <;> first | trivial | rfl | omega | simp)⟩, by simp [intOf]⟩
      · have hn : (r1 != 0) = true := by simpa using hz
        have HR2 := Lib.hid (HR.out.symm.trans (if_neg hz))
        clear h1 h2
        go_wp2
        go_ret
        exact ⟨(congrArg (fun x => Ending.returned (Value.int .i64 x)) HR2.out).symm, rfl⟩
    · have hr1 := h1 (by omega)
      subst hr1
      by_cases hz : r2 = 0
      · subst hz
        go_wp2
        exact ⟨⟨2, by omega, by go_num, Lib.hid (by refine ⟨?_, ?_, ?_⟩ <;> first | trivial | rfl | omega | simp)⟩, by simp [intOf]⟩
      · have hn : (r2 != 0) = true := by simpa using hz
        have HR2 := Lib.hid (HR.out.symm.trans (if_pos rfl))
        clear h1 h2
        go_wp2
        go_ret
        exact ⟨(congrArg (fun x => Ending.returned (Value.int .i64 x)) HR2.out).symm, rfl⟩
    · have HR2 := Lib.hid (HR.out.symm.trans ((if_pos (h1 (by omega))).trans (h2 (by omega))))
      clear h1 h2
      go_wp2
      go_ret
      exact ⟨(congrArg (fun x => Ending.returned (Value.int .i64 x)) HR2.out).symm, rfl⟩
set_option maxRecDepth 100000 in
set_option maxHeartbeats 8000000 in
/-- skip.order. -/
theorem order_any (a b : ByteArray × Int) (w : World) : Calls Tryz.prog 214 #[.agg #[.string a.1, .int .i64 a.2], .agg #[.string b.1, .int .i64 b.2]] w fun e w' => e = .returned (.int .i64 (ordZ a b)) ∧ Below w.heap.size w w' := by
  have CM := fun X => cmp64 a.2 b.2 X
  have SC := fun X => Tryz.strings_Compare a.1 b.1 X
  unfold ordZ
  obtain ⟨r1, hr1⟩ : ∃ r1, cmpZ a.2 b.2 = r1 := ⟨_, rfl⟩
  obtain ⟨r2, hr2⟩ : ∃ r2, Lib.compareBytes a.1.data.toList b.1.data.toList = r2 := ⟨_, rfl⟩
  simp only [hr1] at CM
  simp only [hr2] at SC
  rw [hr1, hr2]
  clear hr1 hr2
  obtain ⟨r, hr⟩ : ∃ r, (if r1 = 0 then r2 else r1) = r := ⟨_, rfl⟩
  rw [hr]
  have CM := Lib.hid CM
  have SC := Lib.hid SC
  have OR := Lib.hid (fun b r1 r2 X h => or2 b r1 r2 X h)
  have hB : Below w.heap.size w ((w.alloc (.cells #[.string a.1, .int .i64 a.2] 52)).alloc (.cells #[.string b.1, .int .i64 b.2] 52)) := alloc_old.trans (alloc_old.mono (by simp))
  have hA := blk_below (heap_alloc_new w (.cells #[.string a.1, .int .i64 a.2] 52)) (alloc_old (o := .cells #[.string b.1, .int .i64 b.2] 52))
  have hb := heap2L (o := .cells #[.string a.1, .int .i64 a.2] 52) w (.cells #[.string b.1, .int .i64 b.2] 52)
  go_enter Tryz.func214, Tryz.ntmps214
  go_wp2
  generalize ((w.alloc (.cells #[.string a.1, .int .i64 a.2] 52)).alloc (.cells #[.string b.1, .int .i64 b.2] 52)) = W at hB hA hb ⊢
  have HB := Lib.hid hB
  have SX := Lib.hid (show ∀ Y, Below W.heap.size W Y → (Y.cell? ⟨w.heap.size, 0, none⟩ = some (.string a.1) ∧ Y.cell? ⟨w.heap.size, 1, none⟩ = some (.int .i64 a.2) ∧ Y.cell? ⟨w.heap.size + 1, 0, none⟩ = some (.string b.1) ∧ Y.cell? ⟨w.heap.size + 1, 1, none⟩ = some (.int .i64 b.2)) from fun Y hY => by
    obtain ⟨e0, e1⟩ := cells2z (blk_below hA hY)
    obtain ⟨f0, f1⟩ := cells2z (blk_below hb hY)
    exact ⟨e0, e1, f0, f1⟩)
  have S0 := SX.out W.drew (Below.refl _ _).drew
  have S2 := Lib.hid (SX.out _ ((alloc_old (w := W) (o := .cells #[.int .i64 r1, .int .i64 r2] 3)).drew))
  have O2 := OR.out W.heap.size r1 r2 (W.alloc (.cells #[.int .i64 r1, .int .i64 r2] 3)).drew (heap_alloc_new W _)
  rw [hr] at O2
  have O2 := Lib.hid O2
  clear hr
  have B2 := Lib.hid ((alloc_old (w := W) (o := .cells #[.int .i64 r1, .int .i64 r2] 3)).drew)
  clear hA hb hB
  go_region_held3 (fun X => X.cell? ⟨w.heap.size, 0, none⟩ = some (.string a.1) ∧ X.cell? ⟨w.heap.size, 1, none⟩ = some (.int .i64 a.2) ∧ X.cell? ⟨w.heap.size + 1, 0, none⟩ = some (.string b.1) ∧ X.cell? ⟨w.heap.size + 1, 1, none⟩ = some (.int .i64 b.2)) (first | (with_reducible exact S0) | (with_reducible exact S2.out))
    (first | (go_at_call 239; (with_reducible refine (CM.out _).mono ?_); rintro e w2 ⟨rfl, rfl⟩) | (go_at_call 158; (with_reducible refine (SC.out _).mono ?_); rintro e w2 ⟨rfl, rfl⟩) | (go_at_call 238; (with_reducible refine (O2.out).mono ?_); rintro e w2 ⟨rfl, rfl⟩))
  all_goals (
    go_wp2
    go_ret
    exact ⟨rfl, HB.out.trans (B2.out.mono (Below.size HB.out))⟩)
end Go.Proofs.YticlacjpgjkhcaaGreatDoor

/- A skip list: the last nodes ahead of a score. -/
namespace Go.Proofs.YticlacjpgjkhcaaGreatDoor
open Go.ChangeShapes Go.WideShapes Go.ChangeAt Go.RowKit

/-- The call's own memory while it goes down. -/
def AhI (w wr : World) (x : ByteArray × Int) (N : List Nd) (kk : Nat) : Prop := Below w.heap.size w wr ∧ wr.heap[w.heap.size]? = some (.cells #[.string x.1, .int .i64 x.2] 52) ∧ wr.heap[w.heap.size + 1]? = some (.cells #[.pointer none, .pointer none, .pointer none, .pointer none, .pointer none, .pointer none, .pointer none, .pointer none, .pointer none, .pointer none, .pointer none, .pointer none, .pointer none, .pointer none, .pointer none, .pointer none, .pointer none, .pointer none, .pointer none, .pointer none] 200) ∧ wr.heap[w.heap.size + 2]? = some (.cells #[.int .i64 0, .int .i64 0, .int .i64 0, .int .i64 0, .int .i64 0, .int .i64 0, .int .i64 0, .int .i64 0, .int .i64 0, .int .i64 0, .int .i64 0, .int .i64 0, .int .i64 0, .int .i64 0, .int .i64 0, .int .i64 0, .int .i64 0, .int .i64 0, .int .i64 0, .int .i64 0] 201) ∧ ∃ la ra, wr.heap[w.heap.size + 3]? = some (.cells la 200) ∧ la.size = 20 ∧ wr.heap[w.heap.size + 4]? = some (.cells ra 201) ∧ ra.size = 20 ∧ ∀ j, kk ≤ j → j < 20 → ∃ y n, la[j]? = some (ptrN (some y)) ∧ ra[j]? = some (.int .i64 (n : Nat)) ∧ Last j N y n
theorem AhI.below {w wr wx : World} {x : ByteArray × Int} {N : List Nd} {kk : Nat} (h : AhI w wr x N kk) (hb : Below wr.heap.size wr wx) : AhI w wx x N kk := by
  obtain ⟨h1, h2, h3, h4, la, ra, h5, h6, h7, h8, h9⟩ := h
  exact ⟨h1.trans (hb.mono (Below.size h1)), blk_below h2 hb, blk_below h3 hb, blk_below h4 hb, la, ra, blk_below h5 hb, h6, blk_below h7 hb, h8, h9⟩
/-- One level is done. -/
theorem AhI.step {w wr : World} {x : ByteArray × Int} {N : List Nd} {k : Nat} (h : AhI w wr x N (k + 1)) (hk : k < 20) (y : Nd) (n : Nat) (hl : Last k N y n) : AhI w ((wr.setCell ⟨w.heap.size + 3, k, none⟩ (.pointer (some ⟨y.a, 0, none⟩))).setCell ⟨w.heap.size + 4, k, none⟩ (.int .i64 (n : Nat))) x N k := by
  obtain ⟨h1, h2, h3, h4, la, ra, h5, h6, h7, h8, h9⟩ := h
  have o1 : ∀ i, i ≠ w.heap.size + 3 → i ≠ w.heap.size + 4 → ((wr.setCell ⟨w.heap.size + 3, k, none⟩ (.pointer (some ⟨y.a, 0, none⟩))).setCell ⟨w.heap.size + 4, k, none⟩ (.int .i64 (n : Nat))).heap[i]? = wr.heap[i]? := fun i hi hj => by
    rw [Below.heap_setCell _ ⟨w.heap.size + 4, k, none⟩ _ i hj, Below.heap_setCell _ ⟨w.heap.size + 3, k, none⟩ _ i hi]
  refine ⟨(h1.setCell (p := ⟨w.heap.size + 3, k, none⟩) (by show _ ≤ w.heap.size + 3; omega) _).setCell (p := ⟨w.heap.size + 4, k, none⟩) (by show _ ≤ w.heap.size + 4; omega) _, (o1 _ (by omega) (by omega)).trans h2, (o1 _ (by omega) (by omega)).trans h3, (o1 _ (by omega) (by omega)).trans h4, la.setIfInBounds k (.pointer (some ⟨y.a, 0, none⟩)), ra.setIfInBounds k (.int .i64 (n : Nat)), ?_, by simpa using h6, ?_, by simpa using h8, fun j hj hj2 => ?_⟩
  · rw [Below.heap_setCell _ ⟨w.heap.size + 4, k, none⟩ _ _ (show w.heap.size + 3 ≠ w.heap.size + 4 by omega)]
    exact set_cells h5
  · exact set_cells ((Below.heap_setCell _ ⟨w.heap.size + 3, k, none⟩ _ _ (show w.heap.size + 4 ≠ w.heap.size + 3 by omega)).trans h7)
  · by_cases e : j = k
    · subst e
      exact ⟨y, n, by rw [Array.getElem?_setIfInBounds_self_of_lt (by omega)]; rfl, by rw [Array.getElem?_setIfInBounds_self_of_lt (by omega)], hl⟩
    · obtain ⟨z, m, g1, g2, g3⟩ := h9 j (by omega) hj2
      exact ⟨z, m, by rw [Array.getElem?_setIfInBounds_ne (by omega)]; exact g1, by rw [Array.getElem?_setIfInBounds_ne (by omega)]; exact g2, g3⟩
/-- What comes back: on each level the last node ahead, and its rank. -/
def ArL (N : List Nd) (LA RA : Array Value) : Prop := LA.size = 20 ∧ RA.size = 20 ∧ ∀ j, j < 20 → ∃ y n, LA[j]? = some (.pointer (some ⟨y.a, 0, none⟩)) ∧ RA[j]? = some (.int .i64 (n : Nat)) ∧ Last j N y n
theorem ArL.one {N : List Nd} {LA RA : Array Value} (h : ArL N LA RA) : LA.all (·.oneCell') = true ∧ RA.all (·.oneCell') = true := by
  obtain ⟨h1, h2, h3⟩ := h
  constructor
  · refine Array.all_eq_true.2 fun i hi => ?_
    obtain ⟨y, n, g1, _, _⟩ := h3 i (by omega)
    obtain ⟨_, g⟩ := Array.getElem?_eq_some_iff.1 g1
    rw [g]
    rfl
  · refine Array.all_eq_true.2 fun i hi => ?_
    obtain ⟨y, n, _, g1, _⟩ := h3 i (by omega)
    obtain ⟨_, g⟩ := Array.getElem?_eq_some_iff.1 g1
    rw [g]
    rfl
theorem zbelow_cells {c b : Nat} (hb : c ≤ b) : ∀ (vs : List Value) (o : Nat) {w : World} (X : World), Below c w X → Below c w (X.setCells b o vs)
  | [], _, _, _, h => h
  | v :: r, o, _, X, h => zbelow_cells hb r (o + 1) _ (h.setCell (p := ⟨b, o, none⟩) hb v)
theorem res2 {fn : Func} {tmps : Array Value} {a1 a2 : Nat} {t1 t2 : TypeId} {p1 p2 : Addr} {v1 v2 : Value} {X : World} (h : fn.results = #[.cell a1 t1, .cell a2 t2]) (h1 : tmps.getD a1 undef = .pointer (some p1)) (h2 : tmps.getD a2 undef = .pointer (some p2)) (l1 : (loadVar t1 p1).run Tryz.prog X = .ok v1 X) (l2 : (loadVar t2 p2).run Tryz.prog X = .ok v2 X) : (results fn tmps).run Tryz.prog X = .ok (.tuple #[v1, v2]) X := by
  unfold results
  rw [h]
  simp only [List.mapM_toArray, List.mapM_cons, List.mapM_nil, h1, h2, asAddr, pure_bind, Sem.run_bind, Sem.run_map, Sem.run_pure, l1, l2, Result.andThen_ok]
  rfl
theorem ptr_cell {w : World} {c : Nat} {y : Nd} (h : NdIn w c y) : w.cell? ⟨y.a, 0, none⟩ = some (.string y.name) ∧ w.cell? ⟨y.a, 1, none⟩ = some (.int .i64 y.score) ∧ w.cell? ⟨y.a, 2, none⟩ = some (.slice (some ⟨y.nx, 0, none⟩) y.h y.h) ∧ w.cell? ⟨y.a, 3, none⟩ = some (.slice (some ⟨y.wd, 0, none⟩) y.h y.h) := (cells4 h.blk).1
set_option maxRecDepth 100000 in
set_option maxHeartbeats 8000000 in
theorem ahead_any (c sp bM : Nat) (hd : Nd) (L A B : List Nd) (made high : Int) (x : ByteArray × Int) (w : World) (hs : w.heap[sp]? = some (.cells #[.pointer (some ⟨hd.a, 0, none⟩), .map (some bM), .int .u64 made, .int .i64 high] 197)) (h : SKm w c hd L) (hL : L = A ++ B) (hlen : L.length ≤ 1000000) (hA : ∀ y ∈ A, ltZ (y.name, y.score) x = true) (hB : ∀ y ∈ B, ltZ (y.name, y.score) x = false) : Calls Tryz.prog 179 #[.pointer (some ⟨sp, 0, none⟩), .agg #[.string x.1, .int .i64 x.2]] w fun e w' => ∃ LA RA : Array Value, e = .returned (.tuple #[.agg LA, .agg RA]) ∧ ArL (hd :: A) LA RA ∧ Below w.heap.size w w' := by
  obtain ⟨W, hW⟩ : ∃ W, ((((w.alloc (.cells #[.string x.1, .int .i64 x.2] 52)).alloc (.cells #[.pointer none, .pointer none, .pointer none, .pointer none, .pointer none, .pointer none, .pointer none, .pointer none, .pointer none, .pointer none, .pointer none, .pointer none, .pointer none, .pointer none, .pointer none, .pointer none, .pointer none, .pointer none, .pointer none, .pointer none] 200)).alloc (.cells #[.int .i64 0, .int .i64 0, .int .i64 0, .int .i64 0, .int .i64 0, .int .i64 0, .int .i64 0, .int .i64 0, .int .i64 0, .int .i64 0, .int .i64 0, .int .i64 0, .int .i64 0, .int .i64 0, .int .i64 0, .int .i64 0, .int .i64 0, .int .i64 0, .int .i64 0, .int .i64 0] 201)).alloc (.cells #[.pointer none, .pointer none, .pointer none, .pointer none, .pointer none, .pointer none, .pointer none, .pointer none, .pointer none, .pointer none, .pointer none, .pointer none, .pointer none, .pointer none, .pointer none, .pointer none, .pointer none, .pointer none, .pointer none, .pointer none] 200)).alloc (.cells #[.int .i64 0, .int .i64 0, .int .i64 0, .int .i64 0, .int .i64 0, .int .i64 0, .int .i64 0, .int .i64 0, .int .i64 0, .int .i64 0, .int .i64 0, .int .i64 0, .int .i64 0, .int .i64 0, .int .i64 0, .int .i64 0, .int .i64 0, .int .i64 0, .int .i64 0, .int .i64 0] 201) = W := ⟨_, rfl⟩
  have hBW : Below w.heap.size w W := by
    rw [← hW]
    exact (((alloc_old.trans (alloc_old.mono (by simp))).trans (alloc_old.mono (by simp; omega))).trans (alloc_old.mono (by simp; omega))).trans (alloc_old.mono (by simp; omega))
  have hI : AhI w W x (hd :: A) 20 := by
    refine ⟨hBW, ?_, ?_, ?_, #[.pointer none, .pointer none, .pointer none, .pointer none, .pointer none, .pointer none, .pointer none, .pointer none, .pointer none, .pointer none, .pointer none, .pointer none, .pointer none, .pointer none, .pointer none, .pointer none, .pointer none, .pointer none, .pointer none, .pointer none], #[.int .i64 0, .int .i64 0, .int .i64 0, .int .i64 0, .int .i64 0, .int .i64 0, .int .i64 0, .int .i64 0, .int .i64 0, .int .i64 0, .int .i64 0, .int .i64 0, .int .i64 0, .int .i64 0, .int .i64 0, .int .i64 0, .int .i64 0, .int .i64 0, .int .i64 0, .int .i64 0], ?_, rfl, ?_, rfl, fun j h1 h2 => by omega⟩ <;> rw [← hW]
    · exact blk_below (blk_below (blk_below (blk_below (heap_alloc_new w _) alloc_old) alloc_old) alloc_old) alloc_old
    · exact blk_below (blk_below (blk_below (heap2L w _) alloc_old) alloc_old) alloc_old
    · exact blk_below (blk_below (show (((w.alloc (.cells #[.string x.1, .int .i64 x.2] 52)).alloc (.cells #[.pointer none, .pointer none, .pointer none, .pointer none, .pointer none, .pointer none, .pointer none, .pointer none, .pointer none, .pointer none, .pointer none, .pointer none, .pointer none, .pointer none, .pointer none, .pointer none, .pointer none, .pointer none, .pointer none, .pointer none] 200)).alloc (.cells #[.int .i64 0, .int .i64 0, .int .i64 0, .int .i64 0, .int .i64 0, .int .i64 0, .int .i64 0, .int .i64 0, .int .i64 0, .int .i64 0, .int .i64 0, .int .i64 0, .int .i64 0, .int .i64 0, .int .i64 0, .int .i64 0, .int .i64 0, .int .i64 0, .int .i64 0, .int .i64 0] 201)).heap[w.heap.size + 2]? = _ by have := heap_alloc_new ((w.alloc (.cells #[.string x.1, .int .i64 x.2] 52)).alloc (.cells #[.pointer none, .pointer none, .pointer none, .pointer none, .pointer none, .pointer none, .pointer none, .pointer none, .pointer none, .pointer none, .pointer none, .pointer none, .pointer none, .pointer none, .pointer none, .pointer none, .pointer none, .pointer none, .pointer none, .pointer none] 200)) (.cells #[.int .i64 0, .int .i64 0, .int .i64 0, .int .i64 0, .int .i64 0, .int .i64 0, .int .i64 0, .int .i64 0, .int .i64 0, .int .i64 0, .int .i64 0, .int .i64 0, .int .i64 0, .int .i64 0, .int .i64 0, .int .i64 0, .int .i64 0, .int .i64 0, .int .i64 0, .int .i64 0] 201); simpa using this) alloc_old) alloc_old
    · exact blk_below (show ((((w.alloc (.cells #[.string x.1, .int .i64 x.2] 52)).alloc (.cells #[.pointer none, .pointer none, .pointer none, .pointer none, .pointer none, .pointer none, .pointer none, .pointer none, .pointer none, .pointer none, .pointer none, .pointer none, .pointer none, .pointer none, .pointer none, .pointer none, .pointer none, .pointer none, .pointer none, .pointer none] 200)).alloc (.cells #[.int .i64 0, .int .i64 0, .int .i64 0, .int .i64 0, .int .i64 0, .int .i64 0, .int .i64 0, .int .i64 0, .int .i64 0, .int .i64 0, .int .i64 0, .int .i64 0, .int .i64 0, .int .i64 0, .int .i64 0, .int .i64 0, .int .i64 0, .int .i64 0, .int .i64 0, .int .i64 0] 201)).alloc (.cells #[.pointer none, .pointer none, .pointer none, .pointer none, .pointer none, .pointer none, .pointer none, .pointer none, .pointer none, .pointer none, .pointer none, .pointer none, .pointer none, .pointer none, .pointer none, .pointer none, .pointer none, .pointer none, .pointer none, .pointer none] 200)).heap[w.heap.size + 3]? = _ by have := heap_alloc_new (((w.alloc (.cells #[.string x.1, .int .i64 x.2] 52)).alloc (.cells #[.pointer none, .pointer none, .pointer none, .pointer none, .pointer none, .pointer none, .pointer none, .pointer none, .pointer none, .pointer none, .pointer none, .pointer none, .pointer none, .pointer none, .pointer none, .pointer none, .pointer none, .pointer none, .pointer none, .pointer none] 200)).alloc (.cells #[.int .i64 0, .int .i64 0, .int .i64 0, .int .i64 0, .int .i64 0, .int .i64 0, .int .i64 0, .int .i64 0, .int .i64 0, .int .i64 0, .int .i64 0, .int .i64 0, .int .i64 0, .int .i64 0, .int .i64 0, .int .i64 0, .int .i64 0, .int .i64 0, .int .i64 0, .int .i64 0] 201)) (.cells #[.pointer none, .pointer none, .pointer none, .pointer none, .pointer none, .pointer none, .pointer none, .pointer none, .pointer none, .pointer none, .pointer none, .pointer none, .pointer none, .pointer none, .pointer none, .pointer none, .pointer none, .pointer none, .pointer none, .pointer none] 200); simpa using this) alloc_old
    · have := heap_alloc_new ((((w.alloc (.cells #[.string x.1, .int .i64 x.2] 52)).alloc (.cells #[.pointer none, .pointer none, .pointer none, .pointer none, .pointer none, .pointer none, .pointer none, .pointer none, .pointer none, .pointer none, .pointer none, .pointer none, .pointer none, .pointer none, .pointer none, .pointer none, .pointer none, .pointer none, .pointer none, .pointer none] 200)).alloc (.cells #[.int .i64 0, .int .i64 0, .int .i64 0, .int .i64 0, .int .i64 0, .int .i64 0, .int .i64 0, .int .i64 0, .int .i64 0, .int .i64 0, .int .i64 0, .int .i64 0, .int .i64 0, .int .i64 0, .int .i64 0, .int .i64 0, .int .i64 0, .int .i64 0, .int .i64 0, .int .i64 0] 201)).alloc (.cells #[.pointer none, .pointer none, .pointer none, .pointer none, .pointer none, .pointer none, .pointer none, .pointer none, .pointer none, .pointer none, .pointer none, .pointer none, .pointer none, .pointer none, .pointer none, .pointer none, .pointer none, .pointer none, .pointer none, .pointer none] 200)) (.cells #[.int .i64 0, .int .i64 0, .int .i64 0, .int .i64 0, .int .i64 0, .int .i64 0, .int .i64 0, .int .i64 0, .int .i64 0, .int .i64 0, .int .i64 0, .int .i64 0, .int .i64 0, .int .i64 0, .int .i64 0, .int .i64 0, .int .i64 0, .int .i64 0, .int .i64 0, .int .i64 0] 201)
      simpa using this
  have H := Lib.hid (fun X (hX : Below w.heap.size w X) => h.below hX)
  obtain ⟨⟨c0, c1, c2, c3⟩, _⟩ := cells4 (blk_below hs hBW)
  have HI := Lib.hid hI
  subst hL
  have HA := Lib.hid hA
  have HB := Lib.hid hB
  have hhd := h.head
  have HLEN := Lib.hid hlen
  clear hs hBW hI hA hB hlen h
  go_enter Tryz.func179, Tryz.ntmps179
  go_wp2
  clear c0 c1 c2 c3
  go_loopw [8, 9, 10] (fun av nv kv wr => ∃ (kk : Nat) (P : List Nd) (y : Nd) (T : List Nd), kk ≤ 20 ∧ av = .pointer (some ⟨y.a, 0, none⟩) ∧ nv = .int .i64 (P.length : Nat) ∧ kv = .int .i64 ((kk : Int) - 1) ∧ Hid (hd :: A = P ++ y :: T ∧ kk ≤ y.h ∧ AhI w wr x (hd :: A) kk)) (fun _ _ kv _ => (intOf kv + 1).toNat)
  case atStart => exact ⟨20, [], hd, A, by omega, rfl, rfl, rfl, Lib.hid ⟨rfl, by omega, HI.out⟩⟩
  case round =>
    obtain ⟨kk, P0, y0, T0, hkk, rfl, rfl, rfl, HQ⟩ := hrel
    obtain ⟨w5, rfl⟩ : ∃ w5, w5 = wr := ⟨_, rfl⟩
    rcases Nat.eq_zero_or_pos kk with rfl | hpos
    · obtain ⟨g1, _, g3, g4, LA, RA, f1, zL, f2, zR, f5⟩ := HQ.out.2.2
      have hAL : ArL (hd :: A) LA RA := ⟨zL, zR, fun j hj => by
        obtain ⟨y, n, e1, e2, e3⟩ := f5 j (Nat.zero_le _) hj
        exact ⟨y, n, e1, e2, e3⟩⟩
      have F3 := Lib.hid hAL
      have G1 := Lib.hid g1.drew
      obtain ⟨oL, oR⟩ := hAL.one
      have t1 : w5.drew.rangeAt (w.heap.size + 3) 0 LA.toList := fun j v hv => by
        rw [Nat.zero_add, cell_of_row w5.drew _ j _ _ (0, 0) f1]
        simpa using hv
      have t2 : w5.drew.rangeAt (w.heap.size + 4) 0 RA.toList := fun j v hv => by
        rw [Nat.zero_add, cell_of_row w5.drew _ j _ _ (0, 0) f2]
        simpa using hv
      have t3 : w5.drew.there (w.heap.size + 1) 0 20 := fun j hj => by
        rw [Nat.zero_add, cell_of_row w5.drew _ j _ _ (0, 0) g3]
        exact ⟨by simp [hj], frozen_of_row w5.drew _ _ _ _ g3⟩
      have t4 : w5.drew.there (w.heap.size + 2) 0 20 := fun j hj => by
        rw [Nat.zero_add, cell_of_row w5.drew _ j _ _ (0, 0) g4]
        exact ⟨by simp [hj], frozen_of_row w5.drew _ _ _ _ g4⟩
      clear f1 f2 f5 g1 g3 g4 hAL
      have iL : (Tryz.prog.info? 200).map (·.size) = some 20 := by kernel_rfl
      have iR : (Tryz.prog.info? 201).map (·.size) = some 20 := by kernel_rfl
      have uL : Tryz.prog.underlying 200 = some (.array 20 195) := by kernel_rfl
      have uR : Tryz.prog.underlying 201 = some (.array 20 3) := by kernel_rfl
      have Y1 := Lib.hid (World.rangeAt_setCells_same w5.drew (w.heap.size + 1) 0 LA.toList (by simpa [zL] using t3))
      have Y2 := Lib.hid (World.rangeAt_setCells_apart Y1.out (w.heap.size + 2) 0 RA.toList (.inl (by omega)))
      have Y3 := Lib.hid (World.rangeAt_setCells_same (w5.drew.setCells (w.heap.size + 1) 0 LA.toList) (w.heap.size + 2) 0 RA.toList (World.there_setCells (by simpa [zR] using t4) _ _ _))
      have T4 := Lib.hid (World.there_setCells t4 (w.heap.size + 1) 0 LA.toList)
      have S1 := Lib.hid (And.intro (World.rangeAt_setCells_apart t1 (w.heap.size + 1) 0 LA.toList (.inl (by omega))) (World.rangeAt_setCells_apart t2 (w.heap.size + 1) 0 LA.toList (.inl (by omega))))
      have S2 := Lib.hid (And.intro (World.rangeAt_setCells_apart S1.out.1 (w.heap.size + 2) 0 RA.toList (.inl (by omega))) (World.rangeAt_setCells_apart S1.out.2 (w.heap.size + 2) 0 RA.toList (.inl (by omega))))
      go_wp2_with fail
      refine wp_region_held_drew (S := fun X => X.rangeAt (w.heap.size + 3) 0 LA.toList ∧ X.rangeAt (w.heap.size + 4) 0 RA.toList) (by kernel_rfl) ⟨t1, t2⟩ (fun hH0 => ?_)
      refine wpAnyH_take (i := 0) (v := .agg LA) rfl (by kernel_rfl) (by kernel_rfl) (by kernel_rfl) (fun _ _ _ h => h) (yieldsIf_load_mid (by kernel_rfl) 200 (.tmp 6) rfl (w.heap.size + 3) 0 rfl LA.toList (.array 20 195) (fun X hX => hX.1) uL rfl (by rw [iL]; simp [zL])) hH0 ?_
      refine wpAnyH_take (i := 1) (v := .agg RA) rfl (by kernel_rfl) (by kernel_rfl) (by kernel_rfl) (fun _ _ _ h => h) (yieldsIf_load_mid (by kernel_rfl) 201 (.tmp 7) rfl (w.heap.size + 4) 0 rfl RA.toList (.array 20 3) (fun X hX => hX.2) uR rfl (by rw [iR]; simp [zR])) hH0 ?_
      refine wpAnyH_ready (rs := [2]) (by kernel_rfl) (by simp) ?_
      refine AllReadyH.cons rfl (fun K hK => ?_) AllReadyH.nil
      rw [if_pos (by kernel_rfl)]
      refine wp_store_mid 200 (.tmp 4) (.tmp 64) rfl (w.heap.size + 1) 0 LA rfl rfl (by rw [zL]; exact t3) (by rw [iL, zL]) oL ?_
      refine hK.out _ _ S1.out (fun hH1 => ?_)
      clear hK K hH0
      refine wpAnyH_ready (rs := [3]) (by kernel_rfl) (by simp) ?_
      refine AllReadyH.cons rfl (fun K hK => ?_) AllReadyH.nil
      rw [if_pos (by kernel_rfl)]
      refine wp_store_mid 201 (.tmp 5) (.tmp 65) rfl (w.heap.size + 2) 0 RA rfl rfl (by rw [zR]; exact T4.out) (by rw [iR, zR]) oR ?_
      refine hK.out _ _ S2.out (fun hH2 => ?_)
      clear hK K hH1
      refine wpAnyH_done (by kernel_rfl) ?_ _
      go_wp2
      have r1 := run_loadVar_mid (P := Tryz.prog) _ (w.heap.size + 1) 0 200 LA.toList (.array 20 195) Y2.out uL rfl (by rw [iL]; simp [zL])
      have r2 := run_loadVar_mid (P := Tryz.prog) _ (w.heap.size + 2) 0 201 RA.toList (.array 20 3) Y3.out uR rfl (by rw [iR]; simp [zR])
      exact bodyPost_ret (v := .tuple #[.agg LA, .agg RA]) (res2 rfl (by kernel_rfl) (by kernel_rfl) r1 r2) rfl ⟨LA, RA, rfl, F3.out, zbelow_cells (by omega) _ _ _ (zbelow_cells (by omega) _ _ _ G1.out)⟩
    · obtain ⟨k, rfl⟩ : ∃ k, kk = k + 1 := ⟨kk - 1, by omega⟩
      have e : ((k + 1 : Nat) : Int) - 1 = (k : Int) := by omega
      simp only [e]
      have hk20 : k < 20 := by omega
      have k0 : (0 : Int) ≤ (k : Int) := by omega
      have k2 : (k : Int) < 20 := by omega
      clear e hkk hpos
      go_wp2
      go_loopw [8, 9] (fun av nv wx => ∃ (P : List Nd) (y : Nd) (T : List Nd), av = .pointer (some ⟨y.a, 0, none⟩) ∧ nv = .int .i64 (P.length : Nat) ∧ Hid (hd :: A = P ++ y :: T ∧ k < y.h ∧ Below w5.heap.size w5 wx)) (fun _ nv _ => A.length + 1 - (intOf nv).toNat)
      case atStart => exact ⟨P0, y0, T0, rfl, rfl, Lib.hid ⟨HQ.out.1, HQ.out.2.1, Below.refl _ _⟩⟩
      case round =>
        obtain ⟨P, y, T, rfl, rfl, HX⟩ := hrel
        obtain ⟨wx, rfl⟩ : ∃ wx, wx = wr := ⟨_, rfl⟩
        have hbw : Below w.heap.size w wx := HQ.out.2.2.1.trans (HX.out.2.2.mono (Below.size HQ.out.2.2.1))
        have hyN : y ∈ hd :: (A ++ B) := by rw [← List.cons_append, HX.out.1]; simp
        have eN : hd :: (A ++ B) = P ++ y :: (T ++ B) := by rw [← List.cons_append, HX.out.1]; simp
        have hyk : k < y.h := HX.out.2.1
        have hyi : (k : Int) < (y.h : Int) := by omega
        have hm := H.out wx hbw
        obtain ⟨a1, a2⟩ := LvM.at (eN ▸ hm.lv k hk20) hyk
        obtain ⟨cs, hcs, hcz⟩ := (hm.nodes y hyN).nxb
        have hlt9 := lt_blk hcs
        obtain ⟨_, _, c2, c3⟩ := ptr_cell (hm.nodes y hyN)
        clear hcz hcs cs
        cases hf : fstN k T with
        | some z =>
          obtain ⟨P', Q, rfl, h1, h2, _⟩ := fstN_some hf
          obtain ⟨e1, e2⟩ := fstN_skip k P' (z :: (Q ++ B)) h1
          rw [List.append_assoc, List.cons_append] at a1 a2
          rw [e1] at a1
          rw [e2] at a2
          simp only [fstN, dstN, h2, if_true] at a1 a2
          have hzN : z ∈ hd :: (A ++ B) := by rw [← List.cons_append, HX.out.1]; simp
          have hzA : z ∈ A := by
            have hN := HX.out.1
            cases P with
            | nil =>
              rw [List.nil_append, List.cons.injEq] at hN
              rw [hN.2]
              simp
            | cons p P =>
              rw [List.cons_append, List.cons.injEq] at hN
              rw [hN.2]
              simp
          obtain ⟨o, ho⟩ : ∃ o, ordZ (z.name, z.score) x = o := ⟨_, rfl⟩
          have ho0 : o < 0 := by rw [← ho]; exact (ordZ_lt _ _).2 (HA.out z hzA)
          have hlen1 : P.length + (P'.length + 1) ≤ 1000000 := by
            have hN := congrArg List.length HX.out.1
            have := HLEN.out
            simp at hN this
            omega
          clear hf e1 e2
          replace a1 : wx.cell? ⟨y.nx, k, none⟩ = some (.pointer (some ⟨z.a, 0, none⟩)) := a1
          have A2 := Lib.hid a2
          clear a2
          have SX := Lib.hid (show ∀ Y, Below wx.heap.size wx Y → (Y.cell? ⟨y.a, 2, none⟩ = some (.slice (some ⟨y.nx, 0, none⟩) y.h y.h) ∧ Y.cell? ⟨y.nx, k, none⟩ = some (.pointer (some ⟨z.a, 0, none⟩)) ∧ Y.cell? ⟨z.a, 0, none⟩ = some (.string z.name) ∧ Y.cell? ⟨z.a, 1, none⟩ = some (.int .i64 z.score) ∧ Y.cell? ⟨w.heap.size, 0, none⟩ = some (.string x.1) ∧ Y.cell? ⟨w.heap.size, 1, none⟩ = some (.int .i64 x.2)) from fun Y hY => by
            obtain ⟨e0, e1, e2, e3⟩ := ptr_cell (((H.out wx hbw).nodes y hyN).below hY)
            obtain ⟨g0, g1, _, _⟩ := ptr_cell (((H.out wx hbw).nodes z hzN).below hY)
            obtain ⟨_, f0, _⟩ := (HQ.out.2.2.below HX.out.2.2).below hY
            obtain ⟨i0, i1⟩ := cells2z f0
            exact ⟨e2, (hY.cell (p := ⟨y.nx, k, none⟩) hlt9).trans a1, g0, g1, i0, i1⟩)
          have S0 := SX.out wx.drew (Below.refl _ _).drew
          have OZ := Lib.hid (show ∀ X, Calls Tryz.prog 214 #[.agg #[.string z.name, .int .i64 z.score], .agg #[.string x.1, .int .i64 x.2]] X fun e w' => e = .returned (.int .i64 o) ∧ Below X.heap.size X w' from fun X => by have := order_any (z.name, z.score) x X; rw [ho] at this; exact this)
          clear ho c2 c3 a1
          go_wp2
          go_region_held3 (fun X => X.cell? ⟨y.a, 2, none⟩ = some (.slice (some ⟨y.nx, 0, none⟩) y.h y.h) ∧ X.cell? ⟨y.nx, k, none⟩ = some (.pointer (some ⟨z.a, 0, none⟩)) ∧ X.cell? ⟨z.a, 0, none⟩ = some (.string z.name) ∧ X.cell? ⟨z.a, 1, none⟩ = some (.int .i64 z.score) ∧ X.cell? ⟨w.heap.size, 0, none⟩ = some (.string x.1) ∧ X.cell? ⟨w.heap.size, 1, none⟩ = some (.int .i64 x.2)) (first | (with_reducible exact S0) | (with_reducible exact S2.out)) (first | (go_at_call 214; (with_reducible refine (OZ.out _).mono ?_); rintro e w2 ⟨rfl, h1⟩; have HB2 := Lib.hid ((Below.refl wx.heap.size wx).drew.trans h1); have S2 := Lib.hid (SX.out _ HB2.out); clear h1))

          obtain ⟨n, hn⟩ : ∃ n : Nat, P.length = n := ⟨_, rfl⟩
          obtain ⟨d, hd9⟩ : ∃ d : Nat, P'.length + 1 = d := ⟨_, rfl⟩
          have hw : IntKind.i64.wrap ((n : Int) + (d : Int)) = (n : Int) + (d : Int) := by rw [IntKind.wrap_i64]; omega
          obtain ⟨_, _, b2, b3⟩ := ptr_cell ((hm.nodes y hyN).below HB2.out)
          have A2 := A2.out
          rw [hd9] at A2
          obtain ⟨cs, hcs, hcz⟩ := (hm.nodes y hyN).wdb
          have b4 := (HB2.out.cell (p := ⟨y.wd, k, none⟩) (lt_blk hcs)).trans A2
          have b5 := S2.out.2.1
          have HB3 := Lib.hid (HX.out.2.2.trans (HB2.out.mono (Below.size HX.out.2.2)))
          have HZ := Lib.hid h2
          have HNN := Lib.hid HX.out.1
          have HL1 := Lib.hid (And.intro hlen1 (And.intro hn hd9))
          rw [hn]
          clear hcz hcs cs A2 hlen1 hn hd9 S0 S2 SX OZ h1 h2 hm eN hlt9 hyN hzN hzA ho0 hbw
          go_wp2
          go_region
          go_wp2_with fail
          exact ⟨⟨P ++ y :: P', z, Q, rfl, by have := HL1.out; simp; omega, Lib.hid ⟨by rw [HNN.out]; simp, HZ.out, HB3.out.drew⟩⟩, by have := HL1.out; have hN := congrArg List.length HNN.out; simp at hN; simp [intOf]; omega⟩
        | none =>
          obtain ⟨h1, _⟩ := fstN_none hf
          obtain ⟨e1, _⟩ := fstN_skip k T B h1
          rw [e1] at a1
          have HLast := Lib.hid (show Last k (hd :: A) y P.length from ⟨P, T, HX.out.1, rfl, hyk, h1⟩)
          cases hb : fstN k B with
          | none =>
            rw [hb] at a1
            replace a1 : wx.cell? ⟨y.nx, k, none⟩ = some (.pointer none) := a1
            have HAW := Lib.hid ((HQ.out.2.2.below HX.out.2.2).below (Below.refl _ _).drew)
            clear h1 e1 hf hb a2 c3 hm eN hbw hyN hlt9
            go_wp2
            go_region
            generalize wx.drew = wy at HAW ⊢
            obtain ⟨_, _, _, _, la, ra, h5, h6, h7, h8, _⟩ := HAW.out
            obtain ⟨v5, hv5⟩ : ∃ v, la[k]? = some v := ⟨_, Array.getElem?_eq_getElem (by omega)⟩
            obtain ⟨v7, hv7⟩ : ∃ v, ra[k]? = some v := ⟨_, Array.getElem?_eq_getElem (by omega)⟩
            have z5 : wy.cell? ⟨w.heap.size + 1 + 1 + 1, k, none⟩ = some v5 := (cell_of_row _ _ _ _ _ (0, 0) h5).trans hv5
            have z7 : wy.cell? ⟨w.heap.size + 1 + 1 + 1 + 1, k, none⟩ = some v7 := (cell_of_row _ _ _ _ _ (0, 0) h7).trans hv7
            have y5 : wy.frozen? ⟨w.heap.size + 1 + 1 + 1, k, none⟩ = false := frozen_of_row _ _ _ _ _ h5
            have y7 : wy.frozen? ⟨w.heap.size + 1 + 1 + 1 + 1, k, none⟩ = false := frozen_of_row _ _ _ _ _ h7
            clear h5 h6 h7 h8 hv5 hv7 c2 a1
            go_wp2
            exact ⟨⟨k, P, y, T, by omega, rfl, rfl, by go_num, Lib.hid ⟨HX.out.1, Nat.le_of_lt HX.out.2.1, HAW.out.step hk20 y P.length HLast.out⟩⟩, by simp [intOf]⟩

          | some z =>
            rw [hb] at a1
            replace a1 : wx.cell? ⟨y.nx, k, none⟩ = some (.pointer (some ⟨z.a, 0, none⟩)) := a1
            obtain ⟨P', Q, hBQ, _, _, _⟩ := fstN_some hb
            have hzB : z ∈ B := by rw [hBQ]; simp
            have hzN : z ∈ hd :: (A ++ B) := by simp [hzB]
            obtain ⟨o, ho⟩ : ∃ o, ordZ (z.name, z.score) x = o := ⟨_, rfl⟩
            have ho0 : decide (o < 0) = false := by
              refine decide_eq_false ?_
              rw [← ho, ordZ_lt, HB.out z hzB]
              decide
            clear hf hb e1 a2 hBQ h1
            have SX := Lib.hid (show ∀ Y, Below wx.heap.size wx Y → (Y.cell? ⟨y.a, 2, none⟩ = some (.slice (some ⟨y.nx, 0, none⟩) y.h y.h) ∧ Y.cell? ⟨y.nx, k, none⟩ = some (.pointer (some ⟨z.a, 0, none⟩)) ∧ Y.cell? ⟨z.a, 0, none⟩ = some (.string z.name) ∧ Y.cell? ⟨z.a, 1, none⟩ = some (.int .i64 z.score) ∧ Y.cell? ⟨w.heap.size, 0, none⟩ = some (.string x.1) ∧ Y.cell? ⟨w.heap.size, 1, none⟩ = some (.int .i64 x.2)) from fun Y hY => by
              obtain ⟨e0, e1, e2, e3⟩ := ptr_cell (((H.out wx hbw).nodes y hyN).below hY)
              obtain ⟨g0, g1, _, _⟩ := ptr_cell (((H.out wx hbw).nodes z hzN).below hY)
              obtain ⟨_, f0, _⟩ := (HQ.out.2.2.below HX.out.2.2).below hY
              obtain ⟨i0, i1⟩ := cells2z f0
              exact ⟨e2, (hY.cell (p := ⟨y.nx, k, none⟩) hlt9).trans a1, g0, g1, i0, i1⟩)
            have S0 := SX.out wx.drew (Below.refl _ _).drew
            have OZ := Lib.hid (show ∀ X, Calls Tryz.prog 214 #[.agg #[.string z.name, .int .i64 z.score], .agg #[.string x.1, .int .i64 x.2]] X fun e w' => e = .returned (.int .i64 o) ∧ Below X.heap.size X w' from fun X => by have := order_any (z.name, z.score) x X; rw [ho] at this; exact this)
            clear ho c2 c3 a1
            go_wp2
            go_region_held3 (fun X => X.cell? ⟨y.a, 2, none⟩ = some (.slice (some ⟨y.nx, 0, none⟩) y.h y.h) ∧ X.cell? ⟨y.nx, k, none⟩ = some (.pointer (some ⟨z.a, 0, none⟩)) ∧ X.cell? ⟨z.a, 0, none⟩ = some (.string z.name) ∧ X.cell? ⟨z.a, 1, none⟩ = some (.int .i64 z.score) ∧ X.cell? ⟨w.heap.size, 0, none⟩ = some (.string x.1) ∧ X.cell? ⟨w.heap.size, 1, none⟩ = some (.int .i64 x.2)) (first | (with_reducible exact S0) | (with_reducible exact S2.out)) (first | (go_at_call 214; (with_reducible refine (OZ.out _).mono ?_); rintro e w2 ⟨rfl, h1⟩; have HB2 := Lib.hid ((Below.refl wx.heap.size wx).drew.trans h1); have S2 := Lib.hid (SX.out _ HB2.out); clear h1))

            have HAW := Lib.hid ((HQ.out.2.2.below HX.out.2.2).below HB2.out)
            obtain ⟨_, _, _, _, la, ra, h5, h6, h7, h8, _⟩ := HAW.out
            obtain ⟨v5, hv5⟩ : ∃ v, la[k]? = some v := ⟨_, Array.getElem?_eq_getElem (by omega)⟩
            obtain ⟨v7, hv7⟩ : ∃ v, ra[k]? = some v := ⟨_, Array.getElem?_eq_getElem (by omega)⟩
            have z5 : w2.cell? ⟨w.heap.size + 1 + 1 + 1, k, none⟩ = some v5 := (cell_of_row _ _ _ _ _ (0, 0) h5).trans hv5
            have z7 : w2.cell? ⟨w.heap.size + 1 + 1 + 1 + 1, k, none⟩ = some v7 := (cell_of_row _ _ _ _ _ (0, 0) h7).trans hv7
            have y5 : w2.frozen? ⟨w.heap.size + 1 + 1 + 1, k, none⟩ = false := frozen_of_row _ _ _ _ _ h5
            have y7 : w2.frozen? ⟨w.heap.size + 1 + 1 + 1 + 1, k, none⟩ = false := frozen_of_row _ _ _ _ _ h7

            clear h5 h6 h7 h8 hv5 hv7 S0 S2 SX OZ hm eN hlt9 hyN hzN hzB ho0 hbw
            go_wp2
            exact ⟨⟨k, P, y, T, by omega, rfl, rfl, by go_num, Lib.hid ⟨HX.out.1, Nat.le_of_lt HX.out.2.1, HAW.out.step hk20 y P.length HLast.out⟩⟩, by simp [intOf]⟩

end Go.Proofs.YticlacjpgjkhcaaGreatDoor
