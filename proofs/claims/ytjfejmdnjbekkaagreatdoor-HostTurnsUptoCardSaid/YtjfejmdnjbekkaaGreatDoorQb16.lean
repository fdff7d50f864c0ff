/- Texts joined: HT, HU, HV, HX, HW -/
import Derived.Test.YtjfejmdnjbekkaaGreatDoorQb15
import Derived.Test.YtjfejmdnjbekkaaGreatDoorQb14
import Derived.BigQuiet
import Derived.Test.YtjfejmdnjbekkaaGreatDoorCards
import Derived.WalkKit
import Derived.ProofKit
import Derived.Deep.DeepHandedRow
import Derived.Stop.LaidErr
import Derived.SliceStrings
import Derived.Deep.Slices
import Derived.Lib.LaidTab
set_option linter.unusedVariables false
set_option linter.unusedSimpArgs false

/- What the law's told answers: yes. -/
namespace Go.Proofs.YtjfejmdnjbekkaaGreatDoor
open Go.ChangeShapes Go.WideShapes Go.ChangeAt Go.RowKit

set_option maxRecDepth 100000 in
set_option maxHeartbeats 8000000 in
theorem told33 (W0 : World) (hT : Tab W0) (w : World) (hI : Below W0.heap.size W0 w) : Calls Tryz.prog 7 #[] w fun e w' => e = .returned (.bool true) ∧ Below w.heap.size w w' := by
  have NW := Lib.hid (New_mem w)
  have UN := Lib.hid (fun b X => uNew_any b X)
  have C1 := Lib.hid (fun u bS q X hq => call_undecl u bS 1 1000 ⟨#[107]⟩ q X hq)
  have C2 := Lib.hid (fun u bS bM q q2 X hX => call_incr W0 hT u bS bM 1 ⟨#[107]⟩ (by decide) (by decide) q q2 X hX)
  have C3 := Lib.hid (fun u bS X hX => call_few hT u bS 1 1000 X hX)
  have HI := Lib.hid hI
  clear hT hI
  go_enter Tryz.func7, Tryz.ntmps7
  go_wp2_with (first | (go_at_call 14; (with_reducible refine (NW.out).mono ?_); rintro e x1 ⟨bS, bM, rfl, m1, s1, l1, l2, h1⟩; have M1 := Lib.hid (And.intro m1 (And.intro s1 (And.intro l1 (And.intro l2 h1)))); clear m1 s1 l1 l2 h1) | (go_at_call 15; (with_reducible refine (UN.out bS x1).mono ?_); rintro e x2 ⟨rfl, n1, n2⟩; have N2 := Lib.hid (And.intro n1 n2); clear n1 n2; refine Hid.out ?_))
  refine Lib.hid ?_
  have F2 := Lib.hid (show Below w.heap.size w x2 ∧ x2.heap[bS]? = some (.cells #[.map (some bM), .int .i64 0] 57) ∧ SP x2 bS bM [] ∧ x2.heap[x1.heap.size]? = some (.cells #[.pointer (some ⟨bS, 0, none⟩), .slice none 0 0] 60) ∧ (x1.heap.size ≠ bS ∧ x1.heap.size ≠ bM) ∧ w.heap.size ≤ bS ∧ w.heap.size ≤ bM ∧ w.heap.size ≤ x1.heap.size from ⟨M1.out.2.2.2.2.trans (N2.out.2.mono (Below.size M1.out.2.2.2.2)), blk_below M1.out.1 N2.out.2, M1.out.2.1.below N2.out.2, N2.out.1, ⟨by have := lt_blk M1.out.1; omega, by have := M1.out.2.1.2.1.lt; omega⟩, M1.out.2.2.1, M1.out.2.2.2.1, Below.size M1.out.2.2.2.2⟩)
  clear M1 N2 NW UN
  generalize x1.heap.size = u at F2 ⊢
  have A3 := Lib.hid (alloc_old (w := x2) (o := .cells #[.string ⟨#[107]⟩] 9))
  have D1 := Lib.hid (C1.out u bS x2.heap.size _ (heap_alloc_new x2 (.cells #[.string ⟨#[107]⟩] 9)))
  go_wp2_with (first | (go_at_call 16; (with_reducible refine (D1.out).mono ?_); rintro e x3 ⟨rfl, h1⟩; have B3 := Lib.hid (A3.out.trans (h1.mono (Below.size A3.out))); clear h1; refine Hid.out ?_))
  refine Lib.hid ?_
  clear D1 A3
  have a3 := Lib.hid (al3h x3 (.cells #[.int .i64 0, .int .i64 0, .string ⟨#[]⟩, .slice none 0 0] 27) (.cells #[.string ⟨#[107]⟩] 9) (.cells #[.string ⟨#[107]⟩] 9))
  have B4 := Lib.hid (B3.out.trans (a3.out.2.2.2.mono (Below.size B3.out)))
  have D2 := Lib.hid (C2.out u bS bM (x3.heap.size + 1) (x3.heap.size + 1 + 1) _ (HI.out.trans ((F2.out.1.trans (B4.out.mono (Below.size F2.out.1))).mono (Below.size HI.out))) (blk_below F2.out.2.2.2.1 B4.out) (blk_below F2.out.2.1 B4.out) (F2.out.2.2.1.below B4.out) F2.out.2.2.2.2.1 a3.out.2.1 a3.out.2.2.1)
  go_wp2_with (first | (go_at_call 16; (with_reducible refine (D2.out).mono ?_); rintro e x4 ⟨rfl, h1⟩; have K4 := Lib.hid h1; clear h1; refine Hid.out ?_))
  refine Lib.hid ?_
  have B5 := Lib.hid (show Below w.heap.size w x4 from by
    have b4 := F2.out.1.trans (B4.out.mono (Below.size F2.out.1))
    exact ⟨K4.out.os.trans b4.os, K4.out.tape.trans b4.tape, K4.out.output.trans b4.output, Nat.le_trans (Below.size b4) K4.out.size, fun i hi => (K4.out.block i (Nat.lt_of_lt_of_le hi (Below.size b4)) ⟨by have := F2.out.2.2.2.2.2.1; omega, by have := F2.out.2.2.2.2.2.2.1; omega, by have := F2.out.2.2.2.2.2.2.2; omega⟩).trans (b4.block i hi)⟩)
  have A6 := Lib.hid (alloc_old (w := x4) (o := .cells #[.int .i64 2, .int .i64 1, .string ⟨#[]⟩, .slice none 0 0] 27))
  have p6 := Lib.hid (heap_alloc_new x4 (.cells #[.int .i64 2, .int .i64 1, .string ⟨#[]⟩, .slice none 0 0] 27))
  have B6 := Lib.hid (B5.out.trans (A6.out.mono (Below.size B5.out)))
  have D3 := Lib.hid (C3.out u bS _ (HI.out.trans (B6.out.mono (Below.size HI.out))))
  clear D2 K4 B4 a3 B3 C1 C2 C3 F2
  go_wp2_with (first | (go_at_call 16; (with_reducible refine (D3.out).mono ?_); rintro e x5 ⟨rfl, h1⟩; have B7 := Lib.hid (B6.out.trans (h1.mono (Below.size B6.out))); have p7 := Lib.hid (blk_below p6.out h1); clear h1; refine Hid.out ?_))
  refine Lib.hid ?_
  have A8 := Lib.hid (alloc_old (w := x5) (o := .cells #[.int .i64 3, .int .i64 0, .string ⟨#[69, 82, 82, 32, 50]⟩, .slice none 0 0] 27))
  obtain ⟨⟨c0, c1, c2, c3⟩, _⟩ := cells4 (blk_below p7.out A8.out)
  obtain ⟨⟨y0, y1, y2, y3⟩, _⟩ := cells4 (heap_alloc_new x5 (.cells #[.int .i64 3, .int .i64 0, .string ⟨#[69, 82, 82, 32, 50]⟩, .slice none 0 0] 27))
  go_wp2
  go_ret
  exact ⟨by simp, B7.out.trans (A8.out.mono (Below.size B7.out))⟩
end Go.Proofs.YtjfejmdnjbekkaaGreatDoor

/- The law HostBack, plain: its row of replies. -/
namespace Go.Proofs.YtjfejmdnjbekkaaGreatDoor
open Go.ChangeShapes Go.WideShapes Go.ChangeAt Go.RowKit

/-- One reply: a text, or, at odd places, a number. -/
def oneR (n : Int) (ints : Bool) (i : Nat) (s : ByteArray) : S4 := if ints && i % 2 == 1 then (3, n, ⟨#[]⟩) else (4, 0, s)
def rsF (n : Int) (ints : Bool) : Nat → List ByteArray → List S4
  | _, [] => []
  | i, s :: r => oneR n ints i s :: rsF n ints (i + 1) r
theorem rsF_len (n : Int) (ints : Bool) : ∀ (xs : List ByteArray) (i : Nat), (rsF n ints i xs).length = xs.length
  | [], _ => rfl
  | _ :: r, i => by show (rsF n ints (i + 1) r).length + 1 = r.length + 1; rw [rsF_len n ints r]
theorem rsF_snoc (n : Int) (ints : Bool) (s : ByteArray) : ∀ (xs : List ByteArray) (i : Nat), rsF n ints i (xs ++ [s]) = rsF n ints i xs ++ [oneR n ints (i + xs.length) s]
  | [], _ => rfl
  | y :: r, i => by
    show oneR n ints i y :: rsF n ints (i + 1) (r ++ [s]) = oneR n ints i y :: (rsF n ints (i + 1) r ++ _)
    rw [rsF_snoc n ints s r, show i + 1 + r.length = i + (y :: r).length by rw [List.length_cons]; omega]
theorem oneR_ok (n : Int) (ints : Bool) (i : Nat) (s : ByteArray) : okR (oneR n ints i s) := by
  unfold oneR
  split
  · exact .inl ⟨rfl, rfl⟩
  · exact .inr ⟨rfl, rfl⟩
theorem rsF_ok (n : Int) (ints : Bool) : ∀ (xs : List ByteArray) (i : Nat), ∀ x ∈ rsF n ints i xs, okR x
  | [], _, _, h => by cases h
  | s :: r, i, x, h => by
    rcases List.mem_cons.1 h with rfl | h
    · exact oneR_ok n ints i s
    · exact rsF_ok n ints r (i + 1) x h
theorem rs_take (n : Int) (ints : Bool) (xs : List ByteArray) (i : Nat) (s : ByteArray) (h : xs[i]? = some s) : rsF n ints 0 (xs.take (i + 1)) = rsF n ints 0 (xs.take i) ++ [oneR n ints i s] := by
  have hl : i < xs.length := (List.getElem?_eq_some_iff.1 h).1
  rw [List.take_add_one, h, Option.toList_some, rsF_snoc, List.length_take, Nat.min_eq_left (Nat.le_of_lt hl), Nat.zero_add]
theorem odd_bit : ∀ i : Fin 12, bits BinOp.and IntKind.i64 ((i.val : Nat) : Int) 1 = ((i.val % 2 : Nat) : Int) := by decide
theorem odd_bit' (i : Nat) (h : i < 12) : bits BinOp.and IntKind.i64 (i : Int) 1 = ((i % 2 : Nat) : Int) := odd_bit ⟨i, h⟩
/-- A row with nil at its end becomes the same table. -/
theorem plsG_nil (xs : List S4) (h : ∀ x ∈ xs, okR x) (n : Int) (s : ByteArray) : plsG 0 (xs ++ [(5, n, s)]) = pls xs := by
  rw [plsG_snoc, if_pos rfl, List.append_nil, plsG_ok xs 0 h]
  rfl
end Go.Proofs.YtjfejmdnjbekkaaGreatDoor

/- The law HostBack: its walk. -/
namespace Go.Proofs.YtjfejmdnjbekkaaGreatDoor
open Go.ChangeShapes Go.WideShapes Go.ChangeAt Go.RowKit

/-- Replies are appended to a row of replies: what grows is the row alone. -/
theorem append_R4g {ops : Array Oper} {rest : List Oper} {o : Oper} {a : Act} {Q : Exit → Act → World → Prop} (w : World) (hg : o.guard = none) (s x : Operand) (hop : o.op = Op.call { callee := Callee.builtin Builtin.append, args := #[s, x], argTypes := #[22, 22] })
    (c : Nat) (v : Value) (xs : List S4) (N : Nat) (hN : xs.length = N) (hs : a.eval s = v) (h : R4 24 w c v xs) (y : S4) (b : Nat) (hx : a.eval x = .slice (some ⟨b, 0, none⟩) 1 1) (hb : w.heap[b]? = some (.cells (c4 y).toArray 24)) (hl : N ≤ 100000) (hc : c ≤ w.heap.size)
    (k : ∀ g cap w', R4 24 w' c (.slice (some ⟨g, 0, none⟩) (N + 1) cap) (xs ++ [y]) → w.grownBy w' v.ownBlock → wpList Tryz.prog ops Q rest (a.put o.dst (.slice (some ⟨g, 0, none⟩) (N + 1) cap)) w') : wpList Tryz.prog ops Q (o :: rest) a w := by
  subst hN
  obtain ⟨i0, hi, hz0, hz1, hz2⟩ := info_parts i37
  refine wpList_append_lies w hg s x 22 hop c 24 i0 _ 4 56 Tryz.underlying22 hi hz0 hz1 hz2 rfl (by decide) v xs.length _ hs h ⟨b, 0, none⟩ 1 1 (c4 y) hx (by rw [c4_len]) (news_blk hb) (fun u hu => c4_one [y] u (by simpa using hu)) (by decide) (by unfold maxLen; omega) (by omega) hc _ rfl ?_
  intro g cap w' h1 h2 _ _
  refine k g cap w' ?_ h2
  unfold R4
  rw [List.length_append, List.flatMap_append, show [y].length = 1 from rfl, show [y].flatMap c4 = c4 y by simp]
  exact h1
theorem cells4all {X : World} {b : Nat} {a0 a1 a2 a3 : Value} {t : TypeId} (h : X.heap[b]? = some (.cells #[a0, a1, a2, a3] t)) : b < X.heap.size := lt_blk h
set_option maxRecDepth 100000 in
set_option maxHeartbeats 8000000 in
theorem back_main (W0 : World) (hT : Tab W0) (n : Int) (hn : I64 n) (v : Value) (xs : List ByteArray) (N : Nat) (hN : xs.length = N) (ints : Bool) (w : World) (hI : Below W0.heap.size W0 w) (hl : SSl w v xs) : Calls Tryz.prog 4 #[.int .i64 n, v, .bool ints] w fun e w' => e = .returned (.bool true) ∧ Below w.heap.size w w' := by
  have TD := Lib.hid (fun X (hX : Below w.heap.size w X) => told33 W0 hT X (hI.trans (hX.mono (Below.size hI))))
  have PE := Lib.hid (fun X (hX : Below w.heap.size w X) => hPlain_err hT n hn ⟨#[]⟩ X (hI.trans (hX.mono (Below.size hI))))
  obtain ⟨aA, cap, rfl, p1, p2, p3⟩ := hl
  rw [hN] at p1 ⊢
  have CA := Lib.hid (show ∀ X, Below w.heap.size w X → ∀ i s, xs[i]? = some s → ∃ blk off, aA = some ⟨blk, off, none⟩ ∧ X.cell? ⟨blk, off + i, none⟩ = some (.string s) from fun X hX i s hs => by
    obtain ⟨blk, off, rfl, hb, hc⟩ := p3 (by intro e; rw [e] at hs; cases hs)
    exact ⟨blk, off, rfl, (hX.cell (p := ⟨blk, off + i, none⟩) hb).trans (hc i s hs)⟩)
  have HN := Lib.hid hN
  clear hT hI p3 hN
  by_cases h12 : (12 : Int) < (N : Int)
  · have T0 := Lib.hid (TD.out w (Below.refl _ _))
    go_enter Tryz.func4, Tryz.ntmps4
    go_wp2_with (first | (go_at_call 7; (with_reducible refine (T0.out).mono ?_); rintro e x1 ⟨rfl, h1⟩))
    go_ret
    exact ⟨by simp, h1⟩
  · have N12 := Lib.hid (show N ≤ 12 by omega)
    have AR := Lib.hid (alloc_old (w := w) (o := .cells #[.int .i64 6, .int .i64 0, .string ⟨#[]⟩, .slice none 0 0] 24))
    have r0 := Lib.hid (heap_alloc_new w (.cells #[.int .i64 6, .int .i64 0, .string ⟨#[]⟩, .slice none 0 0] 24))
    go_enter Tryz.func4, Tryz.ntmps4
    go_wp2
    go_loopw [8] (fun iv wr => ∃ i : Nat, i ≤ N ∧ iv = .int .i64 i ∧ Hid (∃ A m C, wr.heap[w.heap.size]? = some (.cells #[.int .i64 6, .int .i64 0, .string ⟨#[]⟩, .slice A m C] 24) ∧ R4 24 wr (w.heap.size + 1) (.slice A m C) (rsF n ints 0 (xs.take i)) ∧ Below w.heap.size w wr ∧ w.heap.size + 1 ≤ wr.heap.size)) (fun iv _ => N - (intOf iv).toNat)
    case atStart => exact ⟨0, Nat.zero_le _, rfl, Lib.hid ⟨none, 0, 0, r0.out, R4.nil _ _ _, AR.out, by rw [World.size_alloc]; omega⟩⟩
    case round =>
      obtain ⟨i, hi, rfl, HQ⟩ := hrel
      obtain ⟨A, m, C, hr, hrow, hb, hs⟩ := HQ.out
      clear HQ AR r0
      by_cases hlt : i < N
      · have q0 : (i : Int) < (N : Int) := by omega
        have i9 : i < 12 := by have := N12.out; omega
        obtain ⟨s, hxi⟩ : ∃ s, xs[i]? = some s := ⟨_, List.getElem?_eq_getElem (by rw [HN.out]; exact hlt)⟩
        obtain ⟨blk, off, rfl, ca⟩ := CA.out wr hb i s hxi
        by_cases h100 : (100 : Int) < (s.size : Int)
        · have T0 := Lib.hid (TD.out wr hb)
          have HB := Lib.hid hb
          clear hr hrow hb
          go_wp2_with (first | (go_at_call 7; (with_reducible refine (T0.out).mono ?_); rintro e x1 ⟨rfl, h1⟩))
          go_ret
          exact ⟨by simp, HB.out.trans (h1.mono (Below.size HB.out))⟩
        · have hm : m = i := by rw [hrow.form.1, rsF_len, List.length_take, HN.out]; omega
          subst hm
          have HT := Lib.hid (rs_take n ints xs m s hxi)
          have HL := Lib.hid (show (rsF n ints 0 (xs.take m)).length = m from hrow.form.1.symm)
          have hbit := odd_bit' m i9
          have HR := Lib.hid hr
          have HRW := Lib.hid hrow
          have HB := Lib.hid hb
          have HS := Lib.hid hs
          have AX := Lib.hid (alloc_old (w := wr) (o := .cells #[.int .i64 4, .int .i64 0, .string s, .slice none 0 0] 24))
          have xX := Lib.hid (heap_alloc_new wr (.cells #[.int .i64 4, .int .i64 0, .string s, .slice none 0 0] 24))
          have RX := Lib.hid (blk_below hr AX.out)
          clear hr hrow hb hs hxi
          rcases (show ints = false ∨ ints = true from by cases ints <;> simp) with rfl | rfl
          · have hone : oneR n false m s = (4, 0, s) := rfl
            rw [hone] at HT
            clear hbit hone
            have AY := Lib.hid (two_old wr (.cells #[.int .i64 4, .int .i64 0, .string s, .slice none 0 0] 24) (.cells #[.int .i64 4, .int .i64 0, .string s, .slice none 0 0] 24))
            have ny := Lib.hid (blk2 wr (.cells #[.int .i64 4, .int .i64 0, .string s, .slice none 0 0] 24) (.cells #[.int .i64 4, .int .i64 0, .string s, .slice none 0 0] 24))
            have RY := Lib.hid (HRW.out.below AY.out)
            have SY := Lib.hid (Nat.le_trans HS.out (Below.size AY.out))
            have PY := Lib.hid (blk_below HR.out AY.out)
            have BY := Lib.hid (HB.out.trans (AY.out.mono (Below.size HB.out)))
            obtain ⟨⟨b0, b1, b2, b3⟩, _⟩ := cells4 PY.out
            obtain ⟨⟨d0, d1, d2, d3⟩, _⟩ := cells4 RX.out
            obtain ⟨⟨x0, x1, x2, x3⟩, _⟩ := cells4 xX.out
            go_wp2_with (first | (at_builtin; refine append_R4 _ rfl _ _ rfl (w.heap.size + 1) _ _ m HL.out rfl RY.out (4, 0, s) _ rfl ny.out (by omega) SY.out ?_; intro g1 C1 Z1 h6 h7; have T1 := Lib.hid h6; have E1 := Lib.hid h7; have P1 := Lib.hid ((h7.block w.heap.size (by omega)).trans PY.out); have F1 := Lib.hid (BY.out.trans (h7.mono (by omega))); have G1 := Lib.hid (Nat.le_trans SY.out (Below.size h7)); clear h6 h7; obtain ⟨⟨e0, e1, e2, e3⟩, ⟨f0, f1, f2, f3⟩⟩ := cells4 P1.out))
            exact ⟨⟨m + 1, hlt, by go_num, Lib.hid ⟨_, _, C1, set_cells4h P1.out, by rw [HT.out]; exact row_kept T1.out (fun g hg => Below.heap_setCell _ ⟨w.heap.size, 3, none⟩ _ _ (by have := (row_own T1.out g hg).1; show g ≠ w.heap.size; omega)), F1.out.setCell (Nat.le_refl _) _, by simpa using G1.out⟩⟩, by simp [intOf]; omega⟩
          · rcases Nat.mod_two_eq_zero_or_one m with h2 | h2
            · have hone : oneR n true m s = (4, 0, s) := by unfold oneR; rw [h2]; rfl
              rw [hone] at HT
              rw [h2] at hbit
              clear hone
              have AY := Lib.hid (two_old wr (.cells #[.int .i64 4, .int .i64 0, .string s, .slice none 0 0] 24) (.cells #[.int .i64 4, .int .i64 0, .string s, .slice none 0 0] 24))
              have ny := Lib.hid (blk2 wr (.cells #[.int .i64 4, .int .i64 0, .string s, .slice none 0 0] 24) (.cells #[.int .i64 4, .int .i64 0, .string s, .slice none 0 0] 24))
              have RY := Lib.hid (HRW.out.below AY.out)
              have SY := Lib.hid (Nat.le_trans HS.out (Below.size AY.out))
              have PY := Lib.hid (blk_below HR.out AY.out)
              have BY := Lib.hid (HB.out.trans (AY.out.mono (Below.size HB.out)))
              obtain ⟨⟨b0, b1, b2, b3⟩, _⟩ := cells4 PY.out
              obtain ⟨⟨d0, d1, d2, d3⟩, _⟩ := cells4 RX.out
              obtain ⟨⟨x0, x1, x2, x3⟩, _⟩ := cells4 xX.out
              go_wp2_with (first | (at_builtin; refine append_R4 _ rfl _ _ rfl (w.heap.size + 1) _ _ m HL.out rfl RY.out (4, 0, s) _ rfl ny.out (by omega) SY.out ?_; intro g1 C1 Z1 h6 h7; have T1 := Lib.hid h6; have E1 := Lib.hid h7; have P1 := Lib.hid ((h7.block w.heap.size (by omega)).trans PY.out); have F1 := Lib.hid (BY.out.trans (h7.mono (by omega))); have G1 := Lib.hid (Nat.le_trans SY.out (Below.size h7)); clear h6 h7; obtain ⟨⟨e0, e1, e2, e3⟩, ⟨f0, f1, f2, f3⟩⟩ := cells4 P1.out))
              exact ⟨⟨m + 1, hlt, by go_num, Lib.hid ⟨_, _, C1, set_cells4h P1.out, by rw [HT.out]; exact row_kept T1.out (fun g hg => Below.heap_setCell _ ⟨w.heap.size, 3, none⟩ _ _ (by have := (row_own T1.out g hg).1; show g ≠ w.heap.size; omega)), F1.out.setCell (Nat.le_refl _) _, by simpa using G1.out⟩⟩, by simp [intOf]; omega⟩
            · have hone : oneR n true m s = (3, n, ⟨#[]⟩) := by unfold oneR; rw [h2]; rfl
              rw [hone] at HT
              rw [h2] at hbit
              clear hone
              have AX3 := Lib.hid (alloc_old (w := wr) (o := .cells #[.int .i64 3, .int .i64 n, .string ⟨#[]⟩, .slice none 0 0] 24))
              have xX := Lib.hid (heap_alloc_new wr (.cells #[.int .i64 3, .int .i64 n, .string ⟨#[]⟩, .slice none 0 0] 24))
              have RX := Lib.hid (blk_below HR.out AX3.out)
              have AY := Lib.hid (two_old wr (.cells #[.int .i64 3, .int .i64 n, .string ⟨#[]⟩, .slice none 0 0] 24) (.cells #[.int .i64 3, .int .i64 n, .string ⟨#[]⟩, .slice none 0 0] 24))
              have ny := Lib.hid (blk2 wr (.cells #[.int .i64 3, .int .i64 n, .string ⟨#[]⟩, .slice none 0 0] 24) (.cells #[.int .i64 3, .int .i64 n, .string ⟨#[]⟩, .slice none 0 0] 24))
              have RY := Lib.hid (HRW.out.below AY.out)
              have SY := Lib.hid (Nat.le_trans HS.out (Below.size AY.out))
              have PY := Lib.hid (blk_below HR.out AY.out)
              have BY := Lib.hid (HB.out.trans (AY.out.mono (Below.size HB.out)))
              obtain ⟨⟨b0, b1, b2, b3⟩, _⟩ := cells4 PY.out
              obtain ⟨⟨d0, d1, d2, d3⟩, _⟩ := cells4 RX.out
              obtain ⟨⟨x0, x1, x2, x3⟩, _⟩ := cells4 xX.out
              go_wp2_with (first | (at_builtin; refine append_R4 _ rfl _ _ rfl (w.heap.size + 1) _ _ m HL.out rfl RY.out (3, n, ⟨#[]⟩) _ rfl ny.out (by omega) SY.out ?_; intro g1 C1 Z1 h6 h7; have T1 := Lib.hid h6; have E1 := Lib.hid h7; have P1 := Lib.hid ((h7.block w.heap.size (by omega)).trans PY.out); have F1 := Lib.hid (BY.out.trans (h7.mono (by omega))); have G1 := Lib.hid (Nat.le_trans SY.out (Below.size h7)); clear h6 h7; obtain ⟨⟨e0, e1, e2, e3⟩, ⟨f0, f1, f2, f3⟩⟩ := cells4 P1.out))
              exact ⟨⟨m + 1, hlt, by go_num, Lib.hid ⟨_, _, C1, set_cells4h P1.out, by rw [HT.out]; exact row_kept T1.out (fun g hg => Below.heap_setCell _ ⟨w.heap.size, 3, none⟩ _ _ (by have := (row_own T1.out g hg).1; show g ≠ w.heap.size; omega)), F1.out.setCell (Nat.le_refl _) _, by simpa using G1.out⟩⟩, by simp [intOf]; omega⟩
      · have q0 : ¬ (i : Int) < (N : Int) := by omega
        obtain rfl : i = N := by omega
        rw [List.take_of_length_le (by rw [HN.out]; exact Nat.le_refl _)] at hrow
        obtain ⟨rs, hrs⟩ : ∃ rs, rsF n ints 0 xs = rs := ⟨_, rfl⟩
        have hok : ∀ x ∈ rs, okR x := by rw [← hrs]; exact rsF_ok n ints xs 0
        have hlen : rs.length = i := by rw [← hrs, rsF_len, HN.out]
        rw [hrs] at hrow
        have hm : m = i := by rw [hrow.form.1, hlen]
        subst hm
        have i12 := N12.out
        have PA := Lib.hid (hPlain_arr 0 ⟨#[]⟩ A m C (w.heap.size + 1) rs hlen (by omega) (fun x hx => .inl (hok x hx)) wr hrow)
        rw [plsG_ok rs 0 hok, show plsF 0 rs = pls rs from rfl] at PA
        have OK := Lib.hid (And.intro hok hlen)
        have HR := Lib.hid hr
        have HRW := Lib.hid hrow
        have HB := Lib.hid hb
        have HS := Lib.hid hs
        obtain ⟨⟨b0, b1, b2, b3⟩, _⟩ := cells4 hr
        clear hr hrow hb hs hok hlen hrs CA
        go_wp2_with (first | (go_at_call 8; (with_reducible refine (PA.out).mono ?_); rintro e x1 ⟨A1, L1, C1, rfl, hq1, h1⟩; have P1 := Lib.hid hq1; have B1 := Lib.hid h1; clear hq1 h1; refine Hid.out ?_))
        refine Lib.hid ?_
        clear b0 b1 b2 b3 PA
        have AP1 := Lib.hid (alloc_old (w := x1) (o := .cells #[.int .i64 4, .int .i64 0, .string ⟨#[]⟩, .slice A1 L1 C1] 27))
        have p1b := Lib.hid (heap_alloc_new x1 (.cells #[.int .i64 4, .int .i64 0, .string ⟨#[]⟩, .slice A1 L1 C1] 27))
        have RP := Lib.hid (hReply_tab 0 ⟨#[]⟩ A1 L1 C1 _ rs m OK.out.2 (by omega) OK.out.1 _ (P1.out.below AP1.out))
        obtain ⟨⟨c0, c1, c2, c3⟩, _⟩ := cells4 p1b.out
        go_wp2_with (first | (go_at_call 12; (with_reducible refine (RP.out).mono ?_); rintro e x2 ⟨A2, C2, rfl, hq2, h2⟩; have P2 := Lib.hid hq2; have B2 := Lib.hid h2; clear hq2 h2; refine Hid.out ?_))
        refine Lib.hid ?_
        clear c0 c1 c2 c3 RP
        have AQ := Lib.hid (alloc_old (w := x2) (o := .cells #[.int .i64 6, .int .i64 0, .string ⟨#[]⟩, .slice A2 m C2] 24))
        have qb := Lib.hid (heap_alloc_new x2 (.cells #[.int .i64 6, .int .i64 0, .string ⟨#[]⟩, .slice A2 m C2] 24))
        have D2 := Lib.hid (B2.out.trans (AQ.out.mono (Below.size B2.out)))
        have D1 := Lib.hid (B1.out.trans ((AP1.out.trans (D2.out.mono (Below.size AP1.out))).mono (Below.size B1.out)))
        have rb := Lib.hid (blk_below HR.out D1.out)
        obtain ⟨⟨c0, c1, c2, c3⟩, _⟩ := cells4 qb.out
        obtain ⟨⟨b0, b1, b2, b3⟩, _⟩ := cells4 rb.out
        go_wp2
        have F3 := Lib.hid (And.intro rb.out (And.intro qb.out (And.intro (blk_below p1b.out D2.out) (And.intro (HRW.out.below D1.out) (And.intro (P2.out.below AQ.out) (And.intro ((P1.out.below AP1.out).below D2.out) (HB.out.trans (D1.out.mono (Below.size HB.out)))))))))
        have SB := Lib.hid (show (∀ g, (Value.slice A m C).ownBlock = some g → g < wr.heap.size) ∧ wr.heap.size ≤ x1.heap.size ∧ w.heap.size < wr.heap.size from ⟨fun g hg => (row_own HRW.out g hg).2, Below.size B1.out, lt_blk HR.out⟩)
        have lp := Lib.hid (show x1.heap.size < x2.heap.size from by
          have := Below.size B2.out
          rw [World.size_alloc] at this
          omega)
        clear rb qb D1 D2 AQ p1b AP1 c0 c1 c2 c3 b0 b1 b2 b3 B1 B2 P1 P2 HR HRW HB HS
        generalize x2.alloc (.cells #[.int .i64 6, .int .i64 0, .string ⟨#[]⟩, .slice A2 m C2] 24) = y at F3 ⊢
        generalize x2.heap.size = qa at F3 lp ⊢
        generalize x1.heap.size = pa at F3 lp SB ⊢
        generalize wr.heap.size = S at F3 SB
        go_loopw [13] (fun iv wr => ∃ i : Nat, i ≤ m ∧ iv = .int .i64 i ∧ Hid (Below y.heap.size y wr)) (fun iv _ => m - (intOf iv).toNat)
        case atStart => exact ⟨0, Nat.zero_le _, rfl, Lib.hid (Below.refl _ _)⟩
        case round =>
          obtain ⟨i, hi2, rfl, HQ⟩ := hrel
          obtain ⟨⟨b0, b1, b2, b3⟩, ⟨f0, f1, f2, f3⟩⟩ := cells4 (blk_below F3.out.1 HQ.out)
          obtain ⟨⟨c0, c1, c2, c3⟩, _⟩ := cells4 (blk_below F3.out.2.1 HQ.out)
          by_cases hlt : i < m
          · have q1 : (i : Int) < (m : Int) := by omega
            obtain ⟨x, hxi⟩ : ∃ x, rs[i]? = some x := ⟨_, List.getElem?_eq_getElem (by rw [OK.out.2]; exact hlt)⟩
            have hne : rs ≠ [] := by intro e; rw [e] at hxi; cases hxi
            obtain ⟨g1, rfl⟩ := F3.out.2.2.2.1.form.2.1 hne
            obtain ⟨g2, rfl⟩ := F3.out.2.2.2.2.1.form.2.1 hne
            obtain ⟨d0, d1, d2, d3⟩ := (F3.out.2.2.2.1.below HQ.out).at_ i x hxi
            obtain ⟨e0, e1, e2, e3⟩ := (F3.out.2.2.2.2.1.below HQ.out).at_ i x hxi
            obtain ⟨kd, nn, tt⟩ := x
            simp only at d0 d1 d2 e0 e1 e2
            have i9 : (i : Int) ≤ 12 := by omega
            clear hxi hne f0 f1 f2 f3
            go_wp2
            go_quiet (fail)
            go_wp2
            exact ⟨⟨i + 1, hlt, by go_num, Lib.hid (below_drewN HQ.out _)⟩, by simp [intOf]; omega⟩
          · have q1 : ¬ (i : Int) < (m : Int) := by omega
            have FA := Lib.hid (show (Below y.heap.size y (wr.alloc (.cells #[.int .i64 5, .int .i64 0, .string ⟨#[]⟩, .slice none 0 0] 24))) from HQ.out.trans (alloc_old.mono (Below.size HQ.out)))
            have ny := Lib.hid (heap_alloc_new wr (.cells #[.int .i64 5, .int .i64 0, .string ⟨#[]⟩, .slice none 0 0] 24))
            have SY := Lib.hid (show w.heap.size + 1 ≤ (wr.alloc (.cells #[.int .i64 5, .int .i64 0, .string ⟨#[]⟩, .slice none 0 0] 24)).heap.size from by
              have h1 := lt_blk F3.out.1
              have h2 := Below.size FA.out
              omega)
            have m9 := i12
            have RY := Lib.hid (F3.out.2.2.2.1.below FA.out)
            have bR := Lib.hid (blk_below F3.out.1 FA.out)
            clear c0 c1 c2 c3 f0 f1 f2 f3
            go_wp2_with (first | (at_builtin; refine append_R4g _ rfl _ _ rfl (w.heap.size + 1) (.slice A m C) rs m OK.out.2 rfl RY.out (5, 0, ⟨#[]⟩) _ rfl ny.out (by omega) SY.out ?_; intro g1 C9 Z1 h6 h7; have T1 := Lib.hid h6; have G1 := Lib.hid h7; have P1 := Lib.hid ((h7.block w.heap.size (by have := lt_blk bR.out; omega) (fun e => by have := (row_own RY.out _ e.symm).1; omega)).trans bR.out); clear h6 h7; obtain ⟨⟨e0, e1, e2, e3⟩, ⟨f0, f1, f2, f3⟩⟩ := cells4 P1.out))
            obtain ⟨Z, hZ⟩ : ∃ Z, Z1.setCell ⟨w.heap.size, 3, none⟩ (.slice (some ⟨g1, 0, none⟩) (m + 1) C9) = Z := ⟨_, rfl⟩
            have FZ := Lib.hid (show Below w.heap.size w Z ∧ R4 24 Z (w.heap.size + 1) (.slice (some ⟨g1, 0, none⟩) (m + 1) C9) (rs ++ [(5, 0, ⟨#[]⟩)]) ∧ Z.heap[pa]? = some (.cells #[.int .i64 4, .int .i64 0, .string ⟨#[]⟩, .slice A1 L1 C1] 27) ∧ R4 27 Z S (.slice A1 L1 C1) (pls rs) ∧ pa < Z.heap.size from by
              subst hZ
              have hp9 := SB.out
              have bp := blk_below F3.out.2.2.1 FA.out
              have lb := lt_blk bp
              have own := fun g hg => SB.out.1 g hg
              have RP := F3.out.2.2.2.2.2.1.below FA.out
              have lZ := G1.out.size
              refine ⟨((F3.out.2.2.2.2.2.2.trans (FA.out.mono (Below.size F3.out.2.2.2.2.2.2))).grown G1.out (by omega) (fun k hk => by have := (row_own RY.out k hk).1; omega)).setCell (Nat.le_refl _) _, row_kept T1.out (fun g hg => Below.heap_setCell _ ⟨w.heap.size, 3, none⟩ _ _ (by have := (row_own T1.out g hg).1; show g ≠ w.heap.size; omega)), ?_, row_kept RP (fun g hg => ?_), by rw [World.size_setCell]; omega⟩
              · exact (Below.heap_setCell _ ⟨w.heap.size, 3, none⟩ _ _ (by show pa ≠ w.heap.size; omega)).trans ((G1.out.block pa lb (fun e => by have := own _ e.symm; omega)).trans bp)
              · have h1 := row_own RP g hg
                exact (Below.heap_setCell _ ⟨w.heap.size, 3, none⟩ _ _ (by show g ≠ w.heap.size; omega)).trans (G1.out.block g h1.2 (fun e => by have := own _ e.symm; omega)))
            have PX := Lib.hid (hPlain_arr 0 ⟨#[]⟩ (some ⟨g1, 0, none⟩) (m + 1) C9 (w.heap.size + 1) (rs ++ [(5, 0, ⟨#[]⟩)]) (by rw [List.length_append, OK.out.2]; rfl) (by omega) (fun x hx => by
              rcases List.mem_append.1 hx with h | h
              · exact .inl (OK.out.1 x h)
              · exact .inr (by rw [List.mem_singleton.1 h])) Z FZ.out.2.1)
            rw [plsG_nil rs OK.out.1] at PX
            rw [hZ]
            clear hZ T1 G1 P1 e0 e1 e2 e3 f0 f1 f2 f3 b0 b1 b2 b3 FA ny SY RY bR F3 HQ
            (with_reducible refine (PX.out).mono ?_)
            rintro e x9 ⟨A3, L3, C3, rfl, hq3, h3⟩
            have P3 := Lib.hid hq3
            have B3 := Lib.hid h3
            clear hq3 h3 PX
            refine Hid.out ?_
            refine Lib.hid ?_
            have eL : L1 = L3 := FZ.out.2.2.2.1.form.1.trans P3.out.form.1.symm
            subst eL
            have A9 := Lib.hid (alloc_old (w := x9) (o := .cells #[.int .i64 4, .int .i64 0, .string ⟨#[]⟩, .slice A3 L1 C3] 27))
            have n9 := Lib.hid (heap_alloc_new x9 (.cells #[.int .i64 4, .int .i64 0, .string ⟨#[]⟩, .slice A3 L1 C3] 27))
            have B9 := Lib.hid (FZ.out.1.trans ((B3.out.trans (A9.out.mono (Below.size B3.out))).mono (Below.size FZ.out.1)))
            have E9 := Lib.hid (PE.out _ B9.out)
            have PI := Lib.hid (fun X => hPlain_int n ⟨#[]⟩ X)
            go_wp2_with (first | (go_at_call 8; (with_reducible refine (E9.out).mono ?_); rintro e x10 ⟨rfl, h1⟩; have B10 := Lib.hid h1; clear h1; refine Hid.out ?_))
            refine Lib.hid ?_
            have A10 := Lib.hid (alloc_old (w := x10) (o := .cells #[.int .i64 3, .int .i64 0, .string (⟨#[69, 82, 82, 32]⟩ ++ numT n), .slice none 0 0] 27))
            have n10 := Lib.hid (heap_alloc_new x10 (.cells #[.int .i64 3, .int .i64 0, .string (⟨#[69, 82, 82, 32]⟩ ++ numT n), .slice none 0 0] 27))
            go_wp2_with (first | (go_at_call 8; (with_reducible refine (PI.out _).mono ?_); rintro e x11 ⟨rfl, h1⟩; have B11 := Lib.hid h1; clear h1; refine Hid.out ?_))
            refine Lib.hid ?_
            have A11 := Lib.hid (alloc_old (w := x11) (o := .cells #[.int .i64 2, .int .i64 n, .string ⟨#[]⟩, .slice none 0 0] 27))
            have n11 := Lib.hid (heap_alloc_new x11 (.cells #[.int .i64 2, .int .i64 n, .string ⟨#[]⟩, .slice none 0 0] 27))
            have D11 := Lib.hid (B11.out.trans (A11.out.mono (Below.size B11.out)))
            have D10 := Lib.hid (B10.out.trans ((A10.out.trans (D11.out.mono (Below.size A10.out))).mono (Below.size B10.out)))
            have D9 := Lib.hid (B3.out.trans ((A9.out.trans (D10.out.mono (Below.size A9.out))).mono (Below.size B3.out)))
            have FY := Lib.hid (And.intro (blk_below n9.out D10.out) (And.intro (blk_below n10.out D11.out) (And.intro n11.out (And.intro (blk_below FZ.out.2.2.1 D9.out) (And.intro ((P3.out.below A9.out).below D10.out) (And.intro (FZ.out.2.2.2.1.below D9.out) (FZ.out.1.trans (D9.out.mono (Below.size FZ.out.1)))))))))
            clear D9 D10 D11 A9 A10 A11 n9 n10 n11 B3 B9 B10 B11 E9 P3 FZ
            go_wp2_with (first | (go_at_call 7; refine Hid.out ?_))
            refine Lib.hid ?_
            generalize x11.alloc (.cells #[.int .i64 2, .int .i64 n, .string ⟨#[]⟩, .slice none 0 0] 27) = Y at FY ⊢
            generalize x9.heap.size = b14 at FY ⊢
            generalize x10.heap.size = b16 at FY ⊢
            generalize x11.heap.size = b18 at FY ⊢
            have KC := Lib.hid (fun X (hX : Below Y.heap.size Y X) => And.intro (cells4 (blk_below FY.out.1 hX)).1 (And.intro (cells4 (blk_below FY.out.2.1 hX)).1 (And.intro (cells4 (blk_below FY.out.2.2.1 hX)).1 (cells4 (blk_below FY.out.2.2.2.1 hX)).1)))
            have T3 := Lib.hid (TD.out Y FY.out.2.2.2.2.2.2)
            have RT := Lib.hid (fun X (hX : Below Y.heap.size Y X) => hReply_tab 0 ⟨#[]⟩ A3 L1 C3 _ rs m OK.out.2 (by omega) OK.out.1 X (FY.out.2.2.2.2.1.below hX))
            have RI := Lib.hid (fun X => hReply_int n ⟨#[]⟩ X)
            have PT := Lib.hid (fun X (hX : Below Y.heap.size Y X) => Plains_tab A3 A1 L1 C3 C1 _ _ (pls rs) X (FY.out.2.2.2.2.1.below hX) (FY.out.2.2.2.2.2.1.below hX))
            have hf3 : ∀ (a b : Int) (c : ByteArray) (A : Option Addr) (m cc : Nat) (w : World), (Instr.field 24 (.agg #[.int .i64 a, .int .i64 b, .string c, .slice A m cc]) 3).run Tryz.prog w = .ok (.slice A m cc) w := fun _ _ _ _ _ _ _ => by kernel_rfl
            have hf1 : ∀ (a b : Int) (c : ByteArray) (A : Option Addr) (m cc : Nat) (w : World), (Instr.field 24 (.agg #[.int .i64 a, .int .i64 b, .string c, .slice A m cc]) 1).run Tryz.prog w = .ok (.int .i64 b) w := fun _ _ _ _ _ _ _ => by kernel_rfl
            clear PE PI TD
            (with_reducible refine (T3.out).mono ?_)
            rintro e x12 ⟨rfl, h1⟩
            have B12 := Lib.hid h1
            obtain ⟨⟨s0, s1, s2, s3⟩, ⟨t0, t1, t2, t3⟩, ⟨u0', u1', u2', u3'⟩, ⟨v0', v1', v2', v3'⟩⟩ := KC.out _ h1
            have R12 := Lib.hid (RT.out _ h1)
            clear h1
            go_wp2_with (first | (go_at_call 12; (first | ((with_reducible refine (R12.out).mono ?_); rintro e x13 ⟨A4, C4, rfl, _, h1⟩; have B13 := Lib.hid (B12.out.trans (h1.mono (Below.size B12.out))); clear s0 s1 s2 s3 t0 t1 t2 t3 u0' u1' u2' u3' v0' v1' v2' v3' h1; obtain ⟨⟨s0, s1, s2, s3⟩, ⟨t0, t1, t2, t3⟩, ⟨u0', u1', u2', u3'⟩, ⟨v0', v1', v2', v3'⟩⟩ := KC.out _ B13.out) | ((with_reducible refine (RI.out _).mono ?_); rintro e x14 ⟨rfl, h1⟩; have B14 := Lib.hid (B13.out.trans (h1.mono (Below.size B13.out))); clear s0 s1 s2 s3 t0 t1 t2 t3 u0' u1' u2' u3' v0' v1' v2' v3' h1; obtain ⟨⟨s0, s1, s2, s3⟩, ⟨t0, t1, t2, t3⟩, ⟨u0', u1', u2', u3'⟩, ⟨v0', v1', v2', v3'⟩⟩ := KC.out _ B14.out; have P14 := Lib.hid (PT.out _ B14.out)))) | (go_at_call 10; (with_reducible refine (P14.out).mono ?_); rintro e x15 ⟨rfl, h1⟩; have B15 := Lib.hid (B14.out.trans (h1.mono (Below.size B14.out))); clear h1))
            go_ret
            exact ⟨by simp, FY.out.2.2.2.2.2.2.trans (B15.out.mono (Below.size FY.out.2.2.2.2.2.2))⟩
end Go.Proofs.YtjfejmdnjbekkaaGreatDoor

/- The closed facts of HostBack's row, one by one. -/
namespace Go.Proofs.YtjfejmdnjbekkaaGreatDoor
open Go.ChangeShapes Go.WideShapes Go.ChangeAt Go.RowKit

theorem back_k10 : (Rows.hostBackRow.inPlace == Tryz.pinned.checked.prog.inPlace 4) = true := by kernel_rfl
theorem back_k11 : (Rows.hostBackRow.unfollowed == Tryz.pinned.checked.prog.unfollowed 4) = true := by kernel_rfl
theorem back_k12 : (Rows.hostBackRow.recurses == Tryz.pinned.checked.prog.recurses 4) = true := by kernel_rfl
theorem back_k13 : (Rows.hostBackRow.named == Tryz.pinned.checked.prog.varsNamed 4) = true := by kernel_rfl
theorem back_closed : joinedFacts Tryz.pinned.checked.prog 4 Tryz.f4 (OpenSpec.ofChange Rows.hostBackSpec).bare Rows.hostBackRow = true := by
  unfold joinedFacts
  rw [back_k10, back_k11, back_k12, back_k13]
  kernel_rfl
end Go.Proofs.YtjfejmdnjbekkaaGreatDoor

/- The law HostBack, whole. -/
namespace Go.Proofs.YtjfejmdnjbekkaaGreatDoor
open Go.ChangeShapes Go.WideShapes Go.ChangeAt Go.RowKit

section
variable {H : Type} {enc : TypeId × Value → H} {W : World}
theorem at_of {a : Addr} {n : Nat} {f : Nat → Value} (h : ∀ i, i < n → W.cell? (a.add i) = some (f i)) (hp : 0 < n) :
    ∃ b off, a = ⟨b, off, none⟩ ∧ b < W.heap.size ∧ ∀ j, j < n → W.cell? ⟨b, off + j, none⟩ = some (f j) := by
  obtain ⟨b, off, spot⟩ := a
  have hspot : spot = none := by simpa [Addr.add] using World.cell?_spot (h 0 hp)
  subst hspot
  have h2 : ∀ j, j < n → W.cell? ⟨b, off + j, none⟩ = some (f j) := fun j hj => by rw [← Go.WideShapes.add_plain]; exact h j hj
  refine ⟨b, off, rfl, ?_, h2⟩
  have h0 := h2 0 hp
  rcases Nat.lt_or_ge b W.heap.size with hb | hb
  · exact hb
  · unfold World.cell? at h0
    simp only [Array.getElem?_eq_none hb] at h0
    cases h0
theorem SSl.of_trod {v : Value} {d : DataW H} {ps : List MemPlace} (h : DataW.Trod enc Tryz.prog W 0 (fun _ => true) true 38 v d ps) (hv : ∃ A n c, v = .slice A n c) : ∃ xs, SSl W v xs := by
  obtain ⟨A, n, c, rfl⟩ := hv
  obtain ⟨m, hm⟩ := h
  rcases open_strings Tryz.underlying38 Tryz.underlying9 (by kernel_rfl) hm with ⟨hcs, _⟩ | ⟨a, len, cap, ss, hcs, _, hl, hc, hs, _, hcell, _⟩
  · obtain ⟨rfl, rfl, rfl⟩ : A = none ∧ n = 0 ∧ c = 0 := by simpa [Value.cells] using hcs
    exact ⟨[], none, 0, rfl, Nat.le_refl _, Nat.zero_le _, fun h => absurd rfl h⟩
  · obtain ⟨rfl, rfl, rfl⟩ : A = some a ∧ n = len ∧ c = cap := by simpa [Value.cells] using hcs
    simp only [if_true] at hs
    have e : (ss.take n).length = n := by rw [List.length_take]; omega
    refine ⟨ss.take n, some a, c, by rw [e], by rw [e]; exact hl, hc, fun hne => ?_⟩
    have hn : 0 < n := by
      rcases Nat.eq_zero_or_pos n with h | h
      · subst h; simp at hne
      · exact h
    obtain ⟨b, off, rfl, hb, hcell'⟩ := at_of hcell (by omega)
    refine ⟨b, off, rfl, hb, fun i s hi => ?_⟩
    obtain ⟨hi1, hi2⟩ := List.getElem?_eq_some_iff.1 hi
    rw [e] at hi1
    rw [hcell' i (by omega)]
    rw [List.getElem?_take_of_lt hi1] at hi
    rw [List.getD, hi]; rfl
end
theorem gPow : Tryz.prog.globalNamed "internal/strconv.uint64pow10" = some 0 := by kernel_rfl
theorem gPowType : (Tryz.prog.globals[0]?).map (·.type) = some 127 := by kernel_rfl
theorem cellsTb : Tryz.prog.cellsOf 127 = 20 := by kernel_rfl
theorem cellsE : Tryz.prog.cellsOf 107 = 1 := by kernel_rfl
theorem tab_back {W : World} (h : laidMetH Tryz.prog Rows.hostBackRow.laid W) : Tab W :=
  Lib.tabIs_of_head (rest := []) (zs := Lib.pow10Tab) gPow gPowType (by kernel_rfl) (by kernel_rfl) cellsE cellsTb (laidMet.tail (laidMet.tail h))
theorem I64.of_wf {n : Int} (h : (Lit.int .i64 n).wf = true) : I64 n := by
  have h1 : (IntKind.i64.min ≤ n) ∧ n ≤ IntKind.i64.max := by simpa [Lit.wf] using h
  exact ⟨h1.1, h1.2⟩
theorem back_law {W : World} (hT : Tab W) (n : Int) (v : Value) (xs : List ByteArray) (b : Bool) (hn : I64 n) (h0 : SSl W v xs) : Calls Tryz.prog 4 #[.int .i64 n, v, .bool b] W fun e w' => e = .returned (.bool true) ∧ Below W.heap.size W w' :=
  back_main W hT n hn v xs _ rfl b W (Below.refl _ _) h0
end Go.Proofs.YtjfejmdnjbekkaaGreatDoor
