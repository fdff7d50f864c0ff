/- Texts joined: L4 -/
import Derived.Test.YtgkejkgailnbmaaGreatDoorQt34
import Derived.Test.YtgkejkgailnbmaaGreatDoorQt35
import Derived.BigRegion
set_option linter.unusedVariables false
set_option linter.unusedSimpArgs false
namespace Go.Proofs.YtgkejkgailnbmaaGreatDoor
open Lib (hid)
open Go.ChangeShapes Go.WideShapes Go.ChangeAt Go.RowKit TP
def LxP (R : Option (List (Tk × Nat))) (w : World) (e : Ending) (w' : World) : Prop :=
 (R = none → ∃ a, e = .returned (.tuple #[.slice none 0 0, .int .i64 14, .int .i64 a])) ∧ (∀ l, R = some l → ∃ v, e = .returned (.tuple #[v, .int .i64 0, .int .i64 0]) ∧ TX w' w.heap.size v l) ∧ Below w.heap.size w w'
set_option maxRecDepth 100000 in
set_option maxHeartbeats 16000000 in
theorem Lex_is (x : ByteArray) (hx : x.size ≤ 1000) (w : World) : Calls Tryz.prog 16 #[.string x] w (LxP (lex x.data.toList) w) := by
 rw [lex_LF]
 obtain ⟨R, hR⟩ : ∃ R, LF x.data.toList (skipL false x.data.toList) = R := ⟨_, rfl⟩
 rw [hR]
 have HR := hid hR
 obtain ⟨N, hN⟩ : ∃ N, x.size = N := ⟨_, rfl⟩
 have HN := hid hN
 have HL := hid (show x.data.toList.length = N from by simpa using hN)
 have hsz : (x.size : Int) = (N : Int) := by rw [hN]
 have HX := hid (show x.size ≤ 100000 by omega)
 rw [hN] at hx
 have S0 := hid (fun w => skip_is x HX.out 0 (Nat.zero_le _) w)
 rw [show x.data.toList.drop 0 = x.data.toList from rfl, Nat.zero_add] at S0
 have hs0 : skipL false x.data.toList ≤ N := by
  have := skipL_le false x.data.toList
  rw [HL.out] at this
  exact this
 obtain ⟨s0, hs0e⟩ : ∃ s0, skipL false x.data.toList = s0 := ⟨_, rfl⟩
 rw [hs0e] at S0 hs0
 have HR2 := hid (show LF x.data.toList s0 = R from by rw [← hs0e]; exact HR.out)
 have S1 := hid (show Calls Tryz.prog 37 #[.string x, .int .i64 0] w (fun e w' => e = .returned (.int .i64 (s0 : Int)) ∧ w' = w) from S0.out w)
 clear hR hN hs0e HR S0
 go_enter Tryz.func16, Tryz.ntmps16
 go_wp2_with (first | (go_at_call 37; (with_reducible refine (S1.out).mono ?_); rintro e9 w9 ⟨rfl, rfl⟩))
 clear S1
 go_loopw [5, 6] (fun ov iv wr => ∃ (i : Nat) (pre : List (Tk × Nat)) (A : Option Addr) (C m : Nat), i ≤ N ∧ ov = .slice A m C ∧ iv = .int .i64 i ∧ Hid (pre.length = m ∧ TX wr w9.heap.size (.slice A m C) pre ∧ Below w9.heap.size w9 wr ∧ (LF x.data.toList i).map (pre ++ ·) = R ∧ m ≤ i)) (fun _ iv _ => N - (intOf iv).toNat)
 case atStart => exact ⟨s0, [], none, 0, 0, hs0, rfl, rfl, hid ⟨rfl, TX.nil _ _, Below.refl _ _, by rw [HR2.out]; cases R <;> rfl, Nat.zero_le _⟩⟩
 case round =>
  obtain ⟨i, pre, A, C, m, hi, rfl, rfl, HQ⟩ := hrel
  by_cases hlt : i < N
  ·have q0 : (i : Int) < (N : Int) := by omega
   have hl : i < x.size := by rw [HN.out]; exact hlt
   have hix := fun w => idx_at x (i : Int) i rfl hl (x[i].toNat : Int) rfl w
   have hd := drop_cons x i hl
   obtain ⟨c, hc⟩ : ∃ c, x[i] = c := ⟨_, rfl⟩
   have HC := hid hc
   rw [hc] at hix hd
   have HD := hid hd
   have RU := hid (fun w => run_is x HX.out i (by omega) w)
   obtain ⟨n, hn⟩ : ∃ n, runL (x.data.toList.drop i) = n := ⟨_, rfl⟩
   rw [hn] at RU
   have HRN := hid hn
   have hnN : i + n ≤ N := by
    have := runL_le (x.data.toList.drop i)
    rw [hn, List.length_drop, HL.out] at this
    omega
   obtain ⟨E, hE⟩ : ∃ E, i + n = E := ⟨_, rfl⟩
   rw [hE] at RU
   have HE := hid hE
   have LC := hid (fun X => letter_is c X)
   obtain ⟨b, hb⟩ : ∃ b, wr.heap.size = b := ⟨_, rfl⟩
   have HBB := hid hb
   clear hc hd hn hE hb
   cases hlb : letterB c with
   | true =>
    have HLB := hid hlb
    have hsl := fun w => slice_at x i n (i : Int) (E : Int) rfl (by have := HE.out; omega) (by rw [HN.out]; exact hnN) w
    obtain ⟨tx, htx⟩ : ∃ tx, B ((x.data.toList.drop i).take n) = tx := ⟨_, rfl⟩
    rw [htx] at hsl
    have H1 := hid (one_letter (r := x.data.toList.drop (i + 1)) hlb)
    rw [← HD.out, HRN.out, htx] at H1
    rw [hlb] at LC
    clear htx hlb
    have WO := hid (fun t X => Word_is t X)
    go_wp2_with (first | (go_at_call 38; (with_reducible refine (RU.out _).mono ?_); rintro e9 w8 ⟨rfl, rfl⟩) | (go_at_call 39; (with_reducible refine (LC.out _).mono ?_); rintro e9 w8 ⟨rfl, rfl⟩) | (go_at_call 40; (with_reducible refine (WO.out _ _).mono ?_); rintro e9 w1 ⟨rfl, hw1⟩; have B1 := hid hw1; clear hw1; refine Hid.out ?_))
    clear hsl hix
    have YB := hid (show w1.heap[b]? = some (.cells #[.int .i64 2, .string tx, .int .i64 0, .int .i64 (i : Int)] 48) from by rw [← HBB.out]; exact blk_below (heap_alloc_new wr _) B1.out)
    have YK := hid (show Below wr.heap.size wr w1 from alloc_old.trans (B1.out.mono (by rw [World.size_alloc]; omega)))
    clear B1
    rw [HBB.out]
    have wn : IntKind.i64.wrap ((E : Int) - (i : Int)) = (n : Int) ∧ wrap64 ((E : Int) - (i : Int)) = (n : Int) := by
     have := HE.out
     obtain ⟨h1, h2⟩ := wrapS (n : Int) ⟨by omega, by omega⟩
     rw [show (E : Int) - (i : Int) = (n : Int) by omega]
     exact ⟨h1, h2⟩
    obtain ⟨wna, wnb⟩ := wn
    by_cases hn32 : n > 32
    ·have hgt : (32 : Int) < (n : Int) := by omega
     have HNO := hid (lex_no (l := x.data.toList) (i := i) (by rw [HL.out]; exact hlt) (by rw [H1.out, if_pos hn32]) HQ.out.2.2.2.1)
     cases hw : isWord tx with
     | true =>
      have HBF := hid (show Below w9.heap.size w9 (w1.setCell ⟨b, 0, none⟩ (.int .i64 1)) from (HQ.out.2.2.1.trans (YK.out.mono (Below.size HQ.out.2.2.1))).setCell (by have := Below.size HQ.out.2.2.1; rw [HBB.out] at this; exact this) _)
      obtain ⟨⟨a0, a1, a2, a3⟩, ⟨f0, _⟩⟩ := cells4 YB.out
      refine hid ?_
      go_wp2
      exact bodyPost_ret (v := .tuple #[.slice none 0 0, .int .i64 14, .int .i64 (i : Int)]) (by simp [results, Tryz.results16, go_sem]) rfl ⟨fun _ => ⟨_, rfl⟩, fun l hl => (by rw [HNO.out] at hl; cases hl), HBF.out⟩
     | false =>
      have HBF := hid (show Below w9.heap.size w9 w1 from HQ.out.2.2.1.trans (YK.out.mono (Below.size HQ.out.2.2.1)))
      refine hid ?_
      go_wp2
      exact bodyPost_ret (v := .tuple #[.slice none 0 0, .int .i64 14, .int .i64 (i : Int)]) (by simp [results, Tryz.results16, go_sem]) rfl ⟨fun _ => ⟨_, rfl⟩, fun l hl => (by rw [HNO.out] at hl; cases hl), HBF.out⟩
    ·have hgt : ¬ (32 : Int) < (n : Int) := by omega
     cases hw : isWord tx with
     | true =>
      have HONE := hid (show oneL (x.data.toList.drop i) = some (⟨1, tx, 0⟩, n) from by rw [H1.out, if_neg hn32, hw]; rfl)
      obtain ⟨⟨a0, a1, a2, a3⟩, ⟨f0, _⟩⟩ := cells4 YB.out
      refine hid ?_
      clear hw
      have ZB := hid (show (w1.setCell ⟨b, 0, none⟩ (.int .i64 1)).heap[b]? = some (.cells #[.int .i64 1, .string tx, .int .i64 0, .int .i64 (i : Int)] 48) from by simp [World.setCell, Array.getElem?_modify, YB.out])
      have ZK := hid (show Below wr.heap.size wr (w1.setCell ⟨b, 0, none⟩ (.int .i64 1)) from YK.out.setCell (by rw [HBB.out]; exact Nat.le_refl _) _)
      clear YB YK
      obtain ⟨Y, hY⟩ : ∃ Y, w1.setCell ⟨b, 0, none⟩ (.int .i64 1) = Y := ⟨_, rfl⟩
      rw [hY] at ZB ZK
      have YB := ZB
      have YK := ZK
      clear ZB ZK
      have TXY := hid (HQ.out.2.1.below YK.out)
      have YW := hid (HQ.out.2.2.1.trans (YK.out.mono (Below.size HQ.out.2.2.1)))
      have AB := hid (alloc_old (w := Y) (o := .cells #[.int .i64 1, .string tx, .int .i64 0, .int .i64 (i : Int)] 48))
      have nB := hid (show (Y.alloc (.cells #[.int .i64 1, .string tx, .int .i64 0, .int .i64 (i : Int)] 48)).heap[Y.heap.size]? = some (.cells (cellT ((⟨1, tx, 0⟩ : Tk), i)).toArray 48) from heap_alloc_new Y _)
      obtain ⟨⟨a0, a1, a2, a3⟩, _⟩ := cells4 YB.out
      obtain ⟨hMN, hiM, hEN⟩ := next_le (l := x.data.toList) (i := i) (by rw [HL.out]; exact hlt) HONE.out
      have HREL := hid (lex_rel (l := x.data.toList) (i := i) (by rw [HL.out]; exact hlt) HONE.out HQ.out.2.2.2.1)
      rw [HE.out] at hMN hiM hEN HREL
      rw [HL.out] at hMN hEN
      have SK := hid (fun w => skip_is x HX.out E (by rw [HN.out]; exact hEN) w)
      obtain ⟨M, hM⟩ : ∃ M, E + skipL false (x.data.toList.drop E) = M := ⟨_, rfl⟩
      rw [hM] at hMN hiM SK HREL
      clear hM
      go_wp2_with (first | (at_builtin; refine append_TX (Y.alloc (.cells #[.int .i64 1, .string tx, .int .i64 0, .int .i64 (i : Int)] 48)) rfl _ _ rfl w9.heap.size (.slice A m C) pre m HQ.out.1 rfl (TXY.out.below AB.out) ((⟨1, tx, 0⟩ : Tk), i) Y.heap.size rfl nB.out (by have := HQ.out.2.2.2.2; omega) (by have := YW.out.size; rw [World.size_alloc]; omega) ?_; intro g cap w2 h1 h2; have H2 := hid h1; have B2 := hid ((TXY.out.below AB.out).grown (YW.out.trans (AB.out.mono (Below.size YW.out))) (Nat.le_refl _) (by have := Below.size YW.out; rw [World.size_alloc]; omega) h2); clear h1 h2; refine Hid.out ?_))
      refine hid ?_
      go_wp2_with (first | (go_at_call 37; (with_reducible refine (SK.out _).mono ?_); rintro e9 w8 ⟨rfl, rfl⟩))
      exact ⟨⟨M, pre ++ [((⟨1, tx, 0⟩ : Tk), i)], some ⟨g, 0, none⟩, cap, m + 1, hMN, rfl, rfl, hid ⟨by rw [List.length_append, HQ.out.1]; rfl, H2.out, B2.out, HREL.out, by have := HQ.out.2.2.2.2; omega⟩⟩, by simp [intOf]; omega⟩
     | false =>
      have HONE := hid (show oneL (x.data.toList.drop i) = some (⟨2, tx, 0⟩, n) from by rw [H1.out, if_neg hn32, hw]; rfl)
      refine hid ?_
      clear hw
      obtain ⟨Y, rfl⟩ : ∃ Y, Y = w1 := ⟨_, rfl⟩
      have TXY := hid (HQ.out.2.1.below YK.out)
      have YW := hid (HQ.out.2.2.1.trans (YK.out.mono (Below.size HQ.out.2.2.1)))
      have AB := hid (alloc_old (w := Y) (o := .cells #[.int .i64 2, .string tx, .int .i64 0, .int .i64 (i : Int)] 48))
      have nB := hid (show (Y.alloc (.cells #[.int .i64 2, .string tx, .int .i64 0, .int .i64 (i : Int)] 48)).heap[Y.heap.size]? = some (.cells (cellT ((⟨2, tx, 0⟩ : Tk), i)).toArray 48) from heap_alloc_new Y _)
      obtain ⟨⟨a0, a1, a2, a3⟩, _⟩ := cells4 YB.out
      obtain ⟨hMN, hiM, hEN⟩ := next_le (l := x.data.toList) (i := i) (by rw [HL.out]; exact hlt) HONE.out
      have HREL := hid (lex_rel (l := x.data.toList) (i := i) (by rw [HL.out]; exact hlt) HONE.out HQ.out.2.2.2.1)
      rw [HE.out] at hMN hiM hEN HREL
      rw [HL.out] at hMN hEN
      have SK := hid (fun w => skip_is x HX.out E (by rw [HN.out]; exact hEN) w)
      obtain ⟨M, hM⟩ : ∃ M, E + skipL false (x.data.toList.drop E) = M := ⟨_, rfl⟩
      rw [hM] at hMN hiM SK HREL
      clear hM
      go_wp2_with (first | (at_builtin; refine append_TX (Y.alloc (.cells #[.int .i64 2, .string tx, .int .i64 0, .int .i64 (i : Int)] 48)) rfl _ _ rfl w9.heap.size (.slice A m C) pre m HQ.out.1 rfl (TXY.out.below AB.out) ((⟨2, tx, 0⟩ : Tk), i) Y.heap.size rfl nB.out (by have := HQ.out.2.2.2.2; omega) (by have := YW.out.size; rw [World.size_alloc]; omega) ?_; intro g cap w2 h1 h2; have H2 := hid h1; have B2 := hid ((TXY.out.below AB.out).grown (YW.out.trans (AB.out.mono (Below.size YW.out))) (Nat.le_refl _) (by have := Below.size YW.out; rw [World.size_alloc]; omega) h2); clear h1 h2; refine Hid.out ?_))
      refine hid ?_
      go_wp2_with (first | (go_at_call 37; (with_reducible refine (SK.out _).mono ?_); rintro e9 w8 ⟨rfl, rfl⟩))
      exact ⟨⟨M, pre ++ [((⟨2, tx, 0⟩ : Tk), i)], some ⟨g, 0, none⟩, cap, m + 1, hMN, rfl, rfl, hid ⟨by rw [List.length_append, HQ.out.1]; rfl, H2.out, B2.out, HREL.out, by have := HQ.out.2.2.2.2; omega⟩⟩, by simp [intOf]; omega⟩
   | false =>
    rw [hlb] at LC
    have DC := hid (fun X => digit_is c X)
    cases hdb : digitB c with
    | true =>
     rw [hdb] at DC
     have hsl := fun w => slice_at x i n (i : Int) (E : Int) rfl (by have := HE.out; omega) (by rw [HN.out]; exact hnN) w
     have hbl : (B ((x.data.toList.drop i).take n)).size ≤ 100000 := by
      show (List.toArray _).size ≤ _
      rw [List.size_toArray, List.length_take]
      omega
     have WH := hid (fun X => whole_is (B ((x.data.toList.drop i).take n)) hbl X)
     have H1 := hid (one_digit (r := x.data.toList.drop (i + 1)) hlb hdb)
     rw [← HD.out, HRN.out] at H1
     rw [show (B ((x.data.toList.drop i).take n)).data.toList = (x.data.toList.drop i).take n from rfl] at WH
     clear hlb hdb hbl
     cases hwh : wholeL 0 ((x.data.toList.drop i).take n) with
     | none =>
      have HNO := hid (lex_no (l := x.data.toList) (i := i) (by rw [HL.out]; exact hlt) (by rw [H1.out, hwh]; rfl) HQ.out.2.2.2.1)
      rw [hwh] at WH
      have WQ := hid (show ∀ X, Calls Tryz.prog 42 #[.string (B ((x.data.toList.drop i).take n))] X (fun e w' => e = .returned (.tuple #[.int .i64 0, .bool false]) ∧ w' = X) from fun X => WH.out X)
      have HBF := hid (show Below w9.heap.size w9 (wr.alloc (.cells #[.int .i64 3, .string ⟨#[]⟩, .int .i64 0, .int .i64 (i : Int)] 48)) from HQ.out.2.2.1.trans (alloc_old.mono (Below.size HQ.out.2.2.1)))
      clear WH hwh H1
      generalize B ((x.data.toList.drop i).take n) = tx at hsl WQ
      go_wp2_with (first | (go_at_call 38; (with_reducible refine (RU.out _).mono ?_); rintro e9 w8 ⟨rfl, rfl⟩) | (go_at_call 39; (with_reducible refine (LC.out _).mono ?_); rintro e9 w8 ⟨rfl, rfl⟩) | (go_at_call 41; (with_reducible refine (DC.out _).mono ?_); rintro e9 w8 ⟨rfl, rfl⟩) | (go_at_call 42; (with_reducible refine (WQ.out _).mono ?_); rintro e9 w8 ⟨rfl, rfl⟩))
      exact bodyPost_ret (v := .tuple #[.slice none 0 0, .int .i64 14, .int .i64 (i : Int)]) (by simp [results, Tryz.results16, go_sem]) rfl ⟨fun _ => ⟨_, rfl⟩, fun l hl => (by rw [HNO.out] at hl; cases hl), HBF.out⟩
     | some k =>
      have HONE := hid (show oneL (x.data.toList.drop i) = some (⟨3, ⟨#[]⟩, (k : Int)⟩, n) from by rw [H1.out, hwh]; rfl)
      rw [hwh] at WH
      have WQ := hid (show ∀ X, Calls Tryz.prog 42 #[.string (B ((x.data.toList.drop i).take n))] X (fun e w' => e = .returned (.tuple #[.int .i64 (k : Int), .bool true]) ∧ w' = X) from fun X => WH.out X)
      clear WH hwh H1
      generalize B ((x.data.toList.drop i).take n) = tx at hsl WQ
      have YB := hid (show (wr.alloc (.cells #[.int .i64 3, .string ⟨#[]⟩, .int .i64 (k : Int), .int .i64 (i : Int)] 48)).heap[b]? = some (.cells #[.int .i64 3, .string ⟨#[]⟩, .int .i64 (k : Int), .int .i64 (i : Int)] 48) from by rw [← HBB.out]; exact heap_alloc_new wr _)
      have YK := hid (show Below wr.heap.size wr (wr.alloc (.cells #[.int .i64 3, .string ⟨#[]⟩, .int .i64 (k : Int), .int .i64 (i : Int)] 48)) from alloc_old)
      have AV := hid (alloc_old (w := wr) (o := .cells #[.int .i64 3, .string ⟨#[]⟩, .int .i64 0, .int .i64 (i : Int)] 48))
      go_wp2_with (first | (go_at_call 38; (with_reducible refine (RU.out _).mono ?_); rintro e9 w8 ⟨rfl, rfl⟩) | (go_at_call 39; (with_reducible refine (LC.out _).mono ?_); rintro e9 w8 ⟨rfl, rfl⟩) | (go_at_call 41; (with_reducible refine (DC.out _).mono ?_); rintro e9 w8 ⟨rfl, rfl⟩) | (go_at_call 42; (with_reducible refine (WQ.out _).mono ?_); rintro e9 w8 ⟨rfl, rfl⟩; refine Hid.out ?_))
      rw [HBB.out]
      obtain ⟨V, hV⟩ : ∃ V, wr.alloc (.cells #[.int .i64 3, .string ⟨#[]⟩, .int .i64 0, .int .i64 (i : Int)] 48) = V := ⟨_, rfl⟩
      have VB := hid (show V.heap[b]? = some (.cells #[.int .i64 3, .string ⟨#[]⟩, .int .i64 0, .int .i64 (i : Int)] 48) from by rw [← HBB.out, ← hV]; exact heap_alloc_new wr _)
      have VK := hid (show Below wr.heap.size wr V from by rw [← hV]; exact alloc_old)
      rw [hV]
      clear hV AV hsl hix
      obtain ⟨⟨a0, a1, a2, a3⟩, ⟨f0, f1, f2, f3⟩⟩ := cells4 VB.out
      refine hid ?_
      have ZB := hid (show (V.setCell ⟨b, 2, none⟩ (.int .i64 (k : Int))).heap[b]? = some (.cells #[.int .i64 3, .string ⟨#[]⟩, .int .i64 (k : Int), .int .i64 (i : Int)] 48) from by simp [World.setCell, Array.getElem?_modify, VB.out])
      have ZK := hid (show Below wr.heap.size wr (V.setCell ⟨b, 2, none⟩ (.int .i64 (k : Int))) from VK.out.setCell (by rw [HBB.out]; exact Nat.le_refl _) _)
      clear VB VK
      obtain ⟨Y, hY⟩ : ∃ Y, V.setCell ⟨b, 2, none⟩ (.int .i64 (k : Int)) = Y := ⟨_, rfl⟩
      rw [hY] at ZB ZK
      have YB := ZB
      have YK := ZK
      clear ZB ZK
      have TXY := hid (HQ.out.2.1.below YK.out)
      have YW := hid (HQ.out.2.2.1.trans (YK.out.mono (Below.size HQ.out.2.2.1)))
      have AB := hid (alloc_old (w := Y) (o := .cells #[.int .i64 3, .string ⟨#[]⟩, .int .i64 (k : Int), .int .i64 (i : Int)] 48))
      have nB := hid (show (Y.alloc (.cells #[.int .i64 3, .string ⟨#[]⟩, .int .i64 (k : Int), .int .i64 (i : Int)] 48)).heap[Y.heap.size]? = some (.cells (cellT ((⟨3, ⟨#[]⟩, (k : Int)⟩ : Tk), i)).toArray 48) from heap_alloc_new Y _)
      obtain ⟨⟨a0, a1, a2, a3⟩, _⟩ := cells4 YB.out
      obtain ⟨hMN, hiM, hEN⟩ := next_le (l := x.data.toList) (i := i) (by rw [HL.out]; exact hlt) HONE.out
      have HREL := hid (lex_rel (l := x.data.toList) (i := i) (by rw [HL.out]; exact hlt) HONE.out HQ.out.2.2.2.1)
      rw [HE.out] at hMN hiM hEN HREL
      rw [HL.out] at hMN hEN
      have SK := hid (fun w => skip_is x HX.out E (by rw [HN.out]; exact hEN) w)
      obtain ⟨M, hM⟩ : ∃ M, E + skipL false (x.data.toList.drop E) = M := ⟨_, rfl⟩
      rw [hM] at hMN hiM SK HREL
      clear hM
      go_wp2_with (first | (at_builtin; refine append_TX (Y.alloc (.cells #[.int .i64 3, .string ⟨#[]⟩, .int .i64 (k : Int), .int .i64 (i : Int)] 48)) rfl _ _ rfl w9.heap.size (.slice A m C) pre m HQ.out.1 rfl (TXY.out.below AB.out) ((⟨3, ⟨#[]⟩, (k : Int)⟩ : Tk), i) Y.heap.size rfl nB.out (by have := HQ.out.2.2.2.2; omega) (by have := YW.out.size; rw [World.size_alloc]; omega) ?_; intro g cap w2 h1 h2; have H2 := hid h1; have B2 := hid ((TXY.out.below AB.out).grown (YW.out.trans (AB.out.mono (Below.size YW.out))) (Nat.le_refl _) (by have := Below.size YW.out; rw [World.size_alloc]; omega) h2); clear h1 h2; refine Hid.out ?_))
      refine hid ?_
      go_wp2_with (first | (go_at_call 37; (with_reducible refine (SK.out _).mono ?_); rintro e9 w8 ⟨rfl, rfl⟩))
      exact ⟨⟨M, pre ++ [((⟨3, ⟨#[]⟩, (k : Int)⟩ : Tk), i)], some ⟨g, 0, none⟩, cap, m + 1, hMN, rfl, rfl, hid ⟨by rw [List.length_append, HQ.out.1]; rfl, H2.out, B2.out, HREL.out, by have := HQ.out.2.2.2.2; omega⟩⟩, by simp [intOf]; omega⟩
    | false =>
     rw [hdb] at DC
     obtain ⟨cn, hcn⟩ : ∃ cn, c.toNat = cn := ⟨_, rfl⟩
     have HCN := hid hcn
     rw [hcn] at hix LC DC
     clear hcn
     by_cases h34 : cn = 34
     ·subst h34
      have hq : c = 34 ∨ c = 39 := .inl (UInt8.toNat_inj.1 HCN.out)
      have LC := hid (show ∀ X, Calls Tryz.prog 39 #[.int .u8 (34 : Int)] X (fun e w' => e = .returned (.bool false) ∧ w' = X) from LC.out)
      have DC := hid (show ∀ X, Calls Tryz.prog 41 #[.int .u8 (34 : Int)] X (fun e w' => e = .returned (.bool false) ∧ w' = X) from DC.out)
      have hmk := HCN
      have QU := hid (fun X => quoted_is x HX.out i hl c HC.out (by rcases hq with rfl | rfl <;> decide) (by rcases hq with rfl | rfl <;> decide) X)
      have H1 := hid (one_quoted (r := x.data.toList.drop (i + 1)) hlb hdb hq)
      rw [← HD.out] at H1
      clear hlb hdb hq hmk
      cases hqq : quotL c (x.data.toList.drop (i + 1)) [] 1 with
      | none =>
       rw [hqq] at QU
       have HNO := hid (lex_no (l := x.data.toList) (i := i) (by rw [HL.out]; exact hlt) (by rw [H1.out, hqq]; rfl) HQ.out.2.2.2.1)
       clear hqq H1
       go_wp2_with (first | (go_at_call 38; (with_reducible refine (RU.out _).mono ?_); rintro e9 w8 ⟨rfl, rfl⟩) | (go_at_call 39; (with_reducible refine (LC.out _).mono ?_); rintro e9 w8 ⟨rfl, rfl⟩) | (go_at_call 41; (with_reducible refine (DC.out _).mono ?_); rintro e9 w8 ⟨rfl, rfl⟩) | (go_at_call 43; (with_reducible refine (QU.out _).mono ?_); rintro e9 w1 ⟨t9, p9, rfl, hq9, hw1⟩; have B1 := hid hw1; have Q9 := hid hq9; clear hw1 hq9; refine Hid.out ?_))
       rw [HBB.out]
       clear hix
       have VB := hid (show w1.heap[b]? = some (.cells #[.int .i64 0, .string ⟨#[]⟩, .int .i64 0, .int .i64 (i : Int)] 48) from by rw [← HBB.out]; exact blk_below (heap_alloc_new wr _) B1.out)
       have VK := hid (show Below wr.heap.size wr w1 from alloc_old.trans (B1.out.mono (by rw [World.size_alloc]; omega)))
       clear B1
       have HBF := hid (show Below w9.heap.size w9 w1 from HQ.out.2.2.1.trans (VK.out.mono (Below.size HQ.out.2.2.1)))
       refine hid ?_
       clear Q9
       go_wp2
       exact bodyPost_ret (v := .tuple #[.slice none 0 0, .int .i64 14, .int .i64 (i : Int)]) (by simp [results, Tryz.results16, go_sem]) rfl ⟨fun _ => ⟨_, rfl⟩, fun l hl => (by rw [HNO.out] at hl; cases hl), HBF.out⟩
      | some qr =>
       obtain ⟨qt, qn⟩ := qr
       rw [hqq] at QU
       have HONE := hid (show oneL (x.data.toList.drop i) = some (⟨4, B qt, 0⟩, qn) from by rw [H1.out, hqq]; rfl)
       clear hqq H1
       obtain ⟨E2, hE2⟩ : ∃ E2, i + qn = E2 := ⟨_, rfl⟩
       have HE2 := hid hE2
       go_wp2_with (first | (go_at_call 38; (with_reducible refine (RU.out _).mono ?_); rintro e9 w8 ⟨rfl, rfl⟩) | (go_at_call 39; (with_reducible refine (LC.out _).mono ?_); rintro e9 w8 ⟨rfl, rfl⟩) | (go_at_call 41; (with_reducible refine (DC.out _).mono ?_); rintro e9 w8 ⟨rfl, rfl⟩) | (go_at_call 43; (with_reducible refine (QU.out _).mono ?_); rintro e9 w1 ⟨t9, p9, rfl, hq9, hw1⟩; have B1 := hid hw1; have Q9 := hid hq9; clear hw1 hq9; refine Hid.out ?_))
       rw [HBB.out]
       clear hix
       have VB := hid (show w1.heap[b]? = some (.cells #[.int .i64 0, .string ⟨#[]⟩, .int .i64 0, .int .i64 (i : Int)] 48) from by rw [← HBB.out]; exact blk_below (heap_alloc_new wr _) B1.out)
       have VK := hid (show Below wr.heap.size wr w1 from alloc_old.trans (B1.out.mono (by rw [World.size_alloc]; omega)))
       clear B1
       obtain ⟨h91, h92⟩ := Q9.out _ rfl
       rw [show i + (qt, qn).2 = E2 from hE2] at h92
       subst h91 h92
       clear Q9 hE2
       obtain ⟨⟨a0, a1, a2, a3⟩, ⟨f0, f1, f2, f3⟩⟩ := cells4 VB.out
       have ZB := hid (show ((w1.setCell ⟨b, 0, none⟩ (.int .i64 4)).setCell ⟨b, 1, none⟩ (.string (B (qt, qn).1))).heap[b]? = some (.cells #[.int .i64 4, .string (B (qt, qn).1), .int .i64 0, .int .i64 (i : Int)] 48) from by simp [World.setCell, Array.getElem?_modify, VB.out])
       have ZK := hid (show Below wr.heap.size wr ((w1.setCell ⟨b, 0, none⟩ (.int .i64 4)).setCell ⟨b, 1, none⟩ (.string (B (qt, qn).1))) from (VK.out.setCell (by rw [HBB.out]; exact Nat.le_refl _) _).setCell (by rw [HBB.out]; exact Nat.le_refl _) _)
       clear VB VK
       obtain ⟨Y, hY⟩ : ∃ Y, (w1.setCell ⟨b, 0, none⟩ (.int .i64 4)).setCell ⟨b, 1, none⟩ (.string (B (qt, qn).1)) = Y := ⟨_, rfl⟩
       rw [hY] at ZB ZK
       have YB := ZB
       have YK := ZK
       clear ZB ZK
       refine hid ?_
       have TXY := hid (HQ.out.2.1.below YK.out)
       have YW := hid (HQ.out.2.2.1.trans (YK.out.mono (Below.size HQ.out.2.2.1)))
       have AB := hid (alloc_old (w := Y) (o := .cells #[.int .i64 4, .string (B qt), .int .i64 0, .int .i64 (i : Int)] 48))
       have nB := hid (show (Y.alloc (.cells #[.int .i64 4, .string (B qt), .int .i64 0, .int .i64 (i : Int)] 48)).heap[Y.heap.size]? = some (.cells (cellT ((⟨4, (B qt), 0⟩ : Tk), i)).toArray 48) from heap_alloc_new Y _)
       obtain ⟨⟨a0, a1, a2, a3⟩, _⟩ := cells4 YB.out
       obtain ⟨hMN, hiM, hEN⟩ := next_le (l := x.data.toList) (i := i) (by rw [HL.out]; exact hlt) HONE.out
       have HREL := hid (lex_rel (l := x.data.toList) (i := i) (by rw [HL.out]; exact hlt) HONE.out HQ.out.2.2.2.1)
       rw [HE2.out] at hMN hiM hEN HREL
       rw [HL.out] at hMN hEN
       have SK := hid (fun w => skip_is x HX.out E2 (by rw [HN.out]; exact hEN) w)
       obtain ⟨M, hM⟩ : ∃ M, E2 + skipL false (x.data.toList.drop E2) = M := ⟨_, rfl⟩
       rw [hM] at hMN hiM SK HREL
       clear hM
       go_wp2_with (first | (at_builtin; refine append_TX (Y.alloc (.cells #[.int .i64 4, .string (B qt), .int .i64 0, .int .i64 (i : Int)] 48)) rfl _ _ rfl w9.heap.size (.slice A m C) pre m HQ.out.1 rfl (TXY.out.below AB.out) ((⟨4, (B qt), 0⟩ : Tk), i) Y.heap.size rfl nB.out (by have := HQ.out.2.2.2.2; omega) (by have := YW.out.size; rw [World.size_alloc]; omega) ?_; intro g cap w2 h1 h2; have H2 := hid h1; have B2 := hid ((TXY.out.below AB.out).grown (YW.out.trans (AB.out.mono (Below.size YW.out))) (Nat.le_refl _) (by have := Below.size YW.out; rw [World.size_alloc]; omega) h2); clear h1 h2; refine Hid.out ?_))
       refine hid ?_
       go_wp2_with (first | (go_at_call 37; (with_reducible refine (SK.out _).mono ?_); rintro e9 w8 ⟨rfl, rfl⟩))
       exact ⟨⟨M, pre ++ [((⟨4, (B qt), 0⟩ : Tk), i)], some ⟨g, 0, none⟩, cap, m + 1, hMN, rfl, rfl, hid ⟨by rw [List.length_append, HQ.out.1]; rfl, H2.out, B2.out, HREL.out, by have := HQ.out.2.2.2.2; omega⟩⟩, by simp [intOf]; omega⟩
     ·have g34 : ((cn : Int) == 34) = false := by simp; omega
      have k34 : ¬ (cn : Int) = 34 := by omega
      by_cases h39 : cn = 39
      ·subst h39
       have hq : c = 34 ∨ c = 39 := .inr (UInt8.toNat_inj.1 HCN.out)
       have LC := hid (show ∀ X, Calls Tryz.prog 39 #[.int .u8 (39 : Int)] X (fun e w' => e = .returned (.bool false) ∧ w' = X) from LC.out)
       have DC := hid (show ∀ X, Calls Tryz.prog 41 #[.int .u8 (39 : Int)] X (fun e w' => e = .returned (.bool false) ∧ w' = X) from DC.out)
       have hmk := HCN
       have QU := hid (fun X => quoted_is x HX.out i hl c HC.out (by rcases hq with rfl | rfl <;> decide) (by rcases hq with rfl | rfl <;> decide) X)
       have H1 := hid (one_quoted (r := x.data.toList.drop (i + 1)) hlb hdb hq)
       rw [← HD.out] at H1
       clear hlb hdb hq hmk
       cases hqq : quotL c (x.data.toList.drop (i + 1)) [] 1 with
       | none =>
        rw [hqq] at QU
        have HNO := hid (lex_no (l := x.data.toList) (i := i) (by rw [HL.out]; exact hlt) (by rw [H1.out, hqq]; rfl) HQ.out.2.2.2.1)
        clear hqq H1
        go_wp2_with (first | (go_at_call 38; (with_reducible refine (RU.out _).mono ?_); rintro e9 w8 ⟨rfl, rfl⟩) | (go_at_call 39; (with_reducible refine (LC.out _).mono ?_); rintro e9 w8 ⟨rfl, rfl⟩) | (go_at_call 41; (with_reducible refine (DC.out _).mono ?_); rintro e9 w8 ⟨rfl, rfl⟩) | (go_at_call 43; (with_reducible refine (QU.out _).mono ?_); rintro e9 w1 ⟨t9, p9, rfl, hq9, hw1⟩; have B1 := hid hw1; have Q9 := hid hq9; clear hw1 hq9; refine Hid.out ?_))
        rw [HBB.out]
        clear hix
        have VB := hid (show w1.heap[b]? = some (.cells #[.int .i64 0, .string ⟨#[]⟩, .int .i64 0, .int .i64 (i : Int)] 48) from by rw [← HBB.out]; exact blk_below (heap_alloc_new wr _) B1.out)
        have VK := hid (show Below wr.heap.size wr w1 from alloc_old.trans (B1.out.mono (by rw [World.size_alloc]; omega)))
        clear B1
        have HBF := hid (show Below w9.heap.size w9 w1 from HQ.out.2.2.1.trans (VK.out.mono (Below.size HQ.out.2.2.1)))
        refine hid ?_
        clear Q9
        go_wp2
        exact bodyPost_ret (v := .tuple #[.slice none 0 0, .int .i64 14, .int .i64 (i : Int)]) (by simp [results, Tryz.results16, go_sem]) rfl ⟨fun _ => ⟨_, rfl⟩, fun l hl => (by rw [HNO.out] at hl; cases hl), HBF.out⟩
       | some qr =>
        obtain ⟨qt, qn⟩ := qr
        rw [hqq] at QU
        have HONE := hid (show oneL (x.data.toList.drop i) = some (⟨4, B qt, 0⟩, qn) from by rw [H1.out, hqq]; rfl)
        clear hqq H1
        obtain ⟨E2, hE2⟩ : ∃ E2, i + qn = E2 := ⟨_, rfl⟩
        have HE2 := hid hE2
        go_wp2_with (first | (go_at_call 38; (with_reducible refine (RU.out _).mono ?_); rintro e9 w8 ⟨rfl, rfl⟩) | (go_at_call 39; (with_reducible refine (LC.out _).mono ?_); rintro e9 w8 ⟨rfl, rfl⟩) | (go_at_call 41; (with_reducible refine (DC.out _).mono ?_); rintro e9 w8 ⟨rfl, rfl⟩) | (go_at_call 43; (with_reducible refine (QU.out _).mono ?_); rintro e9 w1 ⟨t9, p9, rfl, hq9, hw1⟩; have B1 := hid hw1; have Q9 := hid hq9; clear hw1 hq9; refine Hid.out ?_))
        rw [HBB.out]
        clear hix
        have VB := hid (show w1.heap[b]? = some (.cells #[.int .i64 0, .string ⟨#[]⟩, .int .i64 0, .int .i64 (i : Int)] 48) from by rw [← HBB.out]; exact blk_below (heap_alloc_new wr _) B1.out)
        have VK := hid (show Below wr.heap.size wr w1 from alloc_old.trans (B1.out.mono (by rw [World.size_alloc]; omega)))
        clear B1
        obtain ⟨h91, h92⟩ := Q9.out _ rfl
        rw [show i + (qt, qn).2 = E2 from hE2] at h92
        subst h91 h92
        clear Q9 hE2
        obtain ⟨⟨a0, a1, a2, a3⟩, ⟨f0, f1, f2, f3⟩⟩ := cells4 VB.out
        have ZB := hid (show ((w1.setCell ⟨b, 0, none⟩ (.int .i64 4)).setCell ⟨b, 1, none⟩ (.string (B (qt, qn).1))).heap[b]? = some (.cells #[.int .i64 4, .string (B (qt, qn).1), .int .i64 0, .int .i64 (i : Int)] 48) from by simp [World.setCell, Array.getElem?_modify, VB.out])
        have ZK := hid (show Below wr.heap.size wr ((w1.setCell ⟨b, 0, none⟩ (.int .i64 4)).setCell ⟨b, 1, none⟩ (.string (B (qt, qn).1))) from (VK.out.setCell (by rw [HBB.out]; exact Nat.le_refl _) _).setCell (by rw [HBB.out]; exact Nat.le_refl _) _)
        clear VB VK
        obtain ⟨Y, hY⟩ : ∃ Y, (w1.setCell ⟨b, 0, none⟩ (.int .i64 4)).setCell ⟨b, 1, none⟩ (.string (B (qt, qn).1)) = Y := ⟨_, rfl⟩
        rw [hY] at ZB ZK
        have YB := ZB
        have YK := ZK
        clear ZB ZK
        refine hid ?_
        have TXY := hid (HQ.out.2.1.below YK.out)
        have YW := hid (HQ.out.2.2.1.trans (YK.out.mono (Below.size HQ.out.2.2.1)))
        have AB := hid (alloc_old (w := Y) (o := .cells #[.int .i64 4, .string (B qt), .int .i64 0, .int .i64 (i : Int)] 48))
        have nB := hid (show (Y.alloc (.cells #[.int .i64 4, .string (B qt), .int .i64 0, .int .i64 (i : Int)] 48)).heap[Y.heap.size]? = some (.cells (cellT ((⟨4, (B qt), 0⟩ : Tk), i)).toArray 48) from heap_alloc_new Y _)
        obtain ⟨⟨a0, a1, a2, a3⟩, _⟩ := cells4 YB.out
        obtain ⟨hMN, hiM, hEN⟩ := next_le (l := x.data.toList) (i := i) (by rw [HL.out]; exact hlt) HONE.out
        have HREL := hid (lex_rel (l := x.data.toList) (i := i) (by rw [HL.out]; exact hlt) HONE.out HQ.out.2.2.2.1)
        rw [HE2.out] at hMN hiM hEN HREL
        rw [HL.out] at hMN hEN
        have SK := hid (fun w => skip_is x HX.out E2 (by rw [HN.out]; exact hEN) w)
        obtain ⟨M, hM⟩ : ∃ M, E2 + skipL false (x.data.toList.drop E2) = M := ⟨_, rfl⟩
        rw [hM] at hMN hiM SK HREL
        clear hM
        go_wp2_with (first | (at_builtin; refine append_TX (Y.alloc (.cells #[.int .i64 4, .string (B qt), .int .i64 0, .int .i64 (i : Int)] 48)) rfl _ _ rfl w9.heap.size (.slice A m C) pre m HQ.out.1 rfl (TXY.out.below AB.out) ((⟨4, (B qt), 0⟩ : Tk), i) Y.heap.size rfl nB.out (by have := HQ.out.2.2.2.2; omega) (by have := YW.out.size; rw [World.size_alloc]; omega) ?_; intro g cap w2 h1 h2; have H2 := hid h1; have B2 := hid ((TXY.out.below AB.out).grown (YW.out.trans (AB.out.mono (Below.size YW.out))) (Nat.le_refl _) (by have := Below.size YW.out; rw [World.size_alloc]; omega) h2); clear h1 h2; refine Hid.out ?_))
        refine hid ?_
        go_wp2_with (first | (go_at_call 37; (with_reducible refine (SK.out _).mono ?_); rintro e9 w8 ⟨rfl, rfl⟩))
        exact ⟨⟨M, pre ++ [((⟨4, (B qt), 0⟩ : Tk), i)], some ⟨g, 0, none⟩, cap, m + 1, hMN, rfl, rfl, hid ⟨by rw [List.length_append, HQ.out.1]; rfl, H2.out, B2.out, HREL.out, by have := HQ.out.2.2.2.2; omega⟩⟩, by simp [intOf]; omega⟩
      ·have g39 : ((cn : Int) == 39) = false := by simp; omega
       have k39 : ¬ (cn : Int) = 39 := by omega
       have hq : ¬ (c = 34 ∨ c = 39) := by
        rintro (h | h)
        ·exact h34 (by rw [← HCN.out, h]; rfl)
        ·exact h39 (by rw [← HCN.out, h]; rfl)
       have SG := hid (fun X => sign_is x HX.out i hl X)
       have H1 := hid (one_sign (r := x.data.toList.drop (i + 1)) hlb hdb hq)
       rw [← HD.out] at H1
       obtain ⟨sn, hsn⟩ : ∃ sn, signL (x.data.toList.drop i) = sn := ⟨_, rfl⟩
       rw [hsn] at SG H1
       have hsN : i + sn ≤ N := by
        have := signL_le (x.data.toList.drop i)
        rw [hsn, List.length_drop, HL.out] at this
        omega
       clear hlb hdb hq hsn
       by_cases hs0 : sn = 0
       ·subst hs0
        have HNO := hid (lex_no (l := x.data.toList) (i := i) (by rw [HL.out]; exact hlt) (by rw [H1.out, if_pos rfl]) HQ.out.2.2.2.1)
        clear H1
        go_wp2_with (first | (go_at_call 38; (with_reducible refine (RU.out _).mono ?_); rintro e9 w8 ⟨rfl, rfl⟩) | (go_at_call 39; (with_reducible refine (LC.out _).mono ?_); rintro e9 w8 ⟨rfl, rfl⟩) | (go_at_call 41; (with_reducible refine (DC.out _).mono ?_); rintro e9 w8 ⟨rfl, rfl⟩) | (go_at_call 44; (with_reducible refine (SG.out _).mono ?_); rintro e9 w1 ⟨rfl, hw1⟩; have B1 := hid hw1; clear hw1; refine Hid.out ?_))
        rw [HBB.out]
        clear hix
        have VB := hid (show w1.heap[b]? = some (.cells #[.int .i64 0, .string ⟨#[]⟩, .int .i64 0, .int .i64 (i : Int)] 48) from by rw [← HBB.out]; exact blk_below (heap_alloc_new wr _) B1.out)
        have VK := hid (show Below wr.heap.size wr w1 from alloc_old.trans (B1.out.mono (by rw [World.size_alloc]; omega)))
        clear B1
        have HBF := hid (show Below w9.heap.size w9 w1 from HQ.out.2.2.1.trans (VK.out.mono (Below.size HQ.out.2.2.1)))
        refine hid ?_
        go_wp2
        exact bodyPost_ret (v := .tuple #[.slice none 0 0, .int .i64 14, .int .i64 (i : Int)]) (by simp [results, Tryz.results16, go_sem]) rfl ⟨fun _ => ⟨_, rfl⟩, fun l hl => (by rw [HNO.out] at hl; cases hl), HBF.out⟩
       ·have HONE := hid (show oneL (x.data.toList.drop i) = some (⟨5, B ((x.data.toList.drop i).take sn), 0⟩, sn) from by rw [H1.out, if_neg hs0])
        obtain ⟨E2, hE2⟩ : ∃ E2, i + sn = E2 := ⟨_, rfl⟩
        have HE2 := hid hE2
        have hsl := fun w => slice_at x i sn (i : Int) ((E2 : Nat) : Int) rfl (by rw [hE2]) (by rw [HN.out]; exact hsN) w
        have hs0i : ¬ (sn : Int) = 0 := by omega
        have hs0b : ((sn : Int) == 0) = false := by simp; omega
        have wE : IntKind.i64.wrap ((i : Int) + (sn : Int)) = (E2 : Int) ∧ wrap64 ((i : Int) + (sn : Int)) = (E2 : Int) := by
         obtain ⟨h1, h2⟩ := wrapS (E2 : Int) ⟨by omega, by omega⟩
         rw [show (i : Int) + (sn : Int) = (E2 : Int) by omega]
         exact ⟨h1, h2⟩
        obtain ⟨wEa, wEb⟩ := wE
        generalize B ((x.data.toList.drop i).take sn) = tx at hsl HONE
        clear H1 hE2
        go_wp2_with (first | (go_at_call 38; (with_reducible refine (RU.out _).mono ?_); rintro e9 w8 ⟨rfl, rfl⟩) | (go_at_call 39; (with_reducible refine (LC.out _).mono ?_); rintro e9 w8 ⟨rfl, rfl⟩) | (go_at_call 41; (with_reducible refine (DC.out _).mono ?_); rintro e9 w8 ⟨rfl, rfl⟩) | (go_at_call 44; (with_reducible refine (SG.out _).mono ?_); rintro e9 w1 ⟨rfl, hw1⟩; have B1 := hid hw1; clear hw1; refine Hid.out ?_))
        rw [HBB.out]
        clear hix
        have VB := hid (show w1.heap[b]? = some (.cells #[.int .i64 0, .string ⟨#[]⟩, .int .i64 0, .int .i64 (i : Int)] 48) from by rw [← HBB.out]; exact blk_below (heap_alloc_new wr _) B1.out)
        have VK := hid (show Below wr.heap.size wr w1 from alloc_old.trans (B1.out.mono (by rw [World.size_alloc]; omega)))
        clear B1
        obtain ⟨⟨a0, a1, a2, a3⟩, ⟨f0, f1, f2, f3⟩⟩ := cells4 VB.out
        have ZB := hid (show ((w1.setCell ⟨b, 0, none⟩ (.int .i64 5)).setCell ⟨b, 1, none⟩ (.string tx)).heap[b]? = some (.cells #[.int .i64 5, .string tx, .int .i64 0, .int .i64 (i : Int)] 48) from by simp [World.setCell, Array.getElem?_modify, VB.out])
        have ZK := hid (show Below wr.heap.size wr ((w1.setCell ⟨b, 0, none⟩ (.int .i64 5)).setCell ⟨b, 1, none⟩ (.string tx)) from (VK.out.setCell (by rw [HBB.out]; exact Nat.le_refl _) _).setCell (by rw [HBB.out]; exact Nat.le_refl _) _)
        clear VB VK
        obtain ⟨Y, hY⟩ : ∃ Y, (w1.setCell ⟨b, 0, none⟩ (.int .i64 5)).setCell ⟨b, 1, none⟩ (.string tx) = Y := ⟨_, rfl⟩
        rw [hY] at ZB ZK
        have YB := ZB
        have YK := ZK
        clear ZB ZK
        refine hid ?_
        go_wp2
        go_region
        have ZB := hid (show Y.drew.heap[b]? = some (.cells #[.int .i64 5, .string tx, .int .i64 0, .int .i64 (i : Int)] 48) from YB.out)
        have ZK := hid YK.out.drew
        clear YB YK a0 a1 a2 a3 f0 f1 f2 f3 hY wEa wEb hs0i hs0b hsl
        generalize Y.drew = Y at ZB ZK ⊢
        have YB := ZB
        have YK := ZK
        clear ZB ZK
        have TXY := hid (HQ.out.2.1.below YK.out)
        have YW := hid (HQ.out.2.2.1.trans (YK.out.mono (Below.size HQ.out.2.2.1)))
        have AB := hid (alloc_old (w := Y) (o := .cells #[.int .i64 5, .string tx, .int .i64 0, .int .i64 (i : Int)] 48))
        have nB := hid (show (Y.alloc (.cells #[.int .i64 5, .string tx, .int .i64 0, .int .i64 (i : Int)] 48)).heap[Y.heap.size]? = some (.cells (cellT ((⟨5, tx, 0⟩ : Tk), i)).toArray 48) from heap_alloc_new Y _)
        obtain ⟨⟨a0, a1, a2, a3⟩, _⟩ := cells4 YB.out
        obtain ⟨hMN, hiM, hEN⟩ := next_le (l := x.data.toList) (i := i) (by rw [HL.out]; exact hlt) HONE.out
        have HREL := hid (lex_rel (l := x.data.toList) (i := i) (by rw [HL.out]; exact hlt) HONE.out HQ.out.2.2.2.1)
        rw [HE2.out] at hMN hiM hEN HREL
        rw [HL.out] at hMN hEN
        have SK := hid (fun w => skip_is x HX.out E2 (by rw [HN.out]; exact hEN) w)
        obtain ⟨M, hM⟩ : ∃ M, E2 + skipL false (x.data.toList.drop E2) = M := ⟨_, rfl⟩
        rw [hM] at hMN hiM SK HREL
        clear hM
        go_wp2_with (first | (at_builtin; refine append_TX (Y.alloc (.cells #[.int .i64 5, .string tx, .int .i64 0, .int .i64 (i : Int)] 48)) rfl _ _ rfl w9.heap.size (.slice A m C) pre m HQ.out.1 rfl (TXY.out.below AB.out) ((⟨5, tx, 0⟩ : Tk), i) Y.heap.size rfl nB.out (by have := HQ.out.2.2.2.2; omega) (by have := YW.out.size; rw [World.size_alloc]; omega) ?_; intro g cap w2 h1 h2; have H2 := hid h1; have B2 := hid ((TXY.out.below AB.out).grown (YW.out.trans (AB.out.mono (Below.size YW.out))) (Nat.le_refl _) (by have := Below.size YW.out; rw [World.size_alloc]; omega) h2); clear h1 h2; refine Hid.out ?_))
        refine hid ?_
        go_wp2_with (first | (go_at_call 37; (with_reducible refine (SK.out _).mono ?_); rintro e9 w8 ⟨rfl, rfl⟩))
        exact ⟨⟨M, pre ++ [((⟨5, tx, 0⟩ : Tk), i)], some ⟨g, 0, none⟩, cap, m + 1, hMN, rfl, rfl, hid ⟨by rw [List.length_append, HQ.out.1]; rfl, H2.out, B2.out, HREL.out, by have := HQ.out.2.2.2.2; omega⟩⟩, by simp [intOf]; omega⟩
  ·have hiN : i = N := by omega
   have HLA := hid (lex_last (l := x.data.toList) (i := i) (by rw [HL.out]; exact hiN) HQ.out.2.2.2.1)
   subst hiN
   have q0 : ¬ (i : Int) < (i : Int) := by omega
   have AB := hid (alloc_old (w := wr) (o := .cells #[.int .i64 0, .string ⟨#[]⟩, .int .i64 0, .int .i64 (i : Int)] 48))
   have nB := hid (show (wr.alloc (.cells #[.int .i64 0, .string ⟨#[]⟩, .int .i64 0, .int .i64 (i : Int)] 48)).heap[wr.heap.size]? = some (.cells (cellT ((⟨0, ⟨#[]⟩, 0⟩ : Tk), i)).toArray 48) from heap_alloc_new wr _)
   go_wp2_with (first | (at_builtin; refine append_TX (wr.alloc (.cells #[.int .i64 0, .string ⟨#[]⟩, .int .i64 0, .int .i64 (i : Int)] 48)) rfl _ _ rfl w9.heap.size (.slice A m C) pre m HQ.out.1 rfl (HQ.out.2.1.below AB.out) ((⟨0, ⟨#[]⟩, 0⟩ : Tk), i) wr.heap.size rfl nB.out (by have := HQ.out.2.2.2.2; omega) (by have := HQ.out.2.2.1.size; rw [World.size_alloc]; omega) ?_; intro g cap w2 h1 h2; have H2 := hid h1; have B2 := hid ((HQ.out.2.1.below AB.out).grown (HQ.out.2.2.1.trans (AB.out.mono (Below.size HQ.out.2.2.1))) (Nat.le_refl _) (by have := Below.size HQ.out.2.2.1; rw [World.size_alloc]; omega) h2); clear h1 h2; refine Hid.out ?_))
   refine hid ?_
   go_wp2
   exact bodyPost_ret (v := .tuple #[.slice (some ⟨g, 0, none⟩) (m + 1) cap, .int .i64 0, .int .i64 0]) (by simp [results, Tryz.results16, go_sem]) rfl ⟨fun hR => (by rw [HLA.out] at hR; cases hR), fun l hl => ⟨_, rfl, by rw [HLA.out] at hl; cases hl; exact H2.out⟩, B2.out⟩
end Go.Proofs.YtgkejkgailnbmaaGreatDoor
