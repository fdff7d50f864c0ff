/- Texts joined: Q1, Q2, Q3, Q4, Q5, L1 -/
import Derived.Test.YtgkejkgailnbmaaGreatDoorQt3
set_option linter.unusedVariables false
set_option linter.unusedSimpArgs false
namespace Go.Proofs.YtgkejkgailnbmaaGreatDoor
open Lib (hid)
open Go.ChangeShapes Go.WideShapes Go.ChangeAt Go.RowKit TP
theorem digitB_nat (c : UInt8) : digitB c = (decide (48 ≤ c.toNat) && decide (c.toNat ≤ 57)) := by
 unfold digitB
 simp only [ge_iff_le, UInt8.le_iff_toNat_le]
 rfl
theorem letterB_nat (c : UInt8) : letterB c = ((decide (97 ≤ c.toNat) && decide (c.toNat ≤ 122)) || (decide (65 ≤ c.toNat) && decide (c.toNat ≤ 90)) || decide (c.toNat = 95)) := by
 unfold letterB
 have h : (c == 95) = decide (c.toNat = 95) := by
  by_cases h : c = 95
  ·subst h; rfl
  ·have : ¬ c.toNat = 95 := fun e => h (UInt8.toNat_inj.1 e)
   rw [decide_eq_false this]
   exact beq_eq_false_iff_ne.2 h
 rw [h]
 simp only [ge_iff_le, UInt8.le_iff_toNat_le]
 rfl
set_option maxRecDepth 100000 in
theorem digit_is (c : UInt8) (w : World) : Calls Tryz.prog 41 #[.int .u8 (c.toNat : Int)] w fun e w' => e = .returned (.bool (digitB c)) ∧ w' = w := by
 rw [digitB_nat]
 generalize c.toNat = n
 by_cases a1 : (48 : Int) ≤ (n : Int)
 ·by_cases a2 : (n : Int) ≤ 57
  ·have b1 : 48 ≤ n := by omega
   have b2 : n ≤ 57 := by omega
   go_enter Tryz.func41, Tryz.ntmps41
   go_wp2
   go_ret
   exact ⟨by simp [b1, b2], rfl⟩
  ·have b2 : ¬ n ≤ 57 := by omega
   go_enter Tryz.func41, Tryz.ntmps41
   go_wp2
   go_ret
   exact ⟨by simp [b2], rfl⟩
 ·have b1 : ¬ 48 ≤ n := by omega
  go_enter Tryz.func41, Tryz.ntmps41
  go_wp2
  go_ret
  exact ⟨by simp [b1], rfl⟩
set_option maxRecDepth 100000 in
theorem letter_is (c : UInt8) (w : World) : Calls Tryz.prog 39 #[.int .u8 (c.toNat : Int)] w fun e w' => e = .returned (.bool (letterB c)) ∧ w' = w := by
 rw [letterB_nat]
 generalize c.toNat = n
 by_cases a1 : (97 : Int) ≤ (n : Int)
 ·by_cases a2 : (n : Int) ≤ 122
  ·skip
   have hv : ((decide (97 ≤ n) && decide (n ≤ 122)) || (decide (65 ≤ n) && decide (n ≤ 90)) || decide (n = 95)) = true := by simp; omega
   rw [hv]
   clear hv
   go_enter Tryz.func39, Tryz.ntmps39
   go_wp2
   go_ret
   exact ⟨by first | (simp; done) | (simp; omega), by simp⟩
  ·skip
   have f0 : (65 : Int) ≤ (n : Int) := by omega
   have f1 : ¬ (n : Int) ≤ 90 := by omega
   have f2 : ¬ (n : Int) = 95 := by omega
   have hv : ((decide (97 ≤ n) && decide (n ≤ 122)) || (decide (65 ≤ n) && decide (n ≤ 90)) || decide (n = 95)) = false := by simp; omega
   rw [hv]
   clear hv
   go_enter Tryz.func39, Tryz.ntmps39
   go_wp2
   go_ret
   exact ⟨by first | (simp; done) | (simp; omega), by simp⟩
 ·by_cases a3 : (65 : Int) ≤ (n : Int)
  ·by_cases a4 : (n : Int) ≤ 90
   ·skip
    have hv : ((decide (97 ≤ n) && decide (n ≤ 122)) || (decide (65 ≤ n) && decide (n ≤ 90)) || decide (n = 95)) = true := by simp; omega
    rw [hv]
    clear hv
    go_enter Tryz.func39, Tryz.ntmps39
    go_wp2
    go_ret
    exact ⟨by first | (simp; done) | (simp; omega), by simp⟩
   ·by_cases a5 : (n : Int) = 95
    ·skip
     have hv : ((decide (97 ≤ n) && decide (n ≤ 122)) || (decide (65 ≤ n) && decide (n ≤ 90)) || decide (n = 95)) = true := by simp; omega
     rw [hv]
     clear hv
     go_enter Tryz.func39, Tryz.ntmps39
     go_wp2
     go_ret
     exact ⟨by first | (simp; done) | (simp; omega), by simp⟩
    ·skip
     have hv : ((decide (97 ≤ n) && decide (n ≤ 122)) || (decide (65 ≤ n) && decide (n ≤ 90)) || decide (n = 95)) = false := by simp; omega
     rw [hv]
     clear hv
     go_enter Tryz.func39, Tryz.ntmps39
     go_wp2
     go_ret
     exact ⟨by first | (simp; done) | (simp; omega), by simp⟩
  ·skip
   have f0 : ¬ (n : Int) = 95 := by omega
   have hv : ((decide (97 ≤ n) && decide (n ≤ 122)) || (decide (65 ≤ n) && decide (n ≤ 90)) || decide (n = 95)) = false := by simp; omega
   rw [hv]
   clear hv
   go_enter Tryz.func39, Tryz.ntmps39
   go_wp2
   go_ret
   exact ⟨by first | (simp; done) | (simp; omega), by simp⟩
set_option maxRecDepth 100000 in
set_option maxHeartbeats 4000000 in
theorem has_is (b C : Nat) (xs : List ByteArray) (x : ByteArray) (hlen : xs.length ≤ 1000) (w : World) (hc : ∀ (j : Nat) (y : ByteArray), xs[j]? = some y → w.cell? ⟨b, j, none⟩ = some (.string y)) : Calls Tryz.prog 66 #[.slice (some ⟨b, 0, none⟩) xs.length C, .string x] w fun e w' => e = .returned (.bool (xs.any (fun y => decide (y = x)))) ∧ w' = w := by
 have HC := hid hc
 obtain ⟨N, hN⟩ : ∃ N, xs.length = N := ⟨_, rfl⟩
 rw [hN] at hlen ⊢
 have HN := hid hN
 obtain ⟨r, hr⟩ : ∃ r, xs.any (fun y => decide (y = x)) = r := ⟨_, rfl⟩
 rw [hr]
 have HR := hid hr
 clear hc hN hr
 go_enter Tryz.func66, Tryz.ntmps66
 go_wp2
 go_loopw [5] (fun iv wr => ∃ i : Nat, i ≤ N ∧ iv = .int .i64 i ∧ Hid (wr = w ∧ ∀ (j : Nat) (y : ByteArray), j < i → xs[j]? = some y → ¬ y = x)) (fun iv _ => N - (intOf iv).toNat)
 case atStart => exact ⟨0, Nat.zero_le _, rfl, hid ⟨rfl, fun j _ hj => absurd hj (Nat.not_lt_zero _)⟩⟩
 case round =>
  obtain ⟨i, hi, rfl, HQ⟩ := hrel
  obtain rfl := HQ.out.1.symm
  by_cases hlt : i < N
  ·have q0 : (i : Int) < (N : Int) := by omega
   obtain ⟨y, hy⟩ : ∃ y, xs[i]? = some y := ⟨_, List.getElem?_eq_getElem (by rw [HN.out]; exact hlt)⟩
   have cy := HC.out i y hy
   have HY := hid hy
   clear hy
   by_cases hx : y = x
   ·subst hx
    have hrt : r = true := by rw [← HR.out]; exact List.any_eq_true.2 ⟨y, List.mem_of_getElem? HY.out, by simp⟩
    subst hrt
    go_wp2
    go_ret
    exact ⟨by simp, by simp⟩
   ·obtain ⟨hx1, hx2, hx3⟩ := txt_ne hx
    have HX := hid hx
    clear hx
    go_wp2
    exact ⟨⟨i + 1, hlt, by go_num, hid ⟨by first | rfl | trivial, fun j z hj hz => by
     rcases Nat.lt_or_ge j i with h1 | h1
     ·exact HQ.out.2 j z h1 hz
     ·have e : j = i := by omega
      subst e
      rw [HY.out] at hz
      cases hz
      exact HX.out⟩⟩, by simp [intOf]; omega⟩
  ·have q0 : ¬ (i : Int) < (N : Int) := by omega
   have ha : (xs.any fun z => decide (z = x)) = false := by
    rw [List.any_eq_false]
    intro z hz
    obtain ⟨j, hj⟩ := List.mem_iff_getElem?.1 hz
    have := HQ.out.2 j z (by have := (List.getElem?_eq_some_iff.1 hj).1; rw [HN.out] at this; omega) hj
    simpa using this
   have hrf : r = false := HR.out.symm.trans ha
   subst hrf
   clear ha
   go_wp2
   go_ret
   exact ⟨by simp, by simp⟩
end Go.Proofs.YtgkejkgailnbmaaGreatDoor
namespace Go.Proofs.YtgkejkgailnbmaaGreatDoor
open Lib (hid)
open Go.ChangeShapes Go.WideShapes Go.ChangeAt Go.RowKit TP
set_option maxRecDepth 100000 in
set_option maxHeartbeats 4000000 in
theorem Word_is (x : ByteArray) (w : World) : Calls Tryz.prog 40 #[.string x] w fun e w' => e = .returned (.bool (isWord x)) ∧ Below w.heap.size w w' := by
 have nW := heap_alloc_new w (.cells #[.string ⟨#[97, 110, 100]⟩, .string ⟨#[98, 114, 101, 97, 107]⟩, .string ⟨#[100, 111]⟩, .string ⟨#[101, 108, 115, 101]⟩, .string ⟨#[101, 108, 115, 101, 105, 102]⟩, .string ⟨#[101, 110, 100]⟩, .string ⟨#[102, 97, 108, 115, 101]⟩, .string ⟨#[102, 111, 114]⟩, .string ⟨#[102, 117, 110, 99, 116, 105, 111, 110]⟩, .string ⟨#[105, 102]⟩, .string ⟨#[105, 110]⟩, .string ⟨#[108, 111, 99, 97, 108]⟩, .string ⟨#[110, 105, 108]⟩, .string ⟨#[110, 111, 116]⟩, .string ⟨#[111, 114]⟩, .string ⟨#[114, 101, 112, 101, 97, 116]⟩, .string ⟨#[114, 101, 116, 117, 114, 110]⟩, .string ⟨#[116, 104, 101, 110]⟩, .string ⟨#[116, 114, 117, 101]⟩, .string ⟨#[117, 110, 116, 105, 108]⟩, .string ⟨#[119, 104, 105, 108, 101]⟩] 9)
 have AW := hid (alloc_old (w := w) (o := .cells #[.string ⟨#[97, 110, 100]⟩, .string ⟨#[98, 114, 101, 97, 107]⟩, .string ⟨#[100, 111]⟩, .string ⟨#[101, 108, 115, 101]⟩, .string ⟨#[101, 108, 115, 101, 105, 102]⟩, .string ⟨#[101, 110, 100]⟩, .string ⟨#[102, 97, 108, 115, 101]⟩, .string ⟨#[102, 111, 114]⟩, .string ⟨#[102, 117, 110, 99, 116, 105, 111, 110]⟩, .string ⟨#[105, 102]⟩, .string ⟨#[105, 110]⟩, .string ⟨#[108, 111, 99, 97, 108]⟩, .string ⟨#[110, 105, 108]⟩, .string ⟨#[110, 111, 116]⟩, .string ⟨#[111, 114]⟩, .string ⟨#[114, 101, 112, 101, 97, 116]⟩, .string ⟨#[114, 101, 116, 117, 114, 110]⟩, .string ⟨#[116, 104, 101, 110]⟩, .string ⟨#[116, 114, 117, 101]⟩, .string ⟨#[117, 110, 116, 105, 108]⟩, .string ⟨#[119, 104, 105, 108, 101]⟩] 9))
 have hs := has_is w.heap.size 21 words x (by decide) _ (fun j y hj => by
  rw [cell_of_row _ _ j _ _ (0, 0) nW]
  show (words.map Value.string).toArray[j]? = _
  simp [hj])
 rw [show words.length = 21 from rfl] at hs
 have HS := hid hs
 clear nW hs
 unfold isWord
 go_enter Tryz.func40, Tryz.ntmps40
 go_wp2_with (first | (go_at_call 66; (with_reducible refine (HS.out).mono ?_); rintro e w1 ⟨rfl, rfl⟩))
 go_ret
 exact ⟨rfl, AW.out⟩
end Go.Proofs.YtgkejkgailnbmaaGreatDoor
namespace Go.Proofs.YtgkejkgailnbmaaGreatDoor
open Lib (hid)
open Go.ChangeShapes Go.WideShapes Go.ChangeAt Go.RowKit TP
theorem idx_at (s : ByteArray) (i : Int) (k : Nat) (hk : i = (k : Int)) (h : k < s.size) (c : Int) (hc : (s[k].toNat : Int) = c) (w : World) : (Instr.index 9 (.string s) (.int .i64 i)).run Tryz.prog w = .ok (.int .u8 c) w := by
 subst hk
 rw [run_index_string (P := Tryz.prog) w 9 s .i64 (k : Int) Tryz.underlying9, dif_pos ⟨by omega, by omega⟩]
 simp [hc]
theorem runL_cons {l : List UInt8} {c : UInt8} {r : List UInt8} (h : l = c :: r) : runL l = if letterB c || digitB c then runL r + 1 else 0 := by subst h; rfl
set_option maxRecDepth 100000 in
set_option maxHeartbeats 4000000 in
theorem run_is (x : ByteArray) (hx : x.size ≤ 100000) (a : Nat) (ha : a ≤ x.size) (w : World) : Calls Tryz.prog 38 #[.string x, .int .i64 a] w fun e w' => e = .returned (.int .i64 ((a + runL (x.data.toList.drop a) : Nat) : Int)) ∧ w' = w := by
 obtain ⟨R, hR⟩ : ∃ R, a + runL (x.data.toList.drop a) = R := ⟨_, rfl⟩
 rw [hR]
 have HR := hid hR
 obtain ⟨N, hN⟩ : ∃ N, x.size = N := ⟨_, rfl⟩
 have HN := hid hN
 rw [hN] at hx ha
 clear hR
 have LE := hid (fun c X => letter_is c X)
 have DI := hid (fun c X => digit_is c X)
 have hsz : (x.size : Int) = (N : Int) := by rw [hN]
 clear hN
 go_enter Tryz.func38, Tryz.ntmps38
 go_wp2
 go_loopw [1] (fun iv wr => ∃ i : Nat, i ≤ N ∧ iv = .int .i64 i ∧ Hid (wr = w ∧ i + runL (x.data.toList.drop i) = R)) (fun iv _ => N - (intOf iv).toNat)
 case atStart => exact ⟨a, ha, rfl, hid ⟨rfl, HR.out⟩⟩
 case round =>
  obtain ⟨i, hi, rfl, HQ⟩ := hrel
  obtain rfl := HQ.out.1.symm
  by_cases hlt : i < N
  ·have q0 : (i : Int) < (N : Int) := by omega
   have hl : i < x.size := by rw [HN.out]; exact hlt
   have hll : i < x.data.toList.length := by simpa using hl
   have hc : x.data.toList.drop i = x[i] :: x.data.toList.drop (i + 1) := by
    rw [List.drop_eq_getElem_cons hll]
    rfl
   have hrun := runL_cons hc
   have hq := HQ.out.2
   rw [hrun] at hq
   have hix := fun w => idx_at x (i : Int) i rfl hl (x[i].toNat : Int) rfl w
   have HQ2 := hid hq
   generalize x[i] = c at hix HQ2
   have L1 := hid (LE.out c)
   have D1 := hid (DI.out c)
   clear hc hrun hq
   cases hb : letterB c with
   | true =>
    rw [hb] at L1
    have HB := hid hb
    clear hb
    go_wp2_with (first | (go_at_call 39; (with_reducible refine (L1.out _).mono ?_); rintro e w1 ⟨rfl, rfl⟩))
    exact ⟨⟨i + 1, hlt, by go_num, hid ⟨by first | rfl | trivial, by have := HQ2.out; rw [HB.out] at this; simp at this; omega⟩⟩, by simp [intOf]; omega⟩
   | false =>
    rw [hb] at L1
    cases hd : digitB c with
    | true =>
     rw [hd] at D1
     have HB := hid (And.intro hb hd)
     clear hb hd
     go_wp2_with (first | (go_at_call 39; (with_reducible refine (L1.out _).mono ?_); rintro e w1 ⟨rfl, rfl⟩) | (go_at_call 41; (with_reducible refine (D1.out _).mono ?_); rintro e w2 ⟨rfl, rfl⟩))
     exact ⟨⟨i + 1, hlt, by go_num, hid ⟨by first | rfl | trivial, by have := HQ2.out; rw [HB.out.1, HB.out.2] at this; simp at this; omega⟩⟩, by simp [intOf]; omega⟩
    | false =>
     rw [hd] at D1
     have hRi : R = i := by have := HQ2.out; rw [hb, hd] at this; simp at this; omega
     subst hRi
     clear hb hd
     go_wp2_with (first | (go_at_call 39; (with_reducible refine (L1.out _).mono ?_); rintro e w1 ⟨rfl, rfl⟩) | (go_at_call 41; (with_reducible refine (D1.out _).mono ?_); rintro e w2 ⟨rfl, rfl⟩))
     go_ret
     exact ⟨by simp, by simp⟩
  ·have q0 : ¬ (i : Int) < (N : Int) := by omega
   have hRi : R = i := by
    have := HQ.out.2
    rw [List.drop_of_length_le (by have := HN.out; simp; omega)] at this
    simpa [runL] using this.symm
   subst hRi
   go_wp2
   go_ret
   exact ⟨by simp, by simp⟩
end Go.Proofs.YtgkejkgailnbmaaGreatDoor
namespace Go.Proofs.YtgkejkgailnbmaaGreatDoor
open Lib (hid)
open Go.ChangeShapes Go.WideShapes Go.ChangeAt Go.RowKit TP
def hexI (c : UInt8) : Int := match hexB c with
 | some k => (k : Int)
 | none => -1
theorem hexI_nat (c : UInt8) : hexI c = if 48 ≤ c.toNat ∧ c.toNat ≤ 57 then (c.toNat : Int) - 48 else if 97 ≤ c.toNat ∧ c.toNat ≤ 102 then (c.toNat : Int) - 97 + 10 else if 65 ≤ c.toNat ∧ c.toNat ≤ 70 then (c.toNat : Int) - 65 + 10 else -1 := by
 unfold hexI hexB
 rw [digitB_nat]
 simp only [ge_iff_le, UInt8.le_iff_toNat_le, Bool.and_eq_true, decide_eq_true_eq]
 have h97 : (97 : UInt8).toNat = 97 := rfl
 have h102 : (102 : UInt8).toNat = 102 := rfl
 have h65 : (65 : UInt8).toNat = 65 := rfl
 have h70 : (70 : UInt8).toNat = 70 := rfl
 rw [h97, h102, h65, h70]
 by_cases a : 48 ≤ c.toNat ∧ c.toNat ≤ 57
 ·simp only [if_pos a]; omega
 ·by_cases b : 97 ≤ c.toNat ∧ c.toNat ≤ 102
  ·simp only [if_neg a, if_pos b]; omega
  ·by_cases d : 65 ≤ c.toNat ∧ c.toNat ≤ 70
   ·simp only [if_neg a, if_neg b, if_pos d]; omega
   ·simp only [if_neg a, if_neg b, if_neg d]
set_option maxRecDepth 100000 in
set_option maxHeartbeats 4000000 in
theorem hex_is (c : UInt8) (w : World) : Calls Tryz.prog 67 #[.int .u8 (c.toNat : Int)] w fun e w' => e = .returned (.int .i64 (hexI c)) ∧ w' = w := by
 have di := digit_is c w
 have hd := digitB_nat c
 have h256 : c.toNat < 256 := c.toNat_lt
 obtain ⟨n, hn⟩ : ∃ n, c.toNat = n := ⟨_, rfl⟩
 rw [hn] at di hd h256 ⊢
 by_cases a1 : 48 ≤ n ∧ n ≤ 57
 ·rw [show digitB c = true from by rw [hd]; simp; omega] at di
  have DI := hid di
  clear di hd
  have f0 : IntKind.u8.wrap ((n : Int) - 48) = (n : Int) - 48 := by rw [IntKind.wrap_u8]; omega
  have f1 : IntKind.i64.wrap ((n : Int) - 48) = (n : Int) - 48 := by rw [IntKind.wrap_i64]; omega
  have f2 : wrap64 ((n : Int) - 48) = (n : Int) - 48 := by unfold wrap64; omega
  have hv : hexI c = (n : Int) - 48 := by
   rw [hexI_nat, hn]; (repeat' split) <;> omega
  rw [hv]
  clear hv
  go_enter Tryz.func67, Tryz.ntmps67
  go_wp2_with (first | (go_at_call 41; (with_reducible refine (DI.out).mono ?_); rintro e w1 ⟨rfl, rfl⟩))
  go_ret
  exact ⟨by first | rfl | (simp; done) | (simp; omega), by simp⟩
 ·rw [show digitB c = false from by rw [hd]; simp; omega] at di
  have DI := hid di
  clear di hd
  by_cases a2 : (97 : Int) ≤ (n : Int)
  ·by_cases a3 : (n : Int) ≤ 102
   ·skip
    have f0 : IntKind.u8.wrap ((n : Int) - 97) = (n : Int) - 97 := by rw [IntKind.wrap_u8]; omega
    have f1 : IntKind.i64.wrap ((n : Int) - 97) = (n : Int) - 97 := by rw [IntKind.wrap_i64]; omega
    have f2 : wrap64 ((n : Int) - 97) = (n : Int) - 97 := by unfold wrap64; omega
    have f3 : IntKind.i64.wrap ((n : Int) - 97 + 10) = (n : Int) - 97 + 10 := by rw [IntKind.wrap_i64]; omega
    have f4 : wrap64 ((n : Int) - 97 + 10) = (n : Int) - 97 + 10 := by unfold wrap64; omega
    have hv : hexI c = (n : Int) - 97 + 10 := by
     rw [hexI_nat, hn]; (repeat' split) <;> omega
    rw [hv]
    clear hv
    go_enter Tryz.func67, Tryz.ntmps67
    go_wp2_with (first | (go_at_call 41; (with_reducible refine (DI.out).mono ?_); rintro e w1 ⟨rfl, rfl⟩))
    go_ret
    exact ⟨by first | rfl | (simp; done) | (simp; omega), by simp⟩
   ·skip
    have f0 : (65 : Int) ≤ (n : Int) := by omega
    have f1 : ¬ (n : Int) ≤ 70 := by omega
    have hv : hexI c = -1 := by
     rw [hexI_nat, hn]; (repeat' split) <;> omega
    rw [hv]
    clear hv
    go_enter Tryz.func67, Tryz.ntmps67
    go_wp2_with (first | (go_at_call 41; (with_reducible refine (DI.out).mono ?_); rintro e w1 ⟨rfl, rfl⟩))
    go_ret
    exact ⟨by first | rfl | (simp; done) | (simp; omega), by simp⟩
  ·by_cases a4 : (65 : Int) ≤ (n : Int)
   ·by_cases a5 : (n : Int) ≤ 70
    ·skip
     have f0 : IntKind.u8.wrap ((n : Int) - 65) = (n : Int) - 65 := by rw [IntKind.wrap_u8]; omega
     have f1 : IntKind.i64.wrap ((n : Int) - 65) = (n : Int) - 65 := by rw [IntKind.wrap_i64]; omega
     have f2 : wrap64 ((n : Int) - 65) = (n : Int) - 65 := by unfold wrap64; omega
     have f3 : IntKind.i64.wrap ((n : Int) - 65 + 10) = (n : Int) - 65 + 10 := by rw [IntKind.wrap_i64]; omega
     have f4 : wrap64 ((n : Int) - 65 + 10) = (n : Int) - 65 + 10 := by unfold wrap64; omega
     have hv : hexI c = (n : Int) - 65 + 10 := by
      rw [hexI_nat, hn]; (repeat' split) <;> omega
     rw [hv]
     clear hv
     go_enter Tryz.func67, Tryz.ntmps67
     go_wp2_with (first | (go_at_call 41; (with_reducible refine (DI.out).mono ?_); rintro e w1 ⟨rfl, rfl⟩))
     go_ret
     exact ⟨by first | rfl | (simp; done) | (simp; omega), by simp⟩
    ·skip
     have hv : hexI c = -1 := by
      rw [hexI_nat, hn]; (repeat' split) <;> omega
     rw [hv]
     clear hv
     go_enter Tryz.func67, Tryz.ntmps67
     go_wp2_with (first | (go_at_call 41; (with_reducible refine (DI.out).mono ?_); rintro e w1 ⟨rfl, rfl⟩))
     go_ret
     exact ⟨by first | rfl | (simp; done) | (simp; omega), by simp⟩
   ·skip
    have hv : hexI c = -1 := by
     rw [hexI_nat, hn]; (repeat' split) <;> omega
    rw [hv]
    clear hv
    go_enter Tryz.func67, Tryz.ntmps67
    go_wp2_with (first | (go_at_call 41; (with_reducible refine (DI.out).mono ?_); rintro e w1 ⟨rfl, rfl⟩))
    go_ret
    exact ⟨by first | rfl | (simp; done) | (simp; omega), by simp⟩
end Go.Proofs.YtgkejkgailnbmaaGreatDoor
namespace Go.Proofs.YtgkejkgailnbmaaGreatDoor
open Lib (hid)
open Go.ChangeShapes Go.WideShapes Go.ChangeAt Go.RowKit TP
theorem wholeL_cons {l : List UInt8} {c : UInt8} {r : List UInt8} (n : Nat) (h : l = c :: r) : wholeL n l = if !digitB c || n > 922337203685477580 then none else wholeL (n * 10 + (c.toNat - 48)) r := by subst h; rfl
set_option maxRecDepth 100000 in
set_option maxHeartbeats 4000000 in
theorem whole_is (x : ByteArray) (hx : x.size ≤ 100000) (w : World) : Calls Tryz.prog 42 #[.string x] w fun e w' => e = .returned (.tuple #[.int .i64 (((wholeL 0 x.data.toList).getD 0 : Nat) : Int), .bool (wholeL 0 x.data.toList).isSome]) ∧ w' = w := by
 obtain ⟨R, hR⟩ : ∃ R, wholeL 0 x.data.toList = R := ⟨_, rfl⟩
 rw [hR]
 have HR := hid hR
 obtain ⟨N, hN⟩ : ∃ N, x.size = N := ⟨_, rfl⟩
 have HN := hid hN
 rw [hN] at hx
 have hsz : (x.size : Int) = (N : Int) := by rw [hN]
 clear hR hN
 have DI := hid (fun c X => digit_is c X)
 go_enter Tryz.func42, Tryz.ntmps42
 go_wp2
 go_loopw [4, 5] (fun nv iv wr => ∃ i n : Nat, i ≤ N ∧ n ≤ 9223372036854775809 ∧ nv = .int .u64 n ∧ iv = .int .i64 i ∧ Hid (wr = w ∧ wholeL n (x.data.toList.drop i) = R)) (fun _ iv _ => N - (intOf iv).toNat)
 case atStart => exact ⟨0, 0, Nat.zero_le _, Nat.zero_le _, rfl, rfl, hid ⟨rfl, HR.out⟩⟩
 case round =>
  obtain ⟨i, n, hi, hn9, rfl, rfl, HQ⟩ := hrel
  obtain rfl := HQ.out.1.symm
  by_cases hlt : i < N
  ·have q0 : (i : Int) < (N : Int) := by omega
   have hl : i < x.size := by rw [HN.out]; exact hlt
   have hll : i < x.data.toList.length := by simpa using hl
   have hc : x.data.toList.drop i = x[i] :: x.data.toList.drop (i + 1) := by
    rw [List.drop_eq_getElem_cons hll]
    rfl
   have hq := HQ.out.2
   rw [wholeL_cons n hc] at hq
   have hix := fun w => idx_at x (i : Int) i rfl hl (x[i].toNat : Int) rfl w
   have HQ2 := hid hq
   generalize x[i] = c at hix HQ2
   have D1 := hid (DI.out c)
   have hdn := digitB_nat c
   clear hc hq
   cases hd : digitB c with
   | false =>
    rw [hd] at D1
    have hRn : R = none := by have := HQ2.out; rw [hd] at this; simpa using this.symm
    subst hRn
    clear hd hdn
    go_wp2_with (first | (go_at_call 41; (with_reducible refine (D1.out _).mono ?_); rintro e w1 ⟨rfl, rfl⟩))
    exact bodyPost_ret (v := .tuple #[.int .i64 0, .bool false]) (by simp [results, Tryz.results42, go_sem]) rfl ⟨by simp, by simp⟩
   | true =>
    rw [hd] at D1 hdn
    by_cases hb : (922337203685477580 : Int) < (n : Int)
    ·have hRn : R = none := by have := HQ2.out; rw [hd] at this; rw [if_pos (by simp; omega)] at this; exact this.symm
     subst hRn
     clear hd hdn
     go_wp2_with (first | (go_at_call 41; (with_reducible refine (D1.out _).mono ?_); rintro e w1 ⟨rfl, rfl⟩))
     exact bodyPost_ret (v := .tuple #[.int .i64 0, .bool false]) (by simp [results, Tryz.results42, go_sem]) rfl ⟨by simp, by simp⟩
    ·have hr : 48 ≤ c.toNat ∧ c.toNat ≤ 57 := by simpa using hdn.symm
     have hRn : wholeL (n * 10 + (c.toNat - 48)) (x.data.toList.drop (i + 1)) = R := by
      have := HQ2.out
      rw [hd, if_neg (by simp; omega)] at this
      exact this
     have HR2 := hid hRn
     obtain ⟨m, hm⟩ : ∃ m, c.toNat = m := ⟨_, rfl⟩
     rw [hm] at hr hix D1
     have e1 : IntKind.u64.wrap ((n : Int) * 10) = (n : Int) * 10 := by rw [IntKind.wrap_u64]; omega
     have e2 : IntKind.u8.wrap ((m : Int) - 48) = (m : Int) - 48 := by rw [IntKind.wrap_u8]; omega
     have e3 : IntKind.u64.wrap ((m : Int) - 48) = (m : Int) - 48 := by rw [IntKind.wrap_u64]; omega
     have e4 : IntKind.u64.wrap ((n : Int) * 10 + ((m : Int) - 48)) = (n : Int) * 10 + ((m : Int) - 48) := by rw [IntKind.wrap_u64]; omega
     have HM := hid hm
     have ht : ((n * 10 + (m - 48) : Nat) : Int) = (n : Int) * 10 + ((m : Int) - 48) := by omega
     have HT := hid ht
     have hbd : n * 10 + (m - 48) ≤ 9223372036854775809 := by omega
     clear hRn hm ht hd hdn
     go_wp2_with (first | (go_at_call 41; (with_reducible refine (D1.out _).mono ?_); rintro e w1 ⟨rfl, rfl⟩))
     exact ⟨⟨i + 1, n * 10 + (m - 48), hlt, hbd, by rw [HT.out], by go_num, hid ⟨by first | rfl | trivial, by rw [← HM.out]; exact HR2.out⟩⟩, by simp [intOf]; omega⟩
  ·have q0 : ¬ (i : Int) < (N : Int) := by omega
   have hq := HQ.out.2
   rw [List.drop_of_length_le (by have := HN.out; simp; omega)] at hq
   by_cases hb : (9223372036854775807 : Int) < (n : Int)
   ·have hRn : R = none := by rw [← hq]; unfold wholeL; rw [if_pos (by omega)]
    subst hRn
    clear hq
    go_wp2
    exact bodyPost_ret (v := .tuple #[.int .i64 0, .bool false]) (by simp [results, Tryz.results42, go_sem]) rfl ⟨by simp, by simp⟩
   ·have hRn : R = some n := by rw [← hq]; unfold wholeL; rw [if_neg (by omega)]
    subst hRn
    have e1 : IntKind.i64.wrap (n : Int) = (n : Int) := by rw [IntKind.wrap_i64]; omega
    have e2 : wrap64 (n : Int) = (n : Int) := by unfold wrap64; omega
    clear hq
    go_wp2
    exact bodyPost_ret (v := .tuple #[.int .i64 n, .bool true]) (by simp [results, Tryz.results42, go_sem]) rfl ⟨by simp, by simp⟩
end Go.Proofs.YtgkejkgailnbmaaGreatDoor
namespace Go.Proofs.YtgkejkgailnbmaaGreatDoor
open Lib (hid)
open Go.ChangeShapes Go.WideShapes Go.ChangeAt Go.RowKit TP
theorem cut_eq (x : ByteArray) (i k : Nat) : x.extract i (i + k) = B ((x.data.toList.drop i).take k) := by
 apply ByteArray.ext
 apply Array.toList_inj.1
 simp [ByteArray.data_extract, List.extract_eq_take_drop]
theorem slice_at (x : ByteArray) (i k : Nat) (a b : Int) (ha : a = (i : Int)) (hb : b = ((i + k : Nat) : Int)) (h : i + k ≤ x.size) (w : World) : (Instr.slice 9 (.string x) (some (.int .i64 a)) (some (.int .i64 b)) none).run Tryz.prog w = .ok (.string (B ((x.data.toList.drop i).take k))) w := by
 subst ha hb
 have := Go.run_slice_string (P := Tryz.prog) w 9 x .i64 .i64 (i : Int) ((i + k : Nat) : Int) Tryz.underlying9 (by omega) (by omega) (by omega)
 rw [this, ← cut_eq]
 rfl
theorem drop_cons (x : ByteArray) (i : Nat) (h : i < x.size) : x.data.toList.drop i = x[i] :: x.data.toList.drop (i + 1) := by
 rw [List.drop_eq_getElem_cons (by simpa using h)]
 rfl
theorem skipL_blank {c : UInt8} {r : List UInt8} (h : c = 32 ∨ c = 9 ∨ c = 10 ∨ c = 13) : skipL false (c :: r) = skipL false r + 1 := if_pos h
theorem skipL_rem {r : List UInt8} (h : r.head? = some 45) : skipL false (45 :: r) = skipL true r + 1 := by
 show (if _ then _ else if _ then _ else _) = _
 rw [if_neg (by decide), if_pos ⟨rfl, h⟩]
theorem skipL_no {c : UInt8} {r : List UInt8} (h : ¬ (c = 32 ∨ c = 9 ∨ c = 10 ∨ c = 13)) (h2 : ¬ (c = 45 ∧ r.head? = some 45)) : skipL false (c :: r) = 0 := by
 show (if _ then _ else if _ then _ else _) = _
 rw [if_neg h, if_neg h2]
theorem skipT_nl {r : List UInt8} : skipL true (10 :: r) = skipL false r + 1 := if_pos rfl
theorem skipT_no {c : UInt8} {r : List UInt8} (h : c ≠ 10) : skipL true (c :: r) = skipL true r + 1 := if_neg h
theorem u8_eq {c : UInt8} {k : Nat} (h : (c.toNat : Int) = (k : Int)) (hk : k < 256) : c = UInt8.ofNat k := by
 apply UInt8.toNat_inj.1
 have : (UInt8.ofNat k).toNat = k % 256 := by simp
 omega
set_option maxRecDepth 100000 in
set_option maxHeartbeats 4000000 in
theorem skip_is (x : ByteArray) (hx : x.size ≤ 100000) (a : Nat) (ha : a ≤ x.size) (w : World) : Calls Tryz.prog 37 #[.string x, .int .i64 a] w fun e w' => e = .returned (.int .i64 ((a + skipL false (x.data.toList.drop a) : Nat) : Int)) ∧ w' = w := by
 obtain ⟨R, hR⟩ : ∃ R, a + skipL false (x.data.toList.drop a) = R := ⟨_, rfl⟩
 rw [hR]
 have HR := hid hR
 obtain ⟨N, hN⟩ : ∃ N, x.size = N := ⟨_, rfl⟩
 have HN := hid hN
 rw [hN] at hx ha
 clear hR
 have hsz : (x.size : Int) = (N : Int) := by rw [hN]
 clear hN
 go_enter Tryz.func37, Tryz.ntmps37
 go_wp2
 go_loopw [1] (fun iv wr => ∃ i : Nat, i ≤ N ∧ iv = .int .i64 i ∧ Hid (wr = w ∧ i + skipL false (x.data.toList.drop i) = R)) (fun iv _ => N - (intOf iv).toNat)
 case atStart => exact ⟨a, ha, rfl, hid ⟨rfl, HR.out⟩⟩
 case round =>
  obtain ⟨i, hi, rfl, HQ⟩ := hrel
  obtain rfl := HQ.out.1.symm
  by_cases hlt : i < N
  ·have q0 : (i : Int) < (N : Int) := by omega
   have hl : i < x.size := by rw [HN.out]; exact hlt
   have hq := HQ.out.2
   rw [drop_cons x i hl] at hq
   have hix := fun w => idx_at x (i : Int) i rfl hl (x[i].toNat : Int) rfl w
   obtain ⟨c, hc⟩ : ∃ c, x[i] = c := ⟨_, rfl⟩
   rw [hc] at hq hix
   have HC := hid hc
   have HQ2 := hid hq
   clear hq hc
   obtain ⟨n, hn⟩ : ∃ n, c.toNat = n := ⟨_, rfl⟩
   rw [hn] at hix
   have HNN := hid hn
   clear hn
   by_cases a1 : (n : Int) = 32
   ·go_wp2
    exact ⟨⟨i + 1, hlt, by go_num, hid ⟨by first | rfl | trivial, by have := HQ2.out; rw [skipL_blank (.inl (u8_eq (k := 32) (by rw [HNN.out]; exact a1) (by decide)))] at this; omega⟩⟩, by simp [intOf]; omega⟩
   ·by_cases a2 : (n : Int) = 9
    ·go_wp2
     exact ⟨⟨i + 1, hlt, by go_num, hid ⟨by first | rfl | trivial, by have := HQ2.out; rw [skipL_blank (.inr (.inl (u8_eq (k := 9) (by rw [HNN.out]; exact a2) (by decide))))] at this; omega⟩⟩, by simp [intOf]; omega⟩
    ·by_cases a3 : (n : Int) = 10
     ·go_wp2
      exact ⟨⟨i + 1, hlt, by go_num, hid ⟨by first | rfl | trivial, by have := HQ2.out; rw [skipL_blank (.inr (.inr (.inl (u8_eq (k := 10) (by rw [HNN.out]; exact a3) (by decide)))))] at this; omega⟩⟩, by simp [intOf]; omega⟩
     ·by_cases a4 : (n : Int) = 13
      ·go_wp2
       exact ⟨⟨i + 1, hlt, by go_num, hid ⟨by first | rfl | trivial, by have := HQ2.out; rw [skipL_blank (.inr (.inr (.inr (u8_eq (k := 13) (by rw [HNN.out]; exact a4) (by decide)))))] at this; omega⟩⟩, by simp [intOf]; omega⟩
      ·have nb : ¬ (c = 32 ∨ c = 9 ∨ c = 10 ∨ c = 13) := by
        have := HNN.out
        rintro (rfl | rfl | rfl | rfl)
        ·exact a1 (by rw [← this]; rfl)
        ·exact a2 (by rw [← this]; rfl)
        ·exact a3 (by rw [← this]; rfl)
        ·exact a4 (by rw [← this]; rfl)
       have NBL := hid nb
       have e1 : ((n : Int) == 32) = false := by simp [a1]
       have e2 : ((n : Int) == 9) = false := by simp [a2]
       have e3 : ((n : Int) == 10) = false := by simp [a3]
       have e4 : ((n : Int) == 13) = false := by simp [a4]
       clear nb
       have wi1 : IntKind.i64.wrap ((i : Int) + 1) = (i : Int) + 1 ∧ wrap64 ((i : Int) + 1) = (i : Int) + 1 := by rw [IntKind.wrap_i64]; unfold wrap64; constructor <;> omega
       have wi2 : IntKind.i64.wrap ((i : Int) + 2) = (i : Int) + 2 ∧ wrap64 ((i : Int) + 2) = (i : Int) + 2 := by rw [IntKind.wrap_i64]; unfold wrap64; constructor <;> omega
       obtain ⟨wi1a, wi1b⟩ := wi1
       obtain ⟨wi2a, wi2b⟩ := wi2
       by_cases b1 : (i : Int) + 1 < (N : Int)
       ·have hl2 : i + 1 < x.size := by rw [HN.out]; omega
        have hsl := fun w => slice_at x i 2 (i : Int) ((i : Int) + 2) rfl (by omega) (by omega) w
        rw [drop_cons x i hl, drop_cons x (i + 1) hl2, HC.out] at hsl
        have hsl2 : ∀ w, (Instr.slice 9 (.string x) (some (.int .i64 (i : Int))) (some (.int .i64 ((i : Int) + 2))) none).run Tryz.prog w = .ok (.string (B [c, x[i + 1]])) w := hsl
        obtain ⟨d, hd⟩ : ∃ d, x[i + 1] = d := ⟨_, rfl⟩
        rw [hd] at hsl2
        have hdr : x.data.toList.drop (i + 1) = d :: x.data.toList.drop (i + 2) := by rw [drop_cons x (i + 1) hl2, hd]
        have HD := hid hdr
        clear hsl hd hdr
        by_cases hcd : c = 45 ∧ d = 45
        ·obtain ⟨rfl, rfl⟩ := hcd
         have hR2 : i + 1 + skipL true (x.data.toList.drop (i + 1)) = R := by
          have := HQ2.out
          rw [skipL_rem (by rw [HD.out]; rfl)] at this
          omega
         have HR2 := hid hR2
         clear hR2
         go_wp2
         go_loopw [1] (fun iv wr => ∃ j : Nat, i ≤ j ∧ j ≤ N ∧ iv = .int .i64 j ∧ Hid (wr = w ∧ j + skipL true (x.data.toList.drop j) = R)) (fun iv _ => N - (intOf iv).toNat)
         case atStart => exact ⟨i, Nat.le_refl _, hi, rfl, hid ⟨rfl, by have := HR2.out; rw [drop_cons x i hl, HC.out, skipT_no (by decide)]; omega⟩⟩
         case round =>
          obtain ⟨j, hij, hj, rfl, HJ⟩ := hrel
          obtain rfl := HJ.out.1.symm
          by_cases hjl : j < N
          ·have q1 : (j : Int) < (N : Int) := by omega
           have hl3 : j < x.size := by rw [HN.out]; exact hjl
           have hjx := fun w => idx_at x (j : Int) j rfl hl3 (x[j].toNat : Int) rfl w
           have hq2 := HJ.out.2
           rw [drop_cons x j hl3] at hq2
           obtain ⟨f, hf⟩ : ∃ f, x[j] = f := ⟨_, rfl⟩
           rw [hf] at hq2 hjx
           have HF := hid hf
           have HQ3 := hid hq2
           clear hf hq2
           obtain ⟨m, hm⟩ : ∃ m, f.toNat = m := ⟨_, rfl⟩
           rw [hm] at hjx
           have HM := hid hm
           clear hm
           by_cases d1 : (m : Int) = 10
           ·have ef : f = 10 := u8_eq (k := 10) (by rw [HM.out]; exact d1) (by decide)
            have hji : i + 1 ≤ j := by
             rcases Nat.lt_or_ge i j with h | h
             ·exact h
             ·exfalso
              have : j = i := by omega
              subst this
              have h1 := HC.out
              have h2 := HF.out
              rw [h2, ef] at h1
              exact absurd h1 (by decide)
            have HE := hid (show j + skipL false (x.data.toList.drop j) = R from by
             have := HQ3.out
             rw [ef, skipT_nl] at this
             rw [drop_cons x j hl3, HF.out, ef, skipL_blank (.inr (.inr (.inl rfl)))]
             exact this)
            clear ef
            go_wp2
            exact ⟨⟨j, hj, rfl, hid ⟨by first | rfl | trivial, HE.out⟩⟩, by simp [intOf]; omega⟩
           ·have HE := hid (show j + 1 + skipL true (x.data.toList.drop (j + 1)) = R from by
             have := HQ3.out
             rw [skipT_no (fun e => d1 (by rw [← HM.out, e]; rfl))] at this
             omega)
            have e10 : ((m : Int) == 10) = false := by simp [d1]
            go_wp2
            exact ⟨⟨j + 1, by omega, hjl, by go_num, hid ⟨by first | rfl | trivial, HE.out⟩⟩, by simp [intOf]; omega⟩
          ·have q1 : ¬ (j : Int) < (N : Int) := by omega
           have hRj : R = j := by
            have := HJ.out.2
            rw [List.drop_of_length_le (by have := HN.out; simp; omega)] at this
            simpa [skipL] using this.symm
           have HE := hid (show j + skipL false (x.data.toList.drop j) = R from by
            rw [List.drop_of_length_le (by have := HN.out; simp; omega), hRj]
            rfl)
           have hji : i + 1 ≤ j := by omega
           clear hRj
           go_wp2
           exact ⟨⟨j, hj, rfl, hid ⟨by first | rfl | trivial, HE.out⟩⟩, by simp [intOf]; omega⟩
        ·have ht : ¬ B [c, d] = B [45, 45] := fun e => hcd (by
          have := congrArg (fun b : ByteArray => b.data.toList) e
          simpa using this)
         obtain ⟨t1, t2, t3⟩ := txt_ne ht
         have eL : (B [45, 45]).toList = [45, 45] := ByteArray.toList_mk _
         have eM : (B [c, d]).toList = [c, d] := ByteArray.toList_mk _
         rw [eL] at t1 t2 t3
         have hR3 : R = i := by
          have := HQ2.out
          rw [skipL_no NBL.out (by rw [HD.out]; simpa using hcd)] at this
          omega
         clear ht hcd eL eM
         generalize B [c, d] = tx at hsl2 t1 t2 t3
         go_wp2
         exact bodyPost_ret (v := .int .i64 (i : Int)) (by simp [results, Tryz.results37, go_sem]) rfl ⟨by simp [hR3], by simp⟩
       ·have hR3 : R = i := by
         have := HQ2.out
         rw [skipL_no NBL.out (by rw [List.drop_of_length_le (by have := HN.out; simp; omega)]; simp)] at this
         omega
        go_wp2
        exact bodyPost_ret (v := .int .i64 (i : Int)) (by simp [results, Tryz.results37, go_sem]) rfl ⟨by simp [hR3], by simp⟩
  ·have q0 : ¬ (i : Int) < (N : Int) := by omega
   have hRi : R = i := by
    have := HQ.out.2
    rw [List.drop_of_length_le (by have := HN.out; simp; omega)] at this
    simpa [skipL] using this.symm
   go_wp2
   exact bodyPost_ret (v := .int .i64 (i : Int)) (by simp [results, Tryz.results37, go_sem]) rfl ⟨by simp [hRi], by simp⟩
end Go.Proofs.YtgkejkgailnbmaaGreatDoor
