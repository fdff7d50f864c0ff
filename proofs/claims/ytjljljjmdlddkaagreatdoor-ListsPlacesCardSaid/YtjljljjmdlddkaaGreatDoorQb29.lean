/- Texts joined: L17, L18 -/
import Derived.Test.YtjljljjmdlddkaaGreatDoorQb28
import Derived.Test.YtjljljjmdlddkaaGreatDoorCards
import Derived.Stop.LaidErr
import Derived.ProofKit
import Derived.SliceStrings
import Derived.Deep.Slices
import Derived.Lib.LaidTab

/- The law ListsTurn: its walk. -/
namespace Go.Proofs.YtjljljjmdlddkaaGreatDoor
open Go.ChangeShapes Go.WideShapes Go.ChangeAt Go.RowKit

/-- A list turned round so often. -/
def rotT (i : Nat) (l : List ByteArray) : List ByteArray := l.drop (l.length - i) ++ l.take (l.length - i)
theorem rotT_len (i : Nat) (l : List ByteArray) : (rotT i l).length = l.length := by
  unfold rotT
  rw [List.length_append, List.length_drop, List.length_take]
  omega
theorem rotT_last (i : Nat) (l : List ByteArray) (hi : i < l.length) : (rotT i l)[l.length - 1]? = l[l.length - 1 - i]? := by
  unfold rotT
  rw [List.getElem?_append_right (by simp; omega), List.getElem?_take, List.length_drop, if_pos (by omega)]
  congr 1
  omega
theorem rotT_step (i : Nat) (l : List ByteArray) (hi : i < l.length) (s : ByteArray) (hs : l[l.length - 1 - i]? = some s) : rotT (i + 1) l = s :: (rotT i l).eraseIdx (l.length - 1) := by
  have hl : (l.drop (l.length - i)).length = i := by simp; omega
  unfold rotT
  rw [List.eraseIdx_append_of_length_le (by omega), hl, show l.length - 1 - i = l.length - (i + 1) from by omega]
  have h1 : l.drop (l.length - (i + 1)) = s :: l.drop (l.length - i) := by
    rw [List.drop_eq_getElem_cons (by omega), show l.length - (i + 1) + 1 = l.length - i from by omega]
    congr 1
    rw [List.getElem?_eq_getElem (by omega)] at hs
    have := Option.some.inj hs
    rw [← this]
    congr 1
    omega
  have h2 : (l.take (l.length - i)).eraseIdx (l.length - (i + 1)) = l.take (l.length - (i + 1)) := by
    apply List.ext_getElem?
    intro j
    rw [List.getElem?_eraseIdx]
    split
    · simp only [List.getElem?_take]
      rw [if_pos (by omega), if_pos (by omega)]
    · simp only [List.getElem?_take]
      rw [if_neg (by omega), if_neg (by omega)]
  rw [h1, h2]
  rfl
theorem rotT_zero (l : List ByteArray) : rotT 0 l = l := by simp [rotT]
theorem rotT_all (l : List ByteArray) : rotT l.length l = l := by simp [rotT]
/-- What the law reckons of two places, and what LRANGE tells. -/
theorem span_law (x y : Int) (l : List ByteArray) (n : Nat) (hn : l.length = n) (fr tt : Int) (hfr : fr = if x < 0 then max (x + (n : Int)) 0 else x) (htt : tt = min (if y < 0 then y + (n : Int) else y) ((n : Int) - 1)) : 0 ≤ fr ∧ max (tt - fr + 1) 0 = ((spanT x y l).length : Int) ∧ ∀ (k : Nat) (s : ByteArray), (spanT x y l)[k]? = some s → l[fr.toNat + k]? = some s ∧ fr + (k : Int) < (n : Int) := by
  have e1 : spA x n = fr := by rw [hfr]; unfold spA; split <;> omega
  have f0 : 0 ≤ fr := by rw [hfr]; split <;> omega
  have e2 : spC y n = max tt (-1) ∨ (spC y n = tt) := by rw [htt]; unfold spC; split <;> omega
  have e3 : tt ≤ spC y n := by rw [htt]; unfold spC; split <;> omega
  have e4 : spC y n ≤ (n : Int) - 1 := by unfold spC; omega
  unfold spanT
  rw [hn, e1]
  refine ⟨f0, ?_, ?_⟩
  · split
    · rw [List.length_take, List.length_drop]
      omega
    · simp
      omega
  · intro k s hk
    split at hk
    · have hlt := (List.getElem?_eq_some_iff.1 hk).1
      rw [List.length_take, List.length_drop] at hlt
      rw [List.getElem?_take, if_pos (by omega), List.getElem?_drop] at hk
      refine ⟨hk, ?_⟩
      have := (List.getElem?_eq_some_iff.1 hk).1
      omega
    · cases hk
theorem add_facts (a k n : Nat) (h : (a : Int) + (k : Int) < (n : Int)) (hn : n ≤ 1000) : wrap64 ((a : Int) + (k : Int)) = (a : Int) + (k : Int) ∧ ((a : Int) + (k : Int)).toNat = a + k ∧ 0 ≤ (a : Int) + (k : Int) :=
  ⟨by unfold wrap64; omega, by omega, by omega⟩
theorem tmod20 (a : Int) : -19 ≤ a.tmod 20 ∧ a.tmod 20 ≤ 19 := by
  have h := Int.natAbs_tmod a 20
  have h2 : a.natAbs % (20 : Int).natAbs < 20 := Nat.mod_lt _ (by decide)
  omega
theorem lenL (w : World) (bS bM : Nat) (l : List ByteArray) (n : Nat) (hn : l.length = n) (X : World) (hL : LD w X bS bM [(⟨#[107]⟩, l)]) : Calls Tryz.prog 8 #[.pointer (some ⟨bS, 0, none⟩), .slice (some ⟨X.heap.size, 0, none⟩) 2 2] (X.alloc (.cells #[.string ⟨#[76, 76, 69, 78]⟩, .string ⟨#[107]⟩] 9)) fun e w' => e = .returned (.agg #[.int .i64 3, .int .i64 (n : Int), .string ⟨#[]⟩, .slice none 0 0]) ∧ LD w w' bS bM [(⟨#[107]⟩, l)] := by
  refine (lit0 X hL [⟨#[76, 76, 69, 78]⟩, ⟨#[107]⟩] (by simp) (fun vA w' h hA => d_LLEN w bS bM [(⟨#[107]⟩, l)] ⟨#[107]⟩ vA w' h hA) rfl (show _ = (n : Int) by simp [findD, hn])).mono ?_
  rintro e w' ⟨h1, h2, _⟩
  exact ⟨h1, h2⟩
set_option maxRecDepth 100000 in
set_option maxHeartbeats 8000000 in
theorem turn_walk (l : List ByteArray) (v0 : Value) (a1 a2 : Int) (w : World) (hT : Tab w) (h0 : SSl w v0 l) (h1 : 1 ≤ l.length) (h12 : l.length ≤ 12) (_hi1 : I64 a1) (_hi2 : I64 a2) : Calls Tryz.prog 4 #[v0, .int .i64 a1, .int .i64 a2] w fun e w' => e = .returned (.bool true) ∧ Below w.heap.size w w' := by
  have NW := Lib.hid (fun X => New9 X)
  obtain ⟨aA, cap, rfl, p1, p2, p3⟩ := h0
  obtain ⟨blk, off, rfl, hblt, hc⟩ := p3 (by intro e; rw [e] at h1; simp at h1)
  have CA := Lib.hid (show ∀ Y, Below w.heap.size w Y → ∀ (i : Nat) (s : ByteArray), l[i]? = some s → Y.cell? ⟨blk, off + i, none⟩ = some (.string s) from fun Y hY i s hs => (hY.cell (p := ⟨blk, off + i, none⟩) hblt).trans (hc i s hs))
  obtain ⟨n, hn⟩ : ∃ n : Nat, l.length = n := ⟨_, rfl⟩
  rw [hn] at h1 h12
  simp only [hn]
  have HN := Lib.hid hn
  have q1 : ¬ (n : Int) = 0 := by omega
  have q2 : ¬ (12 : Int) < (n : Int) := by omega
  have q1b : ((n : Int) == 0) = false := by rw [beq_eq_false_iff_ne]; exact q1
  have q2b : decide ((12 : Int) < (n : Int)) = false := decide_eq_false q2
  clear p1 p2 p3 hc hn hblt
  go_enter Tryz.func4, Tryz.ntmps4
  go_wp2_with (first | (go_at_call 7; (with_reducible refine (NW.out _).mono ?_); rintro e v0 ⟨bS, bM, rfl, hS0, hbS, hbM, hB0⟩; have L0 := Lib.hid (LD.mk0 hS0 hB0 hbS hbM); clear hS0 hbS hbM hB0; refine Hid.out ?_))
  refine Lib.hid ?_
  go_wp2
  have hz1 : (v0.alloc (.cells #[.string ⟨#[82, 80, 85, 83, 72]⟩, .string ⟨#[107]⟩] 9)).heap.size = v0.heap.size + 1 := by simp
  have T1 := Lib.hid (TO.lit (v0.alloc (.cells #[.string ⟨#[82, 80, 85, 83, 72]⟩, .string ⟨#[107]⟩] 9)) [⟨#[82, 80, 85, 83, 72]⟩, ⟨#[107]⟩] v0.heap.size v0.heap.size 2 rfl (by omega) (Nat.le_refl _) (heap_alloc_new v0 _))
  have B1 := Lib.hid (alloc_old (w := v0) (o := .cells #[.string ⟨#[82, 80, 85, 83, 72]⟩, .string ⟨#[107]⟩] 9))
  generalize (v0.alloc (.cells #[.string ⟨#[82, 80, 85, 83, 72]⟩, .string ⟨#[107]⟩] 9)) = v1 at T1 B1 hz1 ⊢
  have LB := Lib.hid L0.out.below
  go_loopw [8, 9] (fun lv iv wr => ∃ (i g C : Nat), i ≤ n ∧ lv = .slice (some ⟨g, 0, none⟩) (i + 2) C ∧ iv = .int .i64 i ∧ Hid (TO wr v0.heap.size (.slice (some ⟨g, 0, none⟩) (i + 2) C) (⟨#[82, 80, 85, 83, 72]⟩ :: ⟨#[107]⟩ :: l.take i) ∧ Below v0.heap.size v0 wr ∧ ∀ s ∈ l.take i, s.size ≤ 50)) (fun _ iv _ => n - (intOf iv).toNat)
  case atStart => exact ⟨0, _, _, Nat.zero_le _, rfl, rfl, Lib.hid ⟨T1.out, B1.out, fun s hs => by simp at hs⟩⟩
  case round =>
    obtain ⟨i, g, C, hi, rfl, rfl, HQ⟩ := hrel
    have BW := Lib.hid (LB.out.trans (HQ.out.2.1.mono (Below.size LB.out)))
    by_cases hlt : i < n
    · obtain ⟨s, hs⟩ : ∃ s, l[i]? = some s := ⟨_, List.getElem?_eq_getElem (by rw [HN.out]; exact hlt)⟩
      have q3 : (i : Int) < (n : Int) := by omega
      have ca := CA.out _ BW.out i s hs
      by_cases h50 : s.size ≤ 50
      · have q4 : ¬ (50 : Int) < (s.size : Int) := by omega
        have HTL := Lib.hid (show (⟨#[82, 80, 85, 83, 72]⟩ :: ⟨#[107]⟩ :: l.take i : List ByteArray).length = i + 2 by simp [HN.out]; omega)
        have D5 := Lib.hid (alloc_old (w := wr) (o := .cells #[.string s] 9))
        have R5 := Lib.hid (show TO (wr.alloc (.cells #[.string s] 9)) v0.heap.size _ _ from row_below HQ.out.1 D5.out)
        have b5 := Lib.hid (heap_alloc_new wr (.cells #[.string s] 9))
        have z5 := Lib.hid (Nat.le_trans (Below.size HQ.out.2.1) (Below.size D5.out))
        have HTK := Lib.hid (take_at l i s hs)
        clear hs
        go_wp2_with (first | (at_builtin; refine append_TO _ rfl _ _ rfl v0.heap.size _ _ (i + 2) HTL.out rfl R5.out [s] 1 rfl _ rfl b5.out (by decide) (by omega) z5.out ?_; intro g6 C6 w6 h6 h7 h8))
        refine ⟨⟨i + 1, g6, C6, by omega, by rw [show i + 2 + 1 = i + 1 + 2 from by omega], by go_num, Lib.hid ⟨?_, HQ.out.2.1.trans ((D5.out.mono (Below.size HQ.out.2.1)).trans ?_), fun t ht => ?_⟩⟩, by simp [intOf]; omega⟩
        · rw [HTK.out, show i + 1 + 2 = i + 2 + 1 from by omega]
          exact h6
        · exact (Below.refl _ _).grown h7 z5.out (fun q hq => by
            have := (row_own R5.out q hq).1
            exact this)
        · rw [HTK.out] at ht
          rcases List.mem_append.1 ht with ht | ht
          · exact HQ.out.2.2 t ht
          · simp at ht
            subst ht
            exact h50
      · have q4 : (50 : Int) < (s.size : Int) := by omega
        have TL := Lib.hid (fun X => told X)
        clear hs
        go_wp2_with (first | (go_at_call 6; (with_reducible refine (TL.out _).mono ?_); rintro e w7 ⟨rfl, h7⟩; have B7 := Lib.hid (BW.out.trans (h7.mono (Below.size BW.out))); clear h7))
        exact bodyPost_ret (v := .bool true) (by simp [results, Tryz.results4, go_sem]) rfl ⟨rfl, B7.out⟩
    · obtain rfl : n = i := by omega
      have q3 : ¬ (n : Int) < (n : Int) := by omega
      obtain ⟨w2, rfl⟩ : ∃ w2, w2 = wr := ⟨_, rfl⟩
      have hQ := HQ.out
      rw [List.take_of_length_le (by rw [HN.out]; exact Nat.le_refl _)] at hQ
      obtain ⟨hTO, hB, h50⟩ := hQ
      have hne : l ≠ [] := by intro e; have := HN.out; rw [e] at this; simp at this; omega
      have hokl : ∀ zs : List ByteArray, zs.length = n → (∀ s ∈ zs, s.size ≤ 50) → okL ⟨#[107]⟩ zs := fun zs hz h => ⟨by decide, by decide, by intro e; rw [e] at hz; simp at hz; omega, by omega, fun s hs => Nat.le_trans (h s hs) (by decide)⟩
      have D1 := Lib.hid (d_RPUSH w bS bM [] ⟨#[107]⟩ l (by simp [findD, HN.out]; omega) hne (by simpa [findD, pushT] using hokl l HN.out h50) (by simp) _ w2 (L0.out.old hB) hTO.ssl)
      have H50 := Lib.hid h50
      clear hTO hB h50 HQ hi hlt
      go_wp2_with (first | (go_at_call 8; (with_reducible refine (D1.out).mono ?_); rintro e v3 ⟨A, m, c, rfl, _, hL3, _⟩; refine Hid.out ?_))
      refine Lib.hid ?_
      have L3 := Lib.hid (show LD w v3 bS bM [(⟨#[107]⟩, rotT 0 l)] by
        rw [rotT_zero]
        exact hL3)
      clear hL3
      go_wp2
      have LB3 := Lib.hid L3.out.below
      go_loopw [10, 11] (fun iv _ wr => ∃ i : Nat, i ≤ n ∧ iv = .int .i64 i ∧ Hid (LD w wr bS bM [(⟨#[107]⟩, rotT i l)])) (fun iv _ _ => n - (intOf iv).toNat)
      case atStart => exact ⟨0, Nat.zero_le _, rfl, L3⟩
      case round =>
        obtain ⟨i, hi, rfl, HL⟩ := hrel
        by_cases hlt : i < n
        · have q5 : (i : Int) < (n : Int) := by omega
          obtain ⟨kk, hkk⟩ : ∃ kk : Nat, kk = n - 1 - i := ⟨_, rfl⟩
          obtain ⟨s, hs⟩ : ∃ s, l[kk]? = some s := ⟨_, List.getElem?_eq_getElem (by rw [HN.out]; omega)⟩
          have hrl := rotT_len i l
          have hlast : (rotT i l)[(rotT i l).length - 1]? = some s := by
            rw [hrl, rotT_last i l (by rw [HN.out]; exact hlt), HN.out, ← hkk]
            exact hs
          have hstep : rotT (i + 1) l = s :: (rotT i l).eraseIdx ((rotT i l).length - 1) := by
            rw [hrl]
            exact rotT_step i l (by rw [HN.out]; exact hlt) s (by rw [HN.out, ← hkk]; exact hs)
          have D4 := Lib.hid (show Calls Tryz.prog 8 #[.pointer (some ⟨bS, 0, none⟩), .slice (some ⟨wr.heap.size, 0, none⟩) 3 3] (wr.alloc (.cells #[.string ⟨#[82, 80, 79, 80, 76, 80, 85, 83, 72]⟩, .string ⟨#[107]⟩, .string ⟨#[107]⟩] 9)) (fun e w' => e = .returned (.agg #[.int .i64 4, .int .i64 0, .string s, .slice none 0 0]) ∧ LD w w' bS bM [(⟨#[107]⟩, rotT (i + 1) l)] ∧ Kp wr.heap.size (fun i => i ≠ bS ∧ i ≠ bM) wr w') from lit0 wr HL.out [⟨#[82, 80, 79, 80, 76, 80, 85, 83, 72]⟩, ⟨#[107]⟩, ⟨#[107]⟩] (by simp) (fun vA X h hA => d_TURN w bS bM [(⟨#[107]⟩, rotT i l)] ⟨#[107]⟩ (rotT i l) (by simp [findD]) (by simp) s hlast vA X h hA) (by rw [hstep]; simp [putD]) rfl)
          have w4 : ((n : Int) - 1 - (i : Int)).toNat = kk := by omega
          have w1 : wrap64 ((n : Int) - 1) = (n : Int) - 1 := by unfold wrap64; omega
          have w5 : wrap64 ((n : Int) - 1 - (i : Int)) = (n : Int) - 1 - (i : Int) := by unfold wrap64; omega
          have w6 : 0 ≤ (n : Int) - 1 - (i : Int) := by omega
          have w7 : (n : Int) - 1 - (i : Int) < (n : Int) := by omega
          have w8 : (i : Int) ≤ (n : Int) - 1 := by omega
          have HSS := Lib.hid hs
          clear hkk hrl hlast hstep hs
          go_wp2_with (first | (go_at_call 8; (with_reducible refine (D4.out).mono ?_); rintro e v4 ⟨rfl, hL4, _⟩; refine Hid.out ?_))
          refine Lib.hid ?_
          have L4 := Lib.hid (hL4.old (alloc_old (o := .cells #[.int .i64 4, .int .i64 0, .string s, .slice none 0 0] 28)))
          have g4 := heap_alloc_new v4 (.cells #[.int .i64 4, .int .i64 0, .string s, .slice none 0 0] 28)
          have ca := CA.out _ L4.out.below kk s HSS.out
          go_wp2
          generalize (v4.alloc (.cells #[.int .i64 4, .int .i64 0, .string s, .slice none 0 0] 28)) = v5 at L4 g4 ca ⊢
          have g5 : v5.drew.heap[v4.heap.size]? = _ := g4
          have ca5 : v5.drew.cell? ⟨blk, off + kk, none⟩ = some (.string s) := ca
          obtain ⟨⟨c0, c1, c2, c3⟩, _⟩ := cells4 g4
          obtain ⟨⟨d0, d1, d2, d3⟩, _⟩ := cells4 g5
          clear hL4
          go_region
          go_wp2
          exact ⟨⟨i + 1, by omega, by go_num, Lib.hid (L4.out.old (Below.refl _ _).drew)⟩, by simp [intOf]; omega⟩
        · obtain rfl : n = i := by omega
          have q5 : ¬ (n : Int) < (n : Int) := by omega
          obtain ⟨w3, rfl⟩ : ∃ w3, w3 = wr := ⟨_, rfl⟩
          have L5 := Lib.hid (show LD w w3 bS bM [(⟨#[107]⟩, l)] by have := HL.out; rw [show n = l.length from HN.out.symm, rotT_all] at this; exact this)
          clear HL hi hlt
          have hx := tmod20 a1
          have hy := tmod20 a2
          go_wp2_with (first | (go_at_call 9; refine Hid.out ?_))
          generalize a1.tmod 20 = x at hx ⊢
          generalize a2.tmod 20 = y at hy ⊢
          refine Lib.hid ?_
          have N1 := Lib.hid (Number13 hT x ⟨by omega, by omega⟩ w3 L5.out.below)
          go_wp2_with (first | (go_at_call 9; (with_reducible refine (N1.out).mono ?_); rintro e v6 ⟨rfl, h6⟩; have L6 := Lib.hid (L5.out.old h6); have N2 := Lib.hid (Number13 hT y ⟨by omega, by omega⟩ v6 L6.out.below); clear h6 N1; refine Hid.out ?_))
          refine Lib.hid ?_
          go_wp2_with (first | (go_at_call 9; (with_reducible refine (N2.out).mono ?_); rintro e v7 ⟨rfl, h7⟩; have L7 := Lib.hid (L6.out.old h7); clear h7; refine Hid.out ?_))
          refine Lib.hid ?_
          have hnl := HN.out
          obtain ⟨zs, hzs⟩ : ∃ zs, spanT x y l = zs := ⟨_, rfl⟩
          have D8 := Lib.hid (show Calls Tryz.prog 8 #[.pointer (some ⟨bS, 0, none⟩), .slice (some ⟨v7.heap.size, 0, none⟩) 4 4] (v7.alloc (.cells #[.string ⟨#[76, 82, 65, 78, 71, 69]⟩, .string ⟨#[107]⟩, .string (numT x), .string (numT y)] 9)) (fun e w' => ∃ A m c, e = .returned (.agg #[.int .i64 6, .int .i64 0, .string ⟨#[]⟩, .slice A m c]) ∧ RO (zs.map some) v7.heap.size w' (.slice A m c) ∧ LD w w' bS bM [(⟨#[107]⟩, l)] ∧ Kp v7.heap.size (fun i => i ≠ bS ∧ i ≠ bM) v7 w') from litR (RO.keep _) v7 L7.out [⟨#[76, 82, 65, 78, 71, 69]⟩, ⟨#[107]⟩, numT x, numT y] (by simp) (fun vA X h hA => d_LRANGE w bS bM [(⟨#[107]⟩, l)] ⟨#[107]⟩ (numT x) x (Nat.le_trans (numT_size x ⟨by omega, by omega⟩) (by decide)) (parse_numT x ⟨by omega, by omega⟩) (by omega) (numT y) y (Nat.le_trans (numT_size y ⟨by omega, by omega⟩) (by decide)) (parse_numT y ⟨by omega, by omega⟩) (by omega) l (by simp [findD]) (by omega) vA X h hA) rfl rfl (by rw [hzs]))
          go_wp2_with (first | (go_at_call 8; (with_reducible refine (D8.out).mono ?_); rintro e v8 ⟨A, m, cc, rfl, hR8, hL8, _⟩; refine Hid.out ?_))
          refine Lib.hid ?_
          have L9 := Lib.hid (hL8.old (alloc_old (o := .cells #[.int .i64 6, .int .i64 0, .string ⟨#[]⟩, .slice A m cc] 28)))
          have g9 := Lib.hid (heap_alloc_new v8 (.cells #[.int .i64 6, .int .i64 0, .string ⟨#[]⟩, .slice A m cc] 28))
          have R9 := Lib.hid (RO.below hR8 (alloc_old (o := .cells #[.int .i64 6, .int .i64 0, .string ⟨#[]⟩, .slice A m cc] 28)))
          clear hL8 hR8
          have hzl : m = zs.length := by
            have h := R9.out
            unfold RO World.ownsRow at h
            obtain ⟨_, ⟨h1, h2⟩ | ⟨g', cap', cur, h1, _⟩⟩ := h
            · cases h1
              rw [List.length_map] at h2
              exact h2.symm
            · cases h1
              simp
          have hsp : ∀ (fr tt : Int), (fr = if x < 0 then max (x + (n : Int)) 0 else x) → (tt = min (if y < 0 then y + (n : Int) else y) ((n : Int) - 1)) → 0 ≤ fr ∧ max (tt - fr + 1) 0 = (m : Int) ∧ ∀ (kq : Nat) (s : ByteArray), zs[kq]? = some s → l[fr.toNat + kq]? = some s ∧ fr + (kq : Int) < (n : Int) := by
            intro fr tt h1 h2
            have := span_law x y l n hnl fr tt h1 h2
            rw [hzs] at this
            rw [hzl]
            exact this
          have HZ := Lib.hid hzs
          have HML := Lib.hid hzl
          clear hzl hzs
          by_cases hx0 : x < 0
          · by_cases hy0 : y < 0
            · obtain ⟨a, ha⟩ : ∃ a : Nat, max (x + (n : Int)) 0 = (a : Int) := ⟨(max (x + (n : Int)) 0).toNat, by omega⟩
              obtain ⟨_, hm, hel⟩ := hsp (a : Int) (min (y + (n : Int)) ((n : Int) - 1)) (by rw [if_pos hx0, ha]) (by rw [if_pos hy0])
              have HEL := Lib.hid hel
              clear hsp hel
              go_wp2
              generalize (v8.alloc (.cells #[.int .i64 6, .int .i64 0, .string ⟨#[]⟩, .slice A m cc] 28)) = v9 at L9 g9 R9 ⊢
              go_loopw [17] (fun iv wr => ∃ k : Nat, k ≤ m ∧ iv = .int .i64 k ∧ Hid (Below v9.heap.size v9 wr)) (fun iv _ => m - (intOf iv).toNat)
              case atStart => exact ⟨0, Nat.zero_le _, rfl, Lib.hid (Below.refl _ _)⟩
              case round =>
                obtain ⟨kq, hkq, rfl, HB⟩ := hrel
                clear hm ha hx hy hx0 hy0
                have BWr := Lib.hid (L9.out.below.trans (HB.out.mono (Below.size L9.out.below)))
                obtain ⟨⟨e0, e1, e2, e3⟩, _⟩ := cells4 (blk_below g9.out HB.out)
                by_cases hlk : kq < m
                · have q8 : (kq : Int) < (m : Int) := by omega
                  obtain ⟨s, hs⟩ : ∃ s, zs[kq]? = some s := ⟨_, List.getElem?_eq_getElem (by rw [← HML.out]; exact hlk)⟩
                  obtain ⟨hl1, hl2⟩ := HEL.out kq s hs
                  rw [Int.toNat_natCast] at hl1
                  have R10 := R9.out.below HB.out
                  obtain ⟨hmm, ⟨gq, rfl⟩, hcc⟩ := R10.form (by intro e; have := HML.out; have h := List.map_eq_nil_iff.1 e; rw [h] at this; simp at this; omega)
                  have R11 : wr.ownsRow v7.heap.size 28 4 (.slice (some ⟨gq, 0, none⟩) (zs.map some).length cc) (zs.map some).length ((zs.map some).flatMap repC) := by rw [← hmm]; have := R10; unfold RO at this; rw [← hmm] at this; exact this
                  have rc := row_cell R11 (kq * 4 + 2) (.string s) (repC_at (zs.map some) kq 2 (some s) _ (by simp [hs]) rfl)
                  have ca := CA.out _ BWr.out (a + kq) s hl1
                  have rcD : wr.drew.cell? ⟨gq, kq * 4 + 2, none⟩ = some (.string s) := rc
                  have caD : wr.drew.cell? ⟨blk, off + (a + kq), none⟩ = some (.string s) := ca
                  have e3D : wr.drew.cell? ⟨v8.heap.size, 3, none⟩ = some (.slice (some ⟨gq, 0, none⟩) m cc) := e3
                  obtain ⟨w9, w10, w11⟩ := add_facts a kq n hl2 (by omega)
                  clear hs hl1 R10 R11 hmm hcc hkq
                  go_wp2
                  go_region
                  go_wp2
                  exact ⟨⟨kq + 1, by omega, by go_num, Lib.hid HB.out.drew⟩, by simp [intOf]; omega⟩
                · obtain rfl : m = kq := by omega
                  have q8 : ¬ (m : Int) < (m : Int) := by omega
                  obtain ⟨w9, rfl⟩ : ∃ w9, w9 = wr := ⟨_, rfl⟩
                  have L10 := Lib.hid (L9.out.old HB.out)
                  have TL := Lib.hid (fun X => told X)
                  go_wp2_with (first | (go_at_call 6; (with_reducible refine (TL.out _).mono ?_); rintro e v10 ⟨rfl, h10⟩; have L11 := Lib.hid (L10.out.old h10); clear h10; refine Hid.out ?_))
                  refine Lib.hid ?_
                  have D12 := Lib.hid (lenL w bS bM l n hnl v10 L11.out)
                  have fN : ∀ X, (Instr.field 28 (.agg #[.int .i64 3, .int .i64 (n : Int), .string ⟨#[]⟩, .slice none 0 0]) 1).run Tryz.prog X = .ok (.int .i64 (n : Int)) X := fun X => by kernel_rfl
                  have z1 : IntKind.i64.wrap (n : Int) = (n : Int) := IntWalk.i64_in _ (by omega)
                  go_wp2_with (first | (go_at_call 8; (with_reducible refine (D12.out).mono ?_); rintro e v11 ⟨rfl, hL11⟩; have L12 := Lib.hid hL11; clear hL11))
                  go_ret
                  exact ⟨by simp, L12.out.below⟩
            · obtain ⟨a, ha⟩ : ∃ a : Nat, max (x + (n : Int)) 0 = (a : Int) := ⟨(max (x + (n : Int)) 0).toNat, by omega⟩
              obtain ⟨_, hm, hel⟩ := hsp (a : Int) (min y ((n : Int) - 1)) (by rw [if_pos hx0, ha]) (by rw [if_neg hy0])
              have HEL := Lib.hid hel
              clear hsp hel
              go_wp2
              generalize (v8.alloc (.cells #[.int .i64 6, .int .i64 0, .string ⟨#[]⟩, .slice A m cc] 28)) = v9 at L9 g9 R9 ⊢
              go_loopw [17] (fun iv wr => ∃ k : Nat, k ≤ m ∧ iv = .int .i64 k ∧ Hid (Below v9.heap.size v9 wr)) (fun iv _ => m - (intOf iv).toNat)
              case atStart => exact ⟨0, Nat.zero_le _, rfl, Lib.hid (Below.refl _ _)⟩
              case round =>
                obtain ⟨kq, hkq, rfl, HB⟩ := hrel
                clear hm ha hx hy hx0 hy0
                have BWr := Lib.hid (L9.out.below.trans (HB.out.mono (Below.size L9.out.below)))
                obtain ⟨⟨e0, e1, e2, e3⟩, _⟩ := cells4 (blk_below g9.out HB.out)
                by_cases hlk : kq < m
                · have q8 : (kq : Int) < (m : Int) := by omega
                  obtain ⟨s, hs⟩ : ∃ s, zs[kq]? = some s := ⟨_, List.getElem?_eq_getElem (by rw [← HML.out]; exact hlk)⟩
                  obtain ⟨hl1, hl2⟩ := HEL.out kq s hs
                  rw [Int.toNat_natCast] at hl1
                  have R10 := R9.out.below HB.out
                  obtain ⟨hmm, ⟨gq, rfl⟩, hcc⟩ := R10.form (by intro e; have := HML.out; have h := List.map_eq_nil_iff.1 e; rw [h] at this; simp at this; omega)
                  have R11 : wr.ownsRow v7.heap.size 28 4 (.slice (some ⟨gq, 0, none⟩) (zs.map some).length cc) (zs.map some).length ((zs.map some).flatMap repC) := by rw [← hmm]; have := R10; unfold RO at this; rw [← hmm] at this; exact this
                  have rc := row_cell R11 (kq * 4 + 2) (.string s) (repC_at (zs.map some) kq 2 (some s) _ (by simp [hs]) rfl)
                  have ca := CA.out _ BWr.out (a + kq) s hl1
                  have rcD : wr.drew.cell? ⟨gq, kq * 4 + 2, none⟩ = some (.string s) := rc
                  have caD : wr.drew.cell? ⟨blk, off + (a + kq), none⟩ = some (.string s) := ca
                  have e3D : wr.drew.cell? ⟨v8.heap.size, 3, none⟩ = some (.slice (some ⟨gq, 0, none⟩) m cc) := e3
                  obtain ⟨w9, w10, w11⟩ := add_facts a kq n hl2 (by omega)
                  clear hs hl1 R10 R11 hmm hcc hkq
                  go_wp2
                  go_region
                  go_wp2
                  exact ⟨⟨kq + 1, by omega, by go_num, Lib.hid HB.out.drew⟩, by simp [intOf]; omega⟩
                · obtain rfl : m = kq := by omega
                  have q8 : ¬ (m : Int) < (m : Int) := by omega
                  obtain ⟨w9, rfl⟩ : ∃ w9, w9 = wr := ⟨_, rfl⟩
                  have L10 := Lib.hid (L9.out.old HB.out)
                  have TL := Lib.hid (fun X => told X)
                  go_wp2_with (first | (go_at_call 6; (with_reducible refine (TL.out _).mono ?_); rintro e v10 ⟨rfl, h10⟩; have L11 := Lib.hid (L10.out.old h10); clear h10; refine Hid.out ?_))
                  refine Lib.hid ?_
                  have D12 := Lib.hid (lenL w bS bM l n hnl v10 L11.out)
                  have fN : ∀ X, (Instr.field 28 (.agg #[.int .i64 3, .int .i64 (n : Int), .string ⟨#[]⟩, .slice none 0 0]) 1).run Tryz.prog X = .ok (.int .i64 (n : Int)) X := fun X => by kernel_rfl
                  have z1 : IntKind.i64.wrap (n : Int) = (n : Int) := IntWalk.i64_in _ (by omega)
                  go_wp2_with (first | (go_at_call 8; (with_reducible refine (D12.out).mono ?_); rintro e v11 ⟨rfl, hL11⟩; have L12 := Lib.hid hL11; clear hL11))
                  go_ret
                  exact ⟨by simp, L12.out.below⟩
          · by_cases hy0 : y < 0
            · obtain ⟨a, rfl⟩ : ∃ a : Nat, x = (a : Int) := ⟨x.toNat, by omega⟩
              obtain ⟨_, hm, hel⟩ := hsp (a : Int) (min (y + (n : Int)) ((n : Int) - 1)) (by rw [if_neg hx0]) (by rw [if_pos hy0])
              have HEL := Lib.hid hel
              clear hsp hel
              go_wp2
              generalize (v8.alloc (.cells #[.int .i64 6, .int .i64 0, .string ⟨#[]⟩, .slice A m cc] 28)) = v9 at L9 g9 R9 ⊢
              go_loopw [17] (fun iv wr => ∃ k : Nat, k ≤ m ∧ iv = .int .i64 k ∧ Hid (Below v9.heap.size v9 wr)) (fun iv _ => m - (intOf iv).toNat)
              case atStart => exact ⟨0, Nat.zero_le _, rfl, Lib.hid (Below.refl _ _)⟩
              case round =>
                obtain ⟨kq, hkq, rfl, HB⟩ := hrel
                clear hm hx hy hx0 hy0
                have BWr := Lib.hid (L9.out.below.trans (HB.out.mono (Below.size L9.out.below)))
                obtain ⟨⟨e0, e1, e2, e3⟩, _⟩ := cells4 (blk_below g9.out HB.out)
                by_cases hlk : kq < m
                · have q8 : (kq : Int) < (m : Int) := by omega
                  obtain ⟨s, hs⟩ : ∃ s, zs[kq]? = some s := ⟨_, List.getElem?_eq_getElem (by rw [← HML.out]; exact hlk)⟩
                  obtain ⟨hl1, hl2⟩ := HEL.out kq s hs
                  rw [Int.toNat_natCast] at hl1
                  have R10 := R9.out.below HB.out
                  obtain ⟨hmm, ⟨gq, rfl⟩, hcc⟩ := R10.form (by intro e; have := HML.out; have h := List.map_eq_nil_iff.1 e; rw [h] at this; simp at this; omega)
                  have R11 : wr.ownsRow v7.heap.size 28 4 (.slice (some ⟨gq, 0, none⟩) (zs.map some).length cc) (zs.map some).length ((zs.map some).flatMap repC) := by rw [← hmm]; have := R10; unfold RO at this; rw [← hmm] at this; exact this
                  have rc := row_cell R11 (kq * 4 + 2) (.string s) (repC_at (zs.map some) kq 2 (some s) _ (by simp [hs]) rfl)
                  have ca := CA.out _ BWr.out (a + kq) s hl1
                  have rcD : wr.drew.cell? ⟨gq, kq * 4 + 2, none⟩ = some (.string s) := rc
                  have caD : wr.drew.cell? ⟨blk, off + (a + kq), none⟩ = some (.string s) := ca
                  have e3D : wr.drew.cell? ⟨v8.heap.size, 3, none⟩ = some (.slice (some ⟨gq, 0, none⟩) m cc) := e3
                  obtain ⟨w9, w10, w11⟩ := add_facts a kq n hl2 (by omega)
                  clear hs hl1 R10 R11 hmm hcc hkq
                  go_wp2
                  go_region
                  go_wp2
                  exact ⟨⟨kq + 1, by omega, by go_num, Lib.hid HB.out.drew⟩, by simp [intOf]; omega⟩
                · obtain rfl : m = kq := by omega
                  have q8 : ¬ (m : Int) < (m : Int) := by omega
                  obtain ⟨w9, rfl⟩ : ∃ w9, w9 = wr := ⟨_, rfl⟩
                  have L10 := Lib.hid (L9.out.old HB.out)
                  have TL := Lib.hid (fun X => told X)
                  go_wp2_with (first | (go_at_call 6; (with_reducible refine (TL.out _).mono ?_); rintro e v10 ⟨rfl, h10⟩; have L11 := Lib.hid (L10.out.old h10); clear h10; refine Hid.out ?_))
                  refine Lib.hid ?_
                  have D12 := Lib.hid (lenL w bS bM l n hnl v10 L11.out)
                  have fN : ∀ X, (Instr.field 28 (.agg #[.int .i64 3, .int .i64 (n : Int), .string ⟨#[]⟩, .slice none 0 0]) 1).run Tryz.prog X = .ok (.int .i64 (n : Int)) X := fun X => by kernel_rfl
                  have z1 : IntKind.i64.wrap (n : Int) = (n : Int) := IntWalk.i64_in _ (by omega)
                  go_wp2_with (first | (go_at_call 8; (with_reducible refine (D12.out).mono ?_); rintro e v11 ⟨rfl, hL11⟩; have L12 := Lib.hid hL11; clear hL11))
                  go_ret
                  exact ⟨by simp, L12.out.below⟩
            · obtain ⟨a, rfl⟩ : ∃ a : Nat, x = (a : Int) := ⟨x.toNat, by omega⟩
              obtain ⟨_, hm, hel⟩ := hsp (a : Int) (min y ((n : Int) - 1)) (by rw [if_neg hx0]) (by rw [if_neg hy0])
              have HEL := Lib.hid hel
              clear hsp hel
              go_wp2
              generalize (v8.alloc (.cells #[.int .i64 6, .int .i64 0, .string ⟨#[]⟩, .slice A m cc] 28)) = v9 at L9 g9 R9 ⊢
              go_loopw [17] (fun iv wr => ∃ k : Nat, k ≤ m ∧ iv = .int .i64 k ∧ Hid (Below v9.heap.size v9 wr)) (fun iv _ => m - (intOf iv).toNat)
              case atStart => exact ⟨0, Nat.zero_le _, rfl, Lib.hid (Below.refl _ _)⟩
              case round =>
                obtain ⟨kq, hkq, rfl, HB⟩ := hrel
                clear hm hx hy hx0 hy0
                have BWr := Lib.hid (L9.out.below.trans (HB.out.mono (Below.size L9.out.below)))
                obtain ⟨⟨e0, e1, e2, e3⟩, _⟩ := cells4 (blk_below g9.out HB.out)
                by_cases hlk : kq < m
                · have q8 : (kq : Int) < (m : Int) := by omega
                  obtain ⟨s, hs⟩ : ∃ s, zs[kq]? = some s := ⟨_, List.getElem?_eq_getElem (by rw [← HML.out]; exact hlk)⟩
                  obtain ⟨hl1, hl2⟩ := HEL.out kq s hs
                  rw [Int.toNat_natCast] at hl1
                  have R10 := R9.out.below HB.out
                  obtain ⟨hmm, ⟨gq, rfl⟩, hcc⟩ := R10.form (by intro e; have := HML.out; have h := List.map_eq_nil_iff.1 e; rw [h] at this; simp at this; omega)
                  have R11 : wr.ownsRow v7.heap.size 28 4 (.slice (some ⟨gq, 0, none⟩) (zs.map some).length cc) (zs.map some).length ((zs.map some).flatMap repC) := by rw [← hmm]; have := R10; unfold RO at this; rw [← hmm] at this; exact this
                  have rc := row_cell R11 (kq * 4 + 2) (.string s) (repC_at (zs.map some) kq 2 (some s) _ (by simp [hs]) rfl)
                  have ca := CA.out _ BWr.out (a + kq) s hl1
                  have rcD : wr.drew.cell? ⟨gq, kq * 4 + 2, none⟩ = some (.string s) := rc
                  have caD : wr.drew.cell? ⟨blk, off + (a + kq), none⟩ = some (.string s) := ca
                  have e3D : wr.drew.cell? ⟨v8.heap.size, 3, none⟩ = some (.slice (some ⟨gq, 0, none⟩) m cc) := e3
                  obtain ⟨w9, w10, w11⟩ := add_facts a kq n hl2 (by omega)
                  clear hs hl1 R10 R11 hmm hcc hkq
                  go_wp2
                  go_region
                  go_wp2
                  exact ⟨⟨kq + 1, by omega, by go_num, Lib.hid HB.out.drew⟩, by simp [intOf]; omega⟩
                · obtain rfl : m = kq := by omega
                  have q8 : ¬ (m : Int) < (m : Int) := by omega
                  obtain ⟨w9, rfl⟩ : ∃ w9, w9 = wr := ⟨_, rfl⟩
                  have L10 := Lib.hid (L9.out.old HB.out)
                  have TL := Lib.hid (fun X => told X)
                  go_wp2_with (first | (go_at_call 6; (with_reducible refine (TL.out _).mono ?_); rintro e v10 ⟨rfl, h10⟩; have L11 := Lib.hid (L10.out.old h10); clear h10; refine Hid.out ?_))
                  refine Lib.hid ?_
                  have D12 := Lib.hid (lenL w bS bM l n hnl v10 L11.out)
                  have fN : ∀ X, (Instr.field 28 (.agg #[.int .i64 3, .int .i64 (n : Int), .string ⟨#[]⟩, .slice none 0 0]) 1).run Tryz.prog X = .ok (.int .i64 (n : Int)) X := fun X => by kernel_rfl
                  have z1 : IntKind.i64.wrap (n : Int) = (n : Int) := IntWalk.i64_in _ (by omega)
                  go_wp2_with (first | (go_at_call 8; (with_reducible refine (D12.out).mono ?_); rintro e v11 ⟨rfl, hL11⟩; have L12 := Lib.hid hL11; clear hL11))
                  go_ret
                  exact ⟨by simp, L12.out.below⟩
set_option maxRecDepth 100000 in
set_option maxHeartbeats 8000000 in
theorem turn_none (l : List ByteArray) (v0 : Value) (a1 a2 : Int) (w : World) (h0 : SSl w v0 l) (h : l.length = 0 ∨ 12 < l.length) : Calls Tryz.prog 4 #[v0, .int .i64 a1, .int .i64 a2] w fun e w' => e = .returned (.bool true) ∧ Below w.heap.size w w' := by
  have TL := Lib.hid (fun X => told X)
  obtain ⟨aA, cap, rfl, p1, p2, p3⟩ := h0
  obtain ⟨n, hn⟩ : ∃ n : Nat, l.length = n := ⟨_, rfl⟩
  rw [hn] at h
  simp only [hn]
  rcases h with h | h
  · subst h
    clear p1 p2 p3 hn
    go_enter Tryz.func4, Tryz.ntmps4
    go_wp2_with (first | (go_at_call 6; (with_reducible refine (TL.out _).mono ?_); rintro e w7 ⟨rfl, h7⟩; have B7 := Lib.hid h7; clear h7))
    exact bodyPost_ret (v := .bool true) (by simp [results, Tryz.results4, go_sem]) rfl ⟨rfl, B7.out⟩
  · have q1 : ¬ (n : Int) = 0 := by omega
    have q2 : (12 : Int) < (n : Int) := by omega
    have q1b : ((n : Int) == 0) = false := by rw [beq_eq_false_iff_ne]; exact q1
    clear p1 p2 p3 hn
    go_enter Tryz.func4, Tryz.ntmps4
    go_wp2_with (first | (go_at_call 6; (with_reducible refine (TL.out _).mono ?_); rintro e w7 ⟨rfl, h7⟩; have B7 := Lib.hid h7; clear h7))
    exact bodyPost_ret (v := .bool true) (by simp [results, Tryz.results4, go_sem]) rfl ⟨rfl, B7.out⟩
end Go.Proofs.YtjljljjmdlddkaaGreatDoor

/- The law ListsTurn, whole. -/
namespace Go.Proofs.YtjljljjmdlddkaaGreatDoor
open Go.ChangeShapes Go.WideShapes Go.ChangeAt Go.RowKit

section
variable {H : Type} {enc : TypeId × Value → H} {W : World}
theorem at_of {a : Addr} {n : Nat} {f : Nat → Value} (h : ∀ i, i < n → W.cell? (a.add i) = some (f i)) (hp : 0 < n) :
    ∃ b off, a = ⟨b, off, none⟩ ∧ b < W.heap.size ∧ ∀ j, j < n → W.cell? ⟨b, off + j, none⟩ = some (f j) := by
  obtain ⟨b, off, spot⟩ := a
  have hspot : spot = none := by simpa [Addr.add] using World.cell?_spot (h 0 hp)
  subst hspot
  have h2 : ∀ j, j < n → W.cell? ⟨b, off + j, none⟩ = some (f j) := fun j hj => by rw [← Go.WideShapes.add_plain]; exact h j hj
  refine ⟨b, off, rfl, ?_, h2⟩
  have h0 := h2 0 hp
  rcases Nat.lt_or_ge b W.heap.size with hb | hb
  · exact hb
  · unfold World.cell? at h0
    simp only [Array.getElem?_eq_none hb] at h0
    cases h0
theorem SSl.of_trod {v : Value} {d : DataW H} {ps : List MemPlace} (h : DataW.Trod enc Tryz.prog W 0 (fun _ => true) true 33 v d ps) (hv : ∃ A n c, v = .slice A n c) : ∃ xs, SSl W v xs := by
  obtain ⟨A, n, c, rfl⟩ := hv
  obtain ⟨m, hm⟩ := h
  rcases open_strings Tryz.underlying33 Tryz.underlying9 (by kernel_rfl) hm with ⟨hcs, _⟩ | ⟨a, len, cap, ss, hcs, _, hl, hc, hs, _, hcell, _⟩
  · obtain ⟨rfl, rfl, rfl⟩ : A = none ∧ n = 0 ∧ c = 0 := by simpa [Value.cells] using hcs
    exact ⟨[], none, 0, rfl, Nat.le_refl _, Nat.zero_le _, fun h => absurd rfl h⟩
  · obtain ⟨rfl, rfl, rfl⟩ : A = some a ∧ n = len ∧ c = cap := by simpa [Value.cells] using hcs
    simp only [if_true] at hs
    have e : (ss.take n).length = n := by rw [List.length_take]; omega
    refine ⟨ss.take n, some a, c, by rw [e], by rw [e]; exact hl, hc, fun hne => ?_⟩
    have hn : 0 < n := by
      rcases Nat.eq_zero_or_pos n with h | h
      · subst h; simp at hne
      · exact h
    obtain ⟨b, off, rfl, hb, hcell'⟩ := at_of hcell (by omega)
    refine ⟨b, off, rfl, hb, fun i s hi => ?_⟩
    obtain ⟨hi1, hi2⟩ := List.getElem?_eq_some_iff.1 hi
    rw [e] at hi1
    rw [hcell' i (by omega)]
    rw [List.getElem?_take_of_lt hi1] at hi
    rw [List.getD, hi]; rfl
end
theorem gPow : Tryz.prog.globalNamed "internal/strconv.uint64pow10" = some 0 := by kernel_rfl
theorem gPowType : (Tryz.prog.globals[0]?).map (·.type) = some 186 := by kernel_rfl
theorem cellsTb : Tryz.prog.cellsOf 186 = 20 := by kernel_rfl
theorem cellsE : Tryz.prog.cellsOf 154 = 1 := by kernel_rfl
theorem tab_turn {W : World} (h : laidMetH Tryz.prog Rows.listsTurnRow.laid W) : Tab W :=
  Lib.tabIs_of_head (rest := []) (zs := Lib.pow10Tab) gPow gPowType (by kernel_rfl) (by kernel_rfl) cellsE cellsTb (laidMet.tail (laidMet.tail h))
theorem I64.of_wf {n : Int} (h : (Lit.int .i64 n).wf = true) : I64 n := by
  have h1 : (IntKind.i64.min ≤ n) ∧ n ≤ IntKind.i64.max := by simpa [Lit.wf] using h
  exact ⟨h1.1, h1.2⟩
theorem turn_law {W : World} (hT : Tab W) (v0 : Value) (xs : List ByteArray) (h0 : SSl W v0 xs) (a1 a2 : Int) (h1 : I64 a1) (h2 : I64 a2) : Calls Tryz.prog 4 #[v0, .int .i64 a1, .int .i64 a2] W fun e w' => e = .returned (.bool true) ∧ Below W.heap.size W w' := by
  by_cases h : 1 ≤ xs.length ∧ xs.length ≤ 12
  · exact turn_walk xs v0 a1 a2 W hT h0 h.1 h.2 h1 h2
  · exact turn_none xs v0 a1 a2 W h0 (by omega)
end Go.Proofs.YtjljljjmdlddkaaGreatDoor
