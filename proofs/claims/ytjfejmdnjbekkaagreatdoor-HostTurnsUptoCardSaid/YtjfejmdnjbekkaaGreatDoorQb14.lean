/- Texts joined: HD, HE, HF -/
import Derived.Test.YtjfejmdnjbekkaaGreatDoorQb12
set_option linter.unusedVariables false
set_option linter.unusedSimpArgs false

/- host.Plain of an array of simple replies. -/
namespace Go.Proofs.YtjfejmdnjbekkaaGreatDoor
open Go.ChangeShapes Go.WideShapes Go.ChangeAt Go.RowKit

theorem al3h (w : World) (o1 o2 o3 : Obj) : (((w.alloc o1).alloc o2).alloc o3).heap[w.heap.size]? = some o1 ∧ (((w.alloc o1).alloc o2).alloc o3).heap[w.heap.size + 1]? = some o2 ∧ (((w.alloc o1).alloc o2).alloc o3).heap[w.heap.size + 1 + 1]? = some o3 ∧ Below w.heap.size w (((w.alloc o1).alloc o2).alloc o3) := by
  have h3 := heap_alloc_new ((w.alloc o1).alloc o2) o3
  rw [World.size_alloc, World.size_alloc] at h3
  have a3 : Below ((w.alloc o1).alloc o2).heap.size ((w.alloc o1).alloc o2) (((w.alloc o1).alloc o2).alloc o3) := alloc_old
  have a2 : Below (w.alloc o1).heap.size (w.alloc o1) ((w.alloc o1).alloc o2) := alloc_old
  exact ⟨blk_below (blk_below (heap_alloc_new w o1) a2) a3, blk_below (blk2 w o1 o2) a3, h3, (two_old w o1 o2).alloc (by rw [World.size_alloc, World.size_alloc]; omega) _⟩
theorem set_cells4h {w : World} {b : Nat} {a0 a1 a2 a3 v : Value} {t : TypeId} (h : w.heap[b]? = some (.cells #[a0, a1, a2, a3] t)) : (w.setCell ⟨b, 3, none⟩ v).heap[b]? = some (.cells #[a0, a1, a2, v] t) := by
  simp [World.setCell, Array.getElem?_modify, h]
/-- A simple reply, nil too, as a value. -/
def pvN (x : S4) : S4 := if x.1 = 5 then (0, 0, ⟨#[]⟩) else pv x
theorem hPlain_simple (x : S4) (h : okR x ∨ x.1 = 5) (X : World) : Calls Tryz.prog 8 #[.agg #[.int .i64 x.1, .int .i64 x.2.1, .string x.2.2, .slice none 0 0]] X fun e w' => e = .returned (.tuple #[.agg #[.int .i64 (pvN x).1, .int .i64 (pvN x).2.1, .string (pvN x).2.2, .slice none 0 0], .bool false]) ∧ Below X.heap.size X w' := by
  obtain ⟨k, n, s⟩ := x
  rcases h with (⟨h1, h2⟩ | ⟨h1, h2⟩) | h1
  · simp only at h1 h2
    subst h1 h2
    exact hPlain_int n _ X
  · simp only at h1 h2
    subst h1 h2
    exact hPlain_bulk 0 s X
  · simp only at h1
    subst h1
    exact hPlain_nil n s X
/-- A table's row of replies some of which are nil. -/
def plsG : Nat → List S4 → List S4
  | _, [] => []
  | i, x :: r => if x.1 = 5 then plsG (i + 1) r else (2, (i : Int) + 1, ⟨#[]⟩) :: pv x :: plsG (i + 1) r
theorem plsG_snoc (x : S4) : ∀ (xs : List S4) (i : Nat), plsG i (xs ++ [x]) = plsG i xs ++ (if x.1 = 5 then [] else [(2, ((i + xs.length : Nat) : Int) + 1, ⟨#[]⟩), pv x])
  | [], i => by
    show (if x.1 = 5 then plsG (i + 1) [] else _) = _
    by_cases h : x.1 = 5
    · rw [if_pos h, if_pos h]; rfl
    · rw [if_neg h, if_neg h]; rfl
  | y :: r, i => by
    have ih := plsG_snoc x r (i + 1)
    rw [show i + 1 + r.length = i + (y :: r).length by rw [List.length_cons]; omega] at ih
    show (if y.1 = 5 then plsG (i + 1) (r ++ [x]) else (2, (i : Int) + 1, ⟨#[]⟩) :: pv y :: plsG (i + 1) (r ++ [x])) = (if y.1 = 5 then plsG (i + 1) r else (2, (i : Int) + 1, ⟨#[]⟩) :: pv y :: plsG (i + 1) r) ++ _
    rw [ih]
    by_cases h : y.1 = 5
    · rw [if_pos h, if_pos h]
    · rw [if_neg h, if_neg h]; rfl
theorem plsG_ok : ∀ (xs : List S4) (i : Nat), (∀ x ∈ xs, okR x) → plsG i xs = plsF i xs
  | [], _, _ => rfl
  | x :: r, i, h => by
    have hx : ¬ x.1 = 5 := by
      rcases h x List.mem_cons_self with ⟨h1, _⟩ | ⟨h1, _⟩ <;> omega
    show (if x.1 = 5 then _ else _) = _
    rw [if_neg hx, plsG_ok r (i + 1) fun y hy => h y (List.mem_cons_of_mem _ hy)]
    rfl
theorem plsG_len : ∀ (xs : List S4) (i : Nat), (plsG i xs).length ≤ 2 * xs.length
  | [], _ => Nat.le_refl _
  | x :: r, i => by
    have ih := plsG_len r (i + 1)
    show (if x.1 = 5 then plsG (i + 1) r else (2, (i : Int) + 1, ⟨#[]⟩) :: pv x :: plsG (i + 1) r).length ≤ _
    split <;> simp only [List.length_cons] <;> omega
set_option maxRecDepth 100000 in
set_option maxHeartbeats 8000000 in
theorem hPlain_arr (n0 : Int) (s0 : ByteArray) (A : Option Addr) (m C c0 : Nat) (xs : List S4) (hm : xs.length = m) (hm9 : m ≤ 1000) (hx : ∀ x ∈ xs, okR x ∨ x.1 = 5) (w : World) (h : R4 24 w c0 (.slice A m C) xs) : Calls Tryz.prog 8 #[.agg #[.int .i64 6, .int .i64 n0, .string s0, .slice A m C]] w fun e w' => ∃ A' L' C', e = .returned (.tuple #[.agg #[.int .i64 4, .int .i64 0, .string ⟨#[]⟩, .slice A' L' C'], .bool false]) ∧ R4 27 w' w.heap.size (.slice A' L' C') (plsG 0 xs) ∧ Below w.heap.size w w' := by
  have HR := Lib.hid h
  have HM := Lib.hid hm
  have HX := Lib.hid hx
  obtain ⟨k0, k1, k2, k3⟩ := al3h w (.cells #[.int .i64 6, .int .i64 n0, .string s0, .slice A m C] 24) (.cells #[.int .i64 0, .int .i64 0, .string ⟨#[]⟩, .slice none 0 0] 27) (.cells #[.int .i64 4, .int .i64 0, .string ⟨#[]⟩, .slice none 0 0] 27)
  have K := Lib.hid (And.intro k1 (And.intro k2 k3))
  obtain ⟨⟨e0, e1, e2, e3⟩, _⟩ := cells4 k0
  have hz : (((w.alloc (.cells #[.int .i64 6, .int .i64 n0, .string s0, .slice A m C] 24)).alloc (.cells #[.int .i64 0, .int .i64 0, .string ⟨#[]⟩, .slice none 0 0] 27)).alloc (.cells #[.int .i64 4, .int .i64 0, .string ⟨#[]⟩, .slice none 0 0] 27)).heap.size = w.heap.size + 1 + 1 + 1 := by simp
  have HZ := Lib.hid hz
  clear h hm hx k0 k1 k2 k3 hz
  go_enter Tryz.func8, Tryz.ntmps8
  go_wp2
  clear e0 e1 e2 e3
  generalize ((w.alloc (.cells #[.int .i64 6, .int .i64 n0, .string s0, .slice A m C] 24)).alloc (.cells #[.int .i64 0, .int .i64 0, .string ⟨#[]⟩, .slice none 0 0] 27)).alloc (.cells #[.int .i64 4, .int .i64 0, .string ⟨#[]⟩, .slice none 0 0] 27) = y at K HZ ⊢
  go_loopw [36] (fun iv wr => ∃ i : Nat, i ≤ m ∧ iv = .int .i64 i ∧ Hid (∃ A' L' C', wr.heap[w.heap.size + 1 + 1]? = some (.cells #[.int .i64 4, .int .i64 0, .string ⟨#[]⟩, .slice A' L' C'] 27) ∧ R4 27 wr (w.heap.size + 1 + 1 + 1) (.slice A' L' C') (plsG 0 (xs.take i)) ∧ wr.heap[w.heap.size + 1]? = some (.cells #[.int .i64 0, .int .i64 0, .string ⟨#[]⟩, .slice none 0 0] 27) ∧ Below w.heap.size w wr ∧ w.heap.size + 1 + 1 + 1 ≤ wr.heap.size)) (fun iv _ => m - (intOf iv).toNat)
  case atStart => exact ⟨0, Nat.zero_le _, rfl, Lib.hid ⟨none, 0, 0, K.out.2.1, R4.nil _ _ _, K.out.1, K.out.2.2, Nat.le_of_eq HZ.out.symm⟩⟩
  case round =>
    obtain ⟨i, hi, rfl, HQ⟩ := hrel
    obtain ⟨A', L', C', hp, hr, hz, hb, hs⟩ := HQ.out
    by_cases hlt : i < m
    · have q0 : (i : Int) < (m : Int) := by omega
      obtain ⟨x, hxi⟩ : ∃ x, xs[i]? = some x := ⟨_, List.getElem?_eq_getElem (by rw [HM.out]; exact hlt)⟩
      obtain ⟨g, rfl⟩ : ∃ g, A = some ⟨g, 0, none⟩ := HR.out.form.2.1 (by intro e; have := HM.out; rw [e] at this; simp at this; omega)
      obtain ⟨d0, d1, d2, d3⟩ := (HR.out.below hb).at_ i x hxi
      have PX := Lib.hid (fun X => hPlain_simple x (HX.out x (List.mem_of_getElem? hxi)) X)
      have HT : plsG 0 (xs.take (i + 1)) = plsG 0 (xs.take i) ++ (if x.1 = 5 then [] else [(2, (i : Int) + 1, ⟨#[]⟩), pv x]) := by
        rw [List.take_add_one, hxi, Option.toList_some, plsG_snoc, List.length_take, HM.out, Nat.zero_add, Nat.min_eq_left (by omega)]
      have HT := Lib.hid HT
      have hlen : (plsG 0 (xs.take i)).length ≤ 2000 := Nat.le_trans (plsG_len _ _) (by rw [List.length_take]; omega)
      obtain ⟨kd, nn, t⟩ := x
      simp only at d0 d1 d2 d3
      obtain ⟨⟨k2, n2, t2⟩, hv⟩ : ∃ y, pvN (kd, nn, t) = y := ⟨_, rfl⟩
      rw [hv] at PX
      obtain ⟨L, hL⟩ : ∃ L, plsG 0 (xs.take i) = L := ⟨_, rfl⟩
      rw [hL] at hr hlen
      simp only [hL] at HT
      have hll := hr.form.1
      have HP := Lib.hid hp
      have HRR := Lib.hid hr
      have HZZ := Lib.hid hz
      have HB := Lib.hid hb
      have HS := Lib.hid hs
      have HLL := Lib.hid (And.intro hll hlen)
      have AX := Lib.hid (alloc_old (w := wr) (o := .cells #[.int .i64 kd, .int .i64 nn, .string t, .slice none 0 0] 24))
      obtain ⟨⟨x0, x1, x2, x3⟩, _⟩ := cells4 (heap_alloc_new wr (.cells #[.int .i64 kd, .int .i64 nn, .string t, .slice none 0 0] 24))
      have i9 : i ≤ 1000 := by omega
      clear hp hr hz hb hs hL hll hlen hxi HQ hi
      go_wp2_with (first | (go_at_call 8; (with_reducible refine (PX.out _).mono ?_); rintro e X1 ⟨rfl, h1⟩; have D1 := Lib.hid (AX.out.trans (h1.mono (Below.size AX.out))); clear h1; refine Hid.out ?_))
      refine Lib.hid ?_
      clear x0 x1 x2 x3 d0 d1 d2 d3
      have DW := Lib.hid (D1.out.trans ((alloc_old (w := X1) (o := .cells #[.int .i64 k2, .int .i64 n2, .string t2, .slice none 0 0] 27)).mono (Below.size D1.out)))
      have pw := Lib.hid (blk_below HP.out DW.out)
      have zw := Lib.hid (blk_below HZZ.out DW.out)
      have rw_ := Lib.hid (HRR.out.below DW.out)
      have bw := Lib.hid (HB.out.trans (DW.out.mono (Below.size HB.out)))
      have sw := Lib.hid (Nat.le_trans HS.out (Below.size DW.out))
      obtain ⟨⟨a0, a1, a2, a3⟩, _⟩ := cells4 pw.out
      obtain ⟨⟨y0, y1, y2, y3⟩, _⟩ := cells4 (heap_alloc_new X1 (.cells #[.int .i64 k2, .int .i64 n2, .string t2, .slice none 0 0] 27))
      by_cases h5 : kd = 5
      · have e5 : pvN (kd, nn, t) = (0, 0, ⟨#[]⟩) := if_pos h5
        rw [hv] at e5
        cases e5
        have HT2 := HT.out
        rw [if_pos h5, List.append_nil] at HT2
        have HT2 := Lib.hid HT2
        clear h5 hv
        go_wp2_with fail
        exact ⟨⟨i + 1, hlt, by go_num, Lib.hid ⟨A', L', C', pw.out, by rw [HT2.out]; exact rw_.out, zw.out, bw.out, sw.out⟩⟩, by simp [intOf]; omega⟩
      · have e5 : pvN (kd, nn, t) = pv (kd, nn, t) := if_neg h5
        rw [hv] at e5
        have HT2 := HT.out
        rw [if_neg h5, ← e5] at HT2
        have HT2 := Lib.hid HT2
        have k0 : ¬ k2 = 0 := by
          intro e0
          unfold pv at e5
          by_cases h3 : kd = 3
          · rw [if_pos h3] at e5; cases e5; cases e0
          · rw [if_neg h3] at e5; cases e5; cases e0
        have w1 : wrap64 ((i : Int) + 1) = (i : Int) + 1 := by unfold wrap64; omega
        have w2 : IntKind.i64.wrap ((i : Int) + 1) = (i : Int) + 1 := by rw [IntKind.wrap_i64]; omega
        have AY := Lib.hid (alloc_old (w := X1.alloc (.cells #[.int .i64 k2, .int .i64 n2, .string t2, .slice none 0 0] 27)) (o := .cells #[.int .i64 2, .int .i64 ((i : Int) + 1), .string ⟨#[]⟩, .slice none 0 0, .int .i64 k2, .int .i64 n2, .string t2, .slice none 0 0] 27))
        have ny := Lib.hid (show ((X1.alloc (.cells #[.int .i64 k2, .int .i64 n2, .string t2, .slice none 0 0] 27)).alloc (.cells #[.int .i64 2, .int .i64 ((i : Int) + 1), .string ⟨#[]⟩, .slice none 0 0, .int .i64 k2, .int .i64 n2, .string t2, .slice none 0 0] 27)).heap[X1.heap.size + 1]? = some (.cells #[.int .i64 2, .int .i64 ((i : Int) + 1), .string ⟨#[]⟩, .slice none 0 0, .int .i64 k2, .int .i64 n2, .string t2, .slice none 0 0] 27) from blk2 X1 _ _)
        have RY := Lib.hid (rw_.out.below AY.out)
        have SY := Lib.hid (Nat.le_trans sw.out (Below.size AY.out))
        have PY := Lib.hid (blk_below pw.out AY.out)
        have ZY := Lib.hid (blk_below zw.out AY.out)
        have BY := Lib.hid (bw.out.trans (AY.out.mono (Below.size bw.out)))
        obtain ⟨rfl, _⟩ := HLL.out
        have l9 := HLL.out.2
        clear h5 hv e5
        go_wp2_with (first | (at_builtin; refine append_P4 _ rfl _ _ rfl (w.heap.size + 1 + 1 + 1) _ _ _ rfl rfl RY.out [(2, (i : Int) + 1, ⟨#[]⟩), (k2, n2, t2)] 2 rfl (by decide) _ rfl ny.out (by omega) SY.out ?_; intro g1 C1 Z1 h6 h7; have T1 := Lib.hid h6; have E1 := Lib.hid h7; have P1 := Lib.hid ((h7.block (w.heap.size + 1 + 1) (by omega)).trans PY.out); have Q1 := Lib.hid ((h7.block (w.heap.size + 1) (by omega)).trans ZY.out); have F1 := Lib.hid (BY.out.trans (h7.mono (by omega))); have G1 := Lib.hid (Nat.le_trans SY.out (Below.size h7)); clear h6 h7; obtain ⟨⟨b0, b1, b2, b3⟩, ⟨f0, f1, f2, f3⟩⟩ := cells4 P1.out))
        exact ⟨⟨i + 1, hlt, by go_num, Lib.hid ⟨_, _, C1, set_cells4h P1.out, by rw [HT2.out]; exact row_kept T1.out (fun g hg => Below.heap_setCell _ ⟨w.heap.size + 1 + 1, 3, none⟩ _ _ (by have := (row_own T1.out g hg).1; show g ≠ w.heap.size + 1 + 1; omega)), (Below.heap_setCell _ ⟨w.heap.size + 1 + 1, 3, none⟩ _ _ (by show w.heap.size + 1 ≠ w.heap.size + 1 + 1; omega)).trans Q1.out, F1.out.setCell (by show w.heap.size ≤ w.heap.size + 1 + 1; omega) _, by simpa using G1.out⟩⟩, by simp [intOf]; omega⟩
    · have q0 : ¬ (i : Int) < (m : Int) := by omega
      obtain rfl : i = m := by omega
      have hr2 := hr
      rw [List.take_of_length_le (by rw [HM.out]; exact Nat.le_refl _)] at hr2
      obtain ⟨⟨a0, a1, a2, a3⟩, _⟩ := cells4 hp
      obtain ⟨⟨c0, c1, c2, c3⟩, ⟨f0, f1, f2, f3⟩⟩ := cells4 hz
      have RR := Lib.hid hr2
      have BB := Lib.hid hb
      have SS := Lib.hid hs
      clear hr hr2 hp hz hb HQ hlt hi hs
      go_wp2
      have h1 := Nat.le_succ w.heap.size
      refine bodyPost_ret (v := .tuple #[.agg #[.int .i64 4, .int .i64 0, .string ⟨#[]⟩, .slice A' L' C'], .bool false]) (by simp [results, Tryz.results8, go_sem, c0, c1, c2, c3]) rfl ⟨A', L', C', rfl, ?_, ((((BB.out.setCell h1 _).setCell h1 _).setCell h1 _).setCell h1 _)⟩
      exact row_mono (row_kept RR.out (fun g hg => by have := (row_own RR.out g hg).1; rw [Below.heap_setCell _ ⟨w.heap.size + 1, 3, none⟩ _ g (by show g ≠ w.heap.size + 1; omega), Below.heap_setCell _ ⟨w.heap.size + 1, 2, none⟩ _ g (by show g ≠ w.heap.size + 1; omega), Below.heap_setCell _ ⟨w.heap.size + 1, 1, none⟩ _ g (by show g ≠ w.heap.size + 1; omega), Below.heap_setCell _ ⟨w.heap.size + 1, 0, none⟩ _ g (by show g ≠ w.heap.size + 1; omega)])) (by omega)
end Go.Proofs.YtjfejmdnjbekkaaGreatDoor

/- host.Reply of a table with keys from one on. -/
namespace Go.Proofs.YtjfejmdnjbekkaaGreatDoor
open Go.ChangeShapes Go.WideShapes Go.ChangeAt Go.RowKit

theorem jArr (A : Option Addr) (n c : Nat) (w : World) : Calls Tryz.prog 22 #[.slice A n c] w fun e w' => e = .returned (.agg #[.int .i64 6, .int .i64 0, .string ⟨#[]⟩, .slice A n c]) ∧ Below w.heap.size w w' := by
  go_enter Tryz.func22, Tryz.ntmps22
  go_wp2
  exact bodyPost_ret (v := .agg #[.int .i64 6, .int .i64 0, .string ⟨#[]⟩, .slice A n c]) (by simp [results, Tryz.results22, go_sem]) rfl ⟨rfl, (Below.refl _ _).alloc (Nat.le_refl _) _⟩
theorem hReply_simple (x : S4) (h : okR x) (X : World) : Calls Tryz.prog 12 #[.agg #[.int .i64 (pv x).1, .int .i64 (pv x).2.1, .string (pv x).2.2, .slice none 0 0]] X fun e w' => e = .returned (.agg #[.int .i64 x.1, .int .i64 x.2.1, .string x.2.2, .slice none 0 0]) ∧ Below X.heap.size X w' := by
  obtain ⟨k, n, s⟩ := x
  rcases h with ⟨h1, h2⟩ | ⟨h1, h2⟩
  · simp only at h1 h2
    subst h1 h2
    exact hReply_int n _ X
  · simp only at h1 h2
    subst h1 h2
    exact hReply_text 0 s X
set_option maxRecDepth 100000 in
set_option maxHeartbeats 8000000 in
theorem hReply_tab (n0 : Int) (s0 : ByteArray) (A : Option Addr) (m C c0 : Nat) (xs : List S4) (N : Nat) (hN : xs.length = N) (hN9 : N ≤ 1000) (hok : ∀ x ∈ xs, okR x) (w : World) (h : R4 27 w c0 (.slice A m C) (pls xs)) : Calls Tryz.prog 12 #[.agg #[.int .i64 4, .int .i64 n0, .string s0, .slice A m C]] w fun e w' => ∃ A' C', e = .returned (.agg #[.int .i64 6, .int .i64 0, .string ⟨#[]⟩, .slice A' N C']) ∧ R4 24 w' w.heap.size (.slice A' N C') xs ∧ Below w.heap.size w w' := by
  have hm : m = 2 * N := by rw [h.form.1]; unfold pls; rw [plsF_len, hN]
  have HR := Lib.hid h
  have HM := Lib.hid hm
  have HN := Lib.hid (And.intro hN hN9)
  have HX := Lib.hid hok
  obtain ⟨k0, k1, k2, k3⟩ := al3h w (.cells #[.int .i64 4, .int .i64 n0, .string s0, .slice A m C] 27) (.cells #[.int .i64 0, .int .i64 0, .string ⟨#[]⟩, .slice none 0 0] 24) (.map #[] 0)
  have mb0 : MapI.MB (((w.alloc (.cells #[.int .i64 4, .int .i64 n0, .string s0, .slice A m C] 27)).alloc (.cells #[.int .i64 0, .int .i64 0, .string ⟨#[]⟩, .slice none 0 0] 24)).alloc (.map #[] 0)) (w.heap.size + 1 + 1) (entR xs 0) := ⟨#[], 0, k2, rfl, Go.MapKept.stamped_empty 0⟩
  have K := Lib.hid (And.intro k0 (And.intro k1 k3))
  have MB0 := Lib.hid mb0
  have hz : (((w.alloc (.cells #[.int .i64 4, .int .i64 n0, .string s0, .slice A m C] 27)).alloc (.cells #[.int .i64 0, .int .i64 0, .string ⟨#[]⟩, .slice none 0 0] 24)).alloc (.map #[] 0)).heap.size = w.heap.size + 1 + 1 + 1 := by simp
  have HZ := Lib.hid hz
  have hmm := @run_makeMap Tryz.prog
  clear h hm hN hN9 hok k0 k1 k2 k3 hz mb0
  go_enter Tryz.func12, Tryz.ntmps12
  go_wp2
  clear hmm
  generalize ((w.alloc (.cells #[.int .i64 4, .int .i64 n0, .string s0, .slice A m C] 27)).alloc (.cells #[.int .i64 0, .int .i64 0, .string ⟨#[]⟩, .slice none 0 0] 24)).alloc (.map #[] 0) = y at K MB0 HZ ⊢
  go_loopw [4] (fun iv wr => ∃ j d : Nat, j ≤ N ∧ iv = .int .i64 d ∧ Hid (d = 2 * j ∧ MapI.MB wr (w.heap.size + 1 + 1) (entR xs j) ∧ wr.heap[w.heap.size]? = some (.cells #[.int .i64 4, .int .i64 n0, .string s0, .slice A m C] 27) ∧ wr.heap[w.heap.size + 1]? = some (.cells #[.int .i64 0, .int .i64 0, .string ⟨#[]⟩, .slice none 0 0] 24) ∧ Below w.heap.size w wr ∧ w.heap.size + 1 + 1 + 1 ≤ wr.heap.size)) (fun iv _ => m - (intOf iv).toNat)
  case atStart => exact ⟨0, 0, Nat.zero_le _, rfl, Lib.hid ⟨rfl, MB0.out, K.out.1, K.out.2.1, K.out.2.2, Nat.le_of_eq HZ.out.symm⟩⟩
  case round =>
    obtain ⟨j, d, hj, rfl, HQ⟩ := hrel
    obtain ⟨hd, hmb, hp, hz, hb, hs⟩ := HQ.out
    have n9 := HN.out.2
    have d9 : d ≤ 2000 := by omega
    obtain ⟨⟨a0, a1, a2, a3⟩, _⟩ := cells4 hp
    have WZ := Lib.hid (show wrap64 ((d : Int) + 1) = (d : Int) + 1 ∧ IntKind.i64.wrap ((d : Int) + 1) = (d : Int) + 1 ∧ ((d : Int) + 1).toNat = d + 1 from ⟨by unfold wrap64; omega, by rw [IntKind.wrap_i64]; omega, by omega⟩)
    by_cases hlt : j < N
    · have q0 : (d : Int) + 1 < (m : Int) := by have := HM.out; omega
      have q1 : (d : Int) < (m : Int) := by omega
      have q2 : d + 1 < m := by omega
      obtain ⟨x, hxi⟩ : ∃ x, xs[j]? = some x := ⟨_, List.getElem?_eq_getElem (by rw [HN.out.1]; exact hlt)⟩
      obtain ⟨g, rfl⟩ : ∃ g, A = some ⟨g, 0, none⟩ := HR.out.form.2.1 (by intro e; have h9 := HR.out.form.1; rw [e] at h9; simp at h9; omega)
      obtain ⟨p0, p1⟩ := pls_at xs j x hxi
      rw [← hd] at p0 p1
      obtain ⟨u0, u1, u2, u3⟩ := (HR.out.below hb).at_ d _ p0
      obtain ⟨⟨k2, n2, t2⟩, hv⟩ : ∃ y, pv x = y := ⟨_, rfl⟩
      rw [hv] at p1
      have V := Lib.hid (fun X (hX : Below w.heap.size w X) => (HR.out.below hX).at_ (d + 1) _ p1)
      simp only at u0 u1 u2 u3
      obtain ⟨q, hq⟩ : ∃ q : Int, (j : Int) + 1 = q := ⟨_, rfl⟩
      rw [hq] at u1
      have A1 := Lib.hid (alloc_old (w := wr) (o := .cells #[.int .i64 2, .int .i64 q, .string ⟨#[]⟩, .slice none 0 0] 27))
      have k1 := Lib.hid (heap_alloc_new wr (.cells #[.int .i64 2, .int .i64 q, .string ⟨#[]⟩, .slice none 0 0] 27))
      have M1 := Lib.hid (hmb.below A1.out)
      have LK := MapI.run_lookup (P := Tryz.prog) Tryz.underlying50 Tryz.underlying2 M1.out q true (.agg #[.int .i64 0, .int .i64 0, .string ⟨#[]⟩, .slice none 0 0]) (by kernel_rfl)
      have hf : MapI.find q (entR xs j) = none := by rw [← hq, entR_find, if_neg (Nat.lt_irrefl j)]
      rw [hf] at LK
      simp only [Option.getD_none, Option.isSome_none, if_true] at LK
      have A2 := Lib.hid (two_old wr (.cells #[.int .i64 2, .int .i64 q, .string ⟨#[]⟩, .slice none 0 0] 27) (.cells #[.int .i64 0, .int .i64 0, .string ⟨#[]⟩, .slice none 0 0] 27))
      have k2' := Lib.hid (blk_below k1.out (alloc_old (w := wr.alloc (.cells #[.int .i64 2, .int .i64 q, .string ⟨#[]⟩, .slice none 0 0] 27)) (o := .cells #[.int .i64 0, .int .i64 0, .string ⟨#[]⟩, .slice none 0 0] 27)))
      have M2 : Hid (MapI.MB ((wr.alloc (.cells #[.int .i64 2, .int .i64 q, .string ⟨#[]⟩, .slice none 0 0] 27)).alloc (.cells #[.int .i64 0, .int .i64 0, .string ⟨#[]⟩, .slice none 0 0] 27)).drew (w.heap.size + 1 + 1) (entR xs j)) := Lib.hid (MapI.MB.kept (M1.out.below alloc_old) rfl)
      have P2 := Lib.hid (blk_below hp A2.out)
      have Z2 := Lib.hid (blk_below hz A2.out)
      have B2 := Lib.hid (hb.trans (A2.out.mono (Below.size hb)))
      have S2 := Lib.hid (Nat.le_trans hs (Below.size A2.out))
      obtain ⟨v0, v1, v2, v3⟩ := V.out _ B2.out
      obtain ⟨⟨r0, r1, r2, r3⟩, _⟩ := cells4 P2.out
      obtain ⟨⟨s0', s1, s2, s3⟩, _⟩ := cells4 k2'.out
      obtain ⟨⟨e0, e1, e2, e3⟩, _⟩ := cells4 k1.out
      obtain ⟨y1, hrun, m1, g1, z1⟩ := MapI.run_update (P := Tryz.prog) Tryz.underlying50 Tryz.underlying2 M2.out q (.agg #[.int .i64 k2, .int .i64 n2, .string t2, .slice none 0 0])
      have HE : MapI.put q (.agg #[.int .i64 k2, .int .i64 n2, .string t2, .slice none 0 0]) (entR xs j) = entR xs (j + 1) := by
        show _ = MapI.put ((j : Int) + 1) (.agg (c4 (pv ((xs[j]?).getD (0, 0, ⟨#[]⟩)))).toArray) (entR xs j)
        rw [hxi, hq]
        show _ = MapI.put q (.agg (c4 (pv x)).toArray) (entR xs j)
        rw [hv]
        rfl
      rw [HE] at m1
      have M3 := Lib.hid m1
      have Bd := Lib.hid (B2.out.drew)
      have Sd : Hid (w.heap.size + 1 + 1 + 1 ≤ ((wr.alloc (.cells #[.int .i64 2, .int .i64 q, .string ⟨#[]⟩, .slice none 0 0] 27)).alloc (.cells #[.int .i64 0, .int .i64 0, .string ⟨#[]⟩, .slice none 0 0] 27)).drew.heap.size) := Lib.hid S2.out
      have B3 := Lib.hid (Bd.out.grown g1 (Below.size Bd.out) (fun k hk => by cases hk; omega))
      have KB := Lib.hid (show ∀ i, i ≠ w.heap.size + 1 + 1 → i < wr.heap.size → y1.heap[i]? = ((wr.alloc (.cells #[.int .i64 2, .int .i64 q, .string ⟨#[]⟩, .slice none 0 0] 27)).alloc (.cells #[.int .i64 0, .int .i64 0, .string ⟨#[]⟩, .slice none 0 0] 27)).drew.heap[i]? from fun i hi hl => grown_block g1 (show i < ((wr.alloc (.cells #[.int .i64 2, .int .i64 q, .string ⟨#[]⟩, .slice none 0 0] 27)).alloc (.cells #[.int .i64 0, .int .i64 0, .string ⟨#[]⟩, .slice none 0 0] 27)).heap.size from Nat.lt_of_lt_of_le hl (Below.size A2.out)) hi)
      have LT := Lib.hid hs
      have HD := Lib.hid hd
      have P3 := Lib.hid ((KB.out w.heap.size (by omega) (by omega)).trans (show ((wr.alloc (.cells #[.int .i64 2, .int .i64 q, .string ⟨#[]⟩, .slice none 0 0] 27)).alloc (.cells #[.int .i64 0, .int .i64 0, .string ⟨#[]⟩, .slice none 0 0] 27)).drew.heap[w.heap.size]? = _ from P2.out))
      have Z3 := Lib.hid ((KB.out (w.heap.size + 1) (by omega) (by omega)).trans (show ((wr.alloc (.cells #[.int .i64 2, .int .i64 q, .string ⟨#[]⟩, .slice none 0 0] 27)).alloc (.cells #[.int .i64 0, .int .i64 0, .string ⟨#[]⟩, .slice none 0 0] 27)).drew.heap[w.heap.size + 1]? = _ from Z2.out))
      have S3 := Lib.hid (show w.heap.size + 1 + 1 + 1 ≤ y1.heap.size from by rw [z1]; exact Sd.out)
      obtain ⟨w1, w2, w3⟩ := WZ.out
      clear m1 g1 z1 HE hxi hv hq hf hmb hp hz hb hs HQ hj p0 p1 hd
      go_wp2
      go_region
      go_wp2_with fail
      exact ⟨⟨j + 1, d + 2, hlt, by go_num, Lib.hid ⟨by have := HD.out; omega, M3.out, P3.out, Z3.out, B3.out, S3.out⟩⟩, by simp [intOf]; omega⟩
    · have q0 : ¬ (d : Int) + 1 < (m : Int) := by have := HM.out; omega
      obtain rfl : j = N := by omega
      have M0 := Lib.hid hmb
      have Z0 := Lib.hid hz
      have B0 := Lib.hid hb
      have S0 := Lib.hid hs
      obtain ⟨w1, _, _⟩ := WZ.out
      clear hmb hp hz hb hs HQ hd hlt hj
      go_wp2
      clear a0 a1 a2 a3 q0 w1
      go_loopw [8, 9] (fun ov nv wq => ∃ (t : Nat) (A' : Option Addr) (C' : Nat), t ≤ j ∧ ov = .slice A' t C' ∧ nv = .int .i64 ((t : Int) + 1) ∧ Hid (R4 24 wq (w.heap.size + 1 + 1 + 1) (.slice A' t C') (xs.take t) ∧ MapI.MB wq (w.heap.size + 1 + 1) (entR xs j) ∧ wq.heap[w.heap.size + 1]? = some (.cells #[.int .i64 0, .int .i64 0, .string ⟨#[]⟩, .slice none 0 0] 24) ∧ Below w.heap.size w wq ∧ w.heap.size + 1 + 1 + 1 ≤ wq.heap.size)) (fun _ nv _ => j + 2 - (intOf nv).toNat)
      case atStart => exact ⟨0, none, 0, Nat.zero_le _, rfl, rfl, Lib.hid ⟨R4.nil _ _ _, M0.out, Z0.out, B0.out, S0.out⟩⟩
      case round =>
        obtain ⟨t, A', C', ht, rfl, rfl, HQ⟩ := hrel
        obtain ⟨hr, hmb, hz, hb, hs⟩ := HQ.out
        have LK := MapI.run_lookup (P := Tryz.prog) Tryz.underlying50 Tryz.underlying2 hmb ((t : Int) + 1) true (.agg #[.int .i64 0, .int .i64 0, .string ⟨#[]⟩, .slice none 0 0]) (by kernel_rfl)
        have hf := entR_find xs j t
        have t9 : t ≤ 1000 := by omega
        have RR := Lib.hid hr
        have MM := Lib.hid hmb
        have ZZ := Lib.hid hz
        have BB := Lib.hid hb
        have SS := Lib.hid hs
        by_cases hlt : t < j
        · obtain ⟨x, hxi⟩ : ∃ x, xs[t]? = some x := ⟨_, List.getElem?_eq_getElem (by rw [HN.out.1]; exact hlt)⟩
          have RX := hReply_simple x (HX.out x (List.mem_of_getElem? hxi))
          rw [if_pos hlt, hxi] at hf
          have HT := Lib.hid (show xs.take (t + 1) = xs.take t ++ [x] by rw [List.take_add_one, hxi]; rfl)
          have HL := Lib.hid (show (xs.take t).length = t by rw [List.length_take, HN.out.1]; omega)
          obtain ⟨⟨k2, n2, t2⟩, hv⟩ : ∃ y, pv x = y := ⟨_, rfl⟩
          replace hf : MapI.find ((t : Int) + 1) (entR xs j) = some (.agg #[.int .i64 k2, .int .i64 n2, .string t2, .slice none 0 0]) := by
            rw [hf]
            show some (Value.agg (c4 (pv x)).toArray) = _
            rw [hv]
            rfl
          rw [hv] at RX
          obtain ⟨kd, nn, tt⟩ := x
          have RX := Lib.hid RX
          rw [hf] at LK
          simp only [Option.getD_some, Option.isSome_some, if_true] at LK
          obtain ⟨q, hq⟩ : ∃ q : Int, (t : Int) + 1 = q := ⟨_, rfl⟩
          rw [hq] at LK ⊢
          have HQ9 := Lib.hid hq
          have q9 : q ≤ 1001 ∧ 1 ≤ q := by omega
          have W1 : IntKind.i64.wrap (q + 1) = q + 1 := by rw [IntKind.wrap_i64]; omega
          have A1 := Lib.hid (alloc_old (w := wr) (o := .cells #[.int .i64 k2, .int .i64 n2, .string t2, .slice none 0 0] 27))
          obtain ⟨⟨x0, x1, x2, x3⟩, _⟩ := cells4 (heap_alloc_new wr (.cells #[.int .i64 k2, .int .i64 n2, .string t2, .slice none 0 0] 27))
          clear hf hxi hv hq hr hmb hz hb hs HQ ht
          go_wp2_with (first | (go_at_call 12; (with_reducible refine (RX.out _).mono ?_); rintro e X1 ⟨rfl, h1⟩; have D1 := Lib.hid ((A1.out.trans (h1.mono (Below.size A1.out))).trans ((alloc_old (w := X1) (o := .cells #[.int .i64 kd, .int .i64 nn, .string tt, .slice none 0 0] 24)).mono (by have := Below.size A1.out; have := Below.size h1; omega))); have b1 := Lib.hid (heap_alloc_new X1 (.cells #[.int .i64 kd, .int .i64 nn, .string tt, .slice none 0 0] 24)); have RY := Lib.hid (RR.out.below D1.out); have SY := Lib.hid (Nat.le_trans SS.out (Below.size D1.out)); have MY := Lib.hid (MM.out.below D1.out); have ZY := Lib.hid (blk_below ZZ.out D1.out); have BY := Lib.hid (BB.out.trans (D1.out.mono (Below.size BB.out))); clear h1) | (at_builtin; refine append_R4 _ rfl _ _ rfl (w.heap.size + 1 + 1 + 1) _ _ _ HL.out rfl RY.out (kd, nn, tt) _ rfl b1.out (by omega) SY.out ?_; intro g1 C1 Y1 h6 h7; have T1 := Lib.hid h6; have MZ := Lib.hid (MY.out.kept (h7.block _ (by omega))); have ZW := Lib.hid ((h7.block (w.heap.size + 1) (by omega)).trans ZY.out); have BZ := Lib.hid (BY.out.trans (h7.mono (by omega))); have SZ := Lib.hid (Nat.le_trans SY.out (Below.size h7)); clear h6 h7))
          exact ⟨⟨t + 1, _, C1, hlt, rfl, by (have h9 := HQ9.out; congr 1; first | omega | (rw [W1]; omega)), Lib.hid ⟨by rw [HT.out]; exact T1.out, MZ.out, ZW.out, BZ.out, SZ.out⟩⟩, by have h9 := HQ9.out; simp [intOf]; omega⟩
        · obtain rfl : t = j := by omega
          rw [if_neg hlt] at hf
          rw [hf] at LK
          simp only [Option.getD_none, Option.isSome_none, if_true] at LK
          obtain ⟨q, hq⟩ : ∃ q : Int, (t : Int) + 1 = q := ⟨_, rfl⟩
          rw [hq] at LK ⊢
          have hr2 := hr
          rw [List.take_of_length_le (by rw [HN.out.1]; exact Nat.le_refl _)] at hr2
          have RF := Lib.hid hr2
          have JA := Lib.hid (fun X => jArr A' t C' X)
          have A1 := Lib.hid (alloc_old (w := wr) (o := .cells #[.int .i64 0, .int .i64 0, .string ⟨#[]⟩, .slice none 0 0] 27))
          clear hf hq hr hr2 hmb hz hb hs HQ ht hlt
          go_wp2_with (first | (go_at_call 22; (with_reducible refine (JA.out _).mono ?_); rintro e X1 ⟨rfl, h1⟩; have D1 := Lib.hid (A1.out.trans (h1.mono (Below.size A1.out))); clear h1; obtain ⟨⟨c0, c1, c2, c3⟩, ⟨f0, f1, f2, f3⟩⟩ := cells4 (blk_below ZZ.out D1.out)))
          have RQ := Lib.hid (RF.out.below D1.out)
          have BQ := Lib.hid (BB.out.trans (D1.out.mono (Below.size BB.out)))
          have h1 := Nat.le_succ w.heap.size
          refine bodyPost_ret (v := .agg #[.int .i64 6, .int .i64 0, .string ⟨#[]⟩, .slice A' t C']) (by simp [results, Tryz.results12, go_sem, c0, c1, c2, c3]) rfl ⟨A', C', rfl, ?_, ((((BQ.out.setCell h1 _).setCell h1 _).setCell h1 _).setCell h1 _)⟩
          exact row_mono (row_kept RQ.out (fun g hg => by have := (row_own RQ.out g hg).1; rw [Below.heap_setCell _ ⟨w.heap.size + 1, 3, none⟩ _ g (by show g ≠ w.heap.size + 1; omega), Below.heap_setCell _ ⟨w.heap.size + 1, 2, none⟩ _ g (by show g ≠ w.heap.size + 1; omega), Below.heap_setCell _ ⟨w.heap.size + 1, 1, none⟩ _ g (by show g ≠ w.heap.size + 1; omega), Below.heap_setCell _ ⟨w.heap.size + 1, 0, none⟩ _ g (by show g ≠ w.heap.size + 1; omega)])) (by omega)
end Go.Proofs.YtjfejmdnjbekkaaGreatDoor

/- The reference's Plains of two values that are alike. -/
namespace Go.Proofs.YtjfejmdnjbekkaaGreatDoor
open Go.ChangeShapes Go.WideShapes Go.ChangeAt Go.RowKit

set_option maxRecDepth 100000 in
set_option maxHeartbeats 8000000 in
theorem Plains_simple (k n : Int) (t : ByteArray) (w : World) : Calls Tryz.prog 10 #[.agg #[.int .i64 k, .int .i64 n, .string t, .slice none 0 0], .agg #[.int .i64 k, .int .i64 n, .string t, .slice none 0 0]] w fun e w' => e = .returned (.bool true) ∧ Below w.heap.size w w' := by
  obtain ⟨⟨a0, a1, a2, a3⟩, _⟩ := cells4 (blk_below (heap_alloc_new w (.cells #[.int .i64 k, .int .i64 n, .string t, .slice none 0 0] 27)) (alloc_old (o := .cells #[.int .i64 k, .int .i64 n, .string t, .slice none 0 0] 27)))
  obtain ⟨⟨b0, b1, b2, b3⟩, _⟩ := cells4 (blk2 w (.cells #[.int .i64 k, .int .i64 n, .string t, .slice none 0 0] 27) (.cells #[.int .i64 k, .int .i64 n, .string t, .slice none 0 0] 27))
  have B := Lib.hid (two_old w (.cells #[.int .i64 k, .int .i64 n, .string t, .slice none 0 0] 27) (.cells #[.int .i64 k, .int .i64 n, .string t, .slice none 0 0] 27))
  go_enter Tryz.func10, Tryz.ntmps10
  go_wp2
  go_loopw [5] (fun iv wr => iv = .int .i64 0 ∧ Hid (wr = (w.alloc (.cells #[.int .i64 k, .int .i64 n, .string t, .slice none 0 0] 27)).alloc (.cells #[.int .i64 k, .int .i64 n, .string t, .slice none 0 0] 27))) (fun _ _ => 0)
  case atStart => exact ⟨rfl, Lib.hid rfl⟩
  case round =>
    obtain ⟨rfl, HQ⟩ := hrel
    obtain rfl := HQ.out
    go_wp2
    go_ret
    exact ⟨rfl, B.out⟩
set_option maxRecDepth 100000 in
set_option maxHeartbeats 8000000 in
theorem Plains_tab (A1 A2 : Option Addr) (m C1 C2 c1 c2 : Nat) (ys : List S4) (w : World) (h1 : R4 27 w c1 (.slice A1 m C1) ys) (h2 : R4 27 w c2 (.slice A2 m C2) ys) : Calls Tryz.prog 10 #[.agg #[.int .i64 4, .int .i64 0, .string ⟨#[]⟩, .slice A1 m C1], .agg #[.int .i64 4, .int .i64 0, .string ⟨#[]⟩, .slice A2 m C2]] w fun e w' => e = .returned (.bool true) ∧ Below w.heap.size w w' := by
  have hm := h1.form.1
  have k1 := blk_below (heap_alloc_new w (.cells #[.int .i64 4, .int .i64 0, .string ⟨#[]⟩, .slice A1 m C1] 27)) (alloc_old (o := .cells #[.int .i64 4, .int .i64 0, .string ⟨#[]⟩, .slice A2 m C2] 27))
  have k2 := blk2 w (.cells #[.int .i64 4, .int .i64 0, .string ⟨#[]⟩, .slice A1 m C1] 27) (.cells #[.int .i64 4, .int .i64 0, .string ⟨#[]⟩, .slice A2 m C2] 27)
  have hb := two_old w (.cells #[.int .i64 4, .int .i64 0, .string ⟨#[]⟩, .slice A1 m C1] 27) (.cells #[.int .i64 4, .int .i64 0, .string ⟨#[]⟩, .slice A2 m C2] 27)
  have hm9 : m ≤ maxLen := by
    unfold R4 World.ownsRow at h1
    obtain ⟨_, ⟨e, _⟩ | ⟨g, cap, cur, e, _, _, q3, q4, _⟩⟩ := h1
    · cases e
      exact Nat.zero_le _
    · cases e
      omega
  have hmx : (maxLen : Nat) ≤ 9223372036854775807 := by decide
  have H1 := Lib.hid h1
  have H2 := Lib.hid h2
  have HM := Lib.hid hm
  have hz : ((w.alloc (.cells #[.int .i64 4, .int .i64 0, .string ⟨#[]⟩, .slice A1 m C1] 27)).alloc (.cells #[.int .i64 4, .int .i64 0, .string ⟨#[]⟩, .slice A2 m C2] 27)).heap.size = w.heap.size + 1 + 1 := by simp
  have HM9 := Lib.hid (Nat.le_trans hm9 hmx)
  obtain ⟨⟨a0, a1, a2, a3⟩, _⟩ := cells4 k1
  obtain ⟨⟨b0, b1, b2, b3⟩, _⟩ := cells4 k2
  have K := Lib.hid (show (((w.alloc (.cells #[.int .i64 4, .int .i64 0, .string ⟨#[]⟩, .slice A1 m C1] 27)).alloc (.cells #[.int .i64 4, .int .i64 0, .string ⟨#[]⟩, .slice A2 m C2] 27)).heap[w.heap.size]? = some (.cells #[.int .i64 4, .int .i64 0, .string ⟨#[]⟩, .slice A1 m C1] 27) ∧ ((w.alloc (.cells #[.int .i64 4, .int .i64 0, .string ⟨#[]⟩, .slice A1 m C1] 27)).alloc (.cells #[.int .i64 4, .int .i64 0, .string ⟨#[]⟩, .slice A2 m C2] 27)).heap[w.heap.size + 1]? = some (.cells #[.int .i64 4, .int .i64 0, .string ⟨#[]⟩, .slice A2 m C2] 27) ∧ Below w.heap.size w ((w.alloc (.cells #[.int .i64 4, .int .i64 0, .string ⟨#[]⟩, .slice A1 m C1] 27)).alloc (.cells #[.int .i64 4, .int .i64 0, .string ⟨#[]⟩, .slice A2 m C2] 27))) from ⟨k1, k2, hb⟩)
  clear h1 h2 hm k1 k2 hb hm9 hmx hz
  go_enter Tryz.func10, Tryz.ntmps10
  go_wp2
  clear a0 a1 a2 a3 b0 b1 b2 b3
  generalize (w.alloc (.cells #[.int .i64 4, .int .i64 0, .string ⟨#[]⟩, .slice A1 m C1] 27)).alloc (.cells #[.int .i64 4, .int .i64 0, .string ⟨#[]⟩, .slice A2 m C2] 27) = y at K ⊢
  go_loopw [5] (fun iv wr => ∃ i : Nat, i ≤ m ∧ iv = .int .i64 i ∧ Hid (Below y.heap.size y wr)) (fun iv _ => m - (intOf iv).toNat)
  case atStart => exact ⟨0, Nat.zero_le _, rfl, Lib.hid (Below.refl _ _)⟩
  case round =>
    obtain ⟨i, hi, rfl, HQ⟩ := hrel
    obtain ⟨⟨a0, a1, a2, a3⟩, _⟩ := cells4 (blk_below K.out.1 HQ.out)
    by_cases hlt : i < m
    · have q0 : (i : Int) < (m : Int) := by omega
      obtain ⟨⟨k, n, t⟩, hy⟩ : ∃ x, ys[i]? = some x := ⟨_, List.getElem?_eq_getElem (by rw [← HM.out]; exact hlt)⟩
      have hne : ys ≠ [] := by intro e; rw [e] at hy; cases hy
      obtain ⟨g1, rfl⟩ := H1.out.form.2.1 hne
      obtain ⟨g2, rfl⟩ := H2.out.form.2.1 hne
      have SX := Lib.hid (show ∀ X, Below y.heap.size y X → (X.cell? ⟨w.heap.size, 3, none⟩ = some (.slice (some ⟨g1, 0, none⟩) m C1) ∧ X.cell? ⟨w.heap.size + 1, 3, none⟩ = some (.slice (some ⟨g2, 0, none⟩) m C2) ∧ X.cell? ⟨g1, i * 4, none⟩ = some (.int .i64 k) ∧ X.cell? ⟨g1, i * 4 + 1, none⟩ = some (.int .i64 n) ∧ X.cell? ⟨g1, i * 4 + 2, none⟩ = some (.string t) ∧ X.cell? ⟨g1, i * 4 + 3, none⟩ = some (.slice none 0 0) ∧ X.cell? ⟨g2, i * 4, none⟩ = some (.int .i64 k) ∧ X.cell? ⟨g2, i * 4 + 1, none⟩ = some (.int .i64 n) ∧ X.cell? ⟨g2, i * 4 + 2, none⟩ = some (.string t) ∧ X.cell? ⟨g2, i * 4 + 3, none⟩ = some (.slice none 0 0)) from fun X hX => by
        have hw := K.out.2.2.trans (hX.mono (Below.size K.out.2.2))
        obtain ⟨u0, u1, u2, u3⟩ := (H1.out.below hw).at_ i _ hy
        obtain ⟨v0, v1, v2, v3⟩ := (H2.out.below hw).at_ i _ hy
        exact ⟨(cells4 (blk_below K.out.1 hX)).1.2.2.2, (cells4 (blk_below K.out.2.1 hX)).1.2.2.2, u0, u1, u2, u3, v0, v1, v2, v3⟩)
      have S0 := SX.out wr.drew HQ.out.drew
      have Bd := Lib.hid (HQ.out.drew)
      have PL := Lib.hid (fun X => Plains_simple k n t X)
      have i9 : (i : Int) + 1 ≤ 9223372036854775807 := by have := HM9.out; omega
      clear hy hne hi
      go_wp2
      go_region_held3 (fun X => X.cell? ⟨w.heap.size, 3, none⟩ = some (.slice (some ⟨g1, 0, none⟩) m C1) ∧ X.cell? ⟨w.heap.size + 1, 3, none⟩ = some (.slice (some ⟨g2, 0, none⟩) m C2) ∧ X.cell? ⟨g1, i * 4, none⟩ = some (.int .i64 k) ∧ X.cell? ⟨g1, i * 4 + 1, none⟩ = some (.int .i64 n) ∧ X.cell? ⟨g1, i * 4 + 2, none⟩ = some (.string t) ∧ X.cell? ⟨g1, i * 4 + 3, none⟩ = some (.slice none 0 0) ∧ X.cell? ⟨g2, i * 4, none⟩ = some (.int .i64 k) ∧ X.cell? ⟨g2, i * 4 + 1, none⟩ = some (.int .i64 n) ∧ X.cell? ⟨g2, i * 4 + 2, none⟩ = some (.string t) ∧ X.cell? ⟨g2, i * 4 + 3, none⟩ = some (.slice none 0 0)) (first | (with_reducible exact S0) | (with_reducible exact S1.out)) (first | (go_at_call 10; (with_reducible refine (PL.out _).mono ?_); rintro ee x1 ⟨rfl, h1⟩; have B1 := Lib.hid (Bd.out.trans (h1.mono (Below.size Bd.out))); have S1 := Lib.hid (SX.out x1 B1.out); clear h1))
      all_goals (
        go_wp2
        exact ⟨⟨i + 1, hlt, by go_num, B1⟩, by simp [intOf]; omega⟩)
    · have q0 : ¬ (i : Int) < (m : Int) := by omega
      have BQ := Lib.hid (K.out.2.2.trans (HQ.out.mono (Below.size K.out.2.2)))
      clear hi HQ
      go_wp2
      go_ret
      exact ⟨rfl, BQ.out⟩
end Go.Proofs.YtjfejmdnjbekkaaGreatDoor
