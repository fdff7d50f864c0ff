/- Texts joined: P4, P6, P5, G15, DoH -/
import Derived.Test.YticlacjpgjkhcaaGreatDoorQn21
import Derived.Test.YticlacjpgjkhcaaGreatDoorQn13
import Derived.Test.YticlacjpgjkhcaaGreatDoorQn12
import Derived.Test.YticlacjpgjkhcaaGreatDoorQn14
set_option linter.unusedVariables false
set_option linter.unusedSimpArgs false

/- Points: one is inserted behind the others; one is set; slices of them are put. -/
namespace Go.Proofs.YticlacjpgjkhcaaGreatDoor
open Go.ChangeShapes Go.WideShapes Go.ChangeAt Go.RowKit Go.Fl

/-- One point is appended to a row of points. -/
theorem append_RP {ops : Array Oper} {rest : List Oper} {o : Oper} {a : Act} {Q : Exit → Act → World → Prop} (w : World) (hg : o.guard = none) (s x : Operand) (hop : o.op = Op.call { callee := Callee.builtin Builtin.append, args := #[s, x], argTypes := #[62, 62] })
    (c : Nat) (v : Value) (F : List (ByteArray × Int × Int)) (N : Nat) (hN : F.length = N) (hs : a.eval s = v) (h : RP w c v F) (p : ByteArray × Int × Int) (b : Nat) (hx : a.eval x = .slice (some ⟨b, 0, none⟩) 1 1) (hb : w.heap[b]? = some (.cells #[.string p.1, .complex .f64 (fi p.2.1) (fi p.2.2)] 110)) (hl : N ≤ 100000) (hc : c ≤ w.heap.size)
    (k : ∀ g cap w', RP w' c (.slice (some ⟨g, 0, none⟩) (N + 1) cap) (F ++ [p]) → Below c w w' → w.grownBy w' v.ownBlock → wpList Tryz.prog ops Q rest (a.put o.dst (.slice (some ⟨g, 0, none⟩) (N + 1) cap)) w') : wpList Tryz.prog ops Q (o :: rest) a w := by
  subst hN
  obtain ⟨i0, hi, hz0, hz1, hz2⟩ := info_parts iP
  refine wpList_append_lies w hg s x 62 hop c 110 i0 _ 2 32 Tryz.underlying62 hi hz0 hz1 hz2 rfl (by decide) v F.length _ hs h ⟨b, 0, none⟩ 1 1 (cP p) hx rfl (news_blk (show w.heap[b]? = some (.cells (cP p).toArray 110) from hb)) (fun u hu => by simp [cP] at hu; rcases hu with rfl | rfl <;> rfl) (by decide) (by unfold maxLen; omega) (by omega) hc _ rfl ?_
  intro g cap w' h1 h2 _ _
  refine k g cap w' ?_ ((Below.refl _ _).grown h2 hc (fun k hk => (row_own h k hk).1)) h2
  unfold RP
  rw [List.length_append, List.flatMap_append, show [p].length = 1 from rfl, show [p].flatMap cP = cP p by simp]
  exact h1
set_option maxRecDepth 100000 in
set_option maxHeartbeats 4000000 in
/-- slices.Insert behind all. -/
theorem insertP_end (A : Option Addr) (n C c b : Nat) (F : List (ByteArray × Int × Int)) (hn : F.length = n) (p : ByteArray × Int × Int) (hm : n ≤ 100000) (w : World) (hc : c ≤ w.heap.size) (h : RP w c (.slice A n C) F) (hb : w.heap[b]? = some (.cells #[.string p.1, .complex .f64 (fi p.2.1) (fi p.2.2)] 110)) : Calls Tryz.prog 102 #[.slice A n C, .int .i64 n, .slice (some ⟨b, 0, none⟩) 1 1] w fun e w' => ∃ g cap, e = .returned (.slice (some ⟨g, 0, none⟩) (n + 1) cap) ∧ RP w' c (.slice (some ⟨g, 0, none⟩) (n + 1) cap) (F ++ [p]) ∧ Below c w w' ∧ w.grownBy w' (Value.slice A n C).ownBlock := by
  have HR := Lib.hid h
  have HN := Lib.hid hn
  have HB := Lib.hid hb
  have HC := Lib.hid hc
  have hC : n ≤ C := by
    obtain ⟨A', C', e, _, hC⟩ := row_form h
    cases e
    exact hC
  have q0 : ¬ (n : Int) < 0 := by omega
  clear h hn hb hc
  by_cases hCn : C = n
  · go_enter Tryz.func102, Tryz.ntmps102
    go_wp2_with (first | (at_builtin; refine append_RP _ rfl _ _ rfl c (.slice A n C) F n HN.out rfl HR.out p b rfl HB.out hm HC.out ?_; intro g6 C6 w6 h6 h7 h8; have R6 := Lib.hid h6; have B6 := Lib.hid h7; have K6 := Lib.hid h8; clear h6 h7 h8))
    go_ret
    exact ⟨g6, C6, rfl, R6.out, B6.out, (by first | exact K6.out | (have h := K6.out; rw [hCn] at h; exact h))⟩
  · go_enter Tryz.func102, Tryz.ntmps102
    go_wp2_with (first | (at_builtin; refine append_RP _ rfl _ _ rfl c (.slice A n C) F n HN.out rfl HR.out p b rfl HB.out hm HC.out ?_; intro g6 C6 w6 h6 h7 h8; have R6 := Lib.hid h6; have B6 := Lib.hid h7; have K6 := Lib.hid h8; clear h6 h7 h8))
    go_ret
    exact ⟨g6, C6, rfl, R6.out, B6.out, (by first | exact K6.out | (have h := K6.out; rw [hCn] at h; exact h))⟩
theorem row_setP {w : World} {c : Nat} {e : TypeId} {m g C n : Nat} {xs : List Value} (h : w.ownsRow c e m (.slice (some ⟨g, 0, none⟩) n C) n xs) (j : Nat) (v : Value) : (w.setCell ⟨g, j, none⟩ v).ownsRow c e m (.slice (some ⟨g, 0, none⟩) n C) n (xs.set j v) := by
  unfold World.ownsRow at h ⊢
  obtain ⟨h1, ⟨h2, _⟩ | ⟨g', cap, cur, h2, h3, h4, h5, h6, h7, h8⟩⟩ := h
  · cases h2
  · cases h2
    refine ⟨by rw [List.length_set]; exact h1, .inr ⟨g, C, cur.setIfInBounds j v, rfl, h3, set_cells2 h4, h5, h6, by simpa using h7, ?_⟩⟩
    rw [Array.toList_setIfInBounds, List.take_set, h8]
theorem cP_set (x y : Int) : ∀ (l : List (ByteArray × Int × Int)) (i : Nat) (p : ByteArray × Int × Int), l[i]? = some p → (l.flatMap cP).set (i * 2 + 1) (.complex .f64 (fi x) (fi y)) = (l.set i (p.1, x, y)).flatMap cP
  | [], _, _, h => by simp at h
  | q :: r, 0, p, h => by
    simp at h
    subst h
    rfl
  | q :: r, i + 1, p, h => by
    have ih := cP_set x y r i p (by simpa using h)
    rw [List.flatMap_cons, List.set_cons_succ, List.flatMap_cons, ← ih, show (i + 1) * 2 + 1 = i * 2 + 1 + 1 + 1 by omega]
    rfl
/-- A point of a row is set. -/
theorem RP.setAt {w : World} {c g C n : Nat} {l : List (ByteArray × Int × Int)} (h : RP w c (.slice (some ⟨g, 0, none⟩) n C) l) (hn : l.length = n) (i : Nat) (p : ByteArray × Int × Int) (hi : l[i]? = some p) (x y : Int) : RP (w.setCell ⟨g, i * 2 + 1, none⟩ (.complex .f64 (fi x) (fi y))) c (.slice (some ⟨g, 0, none⟩) n C) (l.set i (p.1, x, y)) := by
  subst hn
  have := row_setP h (i * 2 + 1) (.complex .f64 (fi x) (fi y))
  rw [cP_set x y l i p hi] at this
  unfold RP
  rw [List.length_set]
  exact this
/-- A row of points is nobody's block below c. -/
theorem RP.own {w : World} {c g C n : Nat} {l : List (ByteArray × Int × Int)} (h : RP w c (.slice (some ⟨g, 0, none⟩) n C) l) : c ≤ g := (row_own h g rfl).1
end Go.Proofs.YticlacjpgjkhcaaGreatDoor

/- plane.Sum, plane.Near over points at whole numbers. -/
namespace Go.Proofs.YticlacjpgjkhcaaGreatDoor
open Go.ChangeShapes Go.WideShapes Go.ChangeAt Go.RowKit Go.Fl

def sX (F : List (ByteArray × Int × Int)) : Int := (F.map (fun p => p.2.1)).sum
def sY (F : List (ByteArray × Int × Int)) : Int := (F.map (fun p => p.2.2)).sum
set_option maxRecDepth 100000 in
set_option maxHeartbeats 4000000 in
theorem psum_any (A : Option Addr) (n C c : Nat) (F : List (ByteArray × Int × Int)) (hn : F.length = n) (hm : n ≤ 1000) (ho2 : ∀ p ∈ F, okP2 p) (hs : ∀ i, i ≤ n → okI (sX (F.take i)) = true ∧ okI (sY (F.take i)) = true) (w : World) (h : RP w c (.slice A n C) F) : Calls Tryz.prog 107 #[.slice A n C] w fun e w' => e = .returned (.tuple #[.complex .f64 (fi (sX F)) (fi (sY F)), .bool true]) ∧ Below w.heap.size w w' := by
  have HR := Lib.hid h
  have HN := Lib.hid hn
  have HO := Lib.hid ho2
  have HS := Lib.hid hs
  have HA := Lib.hid (show 0 < n → ∃ g, A = some ⟨g, 0, none⟩ ∧ n ≤ C from fun h0 => by
    obtain ⟨g, C', e, h1⟩ := h.form (by intro e; rw [e] at hn; simp at hn; omega)
    cases e
    exact ⟨g, rfl, by omega⟩)
  clear h hn ho2 hs
  have hst := fun (w : World) (a : Addr) (x y : Nat) => run_store Tryz.prog w a (.complex .f64 x y) .plain rfl
  go_enter Tryz.func107, Tryz.ntmps107
  go_wp2
  go_loopw [4, 11] (fun c i wr => ∃ k : Nat, k ≤ n ∧ i = .int .i64 k ∧ c = .complex .f64 (fi (sX (F.take k))) (fi (sY (F.take k))) ∧ Hid (Below w.heap.size w wr)) (fun _ i _ => n - (intOf i).toNat)
  case atStart => exact ⟨0, Nat.zero_le _, rfl, by rw [List.take_zero]; show Value.complex .f64 0 0 = Value.complex .f64 (fi 0) (fi 0); rw [fi_zero], Lib.hid (Below.refl _ _)⟩
  case round =>
    obtain ⟨k, hk, rfl, rfl, HB⟩ := hrel
    by_cases hlt : k < n
    · obtain ⟨g, rfl, hC⟩ := HA.out (by omega)
      obtain ⟨p, hp⟩ : ∃ p, F[k]? = some p := ⟨_, List.getElem?_eq_getElem (by rw [HN.out]; exact hlt)⟩
      obtain ⟨d0, d1⟩ := (HR.out.below HB.out).at HN.out k p hp
      have e2 : F.take (k + 1) = F.take k ++ [p] := by rw [List.take_add_one, hp]; rfl
      obtain ⟨o1, o2⟩ := HS.out k (by omega)
      obtain ⟨o3, o4⟩ := HS.out (k + 1) (by omega)
      obtain ⟨o5, o6⟩ := HO.out p (List.mem_of_getElem? hp)
      have ex : sX (F.take (k + 1)) = sX (F.take k) + p.2.1 := by rw [e2]; unfold sX; simp
      have ey : sY (F.take (k + 1)) = sY (F.take k) + p.2.2 := by rw [e2]; unfold sY; simp
      have ad := fun w => Add_any (sX (F.take k)) (sY (F.take k)) p.2.1 p.2.2 o1 o2 o5 o6 w
      rw [← ex, ← ey] at ad
      unfold ptI at ad
      rw [o3, o4] at ad
      have AD := Lib.hid ad
      obtain ⟨e0, e1⟩ := cells_of (heap_alloc_new wr (.cells #[.string p.1, .complex .f64 (fi p.2.1) (fi p.2.2)] 110))
      have AP := Lib.hid (alloc_old (w := wr) (o := .cells #[.string p.1, .complex .f64 (fi p.2.1) (fi p.2.2)] 110))
      have i1 : (k : Int) < (n : Int) := by omega
      clear ad hp o1 o2 o3 o4 o5 o6 ex ey e2
      go_wp2_with (first | (go_at_call 47; (with_reducible refine (AD.out _).mono ?_); rintro e w2 ⟨rfl, rfl⟩))
      exact ⟨⟨k + 1, by omega, by go_num, rfl, Lib.hid (HB.out.trans (AP.out.mono (Below.size HB.out)))⟩, by simp [intOf]; omega⟩
    · obtain rfl : k = n := by omega
      have i1 : ¬ (k : Int) < (k : Int) := by omega
      rw [List.take_of_length_le (by rw [HN.out]; exact Nat.le_refl _)]
      go_wp2
      go_ret2
      exact ⟨rfl, HB.out⟩
theorem abs_mul_le2 (x u : Int) (hx : x.natAbs ≤ 4194304) (hu : u.natAbs ≤ 4194304) : (x * u).natAbs ≤ 4194304 * 4194304 := by
  rw [Int.natAbs_mul]
  exact Nat.mul_le_mul hx hu
theorem square_any2 (x y : Int) (hx : x.natAbs ≤ 4194304) (hy : y.natAbs ≤ 4194304) (w : World) : Calls Tryz.prog 163 #[.complex .f64 (fi x) (fi y)] w fun e w' => e = .returned (.int .i64 (x * x + y * y)) ∧ w = w' := by
  have h1 := fun w => run_convert_float_int (P := Tryz.prog) w 125 2 .f64 .i64 (fi x) x (by kernel_rfl) Tryz.underlying2 (toIntI x (by omega))
  have h2 := fun w => run_convert_float_int (P := Tryz.prog) w 125 2 .f64 .i64 (fi y) y (by kernel_rfl) Tryz.underlying2 (toIntI y (by omega))
  have a1 := abs_mul_le2 x x hx hx
  have a2 := abs_mul_le2 y y hy hy
  have b1 : x * x ≤ 17592186044416 := by omega
  have b2 : y * y ≤ 17592186044416 := by omega
  have b3 : -17592186044416 ≤ x * x := by omega
  have b4 : -17592186044416 ≤ y * y := by omega
  clear hx hy a1 a2
  go_enter Tryz.func163, Tryz.ntmps163
  go_wp2
  go_ret
  exact ⟨rfl, rfl⟩
theorem subI0 (a b : Int) (ha : a.natAbs < 2 ^ 53) (hb : b.natAbs < 2 ^ 53) (hab : (a - b).natAbs < 2 ^ 53) : floatBits .sub .f64 (fi a) (fi b) = some (fi (a - b)) := by
  show Ieee.double.sub (fi a) (fi b) = _
  have := sub_fz (s := decide (a < 0)) (t := decide (b < 0)) ha hb (by rw [sg_fi, sg_fi]; exact hab)
  rw [fi_fz, fi_fz, this, sg_fi, sg_fi]
  congr 1
  unfold fi
  congr 1
  by_cases h : a - b = 0
  · have : a = b := by omega
    subst this
    simp
  · rw [if_neg h]
theorem subC0 (x y u v : Int) (hx : x.natAbs ≤ 1048576) (hy : y.natAbs ≤ 1048576) (hu : u.natAbs ≤ 1048576) (hv : v.natAbs ≤ 1048576) : cSumBits .sub .f64 (fi x) (fi y) (fi u) (fi v) = some (fi (x - u), fi (y - v)) := by
  unfold cSumBits
  rw [subI0 x u (by omega) (by omega) (by omega), subI0 y v (by omega) (by omega) (by omega)]
  rfl
/-- The square of a distance. -/
def dst (a b : Int) (p : ByteArray × Int × Int) : Int := (p.2.1 - a) * (p.2.1 - a) + (p.2.2 - b) * (p.2.2 - b)
/-- The place of the nearest of the first points, and how far it is. -/
def nrP (a b : Int) (F : List (ByteArray × Int × Int)) : Nat → Int × Int
  | 0 => (-1, 0)
  | m + 1 => match F[m]? with
    | none => nrP a b F m
    | some p => if (nrP a b F m).1 < 0 ∨ dst a b p < (nrP a b F m).2 then ((m : Int), dst a b p) else nrP a b F m
theorem nrP_bd (a b : Int) (F : List (ByteArray × Int × Int)) (hd : ∀ p ∈ F, 0 ≤ dst a b p ∧ dst a b p ≤ 2199023255552) : ∀ m, (-1 ≤ (nrP a b F m).1 ∧ (nrP a b F m).1 < (m : Int) + 1) ∧ 0 ≤ (nrP a b F m).2 ∧ (nrP a b F m).2 ≤ 2199023255552
  | 0 => by simp [nrP]
  | m + 1 => by
    have ih := nrP_bd a b F hd m
    unfold nrP
    cases hF : F[m]? with
    | none => simp only; omega
    | some p =>
      have := hd p (List.mem_of_getElem? hF)
      simp only
      split
      · simp only; omega
      · omega
set_option maxRecDepth 100000 in
set_option maxHeartbeats 8000000 in
theorem pnear_any (A : Option Addr) (n C c : Nat) (F : List (ByteArray × Int × Int)) (hn : F.length = n) (hm : n ≤ 1000) (ho2 : ∀ p ∈ F, okP2 p) (a b : Int) (ha : okI a = true) (hb : okI b = true) (w : World) (h : RP w c (.slice A n C) F) : Calls Tryz.prog 109 #[.complex .f64 (fi a) (fi b), .slice A n C] w fun e w' => e = .returned (.tuple #[.int .i64 (nrP a b F n).1, .bool (decide (0 ≤ (nrP a b F n).1))]) ∧ Below w.heap.size w w' := by
  have HR := Lib.hid h
  have HN := Lib.hid hn
  have HO := Lib.hid ho2
  have HA := Lib.hid (show 0 < n → ∃ g, A = some ⟨g, 0, none⟩ ∧ n ≤ C from fun h0 => by
    obtain ⟨g, C', e, h1⟩ := h.form (by intro e; rw [e] at hn; simp at hn; omega)
    cases e
    exact ⟨g, rfl, by omega⟩)
  have haa := okI_abs ha
  have hbb := okI_abs hb
  have MA := may_fi a b (by omega) (by omega)
  rw [ha, hb] at MA
  have MA := Lib.hid MA
  have hst := fun (w : World) (a : Addr) (x y : Nat) => run_store Tryz.prog w a (.complex .f64 x y) .plain rfl
  clear h hn ho2 ha hb
  go_enter Tryz.func109, Tryz.ntmps109
  go_wp2
  go_loopw [6, 7, 13] (fun av bv iv wr => ∃ k : Nat, k ≤ n ∧ iv = .int .i64 k ∧ av = .int .i64 (nrP a b F k).1 ∧ bv = .int .i64 (nrP a b F k).2 ∧ Hid (Below w.heap.size w wr)) (fun _ _ i _ => n - (intOf i).toNat)
  case atStart => exact ⟨0, Nat.zero_le _, rfl, rfl, rfl, Lib.hid (Below.refl _ _)⟩
  case round =>
    obtain ⟨k, hk, rfl, rfl, rfl, HB⟩ := hrel
    by_cases hlt : k < n
    · obtain ⟨g, rfl, hC⟩ := HA.out (by omega)
      obtain ⟨p, hp⟩ : ∃ p, F[k]? = some p := ⟨_, List.getElem?_eq_getElem (by rw [HN.out]; exact hlt)⟩
      obtain ⟨d0, d1⟩ := (HR.out.below HB.out).at HN.out k p hp
      obtain ⟨o5, o6⟩ := HO.out p (List.mem_of_getElem? hp)
      have o5' := okI_abs o5
      have o6' := okI_abs o6
      have v1 : (p.2.1 - a).natAbs ≤ 4194304 := by omega
      have v2 : (p.2.2 - b).natAbs ≤ 4194304 := by omega
      have MP := may_fi p.2.1 p.2.2 (by omega) (by omega)
      rw [o5, o6] at MP
      have MP := Lib.hid MP
      have sb := fun w => run_complex_sum (P := Tryz.prog) w .sub (.inr rfl) 107 .f64 _ _ _ _ _ _ (subC0 p.2.1 p.2.2 a b o5' o6' haa hbb)
      have SQ := Lib.hid (fun X => square_any2 (p.2.1 - a) (p.2.2 - b) v1 v2 X)
      obtain ⟨e0, e1⟩ := cells_of (heap_alloc_new wr (.cells #[.string p.1, .complex .f64 (fi p.2.1) (fi p.2.2)] 110))
      have AP := Lib.hid (alloc_old (w := wr) (o := .cells #[.string p.1, .complex .f64 (fi p.2.1) (fi p.2.2)] 110))
      have i1 : (k : Int) < (n : Int) := by omega
      have HQ : nrP a b F (k + 1) = if (nrP a b F k).1 < 0 ∨ dst a b p < (nrP a b F k).2 then ((k : Int), dst a b p) else nrP a b F k := by
        show (match F[k]? with | none => nrP a b F k | some p => if (nrP a b F k).1 < 0 ∨ dst a b p < (nrP a b F k).2 then ((k : Int), dst a b p) else nrP a b F k) = _
        rw [hp]
      obtain ⟨d, hd9⟩ : ∃ d, dst a b p = d := ⟨_, rfl⟩
      obtain ⟨⟨x, y⟩, hxy⟩ : ∃ q, nrP a b F k = q := ⟨_, rfl⟩
      rw [hd9, hxy] at HQ
      have hd8 : (p.2.1 - a) * (p.2.1 - a) + (p.2.2 - b) * (p.2.2 - b) = d := hd9
      rw [hd8] at SQ
      simp only [hxy]
      have HK := Lib.hid (HB.out.trans (AP.out.mono (Below.size HB.out)))
      clear hp hd9 hd8 o5 o6 o5' o6' v1 v2 AP hxy
      by_cases hx0 : x < 0
      · have HQ := Lib.hid HQ
        go_wp2_with (first | (go_at_call 162; (with_reducible refine (MP.out _).mono ?_); rintro e w2 ⟨rfl, rfl⟩) | (go_at_call 162; (with_reducible refine (MA.out _).mono ?_); rintro e w3 ⟨rfl, rfl⟩) | (go_at_call 163; (with_reducible refine (SQ.out _).mono ?_); rintro e w4 ⟨rfl, rfl⟩))
        exact ⟨⟨k + 1, by omega, by go_num, by rw [HQ.out, if_pos (.inl hx0)], by rw [HQ.out, if_pos (.inl hx0)], HK⟩, by simp [intOf]; omega⟩
      · by_cases hdy : d < y
        · have HQ := Lib.hid HQ
          go_wp2_with (first | (go_at_call 162; (with_reducible refine (MP.out _).mono ?_); rintro e w2 ⟨rfl, rfl⟩) | (go_at_call 162; (with_reducible refine (MA.out _).mono ?_); rintro e w3 ⟨rfl, rfl⟩) | (go_at_call 163; (with_reducible refine (SQ.out _).mono ?_); rintro e w4 ⟨rfl, rfl⟩))
          exact ⟨⟨k + 1, by omega, by go_num, by rw [HQ.out, if_pos (.inr hdy)], by rw [HQ.out, if_pos (.inr hdy)], HK⟩, by simp [intOf]; omega⟩
        · have HQ := Lib.hid HQ
          go_wp2_with (first | (go_at_call 162; (with_reducible refine (MP.out _).mono ?_); rintro e w2 ⟨rfl, rfl⟩) | (go_at_call 162; (with_reducible refine (MA.out _).mono ?_); rintro e w3 ⟨rfl, rfl⟩) | (go_at_call 163; (with_reducible refine (SQ.out _).mono ?_); rintro e w4 ⟨rfl, rfl⟩))
          exact ⟨⟨k + 1, by omega, by go_num, by rw [HQ.out, if_neg (by omega)], by rw [HQ.out, if_neg (by omega)], HK⟩, by simp [intOf]; omega⟩
    · obtain rfl : k = n := by omega
      have i1 : ¬ (k : Int) < (k : Int) := by omega
      obtain ⟨⟨x, y⟩, hxy⟩ : ∃ q, nrP a b F k = q := ⟨_, rfl⟩
      simp only [hxy]
      have HXY := Lib.hid hxy
      clear hxy
      by_cases hx0 : 0 ≤ x
      · go_wp2
        go_ret2
        exact ⟨by rw [HXY.out]; simp [hx0], HB.out⟩
      · go_wp2
        go_ret2
        exact ⟨by rw [HXY.out]; simp [hx0], HB.out⟩
end Go.Proofs.YticlacjpgjkhcaaGreatDoor

/- points.put: points that were turned are put. -/
namespace Go.Proofs.YticlacjpgjkhcaaGreatDoor
open Go.ChangeShapes Go.WideShapes Go.ChangeAt Go.RowKit Go.Fl

set_option maxRecDepth 100000 in
set_option maxHeartbeats 8000000 in
theorem pput_any (bS bM j : Nat) (D : List (ByteArray × List (ByteArray × Int × Int))) (k : ByteArray) (now : Int) (vA : Value) (c : Nat) (A A0 : Option Addr) (n C n0 C0 : Nat) (F : List (ByteArray × Int × Int)) (hn : F.length = n) (hne : F ≠ []) (hok : okP k F) (ho2 : ∀ p ∈ F, okP2 p) (w : World) (hS : SPG KP okP w bS bM D) (hj : JB w j bS now vA (.slice none 0 0)) (hc : c ≤ w.heap.size) (hR : RP w c (.slice A n C) F) : Calls Tryz.prog 103 #[.pointer (some ⟨j, 0, none⟩), .agg #[.string k, .int .i64 5, .string ⟨#[]⟩, .slice none 0 0, .slice none 0 0, .slice none 0 0, .slice A0 n0 C0, .int .i64 0], .slice A n C] w fun e w' => e = .returned (.tuple #[]) ∧ (∃ vl', JD KP w' j bS now vA c vl' (dEff k (some F) D)) ∧ Kp w.heap.size (fun i => i ≠ j) w w' := by
  subst hn
  have B6 := alloc_old (w := w) (o := .cells #[.string k, .int .i64 5, .string ⟨#[]⟩, .slice none 0 0, .slice none 0 0, .slice none 0 0, .slice A F.length C, .int .i64 0] 66)
  have TT : Calls Tryz.prog 161 #[.pointer (some ⟨j, 0, none⟩), .agg #[.string k, .int .i64 5, .string ⟨#[]⟩, .slice none 0 0, .slice none 0 0, .slice none 0 0, .slice A F.length C, .int .i64 0]] (w.alloc (.cells #[.string k, .int .i64 5, .string ⟨#[]⟩, .slice none 0 0, .slice none 0 0, .slice none 0 0, .slice A F.length C, .int .i64 0] 66)) (fun e w' => e = .returned (.tuple #[]) ∧ (∃ vl', JD KP w' j bS now vA c vl' ([] ++ dEff k (some F) D)) ∧ Kp (w.alloc (.cells #[.string k, .int .i64 5, .string ⟨#[]⟩, .slice none 0 0, .slice none 0 0, .slice none 0 0, .slice A F.length C, .int .i64 0] 66)).heap.size (fun i => i ≠ j ∧ (Value.slice none 0 0).ownBlock ≠ some i) (w.alloc (.cells #[.string k, .int .i64 5, .string ⟨#[]⟩, .slice none 0 0, .slice none 0 0, .slice none 0 0, .slice A F.length C, .int .i64 0] 66)) w') :=
    TurnD_some KP okP KPok KPsame bS bM j D [] k F now vA (.slice none 0 0) c none none none A 0 0 0 0 0 0 F.length C hok _ (SPG.below KP okP hS B6) (JD.nil KP c (hj.below B6)) (Nat.le_trans hc (Below.size B6)) (by simp) ⟨(hR.below B6).mono (Nat.zero_le _), hne, ho2, rfl, rfl, rfl⟩ (fun g hg => by
      rcases hg with hg | hg | hg | hg
      · cases hg
      · cases hg
      · cases hg
      · exact (row_own hR g hg).1)
  have TT := Lib.hid TT
  have HB6 := Lib.hid B6
  clear hS hj hR B6 hok ho2 hne
  go_enter Tryz.func103, Tryz.ntmps103
  go_wp2_with (first | (go_at_call 161; (with_reducible refine (TT.out).mono ?_); rintro e w7 ⟨rfl, h7, hK7⟩; have H7 := Lib.hid h7; have K7 := Lib.hid hK7; clear h7 hK7))
  go_end0
  exact ⟨rfl, H7.out, (Kp.of HB6.out).trans (K7.out.mono (Below.size HB6.out) (fun q hq => ⟨hq, by simp [Value.ownBlock]⟩))⟩
end Go.Proofs.YticlacjpgjkhcaaGreatDoor

/- A law's do where the command is refused. -/
namespace Go.Proofs.YticlacjpgjkhcaaGreatDoor
open Go.ChangeShapes Go.WideShapes Go.ChangeAt Go.RowKit

set_option maxRecDepth 100000 in
set_option maxHeartbeats 8000000 in
theorem do_failG (bS : Nat) (vA : Value) (n : Int) (w : World) (hD : ∀ X, Below w.heap.size w X → Calls Tryz.prog 31 #[.pointer (some ⟨bS, 0, none⟩), .int .i64 1, vA] X fun e w' => e = .returned (.tuple #[.agg #[.int .i64 2, .int .i64 n, .string ⟨#[]⟩, .slice none 0 0], .slice none 0 0, .bool true]) ∧ Below X.heap.size X w') : Calls Tryz.prog 23 #[.pointer (some ⟨bS, 0, none⟩), vA] w fun e w' => e = .returned (.agg #[.int .i64 2, .int .i64 n, .string ⟨#[]⟩, .slice none 0 0]) ∧ Below w.heap.size w w' := by
  have A1 := Lib.hid (alloc_old (w := w) (o := .cells #[.int .i64 0, .int .i64 0, .string ⟨#[]⟩, .slice none 0 0] 29))
  have hr := Lib.hid (heap_alloc_new w (.cells #[.int .i64 0, .int .i64 0, .string ⟨#[]⟩, .slice none 0 0] 29))
  have D := Lib.hid (hD _ A1.out)
  clear hD
  go_enter Tryz.func23, Tryz.ntmps23
  go_wp2_with (first | (go_at_call 31; (with_reducible refine (D.out).mono ?_); rintro e w5 ⟨rfl, hb5⟩; have B5 := Lib.hid (A1.out.trans (hb5.mono (Below.size A1.out))); have R5 := Lib.hid (blk_below hr.out hb5); clear hb5; refine Hid.out ?_))
  refine Lib.hid ?_
  have B6 := Lib.hid (show Below w.heap.size w (w5.alloc (.cells #[.int .i64 2, .int .i64 n, .string ⟨#[]⟩, .slice none 0 0] 29)) from B5.out.trans (alloc_old.mono (Below.size B5.out)))
  have o6 := Lib.hid (heap_alloc_new w5 (.cells #[.int .i64 2, .int .i64 n, .string ⟨#[]⟩, .slice none 0 0] 29))
  have R6 := Lib.hid (blk_below R5.out (alloc_old (o := .cells #[.int .i64 2, .int .i64 n, .string ⟨#[]⟩, .slice none 0 0] 29)))
  go_wp2_with fail
  generalize (w5.alloc (.cells #[.int .i64 2, .int .i64 n, .string ⟨#[]⟩, .slice none 0 0] 29)) = w6 at B6 o6 R6 ⊢
  refine wp_loop_once ?_
  obtain ⟨⟨d0, d1, d2, d3⟩, _⟩ := cells4 o6.out
  obtain ⟨⟨c0, c1, c2, c3⟩, ⟨f0, f1, f2, f3⟩⟩ := cells4 R6.out
  go_wp2
  exact bodyPost_ret (v := .agg #[.int .i64 2, .int .i64 n, .string ⟨#[]⟩, .slice none 0 0]) (by simp [results, Tryz.results23, go_sem, c0, c1, c2, c3]) rfl ⟨rfl, ((((B6.out.setCell (Nat.le_refl _) _).setCell (Nat.le_refl _) _).setCell (Nat.le_refl _) _).setCell (Nat.le_refl _) _)⟩
end Go.Proofs.YticlacjpgjkhcaaGreatDoor

/- hashes.Do: the commands' functions by name; a law's do over data. -/
namespace Go.MapT
open Go.MapKept Go.RowKit
theorem at_insertL {P : Program} {t key elem : TypeId} {ops : Array Oper} {rest : List Oper} {o : Oper} {a : Act} {Q : Exit → Act → World → Prop} (w : World) (hg : o.guard = none) (hd : o.dst = none) (m v : Operand) (k : ByteArray) (hop : o.op = Op.insert t m (.const (.string k)) v) (ht : P.underlying t = some (.map key elem)) (hk : P.underlying key = some .string)
    (b : Nat) (l : Ents) (hm : a.eval m = .map (some b)) (h : MB w b l) (u : Value) (hv : a.eval v = u)
    (hK : ∀ w', MB w' b (put k u l) → w.grownBy w' (some b) → wpList P ops Q rest a w') : wpList P ops Q (o :: rest) a w := by
  refine wpList_plain hg fun K' hK' => ?_
  obtain ⟨w', hrun, r1, r2, r3⟩ := run_update ht hk h k u
  unfold Oper.wp
  have hx : a.eval (.const (.string k)) = .string k := rfl
  simp [execOp, hop, hm, hx, hv, hrun, Result.andThen]
  refine hK' _ _ ?_
  rw [hd]
  exact hK w' r1 r2
theorem at_insertF {P : Program} {t key elem : TypeId} {ops : Array Oper} {rest : List Oper} {o : Oper} {a : Act} {Q : Exit → Act → World → Prop} (w : World) (hg : o.guard = none) (hd : o.dst = none) (m : Operand) (k : ByteArray) (f : FuncId) (hop : o.op = Op.insert t m (.const (.string k)) (.func f)) (ht : P.underlying t = some (.map key elem)) (hk : P.underlying key = some .string)
    (b : Nat) (l : Ents) (hm : a.eval m = .map (some b)) (h : MB w b l)
    (hK : ∀ w', MB w' b (put k (.func (.func f) #[] #[]) l) → w.grownBy w' (some b) → wpList P ops Q rest a w') : wpList P ops Q (o :: rest) a w :=
  at_insertL w hg hd m _ k hop ht hk b l hm h (.func (.func f) #[] #[]) rfl hK
end Go.MapT
namespace Go.Proofs.YticlacjpgjkhcaaGreatDoor
open Go.ChangeShapes Go.WideShapes Go.ChangeAt Go.RowKit

/-- What stands while the map of commands is made. -/
structure DoSt (w X : World) (bm : Nat) (l : MapT.Ents) : Prop where
  mb : MapT.MB X bm l
  below : Below w.heap.size w X
  hb : w.heap.size < bm
  reply : X.heap[w.heap.size]? = some (.cells #[.int .i64 0, .int .i64 0, .string ⟨#[]⟩, .slice none 0 0] 29)
theorem DoSt.ins {w X Y : World} {bm : Nat} {l l' : MapT.Ents} (h : DoSt w X bm l) (h1 : MapT.MB Y bm l') (h2 : X.grownBy Y (some bm)) : DoSt w Y bm l' :=
  ⟨h1, h.below.grown h2 (Below.size h.below) (fun k hk => by cases hk; exact Nat.le_of_lt h.hb), h.hb, (grown_block h2 (lt_blk h.reply) (by have := h.hb; omega)).trans h.reply⟩
/-- A command's function at a world, over data: its reply, its effects. -/
def CmdD {α : Type} (K : Kd α) (ok : ByteArray → α → Prop) (F : FuncId) (bS bM : Nat) (D : List (ByteArray × α)) (now : Int) (xs : List ByteArray) (k n : Int) (s : ByteArray) (R : Nat → World → Value → Prop) (des : List (ByteArray × Option α)) (X : World) : Prop :=
  ∀ (j : Nat) (vA : Value), SPG K ok X bS bM D → JB X j bS now vA (.slice none 0 0) → SSl X vA xs →
    Calls Tryz.prog F #[.pointer (some ⟨j, 0, none⟩)] X fun e w' => ∃ A m c, e = .returned (.agg #[.int .i64 k, .int .i64 n, .string s, .slice A m c]) ∧ R X.heap.size w' (.slice A m c) ∧
      (∃ vl, JD K w' j bS now vA X.heap.size vl des) ∧ Kp X.heap.size (fun i => i ≠ j) X w'
/-- The commands' functions. -/
abbrev flH : MapT.Ents := MapT.put ⟨#[72, 73, 78, 67, 82, 66, 89]⟩ (.func (.func 89) #[] #[]) (MapT.put ⟨#[72, 71, 69, 84, 65, 76, 76]⟩ (.func (.func 88) #[] #[]) (MapT.put ⟨#[72, 86, 65, 76, 83]⟩ (.func (.func 87) #[] #[]) (MapT.put ⟨#[72, 75, 69, 89, 83]⟩ (.func (.func 85) #[] #[]) (MapT.put ⟨#[72, 83, 84, 82, 76, 69, 78]⟩ (.func (.func 84) #[] #[]) (MapT.put ⟨#[72, 76, 69, 78]⟩ (.func (.func 83) #[] #[]) (MapT.put ⟨#[72, 69, 88, 73, 83, 84, 83]⟩ (.func (.func 82) #[] #[]) (MapT.put ⟨#[72, 68, 69, 76]⟩ (.func (.func 81) #[] #[]) (MapT.put ⟨#[72, 77, 71, 69, 84]⟩ (.func (.func 80) #[] #[]) (MapT.put ⟨#[72, 71, 69, 84]⟩ (.func (.func 79) #[] #[]) (MapT.put ⟨#[72, 83, 69, 84, 78, 88]⟩ (.func (.func 78) #[] #[]) (MapT.put ⟨#[72, 83, 69, 84]⟩ (.func (.func 77) #[] #[]) ([]))))))))))))
theorem sel_HSET : MapT.find ⟨#[72, 83, 69, 84]⟩ flH = some (.func (.func 77) #[] #[]) := by kernel_rfl
theorem ent_HSET (args : Array Value) (w : World) : (callFunc 77 args).run Tryz.prog w = .ok (.enter 77 args) w := by kernel_rfl
theorem sel_HSETNX : MapT.find ⟨#[72, 83, 69, 84, 78, 88]⟩ flH = some (.func (.func 78) #[] #[]) := by kernel_rfl
theorem ent_HSETNX (args : Array Value) (w : World) : (callFunc 78 args).run Tryz.prog w = .ok (.enter 78 args) w := by kernel_rfl
theorem sel_HGET : MapT.find ⟨#[72, 71, 69, 84]⟩ flH = some (.func (.func 79) #[] #[]) := by kernel_rfl
theorem ent_HGET (args : Array Value) (w : World) : (callFunc 79 args).run Tryz.prog w = .ok (.enter 79 args) w := by kernel_rfl
theorem sel_HMGET : MapT.find ⟨#[72, 77, 71, 69, 84]⟩ flH = some (.func (.func 80) #[] #[]) := by kernel_rfl
theorem ent_HMGET (args : Array Value) (w : World) : (callFunc 80 args).run Tryz.prog w = .ok (.enter 80 args) w := by kernel_rfl
theorem sel_HDEL : MapT.find ⟨#[72, 68, 69, 76]⟩ flH = some (.func (.func 81) #[] #[]) := by kernel_rfl
theorem ent_HDEL (args : Array Value) (w : World) : (callFunc 81 args).run Tryz.prog w = .ok (.enter 81 args) w := by kernel_rfl
theorem sel_HEXISTS : MapT.find ⟨#[72, 69, 88, 73, 83, 84, 83]⟩ flH = some (.func (.func 82) #[] #[]) := by kernel_rfl
theorem ent_HEXISTS (args : Array Value) (w : World) : (callFunc 82 args).run Tryz.prog w = .ok (.enter 82 args) w := by kernel_rfl
theorem sel_HLEN : MapT.find ⟨#[72, 76, 69, 78]⟩ flH = some (.func (.func 83) #[] #[]) := by kernel_rfl
theorem ent_HLEN (args : Array Value) (w : World) : (callFunc 83 args).run Tryz.prog w = .ok (.enter 83 args) w := by kernel_rfl
theorem sel_HSTRLEN : MapT.find ⟨#[72, 83, 84, 82, 76, 69, 78]⟩ flH = some (.func (.func 84) #[] #[]) := by kernel_rfl
theorem ent_HSTRLEN (args : Array Value) (w : World) : (callFunc 84 args).run Tryz.prog w = .ok (.enter 84 args) w := by kernel_rfl
theorem sel_HKEYS : MapT.find ⟨#[72, 75, 69, 89, 83]⟩ flH = some (.func (.func 85) #[] #[]) := by kernel_rfl
theorem ent_HKEYS (args : Array Value) (w : World) : (callFunc 85 args).run Tryz.prog w = .ok (.enter 85 args) w := by kernel_rfl
theorem sel_HVALS : MapT.find ⟨#[72, 86, 65, 76, 83]⟩ flH = some (.func (.func 87) #[] #[]) := by kernel_rfl
theorem ent_HVALS (args : Array Value) (w : World) : (callFunc 87 args).run Tryz.prog w = .ok (.enter 87 args) w := by kernel_rfl
theorem sel_HGETALL : MapT.find ⟨#[72, 71, 69, 84, 65, 76, 76]⟩ flH = some (.func (.func 88) #[] #[]) := by kernel_rfl
theorem ent_HGETALL (args : Array Value) (w : World) : (callFunc 88 args).run Tryz.prog w = .ok (.enter 88 args) w := by kernel_rfl
theorem sel_HINCRBY : MapT.find ⟨#[72, 73, 78, 67, 82, 66, 89]⟩ flH = some (.func (.func 89) #[] #[]) := by kernel_rfl
theorem ent_HINCRBY (args : Array Value) (w : World) : (callFunc 89 args).run Tryz.prog w = .ok (.enter 89 args) w := by kernel_rfl
set_option maxRecDepth 100000 in
set_option maxHeartbeats 8000000 in
theorem Do_okH (RAW NAME : ByteArray) (F : FuncId) (bS bM : Nat) (l : MapT.Ents) (now : Int) (xs : List ByteArray) (vA : Value) (k n : Int) (s : ByteArray) (R E : Nat → World → Value → Prop) (hR : RKeep R) (hE : RKeep E) (w : World) (hS : SP w bS bM l) (hA : SSl w vA xs) (hx : xs[0]? = some RAW) (hfit : ∀ X, SSl X vA xs → Calls Tryz.prog 95 #[vA] X fun e w' => e = .returned (.int .i64 0) ∧ Below X.heap.size X w') (hup : ∀ X, Calls Tryz.prog 96 #[.string RAW] X fun e w' => e = .returned (.string NAME) ∧ Below X.heap.size X w')
    (hsel : MapT.find NAME flH = some (.func (.func F) #[] #[])) (hent : ∀ (args : Array Value) (w : World), (callFunc F args).run Tryz.prog w = .ok (.enter F args) w) (hF : ∀ W, Below w.heap.size w W → CmdOkG W F #[] bS bM l now xs k n s R E) :
    Calls Tryz.prog 31 #[.pointer (some ⟨bS, 0, none⟩), .int .i64 now, vA] w fun e w' => ∃ A m c A' n' c', e = .returned (.tuple #[.agg #[.int .i64 k, .int .i64 n, .string s, .slice A m c], .slice A' n' c', .bool true]) ∧ R w.heap.size w' (.slice A m c) ∧ E w.heap.size w' (.slice A' n' c') ∧ Below w.heap.size w w' := by
  have hmm := @run_makeMap Tryz.prog
  have hmf : ∀ (fn : Fn) (first cap : Array Value) (w : World), (Instr.makeFunc fn first cap).run Tryz.prog w = .ok (.func fn first cap) w := fun _ _ _ _ => rfl
  have Q9 := Lib.hid (show DoSt w ((w.alloc (.cells #[.int .i64 0, .int .i64 0, .string ⟨#[]⟩, .slice none 0 0] 29)).alloc (.map #[] 0)) (w.heap.size + 1) [] from ⟨by
    have := MapT.MB.made (w.alloc (.cells #[.int .i64 0, .int .i64 0, .string ⟨#[]⟩, .slice none 0 0] 29))
    rw [World.size_alloc] at this
    exact this, alloc_old.trans (alloc_old.mono (by simp)), by omega, blk_below (heap_alloc_new w _) alloc_old⟩)
  have RR := Lib.hid (fun X (hX : DoSt w X (w.heap.size + 1) flH) => (show Calls Tryz.prog 36 #[.pointer (some ⟨bS, 0, none⟩), .int .i64 now, vA, .map (some (w.heap.size + 1))] X (fun e w' => ∃ A m c A' n' c', e = .returned (.tuple #[.agg #[.int .i64 k, .int .i64 n, .string s, .slice A m c], .slice A' n' c', .bool true]) ∧ R X.heap.size w' (.slice A m c) ∧ E X.heap.size w' (.slice A' n' c') ∧ Below X.heap.size X w') from
    Run_okG X RAW NAME F #[] bS bM (w.heap.size + 1) l _ now xs vA k n s R E (hF X hX.below) hR hE X (Below.refl _ _) (hS.below hX.below) (hA.below hX.below) hX.mb hsel hx hent hfit hup))
  obtain ⟨aA, acap, hvA, _⟩ := id hA
  clear hfit hup hA hS hx hsel hent hF
  subst hvA
  go_enter Tryz.func31, Tryz.ntmps31
  go_wp2_with (first | (refine MapT.at_insertF _ rfl rfl _ _ _ rfl Tryz.underlying81 Tryz.underlying9 (w.heap.size + 1) _ rfl Q9.out.mb ?_; intro w9 hM9 hg9; have Q9 := Lib.hid (Q9.out.ins hM9 hg9); clear hM9 hg9) | (go_at_call 36; (with_reducible refine (RR.out _ Q9.out).mono ?_); rintro e w5 ⟨A, m, c, A', n', c', rfl, hRR, hE5, hb5⟩; have B5 := Lib.hid hb5; obtain ⟨⟨a0, a1, a2, a3⟩, ⟨f0, f1, f2, f3⟩⟩ := cells4 (blk_below Q9.out.reply hb5); clear hb5))
  have BW := Lib.hid (Q9.out.below.trans (B5.out.mono (Below.size Q9.out.below)))
  have hle : w.heap.size + 1 ≤ w9.heap.size := Nat.le_of_lt (Q9.out.mb).lt
  have hfar : ∀ i, w.heap.size + 1 ≤ i → i < w5.heap.size → (((((w5.setCell ⟨w.heap.size, 0, none⟩ (.int .i64 k)).setCell ⟨w.heap.size, 1, none⟩ (.int .i64 n)).setCell ⟨w.heap.size, 2, none⟩ (.string s)).setCell ⟨w.heap.size, 3, none⟩ (.slice A m c))).heap[i]? = w5.heap[i]? := fun i hi _ => far4 (X := w5) (b := w.heap.size) _ _ _ _ (by omega)
  have hsz : w5.heap.size ≤ (((((w5.setCell ⟨w.heap.size, 0, none⟩ (.int .i64 k)).setCell ⟨w.heap.size, 1, none⟩ (.int .i64 n)).setCell ⟨w.heap.size, 2, none⟩ (.string s)).setCell ⟨w.heap.size, 3, none⟩ (.slice A m c))).heap.size := by simp [World.setCell]
  have hR6 := hR.kept _ _ _ _ (hR.mono _ (w.heap.size + 1) _ _ hRR hle) hsz hfar
  have hE6 := hE.kept _ _ _ _ (hE.mono _ (w.heap.size + 1) _ _ hE5 hle) hsz hfar
  exact bodyPost_ret (v := .tuple #[.agg #[.int .i64 k, .int .i64 n, .string s, .slice A m c], .slice A' n' c', .bool true]) (by simp [results, Tryz.results31, go_sem, a0, a1, a2, a3]) rfl ⟨A, m, c, A', n', c', rfl, hR.mono _ _ _ _ hR6 (by omega), hE.mono _ _ _ _ hE6 (by omega), (((BW.out.setCell (p := ⟨w.heap.size, 0, none⟩) (Nat.le_refl _) _).setCell (p := ⟨w.heap.size, 1, none⟩) (Nat.le_refl _) _).setCell (p := ⟨w.heap.size, 2, none⟩) (Nat.le_refl _) _).setCell (p := ⟨w.heap.size, 3, none⟩) (Nat.le_refl _) _⟩
set_option maxRecDepth 100000 in
set_option maxHeartbeats 8000000 in
theorem Do_failH (RAW NAME : ByteArray) (F : FuncId) (bS bM : Nat) (l : MapT.Ents) (now : Int) (xs : List ByteArray) (vA : Value) (n : Int) (w : World) (hS : SP w bS bM l) (hA : SSl w vA xs) (hx : xs[0]? = some RAW) (hfit : ∀ X, SSl X vA xs → Calls Tryz.prog 95 #[vA] X fun e w' => e = .returned (.int .i64 0) ∧ Below X.heap.size X w') (hup : ∀ X, Calls Tryz.prog 96 #[.string RAW] X fun e w' => e = .returned (.string NAME) ∧ Below X.heap.size X w')
    (hsel : MapT.find NAME flH = some (.func (.func F) #[] #[])) (hent : ∀ (args : Array Value) (w : World), (callFunc F args).run Tryz.prog w = .ok (.enter F args) w) (hF : CmdFail w F bS bM l now xs n) :
    Calls Tryz.prog 31 #[.pointer (some ⟨bS, 0, none⟩), .int .i64 now, vA] w fun e w' => e = .returned (.tuple #[.agg #[.int .i64 2, .int .i64 n, .string ⟨#[]⟩, .slice none 0 0], .slice none 0 0, .bool true]) ∧ Below w.heap.size w w' := by
  have hmm := @run_makeMap Tryz.prog
  have hmf : ∀ (fn : Fn) (first cap : Array Value) (w : World), (Instr.makeFunc fn first cap).run Tryz.prog w = .ok (.func fn first cap) w := fun _ _ _ _ => rfl
  have Q9 := Lib.hid (show DoSt w ((w.alloc (.cells #[.int .i64 0, .int .i64 0, .string ⟨#[]⟩, .slice none 0 0] 29)).alloc (.map #[] 0)) (w.heap.size + 1) [] from ⟨by
    have := MapT.MB.made (w.alloc (.cells #[.int .i64 0, .int .i64 0, .string ⟨#[]⟩, .slice none 0 0] 29))
    rw [World.size_alloc] at this
    exact this, alloc_old.trans (alloc_old.mono (by simp)), by omega, blk_below (heap_alloc_new w _) alloc_old⟩)
  have RR := Lib.hid (fun X (hX : DoSt w X (w.heap.size + 1) flH) => (show Calls Tryz.prog 36 #[.pointer (some ⟨bS, 0, none⟩), .int .i64 now, vA, .map (some (w.heap.size + 1))] X (fun e w' => e = .returned (.tuple #[.agg #[.int .i64 2, .int .i64 n, .string ⟨#[]⟩, .slice none 0 0], .slice none 0 0, .bool true]) ∧ Below X.heap.size X w') from
    Run_fail w RAW NAME F bS bM (w.heap.size + 1) l _ now xs vA n hF X hX.below (hS.below hX.below) (hA.below hX.below) hX.mb hsel hx hent hfit hup))
  obtain ⟨aA, acap, hvA, _⟩ := id hA
  clear hfit hup hA hS hx hsel hent hF
  subst hvA
  go_enter Tryz.func31, Tryz.ntmps31
  go_wp2_with (first | (refine MapT.at_insertF _ rfl rfl _ _ _ rfl Tryz.underlying81 Tryz.underlying9 (w.heap.size + 1) _ rfl Q9.out.mb ?_; intro w9 hM9 hg9; have Q9 := Lib.hid (Q9.out.ins hM9 hg9); clear hM9 hg9) | (go_at_call 36; (with_reducible refine (RR.out _ Q9.out).mono ?_); rintro e w5 ⟨rfl, hb5⟩; have B5 := Lib.hid hb5; obtain ⟨⟨a0, a1, a2, a3⟩, ⟨f0, f1, f2, f3⟩⟩ := cells4 (blk_below Q9.out.reply hb5); clear hb5))
  have BW := Lib.hid (Q9.out.below.trans (B5.out.mono (Below.size Q9.out.below)))
  exact bodyPost_ret (v := .tuple #[.agg #[.int .i64 2, .int .i64 n, .string ⟨#[]⟩, .slice none 0 0], .slice none 0 0, .bool true]) (by simp [results, Tryz.results31, go_sem, a0, a1, a2, a3]) rfl ⟨rfl, (((BW.out.setCell (p := ⟨w.heap.size, 0, none⟩) (Nat.le_refl _) _).setCell (p := ⟨w.heap.size, 1, none⟩) (Nat.le_refl _) _).setCell (p := ⟨w.heap.size, 2, none⟩) (Nat.le_refl _) _).setCell (p := ⟨w.heap.size, 3, none⟩) (Nat.le_refl _) _⟩
/-- A law's do. -/
theorem do_DH {α : Type} (K : Kd α) (ok : ByteArray → α → Prop) (hO : KdOk K ok) (RAW NAME : ByteArray) (F : FuncId) (bS bM : Nat) (D : List (ByteArray × α)) (xs : List ByteArray) (vA : Value) (k n : Int) (s : ByteArray) (R : Nat → World → Value → Prop) (hR : RKeep R) (des : List (ByteArray × Option α)) (hm : MayD ok des D) (w : World) (hS : SPG K ok w bS bM D) (hA : SSl w vA xs) (hx : xs[0]? = some RAW) (hfit : ∀ X, SSl X vA xs → Calls Tryz.prog 95 #[vA] X fun e w' => e = .returned (.int .i64 0) ∧ Below X.heap.size X w') (hup : ∀ X, Calls Tryz.prog 96 #[.string RAW] X fun e w' => e = .returned (.string NAME) ∧ Below X.heap.size X w')
    (hsel : MapT.find NAME flH = some (.func (.func F) #[] #[])) (hent : ∀ (args : Array Value) (w : World), (callFunc F args).run Tryz.prog w = .ok (.enter F args) w) (hF : ∀ X, Below w.heap.size w X → CmdD K ok F bS bM D 1 xs k n s R des X) :
    Calls Tryz.prog 23 #[.pointer (some ⟨bS, 0, none⟩), vA] w fun e w' => ∃ A m c, e = .returned (.agg #[.int .i64 k, .int .i64 n, .string s, .slice A m c]) ∧ R w.heap.size w' (.slice A m c) ∧ SPG K ok w' bS bM (applyD des D) ∧ Kp w.heap.size (fun i => i ≠ bS ∧ i ≠ bM) w w' := by
  refine do_okG K ok hO bS bM D vA k n s R hR des hm w hS (fun X hX => ?_)
  obtain ⟨⟨l, hSP, hAE⟩, hall⟩ := SPG.below K ok hS hX
  refine Do_okH RAW NAME F bS bM l 1 xs vA k n s R (EL K des) hR (EL.keep K des) X hSP (hA.below hX) hx hfit hup hsel hent (fun W hW Y j vB hY _ hJ hss => ?_)
  refine (hF Y ((hX.trans (hW.mono (Below.size hX))).trans (hY.mono (Nat.le_trans (Below.size hX) (Below.size hW)))) j vB (SPG.below K ok hS ((hX.trans (hW.mono (Below.size hX))).trans (hY.mono (Nat.le_trans (Below.size hX) (Below.size hW))))) hJ hss).mono ?_
  rintro e w' ⟨A, m, c, rfl, hRR, ⟨vl, ⟨A', n', c', rfl⟩, hJ', css, hE', hA'⟩, hK⟩
  exact ⟨A, m, c, rfl, hRR, ⟨A', n', c', hJ', css, hE', hA'⟩, hK⟩
end Go.Proofs.YticlacjpgjkhcaaGreatDoor
