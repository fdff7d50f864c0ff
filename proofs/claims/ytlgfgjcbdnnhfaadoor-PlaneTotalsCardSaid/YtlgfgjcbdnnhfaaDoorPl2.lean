import Derived.Test.YtlgfgjcbdnnhfaaDoorPl1
namespace Go.Proofs.YtlgfgjcbdnnhfaaDoor
open Go.ChangeShapes Go.WideShapes Go.ChangeAt Go.RowKit Go.Fl

theorem add0 (s : Bool) (m : Nat) (hm : m < 2 ^ 53) : floatBits .add .f64 (fz s m) 0 = some (fi (sg s m)) := by
  show Ieee.double.add (fz s m) 0 = _
  have hb : (sg s m + sg false 0).natAbs < 2 ^ 53 := by cases s <;> simp [sg] <;> omega
  have := add_fz (s := s) (t := false) hm (by decide) hb
  rw [← lit_zero] at this
  rw [this]
  have e : sg s m + sg false 0 = sg s m := by simp [sg]
  rw [e]
  congr 1
  unfold fi
  congr 1
  by_cases h : sg s m = 0
  · simp [h]
  · simp [h]
theorem sg_abs (s : Bool) (m : Nat) : (sg s m).natAbs = m := by cases s <;> simp [sg]
theorem plain_any (s t : Bool) (m n : Nat) (hm : m < 2 ^ 53) (hn : n < 2 ^ 53) (w : World) : Calls Tryd.prog 17 #[.complex .f64 (fz s m) (fz t n)] w fun e w' => e = .returned (.complex .f64 (fi (sg s m)) (fi (sg t n))) ∧ w = w' := by
  have h1 := fun w => run_float_arith (P := Tryd.prog) w .add 29 .f64 _ _ _ (add0 s m hm)
  have h2 := fun w => run_float_arith (P := Tryd.prog) w .add 29 .f64 _ _ _ (add0 t n hn)
  go_enter Tryd.func17, Tryd.ntmps17
  go_wp2
  go_ret
  exact ⟨rfl, rfl⟩
theorem made_yes (x y u v : Int) (s t : Bool) (m n : Nat) (hx : okI x = true) (hy : okI y = true) (hu : okI u = true) (hv : okI v = true) (hm : m ≤ 1048576) (hn : n ≤ 1048576) (w : World) :
    Calls Tryd.prog 16 #[.complex .f64 (fi x) (fi y), .complex .f64 (fi u) (fi v), .complex .f64 (fz s m) (fz t n)] w fun e w' => e = .returned (.tuple #[.complex .f64 (fi (sg s m)) (fi (sg t n)), .bool true]) ∧ w = w' := by
  have c1 := may_fi x y (by simp [okI] at hx; omega) (by simp [okI] at hy; omega) w
  have c2 := may_fi u v (by simp [okI] at hu; omega) (by simp [okI] at hv; omega) w
  have c3 := may_fi (sg s m) (sg t n) (by rw [sg_abs]; omega) (by rw [sg_abs]; omega) w
  have k1 : okI (sg s m) = true := by have := sg_abs s m; simp [okI]; omega
  have k2 : okI (sg t n) = true := by have := sg_abs t n; simp [okI]; omega
  rw [hx, hy] at c1
  rw [hu, hv] at c2
  rw [k1, k2] at c3
  have C0 := Lib.hid (plain_any s t m n (by omega) (by omega) w)
  have C1 := Lib.hid c1
  have C2 := Lib.hid c2
  have C3 := Lib.hid c3
  clear c1 c2 c3 k1 k2 hx hy hu hv
  go_enter Tryd.func16, Tryd.ntmps16
  go_wp2_with (first | (go_at_call 17; refine (C0.out).mono ?_; rintro e w' ⟨rfl, rfl⟩) | (go_at_call 7; first | (with_reducible refine (C1.out).mono ?_) | (with_reducible refine (C2.out).mono ?_) | (with_reducible refine (C3.out).mono ?_)); rintro e w' ⟨rfl, rfl⟩)
  go_ret2
  exact ⟨by simp, rfl⟩
theorem made_no (x y u v : Int) (s t : Bool) (m n : Nat) (hx : okI x = true) (hy : okI y = true) (hu : okI u = true) (hv : okI v = true) (hm : m < 2 ^ 53) (hn : n < 2 ^ 53) (h : 1048576 < m ∨ 1048576 < n) (w : World) :
    Calls Tryd.prog 16 #[.complex .f64 (fi x) (fi y), .complex .f64 (fi u) (fi v), .complex .f64 (fz s m) (fz t n)] w fun e w' => e = .returned (.tuple #[.complex .f64 0 0, .bool false]) ∧ w = w' := by
  have c1 := may_fi x y (by simp [okI] at hx; omega) (by simp [okI] at hy; omega) w
  have c2 := may_fi u v (by simp [okI] at hu; omega) (by simp [okI] at hv; omega) w
  have c3 := may_fi (sg s m) (sg t n) (by rw [sg_abs]; omega) (by rw [sg_abs]; omega) w
  have k1 : (okI (sg s m) && okI (sg t n)) = false := by have := sg_abs s m; have := sg_abs t n; simp [okI]; omega
  rw [hx, hy] at c1
  rw [hu, hv] at c2
  rw [k1] at c3
  have C0 := Lib.hid (plain_any s t m n (by omega) (by omega) w)
  have C1 := Lib.hid c1
  have C2 := Lib.hid c2
  have C3 := Lib.hid c3
  clear c1 c2 c3 k1 hx hy hu hv h
  go_enter Tryd.func16, Tryd.ntmps16
  go_wp2_with (first | (go_at_call 17; refine (C0.out).mono ?_; rintro e w' ⟨rfl, rfl⟩) | (go_at_call 7; first | (with_reducible refine (C1.out).mono ?_) | (with_reducible refine (C2.out).mono ?_) | (with_reducible refine (C3.out).mono ?_)); rintro e w' ⟨rfl, rfl⟩)
  go_ret2
  exact ⟨by simp, rfl⟩
/-- What a point comes to, if it may be. -/
def ptI (re im : Int) : Value := if okI re && okI im then .tuple #[.complex .f64 (fi re) (fi im), .bool true] else .tuple #[.complex .f64 0 0, .bool false]
theorem made_any (x y u v : Int) (s t : Bool) (m n : Nat) (hx : okI x = true) (hy : okI y = true) (hu : okI u = true) (hv : okI v = true) (hm : m < 2 ^ 53) (hn : n < 2 ^ 53) (w : World) :
    Calls Tryd.prog 16 #[.complex .f64 (fi x) (fi y), .complex .f64 (fi u) (fi v), .complex .f64 (fz s m) (fz t n)] w fun e w' => e = .returned (ptI (sg s m) (sg t n)) ∧ w = w' := by
  have a1 := sg_abs s m
  have a2 := sg_abs t n
  by_cases h : m ≤ 1048576 ∧ n ≤ 1048576
  · rw [show ptI (sg s m) (sg t n) = .tuple #[.complex .f64 (fi (sg s m)) (fi (sg t n)), .bool true] from by
      unfold ptI; rw [if_pos]; simp [okI]; omega]
    exact made_yes x y u v s t m n hx hy hu hv h.1 h.2 w
  · rw [show ptI (sg s m) (sg t n) = .tuple #[.complex .f64 0 0, .bool false] from by
      unfold ptI; rw [if_neg]; simp [okI]; omega]
    exact made_no x y u v s t m n hx hy hu hv hm hn (by omega) w

theorem fi_fz (n : Int) : fi n = fz (decide (n < 0)) n.natAbs := rfl
theorem addI (a b : Int) (ha : a.natAbs < 2 ^ 53) (hb : b.natAbs < 2 ^ 53) (hab : (a + b).natAbs < 2 ^ 53) : floatBits .add .f64 (fi a) (fi b) = some (fi (a + b)) := by
  show Ieee.double.add (fi a) (fi b) = _
  have := add_fz (s := decide (a < 0)) (t := decide (b < 0)) ha hb (by rw [sg_fi, sg_fi]; exact hab)
  rw [fi_fz, fi_fz, this, sg_fi, sg_fi]
  congr 1
  unfold fi
  congr 1
  by_cases h : a + b = 0
  · rw [if_pos h]; simp [h]; omega
  · rw [if_neg h]
theorem addC (x y u v : Int) (hx : x.natAbs ≤ 1048576) (hy : y.natAbs ≤ 1048576) (hu : u.natAbs ≤ 1048576) (hv : v.natAbs ≤ 1048576) : cSumBits .add .f64 (fi x) (fi y) (fi u) (fi v) = some (fi (x + u), fi (y + v)) := by
  unfold cSumBits
  rw [addI x u (by omega) (by omega) (by omega), addI y v (by omega) (by omega) (by omega)]
  rfl
theorem okI_abs {x : Int} (h : okI x = true) : x.natAbs ≤ 1048576 := by simp [okI] at h; omega
theorem Add_any (x y u v : Int) (hx : okI x = true) (hy : okI y = true) (hu : okI u = true) (hv : okI v = true) (w : World) :
    Calls Tryd.prog 10 #[.complex .f64 (fi x) (fi y), .complex .f64 (fi u) (fi v)] w fun e w' => e = .returned (ptI (x + u) (y + v)) ∧ w = w' := by
  have ax := okI_abs hx
  have ay := okI_abs hy
  have au := okI_abs hu
  have av := okI_abs hv
  have h1 := fun w => run_complex_sum (P := Tryd.prog) w .add (.inl rfl) 25 .f64 _ _ _ _ _ _ (addC x y u v ax ay au av)
  have c := made_any x y u v (decide (x + u < 0)) (decide (y + v < 0)) (x + u).natAbs (y + v).natAbs hx hy hu hv (by omega) (by omega) w
  rw [sg_fi, sg_fi, ← fi_fz, ← fi_fz] at c
  have C := Lib.hid c
  clear c hx hy hu hv
  by_cases hok : okI (x + u) && okI (y + v)
  · have e : ptI (x + u) (y + v) = .tuple #[.complex .f64 (fi (x + u)) (fi (y + v)), .bool true] := by unfold ptI; rw [if_pos hok]
    rw [e] at C
    have E := Lib.hid e
    clear e
    go_enter Tryd.func10, Tryd.ntmps10
    go_wp2_with (go_at_call 16; refine (C.out).mono ?_; rintro e w' ⟨rfl, rfl⟩)
    go_ret2
    exact ⟨by rw [E.out]; simp, rfl⟩
  · have e : ptI (x + u) (y + v) = .tuple #[.complex .f64 0 0, .bool false] := by unfold ptI; rw [if_neg hok]
    rw [e] at C
    have E := Lib.hid e
    clear e
    go_enter Tryd.func10, Tryd.ntmps10
    go_wp2_with (go_at_call 16; refine (C.out).mono ?_; rintro e w' ⟨rfl, rfl⟩)
    go_ret2
    exact ⟨by rw [E.out]; simp, rfl⟩
end Go.Proofs.YtlgfgjcbdnnhfaaDoor
