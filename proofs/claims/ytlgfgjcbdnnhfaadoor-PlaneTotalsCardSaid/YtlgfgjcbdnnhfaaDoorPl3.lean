import Derived.Test.YtlgfgjcbdnnhfaaDoorPl2
namespace Go.Proofs.YtlgfgjcbdnnhfaaDoor
open Go.ChangeShapes Go.WideShapes Go.ChangeAt Go.RowKit Go.Fl

theorem sg_prod (s t : Bool) (m n : Nat) : sg (s ^^ t) (m * n) = sg s m * sg t n := by
  cases s <;> cases t <;> simp [sg, Int.neg_mul, Int.mul_neg]
theorem sg_mul (x u : Int) : sg (decide (x < 0) ^^ decide (u < 0)) (x.natAbs * u.natAbs) = x * u := by
  rw [sg_prod, sg_fi, sg_fi]
theorem sg_if (T : Int) (b : Bool) : sg (if T = 0 then b else decide (T < 0)) T.natAbs = T := by
  by_cases h : T = 0
  · subst h; simp [sg]
  · rw [if_neg h, sg_fi]
def mz (x u : Int) : Nat := fz (decide (x < 0) ^^ decide (u < 0)) (x.natAbs * u.natAbs)
theorem mulI (x u : Int) (hx : x.natAbs ≤ 1048576) (hu : u.natAbs ≤ 1048576) : floatBits .mul .f64 (fi x) (fi u) = some (mz x u) := by
  have hp : x.natAbs * u.natAbs ≤ 1048576 * 1048576 := Nat.mul_le_mul hx hu
  exact mul_fz (by omega) (by omega) (by omega)
def dz (x u y v : Int) : Nat := fz (if x * u - y * v = 0 then ((decide (x < 0) ^^ decide (u < 0)) && !(decide (y < 0) ^^ decide (v < 0))) else decide (x * u - y * v < 0)) (x * u - y * v).natAbs
def az (x u y v : Int) : Nat := fz (if x * u + y * v = 0 then ((decide (x < 0) ^^ decide (u < 0)) && (decide (y < 0) ^^ decide (v < 0))) else decide (x * u + y * v < 0)) (x * u + y * v).natAbs
theorem abs_mul_le (x u : Int) (hx : x.natAbs ≤ 1048576) (hu : u.natAbs ≤ 1048576) : (x * u).natAbs ≤ 1048576 * 1048576 := by
  rw [Int.natAbs_mul]; exact Nat.mul_le_mul hx hu
theorem subI (x u y v : Int) (hx : x.natAbs ≤ 1048576) (hu : u.natAbs ≤ 1048576) (hy : y.natAbs ≤ 1048576) (hv : v.natAbs ≤ 1048576) : floatBits .sub .f64 (mz x u) (mz y v) = some (dz x u y v) := by
  have h1 := abs_mul_le x u hx hu
  have h2 := abs_mul_le y v hy hv
  have p1 : x.natAbs * u.natAbs ≤ 1048576 * 1048576 := Nat.mul_le_mul hx hu
  have p2 : y.natAbs * v.natAbs ≤ 1048576 * 1048576 := Nat.mul_le_mul hy hv
  have := sub_fz (s := decide (x < 0) ^^ decide (u < 0)) (t := decide (y < 0) ^^ decide (v < 0)) (m := x.natAbs * u.natAbs) (n := y.natAbs * v.natAbs) (by omega) (by omega) (by rw [sg_mul, sg_mul]; omega)
  rw [sg_mul, sg_mul] at this
  exact this
theorem addM (x u y v : Int) (hx : x.natAbs ≤ 1048576) (hu : u.natAbs ≤ 1048576) (hy : y.natAbs ≤ 1048576) (hv : v.natAbs ≤ 1048576) : floatBits .add .f64 (mz x u) (mz y v) = some (az x u y v) := by
  have h1 := abs_mul_le x u hx hu
  have h2 := abs_mul_le y v hy hv
  have p1 : x.natAbs * u.natAbs ≤ 1048576 * 1048576 := Nat.mul_le_mul hx hu
  have p2 : y.natAbs * v.natAbs ≤ 1048576 * 1048576 := Nat.mul_le_mul hy hv
  have := add_fz (s := decide (x < 0) ^^ decide (u < 0)) (t := decide (y < 0) ^^ decide (v < 0)) (m := x.natAbs * u.natAbs) (n := y.natAbs * v.natAbs) (by omega) (by omega) (by rw [sg_mul, sg_mul]; omega)
  rw [sg_mul, sg_mul] at this
  exact this
theorem Mul_any (x y u v : Int) (hx : okI x = true) (hy : okI y = true) (hu : okI u = true) (hv : okI v = true) (w : World) :
    Calls Tryd.prog 9 #[.complex .f64 (fi x) (fi y), .complex .f64 (fi u) (fi v)] w fun e w' => e = .returned (ptI (x * u - y * v) (x * v + y * u)) ∧ w = w' := by
  have ax := okI_abs hx
  have ay := okI_abs hy
  have au := okI_abs hu
  have av := okI_abs hv
  have m1 := fun w => run_float_arith (P := Tryd.prog) w .mul 29 .f64 _ _ _ (mulI x u ax au)
  have m2 := fun w => run_float_arith (P := Tryd.prog) w .mul 29 .f64 _ _ _ (mulI y v ay av)
  have m3 := fun w => run_float_arith (P := Tryd.prog) w .mul 29 .f64 _ _ _ (mulI x v ax av)
  have m4 := fun w => run_float_arith (P := Tryd.prog) w .mul 29 .f64 _ _ _ (mulI y u ay au)
  have m5 := fun w => run_float_arith (P := Tryd.prog) w .sub 29 .f64 _ _ _ (subI x u y v ax au ay av)
  have m6 := fun w => run_float_arith (P := Tryd.prog) w .add 29 .f64 _ _ _ (addM x v y u ax av ay au)
  have b1 := abs_mul_le x u ax au
  have b2 := abs_mul_le y v ay av
  have b3 := abs_mul_le x v ax av
  have b4 := abs_mul_le y u ay au
  have c := made_any x y u v (if x * u - y * v = 0 then ((decide (x < 0) ^^ decide (u < 0)) && !(decide (y < 0) ^^ decide (v < 0))) else decide (x * u - y * v < 0)) (if x * v + y * u = 0 then ((decide (x < 0) ^^ decide (v < 0)) && (decide (y < 0) ^^ decide (u < 0))) else decide (x * v + y * u < 0)) (x * u - y * v).natAbs (x * v + y * u).natAbs hx hy hu hv (by omega) (by omega) w
  rw [sg_if, sg_if] at c
  have C := Lib.hid c
  clear c hx hy hu hv b1 b2 b3 b4
  by_cases hok : okI (x * u - y * v) && okI (x * v + y * u)
  · have e : ptI (x * u - y * v) (x * v + y * u) = .tuple #[.complex .f64 (fi (x * u - y * v)) (fi (x * v + y * u)), .bool true] := by unfold ptI; rw [if_pos hok]
    rw [e] at C
    have E := Lib.hid e
    clear e hok
    go_enter Tryd.func9, Tryd.ntmps9
    go_wp2_with (go_at_call 16; refine (C.out).mono ?_; rintro e w' ⟨rfl, rfl⟩)
    go_ret2
    exact ⟨by rw [E.out]; simp, rfl⟩
  · have e : ptI (x * u - y * v) (x * v + y * u) = .tuple #[.complex .f64 0 0, .bool false] := by unfold ptI; rw [if_neg hok]
    rw [e] at C
    have E := Lib.hid e
    clear e hok
    go_enter Tryd.func9, Tryd.ntmps9
    go_wp2_with (go_at_call 16; refine (C.out).mono ?_; rintro e w' ⟨rfl, rfl⟩)
    go_ret2
    exact ⟨by rw [E.out]; simp, rfl⟩

/-! a quarter turn -/
theorem xor_top (b : Nat) (h : b < 2 ^ 63) : b ^^^ 2 ^ 63 = 2 ^ 63 + b := by
  have e := Nat.two_pow_add_eq_or_of_lt h 1
  rw [Nat.mul_one] at e
  rw [e]
  apply Nat.eq_of_testBit_eq
  intro i
  rw [Nat.testBit_xor, Nat.testBit_or, Nat.testBit_two_pow]
  by_cases hi : 63 = i
  · subst hi
    rw [Nat.testBit_lt_two_pow h]
    simp
  · simp [hi]
theorem neg_fz (s : Bool) (m : Nat) (hm : m < 2 ^ 53) : Op.negFloat .f64 (fz s m) = fz (!s) m := by
  have h := fz_lt m hm
  unfold Op.negFloat
  show fz s m ^^^ 2 ^ 63 = _
  cases s
  · rw [xor_top _ h, Bool.not_false, fz_true m hm]
  · rw [fz_true m hm, ← xor_top _ h, Nat.xor_assoc, Nat.xor_self, Nat.xor_zero, Bool.not_true]
def rot : Nat → Int → Int → Int × Int
  | 0, x, y => (x, y)
  | k + 1, x, y => (-(rot k x y).2, (rot k x y).1)
theorem rot_ok (k : Nat) (x y : Int) (hx : okI x = true) (hy : okI y = true) : okI (rot k x y).1 = true ∧ okI (rot k x y).2 = true := by
  induction k with
  | zero => exact ⟨hx, hy⟩
  | succ k ih => simp only [rot]; refine ⟨?_, ih.1⟩; have := ih.2; simp [okI] at this ⊢; omega
theorem and3 (k : Int) : bits .and .i64 k 3 = k % 4 := by
  have h : (BitVec.ofInt 64 k &&& BitVec.ofInt 64 3).toNat = (k % 4).toNat := by
    rw [BitVec.toNat_and]
    have e : (BitVec.ofInt 64 3).toNat = 2 ^ 2 - 1 := by decide
    rw [e, Nat.and_two_pow_sub_one_eq_mod, BitVec.toNat_ofInt]
    omega
  show IntKind.i64.wrap ((BitVec.ofInt 64 k &&& BitVec.ofInt 64 3).toNat : Int) = _
  rw [h, IntKind.wrap_i64]
  omega
def trn (k : Int) (x y : Int) : Int × Int := rot (k % 4).toNat x y
theorem turn_step (x y : Int) (hx : okI x = true) (hy : okI y = true) (w : World) : Calls Tryd.prog 17 #[.complex .f64 (Op.negFloat .f64 (fi y)) (fi x)] w fun e w' => e = .returned (.complex .f64 (fi (-y)) (fi x)) ∧ w = w' := by
  have ax := okI_abs hx
  have ay := okI_abs hy
  have c := plain_any (!decide (y < 0)) (decide (x < 0)) y.natAbs x.natAbs (by omega) (by omega) w
  rw [sg_not, sg_fi, sg_fi, ← neg_fz _ _ (by omega), ← fi_fz, ← fi_fz] at c
  exact c
theorem run_neg_float (b : Nat) (w : World) : (Op.unary .neg (.float .f64 b)).run Tryd.prog w = .ok (.float .f64 (Op.negFloat .f64 b)) w := rfl
set_option maxHeartbeats 400000 in
theorem Turn_any (x y k : Int) (hx : okI x = true) (hy : okI y = true) (w : World) :
    Calls Tryd.prog 11 #[.complex .f64 (fi x) (fi y), .int .i64 k] w fun e w' => e = .returned (.complex .f64 (fi (trn k x y).1) (fi (trn k x y).2)) ∧ w = w' := by
  have ax := okI_abs hx
  have ay := okI_abs hy
  have c1 := may_fi x y (by omega) (by omega) w
  rw [hx, hy] at c1
  have C1 := Lib.hid c1
  have R := Lib.hid (fun j => rot_ok j x y hx hy)
  have ha : bits .and .i64 k 3 = ((k % 4).toNat : Int) := by rw [and3]; omega
  have hlt : (k % 4).toNat < 4 := by omega
  unfold trn
  generalize (k % 4).toNat = r at *
  have hn := run_neg_float
  clear c1 hx hy
  go_enter Tryd.func11, Tryd.ntmps11
  go_wp2_with (first | (go_at_call 7; refine (C1.out).mono ?_; rintro e w' ⟨rfl, rfl⟩))
  go_loop [0, 11] (fun c i => ∃ j : Nat, j ≤ r ∧ c = .complex .f64 (fi (rot j x y).1) (fi (rot j x y).2) ∧ i = .int .i64 j) (fun _ i => r - (intOf i).toNat)
  case atStart => exact ⟨0, Nat.zero_le _, rfl, rfl⟩
  case round =>
    obtain ⟨j, hj, rfl, rfl⟩ := hrel
    by_cases h : j < r
    · go_wp2_with (first | (go_at_call 17; refine (turn_step _ _ (R.out j).1 (R.out j).2 _).mono ?_; rintro e w' ⟨rfl, rfl⟩))
      go_round
      case rel => exact ⟨j + 1, by omega, rfl, by go_num⟩
      case measure => simp [intOf]; omega
    · have hjr : j = r := by omega
      subst hjr
      go_wp2_with fail
      go_ret
      exact ⟨rfl, rfl⟩
end Go.Proofs.YtlgfgjcbdnnhfaaDoor
