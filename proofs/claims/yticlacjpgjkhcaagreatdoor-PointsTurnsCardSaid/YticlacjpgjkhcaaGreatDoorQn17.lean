/- Texts joined: Pl3, Pl4, G11 -/
import Derived.Test.YticlacjpgjkhcaaGreatDoorQn16
import Derived.Test.YticlacjpgjkhcaaGreatDoorQn5

namespace Go.Proofs.YticlacjpgjkhcaaGreatDoor
open Go.ChangeShapes Go.WideShapes Go.ChangeAt Go.RowKit Go.Fl

theorem sg_prod (s t : Bool) (m n : Nat) : sg (s ^^ t) (m * n) = sg s m * sg t n := by
  cases s <;> cases t <;> simp [sg, Int.neg_mul, Int.mul_neg]
theorem sg_mul (x u : Int) : sg (decide (x < 0) ^^ decide (u < 0)) (x.natAbs * u.natAbs) = x * u := by
  rw [sg_prod, sg_fi, sg_fi]
theorem sg_if (T : Int) (b : Bool) : sg (if T = 0 then b else decide (T < 0)) T.natAbs = T := by
  by_cases h : T = 0
  · subst h; simp [sg]
  · rw [if_neg h, sg_fi]
def mz (x u : Int) : Nat := fz (decide (x < 0) ^^ decide (u < 0)) (x.natAbs * u.natAbs)
theorem mulI (x u : Int) (hx : x.natAbs ≤ 1048576) (hu : u.natAbs ≤ 1048576) : floatBits .mul .f64 (fi x) (fi u) = some (mz x u) := by
  have hp : x.natAbs * u.natAbs ≤ 1048576 * 1048576 := Nat.mul_le_mul hx hu
  exact mul_fz (by omega) (by omega) (by omega)
def dz (x u y v : Int) : Nat := fz (if x * u - y * v = 0 then ((decide (x < 0) ^^ decide (u < 0)) && !(decide (y < 0) ^^ decide (v < 0))) else decide (x * u - y * v < 0)) (x * u - y * v).natAbs
def az (x u y v : Int) : Nat := fz (if x * u + y * v = 0 then ((decide (x < 0) ^^ decide (u < 0)) && (decide (y < 0) ^^ decide (v < 0))) else decide (x * u + y * v < 0)) (x * u + y * v).natAbs
theorem abs_mul_le (x u : Int) (hx : x.natAbs ≤ 1048576) (hu : u.natAbs ≤ 1048576) : (x * u).natAbs ≤ 1048576 * 1048576 := by
  rw [Int.natAbs_mul]; exact Nat.mul_le_mul hx hu
theorem subI (x u y v : Int) (hx : x.natAbs ≤ 1048576) (hu : u.natAbs ≤ 1048576) (hy : y.natAbs ≤ 1048576) (hv : v.natAbs ≤ 1048576) : floatBits .sub .f64 (mz x u) (mz y v) = some (dz x u y v) := by
  have h1 := abs_mul_le x u hx hu
  have h2 := abs_mul_le y v hy hv
  have p1 : x.natAbs * u.natAbs ≤ 1048576 * 1048576 := Nat.mul_le_mul hx hu
  have p2 : y.natAbs * v.natAbs ≤ 1048576 * 1048576 := Nat.mul_le_mul hy hv
  have := sub_fz (s := decide (x < 0) ^^ decide (u < 0)) (t := decide (y < 0) ^^ decide (v < 0)) (m := x.natAbs * u.natAbs) (n := y.natAbs * v.natAbs) (by omega) (by omega) (by rw [sg_mul, sg_mul]; omega)
  rw [sg_mul, sg_mul] at this
  exact this
theorem addM (x u y v : Int) (hx : x.natAbs ≤ 1048576) (hu : u.natAbs ≤ 1048576) (hy : y.natAbs ≤ 1048576) (hv : v.natAbs ≤ 1048576) : floatBits .add .f64 (mz x u) (mz y v) = some (az x u y v) := by
  have h1 := abs_mul_le x u hx hu
  have h2 := abs_mul_le y v hy hv
  have p1 : x.natAbs * u.natAbs ≤ 1048576 * 1048576 := Nat.mul_le_mul hx hu
  have p2 : y.natAbs * v.natAbs ≤ 1048576 * 1048576 := Nat.mul_le_mul hy hv
  have := add_fz (s := decide (x < 0) ^^ decide (u < 0)) (t := decide (y < 0) ^^ decide (v < 0)) (m := x.natAbs * u.natAbs) (n := y.natAbs * v.natAbs) (by omega) (by omega) (by rw [sg_mul, sg_mul]; omega)
  rw [sg_mul, sg_mul] at this
  exact this
theorem Mul_any (x y u v : Int) (hx : okI x = true) (hy : okI y = true) (hu : okI u = true) (hv : okI v = true) (w : World) :
    Calls Tryz.prog 49 #[.complex .f64 (fi x) (fi y), .complex .f64 (fi u) (fi v)] w fun e w' => e = .returned (ptI (x * u - y * v) (x * v + y * u)) ∧ w = w' := by
  have ax := okI_abs hx
  have ay := okI_abs hy
  have au := okI_abs hu
  have av := okI_abs hv
  have m1 := fun w => run_float_arith (P := Tryz.prog) w .mul 125 .f64 _ _ _ (mulI x u ax au)
  have m2 := fun w => run_float_arith (P := Tryz.prog) w .mul 125 .f64 _ _ _ (mulI y v ay av)
  have m3 := fun w => run_float_arith (P := Tryz.prog) w .mul 125 .f64 _ _ _ (mulI x v ax av)
  have m4 := fun w => run_float_arith (P := Tryz.prog) w .mul 125 .f64 _ _ _ (mulI y u ay au)
  have m5 := fun w => run_float_arith (P := Tryz.prog) w .sub 125 .f64 _ _ _ (subI x u y v ax au ay av)
  have m6 := fun w => run_float_arith (P := Tryz.prog) w .add 125 .f64 _ _ _ (addM x v y u ax av ay au)
  have b1 := abs_mul_le x u ax au
  have b2 := abs_mul_le y v ay av
  have b3 := abs_mul_le x v ax av
  have b4 := abs_mul_le y u ay au
  have c := made_any x y u v (if x * u - y * v = 0 then ((decide (x < 0) ^^ decide (u < 0)) && !(decide (y < 0) ^^ decide (v < 0))) else decide (x * u - y * v < 0)) (if x * v + y * u = 0 then ((decide (x < 0) ^^ decide (v < 0)) && (decide (y < 0) ^^ decide (u < 0))) else decide (x * v + y * u < 0)) (x * u - y * v).natAbs (x * v + y * u).natAbs hx hy hu hv (by omega) (by omega) w
  rw [sg_if, sg_if] at c
  have C := Lib.hid c
  clear c hx hy hu hv b1 b2 b3 b4
  by_cases hok : okI (x * u - y * v) && okI (x * v + y * u)
  · have e : ptI (x * u - y * v) (x * v + y * u) = .tuple #[.complex .f64 (fi (x * u - y * v)) (fi (x * v + y * u)), .bool true] := by unfold ptI; rw [if_pos hok]
    rw [e] at C
    have E := Lib.hid e
    clear e hok
    go_enter Tryz.func49, Tryz.ntmps49
    go_wp2_with (go_at_call 112; refine (C.out).mono ?_; rintro e w' ⟨rfl, rfl⟩)
    go_ret2
    exact ⟨by rw [E.out]; simp, rfl⟩
  · have e : ptI (x * u - y * v) (x * v + y * u) = .tuple #[.complex .f64 0 0, .bool false] := by unfold ptI; rw [if_neg hok]
    rw [e] at C
    have E := Lib.hid e
    clear e hok
    go_enter Tryz.func49, Tryz.ntmps49
    go_wp2_with (go_at_call 112; refine (C.out).mono ?_; rintro e w' ⟨rfl, rfl⟩)
    go_ret2
    exact ⟨by rw [E.out]; simp, rfl⟩

/-! a quarter turn -/
theorem xor_top (b : Nat) (h : b < 2 ^ 63) : b ^^^ 2 ^ 63 = 2 ^ 63 + b := by
  have e := Nat.two_pow_add_eq_or_of_lt h 1
  rw [Nat.mul_one] at e
  rw [e]
  apply Nat.eq_of_testBit_eq
  intro i
  rw [Nat.testBit_xor, Nat.testBit_or, Nat.testBit_two_pow]
  by_cases hi : 63 = i
  · subst hi
    rw [Nat.testBit_lt_two_pow h]
    simp
  · simp [hi]
theorem neg_fz (s : Bool) (m : Nat) (hm : m < 2 ^ 53) : Op.negFloat .f64 (fz s m) = fz (!s) m := by
  have h := fz_lt m hm
  unfold Op.negFloat
  show fz s m ^^^ 2 ^ 63 = _
  cases s
  · rw [xor_top _ h, Bool.not_false, fz_true m hm]
  · rw [fz_true m hm, ← xor_top _ h, Nat.xor_assoc, Nat.xor_self, Nat.xor_zero, Bool.not_true]
def rot : Nat → Int → Int → Int × Int
  | 0, x, y => (x, y)
  | k + 1, x, y => (-(rot k x y).2, (rot k x y).1)
theorem rot_ok (k : Nat) (x y : Int) (hx : okI x = true) (hy : okI y = true) : okI (rot k x y).1 = true ∧ okI (rot k x y).2 = true := by
  induction k with
  | zero => exact ⟨hx, hy⟩
  | succ k ih => simp only [rot]; refine ⟨?_, ih.1⟩; have := ih.2; simp [okI] at this ⊢; omega
theorem and3 (k : Int) : bits .and .i64 k 3 = k % 4 := by
  have h : (BitVec.ofInt 64 k &&& BitVec.ofInt 64 3).toNat = (k % 4).toNat := by
    rw [BitVec.toNat_and]
    have e : (BitVec.ofInt 64 3).toNat = 2 ^ 2 - 1 := by decide
    rw [e, Nat.and_two_pow_sub_one_eq_mod, BitVec.toNat_ofInt]
    omega
  show IntKind.i64.wrap ((BitVec.ofInt 64 k &&& BitVec.ofInt 64 3).toNat : Int) = _
  rw [h, IntKind.wrap_i64]
  omega
def trn (k : Int) (x y : Int) : Int × Int := rot (k % 4).toNat x y
theorem turn_step (x y : Int) (hx : okI x = true) (hy : okI y = true) (w : World) : Calls Tryz.prog 164 #[.complex .f64 (Op.negFloat .f64 (fi y)) (fi x)] w fun e w' => e = .returned (.complex .f64 (fi (-y)) (fi x)) ∧ w = w' := by
  have ax := okI_abs hx
  have ay := okI_abs hy
  have c := plain_any (!decide (y < 0)) (decide (x < 0)) y.natAbs x.natAbs (by omega) (by omega) w
  rw [sg_not, sg_fi, sg_fi, ← neg_fz _ _ (by omega), ← fi_fz, ← fi_fz] at c
  exact c
theorem run_neg_float (b : Nat) (w : World) : (Op.unary .neg (.float .f64 b)).run Tryz.prog w = .ok (.float .f64 (Op.negFloat .f64 b)) w := rfl
set_option maxHeartbeats 400000 in
theorem Turn_any (x y k : Int) (hx : okI x = true) (hy : okI y = true) (w : World) :
    Calls Tryz.prog 111 #[.complex .f64 (fi x) (fi y), .int .i64 k] w fun e w' => e = .returned (.complex .f64 (fi (trn k x y).1) (fi (trn k x y).2)) ∧ w = w' := by
  have ax := okI_abs hx
  have ay := okI_abs hy
  have c1 := may_fi x y (by omega) (by omega) w
  rw [hx, hy] at c1
  have C1 := Lib.hid c1
  have R := Lib.hid (fun j => rot_ok j x y hx hy)
  have ha : bits .and .i64 k 3 = ((k % 4).toNat : Int) := by rw [and3]; omega
  have hlt : (k % 4).toNat < 4 := by omega
  unfold trn
  generalize (k % 4).toNat = r at *
  have hn := run_neg_float
  clear c1 hx hy
  go_enter Tryz.func111, Tryz.ntmps111
  go_wp2_with (first | (go_at_call 162; refine (C1.out).mono ?_; rintro e w' ⟨rfl, rfl⟩))
  go_loop [0, 11] (fun c i => ∃ j : Nat, j ≤ r ∧ c = .complex .f64 (fi (rot j x y).1) (fi (rot j x y).2) ∧ i = .int .i64 j) (fun _ i => r - (intOf i).toNat)
  case atStart => exact ⟨0, Nat.zero_le _, rfl, rfl⟩
  case round =>
    obtain ⟨j, hj, rfl, rfl⟩ := hrel
    by_cases h : j < r
    · go_wp2_with (first | (go_at_call 164; refine (turn_step _ _ (R.out j).1 (R.out j).2 _).mono ?_; rintro e w' ⟨rfl, rfl⟩))
      go_round
      case rel => exact ⟨j + 1, by omega, rfl, by go_num⟩
      case measure => simp [intOf]; omega
    · have hjr : j = r := by omega
      subst hjr
      go_wp2_with fail
      go_ret
      exact ⟨rfl, rfl⟩
end Go.Proofs.YticlacjpgjkhcaaGreatDoor

namespace Go.Proofs.YticlacjpgjkhcaaGreatDoor
open Go.ChangeShapes Go.WideShapes Go.ChangeAt Go.RowKit Go.Fl

theorem toIntI (x : Int) (hx : x.natAbs < 2 ^ 53) : floatToIntVal .f64 (fi x) .i64 = some x := by
  have h := rep_toInt .zero (read_fz (decide (x < 0)) x.natAbs hx)
  rw [sg_fi] at h
  unfold floatToIntVal
  rw [show (FloatKind.f64.decode (fi x)).toInt .zero = some x from h]
  have h1 : IntKind.i64.min = -9223372036854775808 := by decide
  have h2 : IntKind.i64.max = 9223372036854775807 := by decide
  simp only [h1, h2]
  rw [if_pos (by omega)]
theorem square_any (x y : Int) (hx : x.natAbs ≤ 1048576) (hy : y.natAbs ≤ 1048576) (w : World) : Calls Tryz.prog 163 #[.complex .f64 (fi x) (fi y)] w fun e w' => e = .returned (.int .i64 (x * x + y * y)) ∧ w = w' := by
  have h1 := fun w => run_convert_float_int (P := Tryz.prog) w 125 2 .f64 .i64 (fi x) x (by kernel_rfl) Tryz.underlying2 (toIntI x (by omega))
  have h2 := fun w => run_convert_float_int (P := Tryz.prog) w 125 2 .f64 .i64 (fi y) y (by kernel_rfl) Tryz.underlying2 (toIntI y (by omega))
  have a1 := abs_mul_le x x hx hx
  have a2 := abs_mul_le y y hy hy
  have b1 : x * x ≤ 1099511627776 := by omega
  have b2 : y * y ≤ 1099511627776 := by omega
  have b3 : -1099511627776 ≤ x * x := by omega
  have b4 : -1099511627776 ≤ y * y := by omega
  clear hx hy a1 a2
  go_enter Tryz.func163, Tryz.ntmps163
  go_wp2
  go_ret
  exact ⟨rfl, rfl⟩
theorem l0 : fi 0 = 0 := by kernel_rfl
theorem l1 : fi 1 = 4607182418800017408 := by kernel_rfl
theorem l2 : fi 2 = 4611686018427387904 := by kernel_rfl
theorem l3 : fi 3 = 4613937818241073152 := by kernel_rfl
theorem l4 : fi 4 = 4616189618054758400 := by kernel_rfl
theorem lm1 : fi (-1) = 13830554455654793216 := by kernel_rfl
theorem lm2 : fi (-2) = 13835058055282163712 := by kernel_rfl
theorem lmax : fi 1048576 = 4697254411347427328 := by kernel_rfl
end Go.Proofs.YticlacjpgjkhcaaGreatDoor

/- Two values of a kind but a text are the same: by what the four comparisons say. -/
namespace Go.Proofs.YticlacjpgjkhcaaGreatDoor
open Go.ChangeShapes Go.WideShapes Go.ChangeAt Go.RowKit

set_option maxRecDepth 100000 in
set_option maxHeartbeats 4000000 in
theorem SameG_true (kd : Int) (A3 A4 A5 A6 : Option Addr) (an3 ac3 an4 ac4 an5 ac5 an6 ac6 : Nat) (Y3 Y4 Y5 Y6 : Option Addr) (yn3 yc3 yn4 yc4 yn5 yc5 yn6 yc6 : Nat) (w : World) (q3 : ∀ X, Below w.heap.size w X → Calls Tryz.prog 232 #[.slice A3 an3 ac3, .slice Y3 yn3 yc3] X fun e w' => e = .returned (.bool true) ∧ Below X.heap.size X w') (q4 : ∀ X, Below w.heap.size w X → Calls Tryz.prog 233 #[.slice A4 an4 ac4, .slice Y4 yn4 yc4] X fun e w' => e = .returned (.bool true) ∧ Below X.heap.size X w') (q5 : ∀ X, Below w.heap.size w X → Calls Tryz.prog 234 #[.slice A5 an5 ac5, .slice Y5 yn5 yc5] X fun e w' => e = .returned (.bool true) ∧ Below X.heap.size X w') (q6 : ∀ f X, Below w.heap.size w X → Calls Tryz.prog 230 #[.slice A6 an6 ac6, .slice Y6 yn6 yc6, f] X fun e w' => e = .returned (.bool true) ∧ Below X.heap.size X w') : Calls Tryz.prog 211 #[.agg #[.int .i64 kd, .string ⟨#[]⟩, .slice A3 an3 ac3, .slice A4 an4 ac4, .slice A5 an5 ac5, .slice A6 an6 ac6], .agg #[.int .i64 kd, .string ⟨#[]⟩, .slice Y3 yn3 yc3, .slice Y4 yn4 yc4, .slice Y5 yn5 yc5, .slice Y6 yn6 yc6]] w fun e w' => e = .returned (.bool true) ∧ Below w.heap.size w w' := by
  have hmf : ∀ (fn : Fn) (first cap : Array Value) (w : World), (Instr.makeFunc fn first cap).run Tryz.prog w = .ok (.func fn first cap) w := fun _ _ _ _ => rfl
  have hsf : ∀ (a : Addr) (f : Fn) (x y : Array Value) (w : World) (m : Mode), (store a (.func f x y) m).run Tryz.prog w = stored Tryz.prog w a (.func f x y) m := fun a f x y w m => run_store Tryz.prog w a _ m rfl
  have q3 := Lib.hid q3
  have q4 := Lib.hid q4
  have q5 := Lib.hid q5
  have q6 := Lib.hid q6
  have C1 := Lib.hid (fun w1 (hb : Below ((((w.alloc (.cells #[.int .i64 kd, .string ⟨#[]⟩, .slice A3 an3 ac3, .slice A4 an4 ac4, .slice A5 an5 ac5, .slice A6 an6 ac6] 64)).alloc (.cells #[.int .i64 kd, .string ⟨#[]⟩, .slice Y3 yn3 yc3, .slice Y4 yn4 yc4, .slice Y5 yn5 yc5, .slice Y6 yn6 yc6] 64)).alloc (.cells #[.func (.func 228) #[] #[]] 256))).heap.size ((((w.alloc (.cells #[.int .i64 kd, .string ⟨#[]⟩, .slice A3 an3 ac3, .slice A4 an4 ac4, .slice A5 an5 ac5, .slice A6 an6 ac6] 64)).alloc (.cells #[.int .i64 kd, .string ⟨#[]⟩, .slice Y3 yn3 yc3, .slice Y4 yn4 yc4, .slice Y5 yn5 yc5, .slice Y6 yn6 yc6] 64)).alloc (.cells #[.func (.func 228) #[] #[]] 256))) w1) => cells6 (blk_below (show ((((w.alloc (.cells #[.int .i64 kd, .string ⟨#[]⟩, .slice A3 an3 ac3, .slice A4 an4 ac4, .slice A5 an5 ac5, .slice A6 an6 ac6] 64)).alloc (.cells #[.int .i64 kd, .string ⟨#[]⟩, .slice Y3 yn3 yc3, .slice Y4 yn4 yc4, .slice Y5 yn5 yc5, .slice Y6 yn6 yc6] 64)).alloc (.cells #[.func (.func 228) #[] #[]] 256))).heap[w.heap.size]? = some (.cells #[.int .i64 kd, .string ⟨#[]⟩, .slice A3 an3 ac3, .slice A4 an4 ac4, .slice A5 an5 ac5, .slice A6 an6 ac6] 64) from blk_below (blk_below (heap_alloc_new w _) alloc_old) alloc_old) hb))
  have C2 := Lib.hid (fun w1 (hb : Below ((((w.alloc (.cells #[.int .i64 kd, .string ⟨#[]⟩, .slice A3 an3 ac3, .slice A4 an4 ac4, .slice A5 an5 ac5, .slice A6 an6 ac6] 64)).alloc (.cells #[.int .i64 kd, .string ⟨#[]⟩, .slice Y3 yn3 yc3, .slice Y4 yn4 yc4, .slice Y5 yn5 yc5, .slice Y6 yn6 yc6] 64)).alloc (.cells #[.func (.func 228) #[] #[]] 256))).heap.size ((((w.alloc (.cells #[.int .i64 kd, .string ⟨#[]⟩, .slice A3 an3 ac3, .slice A4 an4 ac4, .slice A5 an5 ac5, .slice A6 an6 ac6] 64)).alloc (.cells #[.int .i64 kd, .string ⟨#[]⟩, .slice Y3 yn3 yc3, .slice Y4 yn4 yc4, .slice Y5 yn5 yc5, .slice Y6 yn6 yc6] 64)).alloc (.cells #[.func (.func 228) #[] #[]] 256))) w1) => cells6 (blk_below (show ((((w.alloc (.cells #[.int .i64 kd, .string ⟨#[]⟩, .slice A3 an3 ac3, .slice A4 an4 ac4, .slice A5 an5 ac5, .slice A6 an6 ac6] 64)).alloc (.cells #[.int .i64 kd, .string ⟨#[]⟩, .slice Y3 yn3 yc3, .slice Y4 yn4 yc4, .slice Y5 yn5 yc5, .slice Y6 yn6 yc6] 64)).alloc (.cells #[.func (.func 228) #[] #[]] 256))).heap[w.heap.size + 1]? = some (.cells #[.int .i64 kd, .string ⟨#[]⟩, .slice Y3 yn3 yc3, .slice Y4 yn4 yc4, .slice Y5 yn5 yc5, .slice Y6 yn6 yc6] 64) from blk_below (new_next w _ _) alloc_old) hb))
  have BA := Lib.hid (show Below w.heap.size w ((((w.alloc (.cells #[.int .i64 kd, .string ⟨#[]⟩, .slice A3 an3 ac3, .slice A4 an4 ac4, .slice A5 an5 ac5, .slice A6 an6 ac6] 64)).alloc (.cells #[.int .i64 kd, .string ⟨#[]⟩, .slice Y3 yn3 yc3, .slice Y4 yn4 yc4, .slice Y5 yn5 yc5, .slice Y6 yn6 yc6] 64)).alloc (.cells #[.func (.func 228) #[] #[]] 256))) from (alloc_old.trans (alloc_old.mono (by simp))).trans (alloc_old.mono (by simp; omega)))
  go_enter Tryz.func211, Tryz.ntmps211
  go_wp2_with (first | (go_at_call 230; (with_reducible refine (q6.out _ _ BA.out).mono ?_); rintro e w1 ⟨rfl, h1⟩; have B1 := Lib.hid h1; clear h1; refine Hid.out ?_))
  refine Lib.hid ?_
  have B2 := Lib.hid (BA.out.trans (B1.out.mono (Below.size BA.out)))
  obtain ⟨⟨a0, a1, a2, a3, a4, a5⟩, _⟩ := C1.out _ B1.out
  obtain ⟨⟨b0, b1, b2, b3, b4, b5⟩, _⟩ := C2.out _ B1.out
  have D := Lib.hid (show ∀ X, Below w1.heap.size w1 X → X.cell? ⟨w.heap.size, 3, none⟩ = some (.slice A4 an4 ac4) ∧ X.cell? ⟨w.heap.size, 4, none⟩ = some (.slice A5 an5 ac5) ∧ X.cell? ⟨w.heap.size + 1, 3, none⟩ = some (.slice Y4 yn4 yc4) ∧ X.cell? ⟨w.heap.size + 1, 4, none⟩ = some (.slice Y5 yn5 yc5) from fun X hb =>
    have x1 := (C1.out _ (belT B1.out hb)).1
    have x2 := (C2.out _ (belT B1.out hb)).1
    ⟨x1.2.2.2.1, x1.2.2.2.2.1, x2.2.2.2.1, x2.2.2.2.2.1⟩)
  go_wp2_with (first | (go_at_call 232; (with_reducible refine (q3.out _ B2.out).mono ?_); rintro e w2 ⟨rfl, h1⟩; have B3 := Lib.hid h1; have BX := Lib.hid (belT B2.out h1); clear h1; obtain ⟨x1, x2, x3, x4⟩ := D.out _ B3.out) | (go_at_call 233; (with_reducible refine (q4.out _ BX.out).mono ?_); rintro e w3 ⟨rfl, h1⟩; have B4 := Lib.hid (belT B3.out h1); have BY := Lib.hid (belT BX.out h1); clear h1; obtain ⟨y1, y2, y3, y4⟩ := D.out _ B4.out) | (go_at_call 234; (with_reducible refine (q5.out _ BY.out).mono ?_); rintro e w4 ⟨rfl, h1⟩; have BZ := Lib.hid (belT BY.out h1); clear h1))
  go_ret
  exact ⟨by simp, BZ.out⟩
set_option maxRecDepth 100000 in
set_option maxHeartbeats 4000000 in
theorem SameG_f3 (kd : Int) (A3 A4 A5 A6 : Option Addr) (an3 ac3 an4 ac4 an5 ac5 an6 ac6 : Nat) (Y3 Y4 Y5 Y6 : Option Addr) (yn3 yc3 yn4 yc4 yn5 yc5 yn6 yc6 : Nat) (w : World) (q3 : ∀ X, Below w.heap.size w X → Calls Tryz.prog 232 #[.slice A3 an3 ac3, .slice Y3 yn3 yc3] X fun e w' => e = .returned (.bool false) ∧ Below X.heap.size X w') (q6 : ∀ f X, Below w.heap.size w X → Calls Tryz.prog 230 #[.slice A6 an6 ac6, .slice Y6 yn6 yc6, f] X fun e w' => e = .returned (.bool true) ∧ Below X.heap.size X w') : Calls Tryz.prog 211 #[.agg #[.int .i64 kd, .string ⟨#[]⟩, .slice A3 an3 ac3, .slice A4 an4 ac4, .slice A5 an5 ac5, .slice A6 an6 ac6], .agg #[.int .i64 kd, .string ⟨#[]⟩, .slice Y3 yn3 yc3, .slice Y4 yn4 yc4, .slice Y5 yn5 yc5, .slice Y6 yn6 yc6]] w fun e w' => e = .returned (.bool false) ∧ Below w.heap.size w w' := by
  have hmf : ∀ (fn : Fn) (first cap : Array Value) (w : World), (Instr.makeFunc fn first cap).run Tryz.prog w = .ok (.func fn first cap) w := fun _ _ _ _ => rfl
  have hsf : ∀ (a : Addr) (f : Fn) (x y : Array Value) (w : World) (m : Mode), (store a (.func f x y) m).run Tryz.prog w = stored Tryz.prog w a (.func f x y) m := fun a f x y w m => run_store Tryz.prog w a _ m rfl
  have q3 := Lib.hid q3
  have q6 := Lib.hid q6
  have C1 := Lib.hid (fun w1 (hb : Below ((((w.alloc (.cells #[.int .i64 kd, .string ⟨#[]⟩, .slice A3 an3 ac3, .slice A4 an4 ac4, .slice A5 an5 ac5, .slice A6 an6 ac6] 64)).alloc (.cells #[.int .i64 kd, .string ⟨#[]⟩, .slice Y3 yn3 yc3, .slice Y4 yn4 yc4, .slice Y5 yn5 yc5, .slice Y6 yn6 yc6] 64)).alloc (.cells #[.func (.func 228) #[] #[]] 256))).heap.size ((((w.alloc (.cells #[.int .i64 kd, .string ⟨#[]⟩, .slice A3 an3 ac3, .slice A4 an4 ac4, .slice A5 an5 ac5, .slice A6 an6 ac6] 64)).alloc (.cells #[.int .i64 kd, .string ⟨#[]⟩, .slice Y3 yn3 yc3, .slice Y4 yn4 yc4, .slice Y5 yn5 yc5, .slice Y6 yn6 yc6] 64)).alloc (.cells #[.func (.func 228) #[] #[]] 256))) w1) => cells6 (blk_below (show ((((w.alloc (.cells #[.int .i64 kd, .string ⟨#[]⟩, .slice A3 an3 ac3, .slice A4 an4 ac4, .slice A5 an5 ac5, .slice A6 an6 ac6] 64)).alloc (.cells #[.int .i64 kd, .string ⟨#[]⟩, .slice Y3 yn3 yc3, .slice Y4 yn4 yc4, .slice Y5 yn5 yc5, .slice Y6 yn6 yc6] 64)).alloc (.cells #[.func (.func 228) #[] #[]] 256))).heap[w.heap.size]? = some (.cells #[.int .i64 kd, .string ⟨#[]⟩, .slice A3 an3 ac3, .slice A4 an4 ac4, .slice A5 an5 ac5, .slice A6 an6 ac6] 64) from blk_below (blk_below (heap_alloc_new w _) alloc_old) alloc_old) hb))
  have C2 := Lib.hid (fun w1 (hb : Below ((((w.alloc (.cells #[.int .i64 kd, .string ⟨#[]⟩, .slice A3 an3 ac3, .slice A4 an4 ac4, .slice A5 an5 ac5, .slice A6 an6 ac6] 64)).alloc (.cells #[.int .i64 kd, .string ⟨#[]⟩, .slice Y3 yn3 yc3, .slice Y4 yn4 yc4, .slice Y5 yn5 yc5, .slice Y6 yn6 yc6] 64)).alloc (.cells #[.func (.func 228) #[] #[]] 256))).heap.size ((((w.alloc (.cells #[.int .i64 kd, .string ⟨#[]⟩, .slice A3 an3 ac3, .slice A4 an4 ac4, .slice A5 an5 ac5, .slice A6 an6 ac6] 64)).alloc (.cells #[.int .i64 kd, .string ⟨#[]⟩, .slice Y3 yn3 yc3, .slice Y4 yn4 yc4, .slice Y5 yn5 yc5, .slice Y6 yn6 yc6] 64)).alloc (.cells #[.func (.func 228) #[] #[]] 256))) w1) => cells6 (blk_below (show ((((w.alloc (.cells #[.int .i64 kd, .string ⟨#[]⟩, .slice A3 an3 ac3, .slice A4 an4 ac4, .slice A5 an5 ac5, .slice A6 an6 ac6] 64)).alloc (.cells #[.int .i64 kd, .string ⟨#[]⟩, .slice Y3 yn3 yc3, .slice Y4 yn4 yc4, .slice Y5 yn5 yc5, .slice Y6 yn6 yc6] 64)).alloc (.cells #[.func (.func 228) #[] #[]] 256))).heap[w.heap.size + 1]? = some (.cells #[.int .i64 kd, .string ⟨#[]⟩, .slice Y3 yn3 yc3, .slice Y4 yn4 yc4, .slice Y5 yn5 yc5, .slice Y6 yn6 yc6] 64) from blk_below (new_next w _ _) alloc_old) hb))
  have BA := Lib.hid (show Below w.heap.size w ((((w.alloc (.cells #[.int .i64 kd, .string ⟨#[]⟩, .slice A3 an3 ac3, .slice A4 an4 ac4, .slice A5 an5 ac5, .slice A6 an6 ac6] 64)).alloc (.cells #[.int .i64 kd, .string ⟨#[]⟩, .slice Y3 yn3 yc3, .slice Y4 yn4 yc4, .slice Y5 yn5 yc5, .slice Y6 yn6 yc6] 64)).alloc (.cells #[.func (.func 228) #[] #[]] 256))) from (alloc_old.trans (alloc_old.mono (by simp))).trans (alloc_old.mono (by simp; omega)))
  go_enter Tryz.func211, Tryz.ntmps211
  go_wp2_with (first | (go_at_call 230; (with_reducible refine (q6.out _ _ BA.out).mono ?_); rintro e w1 ⟨rfl, h1⟩; have B1 := Lib.hid h1; clear h1; refine Hid.out ?_))
  refine Lib.hid ?_
  have B2 := Lib.hid (BA.out.trans (B1.out.mono (Below.size BA.out)))
  obtain ⟨⟨a0, a1, a2, a3, a4, a5⟩, _⟩ := C1.out _ B1.out
  obtain ⟨⟨b0, b1, b2, b3, b4, b5⟩, _⟩ := C2.out _ B1.out
  have D := Lib.hid (show ∀ X, Below w1.heap.size w1 X → X.cell? ⟨w.heap.size, 3, none⟩ = some (.slice A4 an4 ac4) ∧ X.cell? ⟨w.heap.size, 4, none⟩ = some (.slice A5 an5 ac5) ∧ X.cell? ⟨w.heap.size + 1, 3, none⟩ = some (.slice Y4 yn4 yc4) ∧ X.cell? ⟨w.heap.size + 1, 4, none⟩ = some (.slice Y5 yn5 yc5) from fun X hb =>
    have x1 := (C1.out _ (belT B1.out hb)).1
    have x2 := (C2.out _ (belT B1.out hb)).1
    ⟨x1.2.2.2.1, x1.2.2.2.2.1, x2.2.2.2.1, x2.2.2.2.2.1⟩)
  go_wp2_with (first | (go_at_call 232; (with_reducible refine (q3.out _ B2.out).mono ?_); rintro e w2 ⟨rfl, h1⟩; have B3 := Lib.hid h1; have BX := Lib.hid (belT B2.out h1); clear h1; obtain ⟨x1, x2, x3, x4⟩ := D.out _ B3.out))
  go_ret
  exact ⟨by simp, BX.out⟩
set_option maxRecDepth 100000 in
set_option maxHeartbeats 4000000 in
theorem SameG_f4 (kd : Int) (A3 A4 A5 A6 : Option Addr) (an3 ac3 an4 ac4 an5 ac5 an6 ac6 : Nat) (Y3 Y4 Y5 Y6 : Option Addr) (yn3 yc3 yn4 yc4 yn5 yc5 yn6 yc6 : Nat) (w : World) (q3 : ∀ X, Below w.heap.size w X → Calls Tryz.prog 232 #[.slice A3 an3 ac3, .slice Y3 yn3 yc3] X fun e w' => e = .returned (.bool true) ∧ Below X.heap.size X w') (q4 : ∀ X, Below w.heap.size w X → Calls Tryz.prog 233 #[.slice A4 an4 ac4, .slice Y4 yn4 yc4] X fun e w' => e = .returned (.bool false) ∧ Below X.heap.size X w') (q6 : ∀ f X, Below w.heap.size w X → Calls Tryz.prog 230 #[.slice A6 an6 ac6, .slice Y6 yn6 yc6, f] X fun e w' => e = .returned (.bool true) ∧ Below X.heap.size X w') : Calls Tryz.prog 211 #[.agg #[.int .i64 kd, .string ⟨#[]⟩, .slice A3 an3 ac3, .slice A4 an4 ac4, .slice A5 an5 ac5, .slice A6 an6 ac6], .agg #[.int .i64 kd, .string ⟨#[]⟩, .slice Y3 yn3 yc3, .slice Y4 yn4 yc4, .slice Y5 yn5 yc5, .slice Y6 yn6 yc6]] w fun e w' => e = .returned (.bool false) ∧ Below w.heap.size w w' := by
  have hmf : ∀ (fn : Fn) (first cap : Array Value) (w : World), (Instr.makeFunc fn first cap).run Tryz.prog w = .ok (.func fn first cap) w := fun _ _ _ _ => rfl
  have hsf : ∀ (a : Addr) (f : Fn) (x y : Array Value) (w : World) (m : Mode), (store a (.func f x y) m).run Tryz.prog w = stored Tryz.prog w a (.func f x y) m := fun a f x y w m => run_store Tryz.prog w a _ m rfl
  have q3 := Lib.hid q3
  have q4 := Lib.hid q4
  have q6 := Lib.hid q6
  have C1 := Lib.hid (fun w1 (hb : Below ((((w.alloc (.cells #[.int .i64 kd, .string ⟨#[]⟩, .slice A3 an3 ac3, .slice A4 an4 ac4, .slice A5 an5 ac5, .slice A6 an6 ac6] 64)).alloc (.cells #[.int .i64 kd, .string ⟨#[]⟩, .slice Y3 yn3 yc3, .slice Y4 yn4 yc4, .slice Y5 yn5 yc5, .slice Y6 yn6 yc6] 64)).alloc (.cells #[.func (.func 228) #[] #[]] 256))).heap.size ((((w.alloc (.cells #[.int .i64 kd, .string ⟨#[]⟩, .slice A3 an3 ac3, .slice A4 an4 ac4, .slice A5 an5 ac5, .slice A6 an6 ac6] 64)).alloc (.cells #[.int .i64 kd, .string ⟨#[]⟩, .slice Y3 yn3 yc3, .slice Y4 yn4 yc4, .slice Y5 yn5 yc5, .slice Y6 yn6 yc6] 64)).alloc (.cells #[.func (.func 228) #[] #[]] 256))) w1) => cells6 (blk_below (show ((((w.alloc (.cells #[.int .i64 kd, .string ⟨#[]⟩, .slice A3 an3 ac3, .slice A4 an4 ac4, .slice A5 an5 ac5, .slice A6 an6 ac6] 64)).alloc (.cells #[.int .i64 kd, .string ⟨#[]⟩, .slice Y3 yn3 yc3, .slice Y4 yn4 yc4, .slice Y5 yn5 yc5, .slice Y6 yn6 yc6] 64)).alloc (.cells #[.func (.func 228) #[] #[]] 256))).heap[w.heap.size]? = some (.cells #[.int .i64 kd, .string ⟨#[]⟩, .slice A3 an3 ac3, .slice A4 an4 ac4, .slice A5 an5 ac5, .slice A6 an6 ac6] 64) from blk_below (blk_below (heap_alloc_new w _) alloc_old) alloc_old) hb))
  have C2 := Lib.hid (fun w1 (hb : Below ((((w.alloc (.cells #[.int .i64 kd, .string ⟨#[]⟩, .slice A3 an3 ac3, .slice A4 an4 ac4, .slice A5 an5 ac5, .slice A6 an6 ac6] 64)).alloc (.cells #[.int .i64 kd, .string ⟨#[]⟩, .slice Y3 yn3 yc3, .slice Y4 yn4 yc4, .slice Y5 yn5 yc5, .slice Y6 yn6 yc6] 64)).alloc (.cells #[.func (.func 228) #[] #[]] 256))).heap.size ((((w.alloc (.cells #[.int .i64 kd, .string ⟨#[]⟩, .slice A3 an3 ac3, .slice A4 an4 ac4, .slice A5 an5 ac5, .slice A6 an6 ac6] 64)).alloc (.cells #[.int .i64 kd, .string ⟨#[]⟩, .slice Y3 yn3 yc3, .slice Y4 yn4 yc4, .slice Y5 yn5 yc5, .slice Y6 yn6 yc6] 64)).alloc (.cells #[.func (.func 228) #[] #[]] 256))) w1) => cells6 (blk_below (show ((((w.alloc (.cells #[.int .i64 kd, .string ⟨#[]⟩, .slice A3 an3 ac3, .slice A4 an4 ac4, .slice A5 an5 ac5, .slice A6 an6 ac6] 64)).alloc (.cells #[.int .i64 kd, .string ⟨#[]⟩, .slice Y3 yn3 yc3, .slice Y4 yn4 yc4, .slice Y5 yn5 yc5, .slice Y6 yn6 yc6] 64)).alloc (.cells #[.func (.func 228) #[] #[]] 256))).heap[w.heap.size + 1]? = some (.cells #[.int .i64 kd, .string ⟨#[]⟩, .slice Y3 yn3 yc3, .slice Y4 yn4 yc4, .slice Y5 yn5 yc5, .slice Y6 yn6 yc6] 64) from blk_below (new_next w _ _) alloc_old) hb))
  have BA := Lib.hid (show Below w.heap.size w ((((w.alloc (.cells #[.int .i64 kd, .string ⟨#[]⟩, .slice A3 an3 ac3, .slice A4 an4 ac4, .slice A5 an5 ac5, .slice A6 an6 ac6] 64)).alloc (.cells #[.int .i64 kd, .string ⟨#[]⟩, .slice Y3 yn3 yc3, .slice Y4 yn4 yc4, .slice Y5 yn5 yc5, .slice Y6 yn6 yc6] 64)).alloc (.cells #[.func (.func 228) #[] #[]] 256))) from (alloc_old.trans (alloc_old.mono (by simp))).trans (alloc_old.mono (by simp; omega)))
  go_enter Tryz.func211, Tryz.ntmps211
  go_wp2_with (first | (go_at_call 230; (with_reducible refine (q6.out _ _ BA.out).mono ?_); rintro e w1 ⟨rfl, h1⟩; have B1 := Lib.hid h1; clear h1; refine Hid.out ?_))
  refine Lib.hid ?_
  have B2 := Lib.hid (BA.out.trans (B1.out.mono (Below.size BA.out)))
  obtain ⟨⟨a0, a1, a2, a3, a4, a5⟩, _⟩ := C1.out _ B1.out
  obtain ⟨⟨b0, b1, b2, b3, b4, b5⟩, _⟩ := C2.out _ B1.out
  have D := Lib.hid (show ∀ X, Below w1.heap.size w1 X → X.cell? ⟨w.heap.size, 3, none⟩ = some (.slice A4 an4 ac4) ∧ X.cell? ⟨w.heap.size, 4, none⟩ = some (.slice A5 an5 ac5) ∧ X.cell? ⟨w.heap.size + 1, 3, none⟩ = some (.slice Y4 yn4 yc4) ∧ X.cell? ⟨w.heap.size + 1, 4, none⟩ = some (.slice Y5 yn5 yc5) from fun X hb =>
    have x1 := (C1.out _ (belT B1.out hb)).1
    have x2 := (C2.out _ (belT B1.out hb)).1
    ⟨x1.2.2.2.1, x1.2.2.2.2.1, x2.2.2.2.1, x2.2.2.2.2.1⟩)
  go_wp2_with (first | (go_at_call 232; (with_reducible refine (q3.out _ B2.out).mono ?_); rintro e w2 ⟨rfl, h1⟩; have B3 := Lib.hid h1; have BX := Lib.hid (belT B2.out h1); clear h1; obtain ⟨x1, x2, x3, x4⟩ := D.out _ B3.out) | (go_at_call 233; (with_reducible refine (q4.out _ BX.out).mono ?_); rintro e w3 ⟨rfl, h1⟩; have B4 := Lib.hid (belT B3.out h1); have BY := Lib.hid (belT BX.out h1); clear h1; obtain ⟨y1, y2, y3, y4⟩ := D.out _ B4.out))
  go_ret
  exact ⟨by simp, BY.out⟩
set_option maxRecDepth 100000 in
set_option maxHeartbeats 4000000 in
theorem SameG_f5 (kd : Int) (A3 A4 A5 A6 : Option Addr) (an3 ac3 an4 ac4 an5 ac5 an6 ac6 : Nat) (Y3 Y4 Y5 Y6 : Option Addr) (yn3 yc3 yn4 yc4 yn5 yc5 yn6 yc6 : Nat) (w : World) (q3 : ∀ X, Below w.heap.size w X → Calls Tryz.prog 232 #[.slice A3 an3 ac3, .slice Y3 yn3 yc3] X fun e w' => e = .returned (.bool true) ∧ Below X.heap.size X w') (q4 : ∀ X, Below w.heap.size w X → Calls Tryz.prog 233 #[.slice A4 an4 ac4, .slice Y4 yn4 yc4] X fun e w' => e = .returned (.bool true) ∧ Below X.heap.size X w') (q5 : ∀ X, Below w.heap.size w X → Calls Tryz.prog 234 #[.slice A5 an5 ac5, .slice Y5 yn5 yc5] X fun e w' => e = .returned (.bool false) ∧ Below X.heap.size X w') (q6 : ∀ f X, Below w.heap.size w X → Calls Tryz.prog 230 #[.slice A6 an6 ac6, .slice Y6 yn6 yc6, f] X fun e w' => e = .returned (.bool true) ∧ Below X.heap.size X w') : Calls Tryz.prog 211 #[.agg #[.int .i64 kd, .string ⟨#[]⟩, .slice A3 an3 ac3, .slice A4 an4 ac4, .slice A5 an5 ac5, .slice A6 an6 ac6], .agg #[.int .i64 kd, .string ⟨#[]⟩, .slice Y3 yn3 yc3, .slice Y4 yn4 yc4, .slice Y5 yn5 yc5, .slice Y6 yn6 yc6]] w fun e w' => e = .returned (.bool false) ∧ Below w.heap.size w w' := by
  have hmf : ∀ (fn : Fn) (first cap : Array Value) (w : World), (Instr.makeFunc fn first cap).run Tryz.prog w = .ok (.func fn first cap) w := fun _ _ _ _ => rfl
  have hsf : ∀ (a : Addr) (f : Fn) (x y : Array Value) (w : World) (m : Mode), (store a (.func f x y) m).run Tryz.prog w = stored Tryz.prog w a (.func f x y) m := fun a f x y w m => run_store Tryz.prog w a _ m rfl
  have q3 := Lib.hid q3
  have q4 := Lib.hid q4
  have q5 := Lib.hid q5
  have q6 := Lib.hid q6
  have C1 := Lib.hid (fun w1 (hb : Below ((((w.alloc (.cells #[.int .i64 kd, .string ⟨#[]⟩, .slice A3 an3 ac3, .slice A4 an4 ac4, .slice A5 an5 ac5, .slice A6 an6 ac6] 64)).alloc (.cells #[.int .i64 kd, .string ⟨#[]⟩, .slice Y3 yn3 yc3, .slice Y4 yn4 yc4, .slice Y5 yn5 yc5, .slice Y6 yn6 yc6] 64)).alloc (.cells #[.func (.func 228) #[] #[]] 256))).heap.size ((((w.alloc (.cells #[.int .i64 kd, .string ⟨#[]⟩, .slice A3 an3 ac3, .slice A4 an4 ac4, .slice A5 an5 ac5, .slice A6 an6 ac6] 64)).alloc (.cells #[.int .i64 kd, .string ⟨#[]⟩, .slice Y3 yn3 yc3, .slice Y4 yn4 yc4, .slice Y5 yn5 yc5, .slice Y6 yn6 yc6] 64)).alloc (.cells #[.func (.func 228) #[] #[]] 256))) w1) => cells6 (blk_below (show ((((w.alloc (.cells #[.int .i64 kd, .string ⟨#[]⟩, .slice A3 an3 ac3, .slice A4 an4 ac4, .slice A5 an5 ac5, .slice A6 an6 ac6] 64)).alloc (.cells #[.int .i64 kd, .string ⟨#[]⟩, .slice Y3 yn3 yc3, .slice Y4 yn4 yc4, .slice Y5 yn5 yc5, .slice Y6 yn6 yc6] 64)).alloc (.cells #[.func (.func 228) #[] #[]] 256))).heap[w.heap.size]? = some (.cells #[.int .i64 kd, .string ⟨#[]⟩, .slice A3 an3 ac3, .slice A4 an4 ac4, .slice A5 an5 ac5, .slice A6 an6 ac6] 64) from blk_below (blk_below (heap_alloc_new w _) alloc_old) alloc_old) hb))
  have C2 := Lib.hid (fun w1 (hb : Below ((((w.alloc (.cells #[.int .i64 kd, .string ⟨#[]⟩, .slice A3 an3 ac3, .slice A4 an4 ac4, .slice A5 an5 ac5, .slice A6 an6 ac6] 64)).alloc (.cells #[.int .i64 kd, .string ⟨#[]⟩, .slice Y3 yn3 yc3, .slice Y4 yn4 yc4, .slice Y5 yn5 yc5, .slice Y6 yn6 yc6] 64)).alloc (.cells #[.func (.func 228) #[] #[]] 256))).heap.size ((((w.alloc (.cells #[.int .i64 kd, .string ⟨#[]⟩, .slice A3 an3 ac3, .slice A4 an4 ac4, .slice A5 an5 ac5, .slice A6 an6 ac6] 64)).alloc (.cells #[.int .i64 kd, .string ⟨#[]⟩, .slice Y3 yn3 yc3, .slice Y4 yn4 yc4, .slice Y5 yn5 yc5, .slice Y6 yn6 yc6] 64)).alloc (.cells #[.func (.func 228) #[] #[]] 256))) w1) => cells6 (blk_below (show ((((w.alloc (.cells #[.int .i64 kd, .string ⟨#[]⟩, .slice A3 an3 ac3, .slice A4 an4 ac4, .slice A5 an5 ac5, .slice A6 an6 ac6] 64)).alloc (.cells #[.int .i64 kd, .string ⟨#[]⟩, .slice Y3 yn3 yc3, .slice Y4 yn4 yc4, .slice Y5 yn5 yc5, .slice Y6 yn6 yc6] 64)).alloc (.cells #[.func (.func 228) #[] #[]] 256))).heap[w.heap.size + 1]? = some (.cells #[.int .i64 kd, .string ⟨#[]⟩, .slice Y3 yn3 yc3, .slice Y4 yn4 yc4, .slice Y5 yn5 yc5, .slice Y6 yn6 yc6] 64) from blk_below (new_next w _ _) alloc_old) hb))
  have BA := Lib.hid (show Below w.heap.size w ((((w.alloc (.cells #[.int .i64 kd, .string ⟨#[]⟩, .slice A3 an3 ac3, .slice A4 an4 ac4, .slice A5 an5 ac5, .slice A6 an6 ac6] 64)).alloc (.cells #[.int .i64 kd, .string ⟨#[]⟩, .slice Y3 yn3 yc3, .slice Y4 yn4 yc4, .slice Y5 yn5 yc5, .slice Y6 yn6 yc6] 64)).alloc (.cells #[.func (.func 228) #[] #[]] 256))) from (alloc_old.trans (alloc_old.mono (by simp))).trans (alloc_old.mono (by simp; omega)))
  go_enter Tryz.func211, Tryz.ntmps211
  go_wp2_with (first | (go_at_call 230; (with_reducible refine (q6.out _ _ BA.out).mono ?_); rintro e w1 ⟨rfl, h1⟩; have B1 := Lib.hid h1; clear h1; refine Hid.out ?_))
  refine Lib.hid ?_
  have B2 := Lib.hid (BA.out.trans (B1.out.mono (Below.size BA.out)))
  obtain ⟨⟨a0, a1, a2, a3, a4, a5⟩, _⟩ := C1.out _ B1.out
  obtain ⟨⟨b0, b1, b2, b3, b4, b5⟩, _⟩ := C2.out _ B1.out
  have D := Lib.hid (show ∀ X, Below w1.heap.size w1 X → X.cell? ⟨w.heap.size, 3, none⟩ = some (.slice A4 an4 ac4) ∧ X.cell? ⟨w.heap.size, 4, none⟩ = some (.slice A5 an5 ac5) ∧ X.cell? ⟨w.heap.size + 1, 3, none⟩ = some (.slice Y4 yn4 yc4) ∧ X.cell? ⟨w.heap.size + 1, 4, none⟩ = some (.slice Y5 yn5 yc5) from fun X hb =>
    have x1 := (C1.out _ (belT B1.out hb)).1
    have x2 := (C2.out _ (belT B1.out hb)).1
    ⟨x1.2.2.2.1, x1.2.2.2.2.1, x2.2.2.2.1, x2.2.2.2.2.1⟩)
  go_wp2_with (first | (go_at_call 232; (with_reducible refine (q3.out _ B2.out).mono ?_); rintro e w2 ⟨rfl, h1⟩; have B3 := Lib.hid h1; have BX := Lib.hid (belT B2.out h1); clear h1; obtain ⟨x1, x2, x3, x4⟩ := D.out _ B3.out) | (go_at_call 233; (with_reducible refine (q4.out _ BX.out).mono ?_); rintro e w3 ⟨rfl, h1⟩; have B4 := Lib.hid (belT B3.out h1); have BY := Lib.hid (belT BX.out h1); clear h1; obtain ⟨y1, y2, y3, y4⟩ := D.out _ B4.out) | (go_at_call 234; (with_reducible refine (q5.out _ BY.out).mono ?_); rintro e w4 ⟨rfl, h1⟩; have BZ := Lib.hid (belT BY.out h1); clear h1))
  go_ret
  exact ⟨by simp, BZ.out⟩
set_option maxRecDepth 100000 in
set_option maxHeartbeats 4000000 in
theorem SameG_f6 (kd : Int) (A3 A4 A5 A6 : Option Addr) (an3 ac3 an4 ac4 an5 ac5 an6 ac6 : Nat) (Y3 Y4 Y5 Y6 : Option Addr) (yn3 yc3 yn4 yc4 yn5 yc5 yn6 yc6 : Nat) (w : World) (q3 : ∀ X, Below w.heap.size w X → Calls Tryz.prog 232 #[.slice A3 an3 ac3, .slice Y3 yn3 yc3] X fun e w' => e = .returned (.bool true) ∧ Below X.heap.size X w') (q4 : ∀ X, Below w.heap.size w X → Calls Tryz.prog 233 #[.slice A4 an4 ac4, .slice Y4 yn4 yc4] X fun e w' => e = .returned (.bool true) ∧ Below X.heap.size X w') (q5 : ∀ X, Below w.heap.size w X → Calls Tryz.prog 234 #[.slice A5 an5 ac5, .slice Y5 yn5 yc5] X fun e w' => e = .returned (.bool true) ∧ Below X.heap.size X w') (q6 : ∀ f X, Below w.heap.size w X → Calls Tryz.prog 230 #[.slice A6 an6 ac6, .slice Y6 yn6 yc6, f] X fun e w' => e = .returned (.bool false) ∧ Below X.heap.size X w') : Calls Tryz.prog 211 #[.agg #[.int .i64 kd, .string ⟨#[]⟩, .slice A3 an3 ac3, .slice A4 an4 ac4, .slice A5 an5 ac5, .slice A6 an6 ac6], .agg #[.int .i64 kd, .string ⟨#[]⟩, .slice Y3 yn3 yc3, .slice Y4 yn4 yc4, .slice Y5 yn5 yc5, .slice Y6 yn6 yc6]] w fun e w' => e = .returned (.bool false) ∧ Below w.heap.size w w' := by
  have hmf : ∀ (fn : Fn) (first cap : Array Value) (w : World), (Instr.makeFunc fn first cap).run Tryz.prog w = .ok (.func fn first cap) w := fun _ _ _ _ => rfl
  have hsf : ∀ (a : Addr) (f : Fn) (x y : Array Value) (w : World) (m : Mode), (store a (.func f x y) m).run Tryz.prog w = stored Tryz.prog w a (.func f x y) m := fun a f x y w m => run_store Tryz.prog w a _ m rfl
  have q3 := Lib.hid q3
  have q4 := Lib.hid q4
  have q5 := Lib.hid q5
  have q6 := Lib.hid q6
  have C1 := Lib.hid (fun w1 (hb : Below ((((w.alloc (.cells #[.int .i64 kd, .string ⟨#[]⟩, .slice A3 an3 ac3, .slice A4 an4 ac4, .slice A5 an5 ac5, .slice A6 an6 ac6] 64)).alloc (.cells #[.int .i64 kd, .string ⟨#[]⟩, .slice Y3 yn3 yc3, .slice Y4 yn4 yc4, .slice Y5 yn5 yc5, .slice Y6 yn6 yc6] 64)).alloc (.cells #[.func (.func 228) #[] #[]] 256))).heap.size ((((w.alloc (.cells #[.int .i64 kd, .string ⟨#[]⟩, .slice A3 an3 ac3, .slice A4 an4 ac4, .slice A5 an5 ac5, .slice A6 an6 ac6] 64)).alloc (.cells #[.int .i64 kd, .string ⟨#[]⟩, .slice Y3 yn3 yc3, .slice Y4 yn4 yc4, .slice Y5 yn5 yc5, .slice Y6 yn6 yc6] 64)).alloc (.cells #[.func (.func 228) #[] #[]] 256))) w1) => cells6 (blk_below (show ((((w.alloc (.cells #[.int .i64 kd, .string ⟨#[]⟩, .slice A3 an3 ac3, .slice A4 an4 ac4, .slice A5 an5 ac5, .slice A6 an6 ac6] 64)).alloc (.cells #[.int .i64 kd, .string ⟨#[]⟩, .slice Y3 yn3 yc3, .slice Y4 yn4 yc4, .slice Y5 yn5 yc5, .slice Y6 yn6 yc6] 64)).alloc (.cells #[.func (.func 228) #[] #[]] 256))).heap[w.heap.size]? = some (.cells #[.int .i64 kd, .string ⟨#[]⟩, .slice A3 an3 ac3, .slice A4 an4 ac4, .slice A5 an5 ac5, .slice A6 an6 ac6] 64) from blk_below (blk_below (heap_alloc_new w _) alloc_old) alloc_old) hb))
  have C2 := Lib.hid (fun w1 (hb : Below ((((w.alloc (.cells #[.int .i64 kd, .string ⟨#[]⟩, .slice A3 an3 ac3, .slice A4 an4 ac4, .slice A5 an5 ac5, .slice A6 an6 ac6] 64)).alloc (.cells #[.int .i64 kd, .string ⟨#[]⟩, .slice Y3 yn3 yc3, .slice Y4 yn4 yc4, .slice Y5 yn5 yc5, .slice Y6 yn6 yc6] 64)).alloc (.cells #[.func (.func 228) #[] #[]] 256))).heap.size ((((w.alloc (.cells #[.int .i64 kd, .string ⟨#[]⟩, .slice A3 an3 ac3, .slice A4 an4 ac4, .slice A5 an5 ac5, .slice A6 an6 ac6] 64)).alloc (.cells #[.int .i64 kd, .string ⟨#[]⟩, .slice Y3 yn3 yc3, .slice Y4 yn4 yc4, .slice Y5 yn5 yc5, .slice Y6 yn6 yc6] 64)).alloc (.cells #[.func (.func 228) #[] #[]] 256))) w1) => cells6 (blk_below (show ((((w.alloc (.cells #[.int .i64 kd, .string ⟨#[]⟩, .slice A3 an3 ac3, .slice A4 an4 ac4, .slice A5 an5 ac5, .slice A6 an6 ac6] 64)).alloc (.cells #[.int .i64 kd, .string ⟨#[]⟩, .slice Y3 yn3 yc3, .slice Y4 yn4 yc4, .slice Y5 yn5 yc5, .slice Y6 yn6 yc6] 64)).alloc (.cells #[.func (.func 228) #[] #[]] 256))).heap[w.heap.size + 1]? = some (.cells #[.int .i64 kd, .string ⟨#[]⟩, .slice Y3 yn3 yc3, .slice Y4 yn4 yc4, .slice Y5 yn5 yc5, .slice Y6 yn6 yc6] 64) from blk_below (new_next w _ _) alloc_old) hb))
  have BA := Lib.hid (show Below w.heap.size w ((((w.alloc (.cells #[.int .i64 kd, .string ⟨#[]⟩, .slice A3 an3 ac3, .slice A4 an4 ac4, .slice A5 an5 ac5, .slice A6 an6 ac6] 64)).alloc (.cells #[.int .i64 kd, .string ⟨#[]⟩, .slice Y3 yn3 yc3, .slice Y4 yn4 yc4, .slice Y5 yn5 yc5, .slice Y6 yn6 yc6] 64)).alloc (.cells #[.func (.func 228) #[] #[]] 256))) from (alloc_old.trans (alloc_old.mono (by simp))).trans (alloc_old.mono (by simp; omega)))
  go_enter Tryz.func211, Tryz.ntmps211
  go_wp2_with (first | (go_at_call 230; (with_reducible refine (q6.out _ _ BA.out).mono ?_); rintro e w1 ⟨rfl, h1⟩; have B1 := Lib.hid h1; clear h1; refine Hid.out ?_))
  refine Lib.hid ?_
  have B2 := Lib.hid (BA.out.trans (B1.out.mono (Below.size BA.out)))
  obtain ⟨⟨a0, a1, a2, a3, a4, a5⟩, _⟩ := C1.out _ B1.out
  obtain ⟨⟨b0, b1, b2, b3, b4, b5⟩, _⟩ := C2.out _ B1.out
  have D := Lib.hid (show ∀ X, Below w1.heap.size w1 X → X.cell? ⟨w.heap.size, 3, none⟩ = some (.slice A4 an4 ac4) ∧ X.cell? ⟨w.heap.size, 4, none⟩ = some (.slice A5 an5 ac5) ∧ X.cell? ⟨w.heap.size + 1, 3, none⟩ = some (.slice Y4 yn4 yc4) ∧ X.cell? ⟨w.heap.size + 1, 4, none⟩ = some (.slice Y5 yn5 yc5) from fun X hb =>
    have x1 := (C1.out _ (belT B1.out hb)).1
    have x2 := (C2.out _ (belT B1.out hb)).1
    ⟨x1.2.2.2.1, x1.2.2.2.2.1, x2.2.2.2.1, x2.2.2.2.2.1⟩)
  go_wp2_with (first | (go_at_call 232; (with_reducible refine (q3.out _ B2.out).mono ?_); rintro e w2 ⟨rfl, h1⟩; have B3 := Lib.hid h1; have BX := Lib.hid (belT B2.out h1); clear h1; obtain ⟨x1, x2, x3, x4⟩ := D.out _ B3.out) | (go_at_call 233; (with_reducible refine (q4.out _ BX.out).mono ?_); rintro e w3 ⟨rfl, h1⟩; have B4 := Lib.hid (belT B3.out h1); have BY := Lib.hid (belT BX.out h1); clear h1; obtain ⟨y1, y2, y3, y4⟩ := D.out _ B4.out) | (go_at_call 234; (with_reducible refine (q5.out _ BY.out).mono ?_); rintro e w4 ⟨rfl, h1⟩; have BZ := Lib.hid (belT BY.out h1); clear h1))
  go_ret
  exact ⟨by simp, BZ.out⟩
end Go.Proofs.YticlacjpgjkhcaaGreatDoor
