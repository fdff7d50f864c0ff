/- Plain facts on quarter turns, and the contracts that the law PlaneTurns needs of its calls. -/
import Derived.Test.YtlgfgjcbdnnhfaaPl4
import Derived.RowKit3
namespace Go.Proofs.Ytlgfgjcbdnnhfaa
open Go.ChangeShapes Go.WideShapes Go.ChangeAt Go.RowKit Go.Fl

theorem order_self (d : Ieee.Datum) (h : d.isNaN = false) : d.order d = some .eq := by
  cases d with
  | number s m e => simp [Ieee.Datum.order]
  | infinity s => simp [Ieee.Datum.order]
  | nan s f => cases h
theorem read_near (s : Bool) (m : Nat) : (Ieee.double.read (fz s m)).isNaN = false := by
  have key : ∀ r, r ≤ 2047 * 2 ^ 52 → (Ieee.double.read (Ieee.double.word s r)).isNaN = false := by
    intro r hr
    rw [read_word s r (by omega)]
    split
    · rfl
    · split
      · rfl
      · rw [if_pos (by omega)]; rfl
  unfold fz Ieee.Format.nearest
  split
  · exact key 0 (by omega)
  · refine key _ ?_
    rw [infRung_eq]
    exact Nat.min_le_right _ _
theorem order_fi (n : Int) : FloatKind.f64.format.order (fi n) (fi n) = some .eq := order_self _ (read_near _ _)

theorem trn_eq (k x y : Int) : trn k x y = if k % 4 = 0 then (x, y) else if k % 4 = 1 then (-y, x) else if k % 4 = 2 then (-x, -y) else (y, -x) := by
  unfold trn
  have h : k % 4 = 0 ∨ k % 4 = 1 ∨ k % 4 = 2 ∨ k % 4 = 3 := by omega
  rcases h with h | h | h | h <;> rw [h] <;> simp [rot]
theorem trn_ok (k x y : Int) (hx : okI x = true) (hy : okI y = true) : okI (trn k x y).1 = true ∧ okI (trn k x y).2 = true := rot_ok _ _ _ hx hy
theorem trn_trn (j k x y : Int) : trn j (trn k x y).1 (trn k x y).2 = trn (k + j) x y := by
  have h : k % 4 = 0 ∨ k % 4 = 1 ∨ k % 4 = 2 ∨ k % 4 = 3 := by omega
  have h' : j % 4 = 0 ∨ j % 4 = 1 ∨ j % 4 = 2 ∨ j % 4 = 3 := by omega
  rcases h with h | h | h | h <;> rcases h' with h' | h' | h' | h' <;> simp [trn_eq, h, h', Int.add_emod]
theorem trn_mod (j k x y : Int) (h : j % 4 = k % 4) : trn j x y = trn k x y := by unfold trn; rw [h]
theorem trn_zero (k x y : Int) (h : k % 4 = 0) : trn k x y = (x, y) := by rw [trn_eq, if_pos h]
theorem trn_two (x y : Int) : trn 2 x y = (-x, -y) := by rw [trn_eq]; simp
theorem trn_norm (k x y : Int) : (trn k x y).1 * (trn k x y).1 + (trn k x y).2 * (trn k x y).2 = x * x + y * y := by
  have h : k % 4 = 0 ∨ k % 4 = 1 ∨ k % 4 = 2 ∨ k % 4 = 3 := by omega
  rcases h with h | h | h | h <;> simp [trn_eq, h, Int.neg_mul, Int.mul_neg, Int.add_comm]
theorem trn_add (k x y u v : Int) : trn k (x + u) (y + v) = ((trn k x y).1 + (trn k u v).1, (trn k x y).2 + (trn k u v).2) := by
  have h : k % 4 = 0 ∨ k % 4 = 1 ∨ k % 4 = 2 ∨ k % 4 = 3 := by omega
  rcases h with h | h | h | h <;> simp [trn_eq, h] <;> omega
theorem trn_mul (k x y u v : Int) : trn k (x * u - y * v) (x * v + y * u) = ((trn k x y).1 * u - (trn k x y).2 * v, (trn k x y).1 * v + (trn k x y).2 * u) := by
  have h : k % 4 = 0 ∨ k % 4 = 1 ∨ k % 4 = 2 ∨ k % 4 = 3 := by omega
  rcases h with h | h | h | h <;> simp [trn_eq, h, Int.neg_mul] <;> omega
theorem okI_neg (x : Int) : okI (-x) = okI x := by unfold okI; congr 1; apply propext; omega
theorem trn_okB (k x y : Int) : (okI (trn k x y).1 && okI (trn k x y).2) = (okI x && okI y) := by
  have h : k % 4 = 0 ∨ k % 4 = 1 ∨ k % 4 = 2 ∨ k % 4 = 3 := by omega
  rcases h with h | h | h | h <;> simp [trn_eq, h, okI_neg, Bool.and_comm]
theorem and7 (k : Int) : bits .and .i64 k 7 = k % 8 := by
  have h : (BitVec.ofInt 64 k &&& BitVec.ofInt 64 7).toNat = (k % 8).toNat := by
    rw [BitVec.toNat_and]
    have e : (BitVec.ofInt 64 7).toNat = 2 ^ 3 - 1 := by decide
    rw [e, Nat.and_two_pow_sub_one_eq_mod, BitVec.toNat_ofInt]
    omega
  show IntKind.i64.wrap ((BitVec.ofInt 64 k &&& BitVec.ofInt 64 7).toNat : Int) = _
  rw [h, IntKind.wrap_i64]
  omega
theorem add00 (x y : Int) (hx : okI x = true) (hy : okI y = true) : cSumBits .add .f64 (fi x) (fi y) 0 0 = some (fi x, fi y) := by
  have ax := okI_abs hx
  have ay := okI_abs hy
  unfold cSumBits
  rw [fi_fz, fi_fz, add0 _ _ (by omega), add0 _ _ (by omega), sg_fi, sg_fi]
  rfl
theorem neg00 (x y : Int) (hx : okI x = true) (hy : okI y = true) : cSumBits .add .f64 (Op.negFloat .f64 (fi x)) (Op.negFloat .f64 (fi y)) 0 0 = some (fi (-x), fi (-y)) := by
  have ax := okI_abs hx
  have ay := okI_abs hy
  unfold cSumBits
  rw [fi_fz x, fi_fz y, neg_fz _ _ (by omega), neg_fz _ _ (by omega), add0 _ _ (by omega), add0 _ _ (by omega), sg_not, sg_not, sg_fi, sg_fi]
  rfl
theorem run_neg_complex (a b : Nat) (w : World) : (Op.unary .neg (.complex .f64 a b)).run Try.prog w = .ok (.complex .f64 (Op.negFloat .f64 a) (Op.negFloat .f64 b)) w := rfl
theorem tm_le2 (x : Int) : okI (x.tmod 1048577) = true := by
  have h : (x.tmod 1048577).natAbs ≤ 1048576 := by
    rw [Int.natAbs_tmod]; have := Nat.mod_lt x.natAbs (show 0 < (1048577 : Int).natAbs by decide); omega
  simp [okI]; omega
theorem ptI_yes {a b : Int} (h : (okI a && okI b) = true) : ptI a b = .tuple #[.complex .f64 (fi a) (fi b), .bool true] := by unfold ptI; rw [if_pos h]
theorem ptI_no {a b : Int} (h : (okI a && okI b) = false) : ptI a b = .tuple #[.complex .f64 0 0, .bool false] := by unfold ptI; rw [if_neg (by simp [h])]
theorem wrap64_mod4 (k : Int) : wrap64 k % 4 = k % 4 := by
  have e : wrap64 k = (k + 9223372036854775808) % 18446744073709551616 - 9223372036854775808 := by rw [← IntWalk.i64_left, IntKind.wrap_i64]
  rw [e]; omega
theorem trn_back (k x y : Int) : trn (wrap64 (-k)) (trn k x y).1 (trn k x y).2 = (x, y) := by
  rw [trn_trn, trn_zero]
  have := wrap64_mod4 (-k)
  omega
/-- The turned point, its contract, with names for its parts. -/
@[reducible] def TurnC (x y k x' y' : Int) (w : World) : Prop := Calls Try.prog 7 #[.complex .f64 (fi x) (fi y), .int .i64 k] w fun e w' => e = .returned (.complex .f64 (fi x') (fi y')) ∧ w = w'
theorem turnC (x y k x' y' : Int) (hx : okI x = true) (hy : okI y = true) (h : trn k x y = (x', y')) (w : World) : TurnC x y k x' y' w := by
  have := Turn_any x y k hx hy w
  rw [h] at this
  exact this
@[reducible] def AddC (x y u v : Int) (r : Value) (w : World) : Prop := Calls Try.prog 9 #[.complex .f64 (fi x) (fi y), .complex .f64 (fi u) (fi v)] w fun e w' => e = .returned r ∧ w = w'
@[reducible] def MulC (x y u v : Int) (r : Value) (w : World) : Prop := Calls Try.prog 10 #[.complex .f64 (fi x) (fi y), .complex .f64 (fi u) (fi v)] w fun e w' => e = .returned r ∧ w = w'
@[reducible] def NormC (x y r : Int) (w : World) : Prop := Calls Try.prog 8 #[.complex .f64 (fi x) (fi y)] w fun e w' => e = .returned (.int .i64 r) ∧ w = w'
/-- All that the law needs to know of its calls. 'p': may the sum be; 'r': may the product be. -/
structure Facts (X Y U V k n : Int) (P1 P2 Q1 Q2 R1 R2 S1 S2 N C1 C2 D1 D2 : Int) (p r : Bool) (w : World) : Prop where
  t1 : TurnC X Y k P1 P2 w
  t2 : TurnC P1 P2 (wrap64 (-k)) X Y w
  t3 : TurnC X Y 4 X Y w
  t4 : TurnC X Y 2 (-X) (-Y) w
  n1 : NormC P1 P2 N w
  n2 : NormC X Y N w
  t5 : TurnC X Y (bits .and .i64 k 7) R1 R2 w
  t6 : TurnC R1 R2 (bits .and .i64 n 7) S1 S2 w
  t7 : TurnC X Y (bits .and .i64 k 7 + bits .and .i64 n 7) S1 S2 w
  t8 : TurnC U V k Q1 Q2 w
  a1 : AddC X Y U V (if p then .tuple #[.complex .f64 (fi (X + U)) (fi (Y + V)), .bool true] else .tuple #[.complex .f64 0 0, .bool false]) w
  a2 : AddC P1 P2 Q1 Q2 (if p then .tuple #[.complex .f64 (fi C1) (fi C2), .bool true] else .tuple #[.complex .f64 0 0, .bool false]) w
  t9 : p = true → TurnC (X + U) (Y + V) k C1 C2 w
  m1 : MulC X Y U V (if r then .tuple #[.complex .f64 (fi (X * U - Y * V)) (fi (X * V + Y * U)), .bool true] else .tuple #[.complex .f64 0 0, .bool false]) w
  m2 : MulC P1 P2 U V (if r then .tuple #[.complex .f64 (fi D1) (fi D2), .bool true] else .tuple #[.complex .f64 0 0, .bool false]) w
  t10 : r = true → TurnC (X * U - Y * V) (X * V + Y * U) k D1 D2 w
theorem facts (X Y U V k n : Int) (oX : okI X = true) (oY : okI Y = true) (oU : okI U = true) (oV : okI V = true) (w : World) :
    ∃ P1 P2 Q1 Q2 R1 R2 S1 S2 N C1 C2 D1 D2 p r, Facts X Y U V k n P1 P2 Q1 Q2 R1 R2 S1 S2 N C1 C2 D1 D2 p r w := by
  have A := trn_ok k X Y oX oY
  have B := trn_ok k U V oU oV
  have R := trn_ok (bits .and .i64 k 7) X Y oX oY
  have hn := trn_norm k X Y
  refine ⟨(trn k X Y).1, (trn k X Y).2, (trn k U V).1, (trn k U V).2, (trn (bits .and .i64 k 7) X Y).1, (trn (bits .and .i64 k 7) X Y).2, (trn (bits .and .i64 n 7) (trn (bits .and .i64 k 7) X Y).1 (trn (bits .and .i64 k 7) X Y).2).1, (trn (bits .and .i64 n 7) (trn (bits .and .i64 k 7) X Y).1 (trn (bits .and .i64 k 7) X Y).2).2, X * X + Y * Y, (trn k (X + U) (Y + V)).1, (trn k (X + U) (Y + V)).2, (trn k (X * U - Y * V) (X * V + Y * U)).1, (trn k (X * U - Y * V) (X * V + Y * U)).2, okI (X + U) && okI (Y + V), okI (X * U - Y * V) && okI (X * V + Y * U), ?_⟩
  refine ⟨Turn_any X Y k oX oY w, turnC _ _ _ _ _ A.1 A.2 (trn_back k X Y) w, turnC _ _ _ _ _ oX oY (trn_zero _ _ _ (by decide)) w, turnC _ _ _ _ _ oX oY (trn_two _ _) w,
    ?_, Norm_any X Y oX oY w, Turn_any X Y _ oX oY w, Turn_any _ _ _ R.1 R.2 w, turnC _ _ _ _ _ oX oY ?_ w, Turn_any U V k oU oV w, Add_any X Y U V oX oY oU oV w, ?_, fun h => ?_, Mul_any X Y U V oX oY oU oV w, ?_, fun h => ?_⟩
  · rw [← hn]; exact Norm_any _ _ A.1 A.2 w
  · rw [trn_trn]
  · have c := Add_any _ _ _ _ A.1 A.2 B.1 B.2 w
    have e := trn_add k X Y U V
    have e1 := congrArg Prod.fst e
    have e2 := congrArg Prod.snd e
    simp only at e1 e2
    rw [← e1, ← e2] at c
    have o := trn_okB k (X + U) (Y + V)
    unfold ptI at c
    rw [o] at c
    exact c
  · rw [Bool.and_eq_true] at h
    exact Turn_any _ _ _ h.1 h.2 w
  · have c := Mul_any _ _ _ _ A.1 A.2 oU oV w
    have e := trn_mul k X Y U V
    have e1 := congrArg Prod.fst e
    have e2 := congrArg Prod.snd e
    simp only at e1 e2
    rw [← e1, ← e2] at c
    have o := trn_okB k (X * U - Y * V) (X * V + Y * U)
    unfold ptI at c
    rw [o] at c
    exact c
  · rw [Bool.and_eq_true] at h
    exact Turn_any _ _ _ h.1 h.2 w
end Go.Proofs.Ytlgfgjcbdnnhfaa
