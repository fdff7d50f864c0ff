import Derived.WalkKit
import Derived.Below
namespace Go.Resp
/-! frames, in plain words -/
/-- A number's digits from a place on: the number, the place behind, how it stands (0: whole, 1: more is wanted, 2: none). -/
def numS (least most : Int) : List UInt8 → Nat → Int → Nat → Int × Nat × Nat
  | [], at_, _, _ => (0, at_, 1)
  | c :: r, at_, n, d =>
    if 48 ≤ (c.toNat : Int) ∧ (c.toNat : Int) ≤ 57 then
      if most < n * 10 + ((c.toNat : Int) - 48) ∨ (0 < d ∧ n * 10 + ((c.toNat : Int) - 48) < 10) ∨ (n * 10 + ((c.toNat : Int) - 48) < 1 ∧ 0 < least) then (0, at_, 2)
      else numS least most r (at_ + 1) (n * 10 + ((c.toNat : Int) - 48)) (d + 1)
    else if (c.toNat : Int) = 13 ∧ 0 < d then
      match r with
      | [] => (0, at_, 1)
      | e :: _ => if (e.toNat : Int) = 10 then (n, at_ + 2, 0) else (0, at_, 2)
    else (0, at_, 2)
def numL (l : List UInt8) (at_ : Nat) (mark least most : Int) : Int × Nat × Nat :=
  match l.drop at_ with
  | [] => (0, at_, 1)
  | c :: r => if (c.toNat : Int) = mark then numS least most r (at_ + 1) 0 0 else (0, at_, 2)
/-- Read's loop: so many texts are still to come; at a place; what was read (0: all is read; 1, 2 as above). -/
def readS (l : List UInt8) : Nat → Nat → List (List UInt8) → List (List UInt8) × Nat × Nat
  | 0, at_, out => (out, at_, 0)
  | n + 1, at_, out =>
    let (size, p, st) := numL l at_ 36 0 16384
    if st ≠ 0 then ([], 0, st)
    else if l.length < p + size.toNat + 2 then
      if l.length = p + size.toNat + 1 ∧ (l.getD (p + size.toNat) 0).toNat ≠ 13 then ([], 0, 2) else ([], 0, 1)
    else if (l.getD (p + size.toNat) 0).toNat ≠ 13 ∨ (l.getD (p + size.toNat + 1) 0).toNat ≠ 10 then ([], 0, 2)
    else readS l n (p + size.toNat + 2) (out ++ [(l.drop p).take size.toNat])
def readT (l : List UInt8) : List (List UInt8) × Nat × Nat :=
  let (n, p, st) := numL l 0 42 1 1024
  if st ≠ 0 then ([], 0, st) else readS l n.toNat p []
/-- The error's number of how it stands. -/
def codeOf (st : Nat) : Int := if st = 2 then 22 else 0
end Go.Resp
