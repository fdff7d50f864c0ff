/- Texts joined: TP, TL, TQ, TB -/
set_option linter.unusedVariables false
set_option linter.unusedSimpArgs false
namespace TP
inductive T
 | nil
 | cons (h t : T)
 | ex (kind at_ n : Int) (s : ByteArray) (op : Int) (l f : T)
 | fn (ps : List ByteArray) (b : T)
 | st (kind at_ : Int) (ns : List ByteArray) (l b : T)
deriving Inhabited
def T.snoc : T → T → T
 | .cons h t, x => .cons h (t.snoc x)
 | _, x => .cons x .nil
def T.len : T → Nat
 | .cons _ t => t.len + 1
 | _ => 0
def T.map (g : Int → Int) : T → T
 | .nil => .nil
 | .cons h t => .cons (h.map g) (t.map g)
 | .ex k a n s op l f => .ex k (g a) n s op (l.map g) (f.map g)
 | .fn ps b => .fn ps (b.map g)
 | .st k a ns l b => .st k (g a) ns (l.map g) (b.map g)
def T.of : List T → T
 | [] => .nil
 | x :: r => .cons x (T.of r)
structure Tk where
 kind : Int
 text : ByteArray
 n : Int
deriving Inhabited
structure St where
 i : Nat
 c : Int
abbrev B (l : List UInt8) : ByteArray := ⟨l.toArray⟩
section
variable (ts : List Tk)
def tk (s : St) : Tk := ts.getD s.i default
def fail (code : Int) (s : St) : St := if s.c = 0 then ⟨s.i, code⟩ else s
def isT (x : ByteArray) (s : St) : Bool := s.c == 0 && ((tk ts s).kind == 1 || (tk ts s).kind == 5) && decide ((tk ts s).text = x)
def adv (s : St) : St := ⟨s.i + 1, s.c⟩
def optS (x : ByteArray) (s : St) : St := if isT ts x s then adv s else s
def take (x : ByteArray) (s : St) : St := if isT ts x s then adv s else fail 14 s
def nameS0 (s : St) : St := if s.c = 0 ∧ (tk ts s).kind ≠ 2 then fail 14 s else s
def name (s : St) : ByteArray × St := if (nameS0 ts s).c = 0 then ((tk ts s).text, adv s) else (⟨#[]⟩, nameS0 ts s)
def full (n most : Nat) (s : St) : St := if n ≥ most then fail 8 s else s
def T0 : T := .ex 0 (-1) 0 ⟨#[]⟩ 0 .nil .nil
abbrev R := T × St
def ops : Nat → List ByteArray
 | 0 => [B [111, 114]]
 | 1 => [B [97, 110, 100]]
 | 2 => [B [61, 61], B [126, 61], B [60], B [60, 61], B [62], B [62, 61]]
 | 4 => [B [43], B [45]]
 | 5 => [B [42], B [47, 47], B [37]]
 | _ => []
def codes : Nat → List Int
 | 0 => [0]
 | 1 => [0]
 | 2 => [7, 8, 9, 10, 11, 12]
 | 4 => [1, 2]
 | 5 => [3, 4, 5]
 | _ => []
def kindOf : Nat → Int
 | 0 => 16
 | 1 => 15
 | _ => 14
def which (l : List ByteArray) (s : St) : Nat := l.findIdx (fun x => isT ts x s)
def binLoop (sub : St → R) (n : Nat) : Nat → T → St → R
 | 0, a, s => (a, s)
 | f + 1, a, s =>
  let k := which ts (ops n) s
  if k = (ops n).length then (a, s)
  else
   let r := sub (adv s)
   binLoop sub n f (.ex (kindOf n) s.i 0 ⟨#[]⟩ ((codes n).getD k 0) (T.of [a, r.1]) .nil) r.2
def bin (sub : St → R) (n : Nat) (s : St) : R :=
 if s.c ≠ 0 then (T0, s) else
 let r := sub s
 binLoop ts sub n (ts.length + 1) r.1 r.2
def pass (sub : St → R) (s : St) : R := if s.c ≠ 0 then (T0, s) else sub s
structure PK where
 ex : St → R
 bl : St → R
 un : St → R
 jn : St → R
section
variable (ex bl : St → R)
def argsLoop : Nat → T → St → R
 | 0, l, s => (l, s)
 | f + 1, l, s =>
  if s.c ≠ 0 then (l, s) else
  let r := ex (full (l.len - 1) 16 s)
  if isT ts (B [44]) r.2 then argsLoop f (l.snoc r.1) (adv r.2) else (l.snoc r.1, r.2)
def args (e : T) (s : St) : R :=
 if isT ts (B [41]) s then (T.of [e], adv s)
 else
  let r := argsLoop ts ex (ts.length + 1) (T.of [e]) s
  (r.1, take ts (B [41]) r.2)
def behindLoop : Nat → T → St → R
 | 0, e, s => (e, s)
 | f + 1, e, s =>
  if s.c ≠ 0 then (e, s)
  else if isT ts (B [46]) s then
   let r := name ts (adv s)
   behindLoop f (.ex 9 s.i 0 ⟨#[]⟩ 0 (T.of [e, .ex 5 (s.i + 1) 0 r.1 0 .nil .nil]) .nil) r.2
  else if isT ts (B [91]) s then
   let r := ex (adv s)
   behindLoop f (.ex 9 s.i 0 ⟨#[]⟩ 0 (T.of [e, r.1]) .nil) (take ts (B [93]) r.2)
  else if isT ts (B [40]) s then
   let r := args ts ex e (adv s)
   behindLoop f (.ex 10 s.i 0 ⟨#[]⟩ 0 r.1 .nil) r.2
  else (e, s)
def behind (e : T) (s : St) : R := behindLoop ts ex (ts.length + 1) e s
def key (n : Int) (s : St) : R × Int :=
 if s.c ≠ 0 then ((.ex 0 s.i 0 ⟨#[]⟩ 1 .nil .nil, s), n)
 else if isT ts (B [91]) s then
  let r := ex (adv s)
  ((r.1, take ts (B [61]) (take ts (B [93]) r.2)), n)
 else if (tk ts s).kind = 2 ∧ (tk ts (adv s)).kind = 5 ∧ (tk ts (adv s)).text = B [61] then
  let r := name ts s
  ((.ex 5 s.i 0 r.1 1 .nil .nil, take ts (B [61]) r.2), n)
 else ((.ex 4 s.i (n + 1) ⟨#[]⟩ 1 .nil .nil, s), n + 1)
def tableLoop : Nat → T → Int → St → R
 | 0, l, _, s => (l, s)
 | f + 1, l, n, s =>
  if s.c ≠ 0 ∨ isT ts (B [125]) s then (l, s)
  else
   let q := key ts ex n (full (l.len / 2) 64 s)
   let r := ex q.1.2
   let l2 := (l.snoc q.1.1).snoc r.1
   if isT ts (B [44]) r.2 then tableLoop f l2 q.2 (adv r.2)
   else if isT ts (B [59]) r.2 then tableLoop f l2 q.2 (adv r.2)
   else (l2, r.2)
def table (at_ : Nat) (s : St) : R :=
 let r := tableLoop ts ex (ts.length + 1) .nil 0 s
 (.ex 8 at_ 0 ⟨#[]⟩ 0 r.1 .nil, take ts (B [125]) r.2)
def parsLoop : Nat → List ByteArray → St → List ByteArray × St
 | 0, l, s => (l, s)
 | f + 1, l, s =>
  if s.c ≠ 0 then (l, s) else
  let r := name ts (full l.length 16 s)
  if isT ts (B [44]) r.2 then parsLoop f (l ++ [r.1]) (adv r.2) else (l ++ [r.1], r.2)
def pars (s : St) : List ByteArray × St :=
 if isT ts (B [41]) s then ([], adv s)
 else
  let r := parsLoop ts (ts.length + 1) [] s
  (r.1, take ts (B [41]) r.2)
def body (s : St) : R :=
 let p := pars ts (take ts (B [40]) s)
 let r := bl p.2
 (.fn p.1 r.1, take ts (B [101, 110, 100]) r.2)
def post (s : St) : R :=
 if s.c ≠ 0 then (T0, s)
 else if (tk ts s).kind = 2 then behind ts ex (.ex 6 s.i 0 (tk ts s).text 0 .nil .nil) (adv s)
 else if isT ts (B [40]) s then
  let r := ex (adv s)
  behind ts ex r.1 (take ts (B [41]) r.2)
 else if (tk ts s).kind = 3 then (.ex 4 s.i (tk ts s).n ⟨#[]⟩ 0 .nil .nil, adv s)
 else if (tk ts s).kind = 4 then (.ex 5 s.i 0 (tk ts s).text 0 .nil .nil, adv s)
 else if isT ts (B [110, 105, 108]) s then (.ex 1 s.i 0 ⟨#[]⟩ 0 .nil .nil, adv s)
 else if isT ts (B [116, 114, 117, 101]) s then (.ex 2 s.i 0 ⟨#[]⟩ 0 .nil .nil, adv s)
 else if isT ts (B [102, 97, 108, 115, 101]) s then (.ex 3 s.i 0 ⟨#[]⟩ 0 .nil .nil, adv s)
 else if isT ts (B [102, 117, 110, 99, 116, 105, 111, 110]) s then
  let r := body ts bl (adv s)
  (.ex 7 s.i 0 ⟨#[]⟩ 0 .nil (T.of [r.1]), r.2)
 else if isT ts (B [123]) s then table ts ex s.i (adv s)
 else (T0, fail 14 s)
def unary (un : Option (St → R)) (s : St) : R :=
 let go (kind : Int) : R :=
  match un with
  | none => (T0, fail 8 (adv s))
  | some u =>
   let r := u (adv s)
   (.ex kind s.i 0 ⟨#[]⟩ 0 (T.of [r.1]) .nil, r.2)
 if isT ts (B [110, 111, 116]) s then go 11
 else if isT ts (B [45]) s then go 12
 else if isT ts (B [35]) s then go 13
 else post ts ex bl s
def join (un : St → R) (jn : Option (St → R)) (s : St) : R :=
 let a := bin ts (bin ts (pass un) 5) 4 s
 if isT ts (B [46, 46]) a.2 then
  match jn with
  | none => (a.1, fail 8 (adv a.2))
  | some j =>
   let b := j (adv a.2)
   (.ex 14 a.2.i 0 ⟨#[]⟩ 6 (T.of [a.1, b.1]) .nil, b.2)
 else a
def level0 (jn : St → R) (s : St) : R := bin ts (bin ts (bin ts (pass jn) 2) 1) 0 s
def ends (s : St) : Bool := s.c != 0 || (tk ts s).kind == 0 || isT ts (B [101, 110, 100]) s || isT ts (B [101, 108, 115, 101]) s || isT ts (B [101, 108, 115, 101, 105, 102]) s || isT ts (B [117, 110, 116, 105, 108]) s
def ifLoop : Nat → T → T → St → T × T × St
 | 0, l, b, s => (l, b, s)
 | f + 1, l, b, s =>
  let r := ex s
  let q := bl (take ts (B [116, 104, 101, 110]) r.2)
  if isT ts (B [101, 108, 115, 101, 105, 102]) q.2 then ifLoop f (l.snoc r.1) (b.snoc q.1) (adv q.2) else (l.snoc r.1, b.snoc q.1, q.2)
def isCall : T → Bool
 | .ex k _ _ _ _ _ _ => decide (k = 10)
 | _ => false
def doEnd (s : St) : T × St := let b := bl s; (b.1, take ts (B [101, 110, 100]) b.2)
def stat (at_ : Nat) (s : St) : R :=
 if isT ts (B [108, 111, 99, 97, 108]) s then
  let s := adv s
  if isT ts (B [102, 117, 110, 99, 116, 105, 111, 110]) s then
   let n := name ts (adv s)
   let r := body ts bl n.2
   (.st 12 at_ [n.1] (T.of [.ex 7 n.2.i 0 ⟨#[]⟩ 0 .nil (T.of [r.1])]) .nil, r.2)
  else
   let n := name ts s
   if isT ts (B [61]) n.2 then
    let r := ex (adv n.2)
    (.st 1 at_ [n.1] (T.of [r.1]) .nil, r.2)
   else (.st 1 at_ [n.1] .nil .nil, n.2)
 else if isT ts (B [105, 102]) s then
  let r := ifLoop ts ex bl (ts.length + 1) .nil .nil (adv s)
  if isT ts (B [101, 108, 115, 101]) r.2.2 then
   let b := bl (adv r.2.2)
   (.st 4 at_ [] r.1 (r.2.1.snoc b.1), take ts (B [101, 110, 100]) b.2)
  else (.st 4 at_ [] r.1 r.2.1, take ts (B [101, 110, 100]) r.2.2)
 else if isT ts (B [119, 104, 105, 108, 101]) s then
  let r := ex (adv s)
  let b := doEnd ts bl (take ts (B [100, 111]) r.2)
  (.st 5 at_ [] (T.of [r.1]) (T.of [b.1]), b.2)
 else if isT ts (B [114, 101, 112, 101, 97, 116]) s then
  let b := bl (adv s)
  let r := ex (take ts (B [117, 110, 116, 105, 108]) b.2)
  (.st 8 at_ [] (T.of [r.1]) (T.of [b.1]), r.2)
 else if isT ts (B [102, 111, 114]) s then
  let n := name ts (adv s)
  if isT ts (B [44]) n.2 then
   let m := name ts (adv n.2)
   let r := ex (take ts (B [105, 110]) m.2)
   let b := doEnd ts bl (take ts (B [100, 111]) r.2)
   (.st 7 at_ [n.1, m.1] (T.of [r.1]) (T.of [b.1]), b.2)
  else
   let r := ex (take ts (B [61]) n.2)
   let r2 := ex (take ts (B [44]) r.2)
   if isT ts (B [44]) r2.2 then
    let r3 := ex (adv r2.2)
    let b := doEnd ts bl (take ts (B [100, 111]) r3.2)
    (.st 6 at_ [n.1] (T.of [r.1, r2.1, r3.1]) (T.of [b.1]), b.2)
   else
    let b := doEnd ts bl (take ts (B [100, 111]) r2.2)
    (.st 6 at_ [n.1] (T.of [r.1, r2.1]) (T.of [b.1]), b.2)
 else if isT ts (B [98, 114, 101, 97, 107]) s then (.st 9 at_ [] .nil .nil, adv s)
 else if isT ts (B [100, 111]) s then
  let b := doEnd ts bl (adv s)
  (.st 11 at_ [] .nil (T.of [b.1]), b.2)
 else
  let n := name ts s
  let e := behind ts ex (.ex 6 s.i 0 n.1 0 .nil .nil) n.2
  if isCall e.1 && !isT ts (B [61]) e.2 then (.st 3 at_ [] (T.of [e.1]) .nil, e.2)
  else
   let s2 := if isCall e.1 then fail 14 e.2 else e.2
   let r := ex (take ts (B [61]) s2)
   (.st 2 at_ [] (T.of [e.1, r.1]) .nil, r.2)
def retPart (s : St) : R :=
 if !ends ts s && !isT ts (B [59]) s then
  let r := ex s
  (T.of [r.1], r.2)
 else (.nil, s)
def closeB (s : St) : St := if ends ts s then s else fail 14 s
def blockLoop : Nat → T → St → R
 | 0, out, s => (out, s)
 | f + 1, out, s =>
  if ends ts s then (out, s)
  else if isT ts (B [114, 101, 116, 117, 114, 110]) s then
   let r := retPart ts ex (adv s)
   (out.snoc (.st 10 s.i [] r.1 .nil), closeB ts (optS ts (B [59]) r.2))
  else
   let r := stat ts ex bl s.i s
   blockLoop f (out.snoc r.1) (optS ts (B [59]) r.2)
def block (s : St) : R := blockLoop ts ex bl (ts.length + 1) .nil s
end
def pk : Nat → PK
 | 0 =>
  let ex : St → R := fun s => (T0, fail 8 s)
  let bl : St → R := fun s => (.nil, fail 8 s)
  let un := unary ts ex bl none
  ⟨ex, bl, un, join ts un none⟩
 | k + 1 =>
  let q := pk k
  let ex := level0 ts q.jn
  let bl := block ts q.ex q.bl
  let un := unary ts ex bl (some q.un)
  ⟨ex, bl, un, join ts un (some q.jn)⟩
def script : Option T :=
 let r := (pk ts 100).bl ⟨0, 0⟩
 if r.2.c = 0 ∧ (tk ts r.2).kind = 0 then some r.1 else none
end
end TP
namespace TP
def letterB (c : UInt8) : Bool := (c ≥ 97 && c ≤ 122) || (c ≥ 65 && c ≤ 90) || c == 95
def digitB (c : UInt8) : Bool := c ≥ 48 && c ≤ 57
def runL : List UInt8 → Nat
 | [] => 0
 | c :: r => if letterB c || digitB c then runL r + 1 else 0
def words : List ByteArray := [B [97, 110, 100], B [98, 114, 101, 97, 107], B [100, 111], B [101, 108, 115, 101], B [101, 108, 115, 101, 105, 102], B [101, 110, 100], B [102, 97, 108, 115, 101], B [102, 111, 114], B [102, 117, 110, 99, 116, 105, 111, 110], B [105, 102], B [105, 110], B [108, 111, 99, 97, 108], B [110, 105, 108], B [110, 111, 116], B [111, 114], B [114, 101, 112, 101, 97, 116], B [114, 101, 116, 117, 114, 110], B [116, 104, 101, 110], B [116, 114, 117, 101], B [117, 110, 116, 105, 108], B [119, 104, 105, 108, 101]]
def isWord (x : ByteArray) : Bool := words.any (fun y => decide (y = x))
def hexB (c : UInt8) : Option Nat :=
 if digitB c then some (c.toNat - 48) else if c ≥ 97 && c ≤ 102 then some (c.toNat - 97 + 10) else if c ≥ 65 && c ≤ 70 then some (c.toNat - 65 + 10) else none
def quotL (mark : UInt8) : List UInt8 → List UInt8 → Nat → Option (List UInt8 × Nat)
 | [], _, _ => none
 | c :: r, out, n =>
  if c = 10 then none
  else if c = mark then (if out.length ≤ 4096 then some (out, n + 1) else none)
  else if c ≠ 92 then quotL mark r (out ++ [c]) (n + 1)
  else match r with
   | [] => none
   | e :: r2 =>
    if e = 110 then quotL mark r2 (out ++ [10]) (n + 2)
    else if e = 116 then quotL mark r2 (out ++ [9]) (n + 2)
    else if e = 92 ∨ e = 34 ∨ e = 39 then quotL mark r2 (out ++ [e]) (n + 2)
    else if e = 120 then
     match r2 with
     | x :: y :: r3 =>
      match hexB x, hexB y with
      | some p, some q => quotL mark r3 (out ++ [UInt8.ofNat (p * 16 + q)]) (n + 4)
      | _, _ => none
     | _ => none
    else none
def skipL : Bool → List UInt8 → Nat
 | _, [] => 0
 | true, c :: r => if c = 10 then skipL false r + 1 else skipL true r + 1
 | false, c :: r =>
  if c = 32 ∨ c = 9 ∨ c = 10 ∨ c = 13 then skipL false r + 1
  else if c = 45 ∧ r.head? = some 45 then skipL true r + 1
  else 0
def twos : List ByteArray := [B [46, 46], B [61, 61], B [126, 61], B [60, 61], B [62, 61], B [47, 47]]
def ones : List UInt8 := [43, 45, 42, 37, 60, 62, 61, 40, 41, 123, 125, 91, 93, 44, 46, 35, 59]
def signL : List UInt8 → Nat
 | [] => 0
 | [c] => if ones.contains c then 1 else 0
 | c :: d :: _ => if twos.any (fun y => decide (y = B [c, d])) then 2 else if ones.contains c then 1 else 0
def wholeL : Nat → List UInt8 → Option Nat
 | n, [] => if n > 9223372036854775807 then none else some n
 | n, c :: r => if !digitB c || n > 922337203685477580 then none else wholeL (n * 10 + (c.toNat - 48)) r
def oneL (l : List UInt8) : Option (Tk × Nat) :=
 match l with
 | [] => none
 | c :: r =>
  if letterB c then
   let n := runL (c :: r)
   let t := B ((c :: r).take n)
   if n > 32 then none else some (⟨if isWord t then 1 else 2, t, 0⟩, n)
  else if digitB c then
   let n := runL (c :: r)
   (wholeL 0 ((c :: r).take n)).map fun k => (⟨3, ⟨#[]⟩, k⟩, n)
  else if c = 34 ∨ c = 39 then
   (quotL c r [] 1).map fun q => (⟨4, B q.1, 0⟩, q.2)
  else
   let n := signL (c :: r)
   if n = 0 then none else some (⟨5, B ((c :: r).take n), 0⟩, n)
def lexL : Nat → List UInt8 → Nat → Option (List (Tk × Nat))
 | 0, _, at_ => some [(⟨0, ⟨#[]⟩, 0⟩, at_)]
 | _ + 1, [], at_ => some [(⟨0, ⟨#[]⟩, 0⟩, at_)]
 | f + 1, c :: r, at_ =>
  match oneL (c :: r) with
  | none => none
  | some x => (lexL f ((c :: r).drop (x.2 + skipL false ((c :: r).drop x.2))) (at_ + (x.2 + skipL false ((c :: r).drop x.2)))).map ((x.1, at_) :: ·)
theorem lexL_none {f : Nat} {c : UInt8} {r : List UInt8} {a : Nat} (h : oneL (c :: r) = none) : lexL (f + 1) (c :: r) a = none := by
 unfold lexL; rw [h]
theorem lexL_some {f : Nat} {c : UInt8} {r : List UInt8} {a : Nat} {x : Tk × Nat} (h : oneL (c :: r) = some x) : lexL (f + 1) (c :: r) a = (lexL f ((c :: r).drop (x.2 + skipL false ((c :: r).drop x.2))) (a + (x.2 + skipL false ((c :: r).drop x.2)))).map ((x.1, a) :: ·) := by
 conv => lhs; unfold lexL
 rw [h]
def lex (l : List UInt8) : Option (List (Tk × Nat)) :=
 let k := skipL false l
 lexL l.length (l.drop k) k
def shift (k : Nat) (l : List (Tk × Nat)) : List (Tk × Nat) := l.map fun x => (x.1, x.2 + k)
theorem lexL_shift (k : Nat) : ∀ (f : Nat) (l : List UInt8) (a : Nat), lexL f l (a + k) = (lexL f l a).map (shift k)
 | 0, _, _ => rfl
 | f + 1, [], _ => rfl
 | f + 1, c :: r, a => by
  cases h : oneL (c :: r) with
  | none => rw [lexL_none h, lexL_none h]; rfl
  | some x =>
   rw [lexL_some h, lexL_some h, show a + k + (x.2 + skipL false ((c :: r).drop x.2)) = a + (x.2 + skipL false ((c :: r).drop x.2)) + k by omega, lexL_shift k f, Option.map_map, Option.map_map]
   congr 1
theorem skip_front (k : Nat) (l : List UInt8) : skipL false (List.replicate k 32 ++ l) = k + skipL false l := by
 induction k with
 | zero => simp
 | succ k ih =>
  rw [List.replicate_succ, List.cons_append]
  show (if _ then _ else _) = _
  rw [if_pos (.inl rfl), ih]
  omega
theorem oneL_pos {l : List UInt8} {x : Tk × Nat} (h : oneL l = some x) : 0 < x.2 := by
 unfold oneL at h
 split at h
 ·cases h
 ·rename_i c r
  split at h
  ·rename_i hc
   simp only at h
   split at h
   ·cases h
   ·cases h
    simp [runL, hc]
  ·split at h
   ·rename_i hc
    simp only [Option.map_eq_some_iff] at h
    obtain ⟨_, _, h⟩ := h
    cases h
    simp [runL, hc]
   ·split at h
    ·simp only [Option.map_eq_some_iff] at h
     obtain ⟨q, hq, h⟩ := h
     cases h
     exact quot_pos _ _ _ _ _ hq (by omega)
    ·simp only at h
     split at h
     ·cases h
     ·cases h; omega
where
 quot_pos (mark : UInt8) : ∀ (l out : List UInt8) (n : Nat) (q : List UInt8 × Nat), quotL mark l out n = some q → 0 < n → 0 < q.2
  | [], _, _, _, h, _ => by simp [quotL] at h
  | [c], out, n, q, h, hn => by
   unfold quotL at h
   split at h
   ·cases h
   ·split at h
    ·split at h
     ·cases h; simp
     ·cases h
    ·split at h
     ·exact quot_pos mark [] _ _ _ h (by omega)
     ·cases h
  | c :: e :: r, out, n, q, h, hn => by
   unfold quotL at h
   split at h
   ·cases h
   ·split at h
    ·split at h
     ·cases h; simp
     ·cases h
    ·split at h
     ·exact quot_pos mark (e :: r) _ _ _ h (by omega)
     ·simp only at h
      split at h
      ·exact quot_pos mark r _ _ _ h (by omega)
      ·split at h
       ·exact quot_pos mark r _ _ _ h (by omega)
       ·split at h
        ·exact quot_pos mark r _ _ _ h (by omega)
        ·split at h
         ·split at h
          ·split at h
           ·exact quot_pos mark _ _ _ _ h (by omega)
           ·cases h
          ·cases h
         ·cases h
theorem lexL_fuel : ∀ (f g : Nat) (l : List UInt8) (a : Nat), l.length ≤ f → l.length ≤ g → lexL f l a = lexL g l a
 | 0, 0, _, _, _, _ => rfl
 | 0, g + 1, [], _, _, _ => rfl
 | f + 1, 0, [], _, _, _ => rfl
 | f + 1, g + 1, [], _, _, _ => rfl
 | 0, _, c :: r, _, h, _ => by simp at h
 | _, 0, c :: r, _, _, h => by simp at h
 | f + 1, g + 1, c :: r, a, hf, hg => by
  cases h : oneL (c :: r) with
  | none => rw [lexL_none h, lexL_none h]
  | some x =>
   have := oneL_pos h
   simp only [List.length_cons] at hf hg
   rw [lexL_some h, lexL_some h, lexL_fuel f g _ _ (by rw [List.length_drop, List.length_cons]; omega) (by rw [List.length_drop, List.length_cons]; omega)]
theorem lex_front (k : Nat) (l : List UInt8) : lex (List.replicate k 32 ++ l) = (lex l).map (shift k) := by
 have h : (List.replicate k (32 : UInt8) ++ l).drop (k + skipL false l) = l.drop (skipL false l) := by
  rw [← List.drop_drop]
  congr 1
  exact List.drop_left' (by simp)
 unfold lex
 rw [skip_front]
 simp only
 rw [h, Nat.add_comm k, lexL_shift]
 congr 1
 exact lexL_fuel _ _ _ _ (by rw [List.length_drop, List.length_append]; omega) (by rw [List.length_drop]; omega)
end TP
namespace TP
def eqb : T → T → Bool
 | .nil, .nil => true
 | .cons a b, .cons c d => eqb a c && eqb b d
 | .ex k a n s op l f, .ex k2 a2 n2 s2 op2 l2 f2 => decide (k = k2) && decide (a = a2) && decide (n = n2) && decide (s = s2) && decide (op = op2) && eqb l l2 && eqb f f2
 | .fn ps b, .fn ps2 b2 => decide (ps = ps2) && eqb b b2
 | .st k a ns l b, .st k2 a2 ns2 l2 b2 => decide (k = k2) && decide (a = a2) && decide (ns = ns2) && eqb l l2 && eqb b b2
 | _, _ => false
def bare : T → T
 | .nil => .nil
 | .cons h t => .cons (bare h) (bare t)
 | .ex k _ n s op l f => .ex k 0 n s op (bare l) (bare f)
 | .fn ps b => .fn ps (bare b)
 | .st k _ ns l b => .st k 0 ns (bare l) (bare b)
def count : T → Int
 | .nil => 0
 | .cons h t => count h + count t
 | .ex _ _ _ _ _ l f => 1 + count l + count f
 | .fn _ b => count b
 | .st _ _ _ l b => 1 + count l + count b
def deep (w : Int → Int) : Bool → T → Int
 | _, .nil => 0
 | false, .cons h t => max (deep w false h) (deep w false t)
 | true, .cons h t => max (match h with | .nil => 0 | _ => w (deep w false h + 1)) (deep w true t)
 | _, .ex _ _ _ _ _ l f => w (max (deep w false l) (deep w false f) + 1)
 | _, .fn _ b => match b with | .nil => 0 | _ => w (deep w false b + 1)
 | _, .st _ _ _ l b => max (deep w false l) (deep w true b)
def deepB (w : Int → Int) (t : T) : Int := match t with | .nil => 0 | _ => w (deep w false t + 1)
theorem eqb_refl : ∀ t : T, eqb t t = true
 | .nil => rfl
 | .cons a b => by simp [eqb, eqb_refl a, eqb_refl b]
 | .ex _ _ _ _ _ l f => by simp [eqb, eqb_refl l, eqb_refl f]
 | .fn _ b => by simp [eqb, eqb_refl b]
 | .st _ _ _ l b => by simp [eqb, eqb_refl l, eqb_refl b]
theorem bare_bare : ∀ t : T, bare (bare t) = bare t
 | .nil => rfl
 | .cons a b => by simp [bare, bare_bare a, bare_bare b]
 | .ex _ _ _ _ _ l f => by simp [bare, bare_bare l, bare_bare f]
 | .fn _ b => by simp [bare, bare_bare b]
 | .st _ _ _ l b => by simp [bare, bare_bare l, bare_bare b]
theorem bare_map (g : Int → Int) : ∀ t : T, bare (t.map g) = bare t
 | .nil => rfl
 | .cons a b => by simp [bare, T.map, bare_map g a, bare_map g b]
 | .ex _ _ _ _ _ l f => by simp [bare, T.map, bare_map g l, bare_map g f]
 | .fn _ b => by simp [bare, T.map, bare_map g b]
 | .st _ _ _ l b => by simp [bare, T.map, bare_map g l, bare_map g b]
theorem T.len_map (g : Int → Int) : ∀ t : T, (t.map g).len = t.len
 | .nil => rfl
 | .cons a b => by simp [T.map, T.len, T.len_map g b]
 | .ex _ _ _ _ _ l f => rfl
 | .fn _ b => rfl
 | .st _ _ _ l b => rfl
theorem eqb_shift (g g2 : Int → Int) (k a : Int) (ns : List ByteArray) (l b r : T) (h : g a ≠ g2 a) : eqb ((T.cons (.st k a ns l b) r).map g) ((T.cons (.st k a ns l b) r).map g2) = false := by
 simp [T.map, eqb, h]
def T.isList : T → Prop
 | .nil => True
 | .cons _ t => t.isList
 | _ => False
theorem eqb_len : ∀ {a b : T}, a.isList → b.isList → eqb a b = true → a.len = b.len
 | .nil, .nil, _, _, _ => rfl
 | .cons _ a, .cons _ b, ha, hb, h => by
  simp only [eqb, Bool.and_eq_true] at h
  simp only [T.len, eqb_len (a := a) (b := b) ha hb h.2]
 | .nil, .cons _ _, _, _, h => by simp [eqb] at h
 | .cons _ _, .nil, _, _, h => by simp [eqb] at h
theorem count_snoc (x : T) : ∀ {t : T}, t.isList → count (t.snoc x) = count t + count x
 | .nil, _ => by simp [T.snoc, count]
 | .cons h t, ht => by
  have := count_snoc x (t := t) ht
  simp only [T.snoc, count, this]
  omega
theorem len_snoc (x : T) : ∀ {t : T}, t.isList → (t.snoc x).len = t.len + 1
 | .nil, _ => rfl
 | .cons h t, ht => by simp only [T.snoc, T.len, len_snoc x (t := t) ht]
theorem isList_snoc (x : T) : ∀ {t : T}, t.isList → (t.snoc x).isList
 | .nil, _ => trivial
 | .cons h t, ht => isList_snoc x (t := t) ht
theorem isList_map (g : Int → Int) : ∀ {t : T}, t.isList → (t.map g).isList
 | .nil, _ => trivial
 | .cons h t, ht => isList_map g (t := t) ht
theorem isList_bare : ∀ {t : T}, t.isList → (bare t).isList
 | .nil, _ => trivial
 | .cons h t, ht => isList_bare (t := t) ht
theorem map_snoc (g : Int → Int) (x : T) : ∀ {t : T}, t.isList → (t.snoc x).map g = (t.map g).snoc (x.map g)
 | .nil, _ => rfl
 | .cons h t, ht => by simp only [T.snoc, T.map, map_snoc g x (t := t) ht]
end TP
namespace TP
section
variable (ts : List Tk)
def Ends : Prop := ∃ t, ts[ts.length - 1]? = some t ∧ t.kind = 0
def Go (s t : St) : Prop := s.i ≤ t.i ∧ t.i < ts.length ∧ (s.c ≠ 0 → t.c ≠ 0)
def Good (F : St → R) : Prop := ∀ s, s.i < ts.length → Go ts s (F s).2
variable {ts}
theorem Go.refl {s : St} (h : s.i < ts.length) : Go ts s s := ⟨Nat.le_refl _, h, id⟩
theorem Go.trans {s t u : St} (h : Go ts s t) (k : Go ts t u) : Go ts s u := ⟨Nat.le_trans h.1 k.1, k.2.1, fun e => k.2.2 (h.2.2 e)⟩
theorem Go.fail {s t : St} (code : Int) (hc : code ≠ 0) (h : Go ts s t) : Go ts s (fail code t) := by
 unfold TP.fail
 split
 ·exact ⟨h.1, h.2.1, fun _ => hc⟩
 ·exact h
theorem kind_adv (hE : Ends ts) {s : St} (h : s.i < ts.length) (hk : (tk ts s).kind ≠ 0) : (adv s).i < ts.length := by
 obtain ⟨t, h1, h2⟩ := hE
 show s.i + 1 < _
 rcases Nat.lt_or_ge (s.i + 1) ts.length with h3 | h3
 ·exact h3
 ·exfalso
  have : s.i = ts.length - 1 := by omega
  apply hk
  unfold tk
  rw [this, List.getD_eq_getElem?_getD, h1]
  exact h2
theorem adv_go (hE : Ends ts) {s : St} (h : s.i < ts.length) (hk : (tk ts s).kind ≠ 0) : Go ts s (adv s) := ⟨Nat.le_succ _, kind_adv hE h hk, id⟩
theorem isT_kind {x : ByteArray} {s : St} (h : isT ts x s = true) : s.c = 0 ∧ ((tk ts s).kind = 1 ∨ (tk ts s).kind = 5) ∧ (tk ts s).text = x := by
 simpa [isT, and_assoc] using h
theorem is_adv (hE : Ends ts) {x : ByteArray} {s : St} (h : s.i < ts.length) (hi : isT ts x s = true) : Go ts s (adv s) := adv_go hE h (by rcases (isT_kind hi).2.1 with e | e <;> rw [e] <;> decide)
theorem Go.is (hE : Ends ts) {x : ByteArray} {s t : St} (h : Go ts s t) (hi : isT ts x t = true) : Go ts s (adv t) := h.trans (is_adv hE h.2.1 hi)
theorem Go.take (hE : Ends ts) {s t : St} (x : ByteArray) (h : Go ts s t) : Go ts s (take ts x t) := by
 unfold TP.take
 split
 ·exact h.is hE ‹_›
 ·exact h.fail 14 (by decide)
theorem Go.opt (hE : Ends ts) {s t : St} (x : ByteArray) (h : Go ts s t) : Go ts s (optS ts x t) := by
 unfold optS
 split
 ·exact h.is hE ‹_›
 ·exact h
theorem Go.nameS0 {s t : St} (h : Go ts s t) : Go ts s (nameS0 ts t) := by
 unfold TP.nameS0
 split
 ·exact h.fail 14 (by decide)
 ·exact h
theorem Go.name (hE : Ends ts) {s t : St} (h : Go ts s t) : Go ts s (name ts t).2 := by
 unfold TP.name
 split
 ·rename_i h0
  have hk : TP.nameS0 ts t = t ∧ (tk ts t).kind = 2 := by
   unfold TP.nameS0 at h0 ⊢
   split at h0
   ·rename_i h1
    unfold TP.fail at h0
    rw [if_pos h1.1] at h0
    exact absurd (show (14 : Int) = 0 from h0) (by decide)
   ·rename_i h1
    rw [if_neg h1]
    refine ⟨rfl, ?_⟩
    rcases Decidable.em ((tk ts t).kind = 2) with h2 | h2
    ·exact h2
    ·exact absurd ⟨h0, h2⟩ h1
  exact h.trans (adv_go hE h.2.1 (by rw [hk.2]; decide))
 ·exact h.nameS0
theorem Go.full {s t : St} (n m : Nat) (h : Go ts s t) : Go ts s (full n m t) := by
 unfold TP.full
 split
 ·exact h.fail 8 (by decide)
 ·exact h
theorem Go.by {s t : St} {F : St → R} (hF : Good ts F) (h : Go ts s t) : Go ts s (F t).2 := h.trans (hF t h.2.1)
theorem which_adv (hE : Ends ts) {l : List ByteArray} {s : St} (h : s.i < ts.length) (hw : which ts l s ≠ l.length) : Go ts s (adv s) := by
 have : which ts l s < l.length := Nat.lt_of_le_of_ne List.findIdx_le_length hw
 exact is_adv hE h (List.findIdx_getElem (w := this))
theorem bin_go (hE : Ends ts) {sub : St → R} (hs : Good ts sub) (n : Nat) : ∀ (f : Nat) (a : T) (s t : St), Go ts s t → Go ts s (binLoop ts sub n f a t).2
 | 0, _, _, _, h => h
 | f + 1, a, s, t, h => by
  unfold binLoop
  simp only
  split
  ·exact h
  ·rename_i hw
   exact bin_go hE hs n f _ s _ ((h.trans (which_adv hE h.2.1 hw)).by hs)
theorem good_bin (hE : Ends ts) {sub : St → R} (hs : Good ts sub) (n : Nat) : Good ts (bin ts sub n) := fun s h => by
 unfold bin
 split
 ·exact .refl h
 ·exact bin_go hE hs n _ _ _ _ ((Go.refl h).by hs)
theorem good_pass {sub : St → R} (hs : Good ts sub) : Good ts (pass sub) := fun s h => by
 unfold pass
 split
 ·exact .refl h
 ·exact (Go.refl h).by hs
section
variable {ex bl : St → R} (hE : Ends ts) (hx : Good ts ex) (hb : Good ts bl)
include hE hx
theorem argsLoop_go : ∀ (f : Nat) (l : T) (s t : St), Go ts s t → Go ts s (argsLoop ts ex f l t).2
 | 0, _, _, _, h => h
 | f + 1, l, s, t, h => by
  unfold argsLoop
  simp only
  split
  ·exact h
  ·have h2 := (h.full (l.len - 1) 16).by hx
   split
   ·exact argsLoop_go f _ s _ (h2.is hE ‹_›)
   ·exact h2
theorem args_go (e : T) {s t : St} (h : Go ts s t) : Go ts s (args ts ex e t).2 := by
 unfold args
 split
 ·exact h.is hE ‹_›
 ·exact (argsLoop_go hE hx _ _ s t h).take hE _
theorem behind_go : ∀ (f : Nat) (e : T) (s t : St), Go ts s t → Go ts s (behindLoop ts ex f e t).2
 | 0, _, _, _, h => h
 | f + 1, e, s, t, h => by
  unfold behindLoop
  simp only
  split
  ·exact h
  ·split
   ·exact behind_go f _ s _ ((h.is hE ‹_›).name hE)
   ·split
    ·exact behind_go f _ s _ (((h.is hE ‹_›).by hx).take hE _)
    ·split
     ·exact behind_go f _ s _ (args_go hE hx _ (h.is hE ‹_›))
     ·exact h
theorem key_go (n : Int) {s t : St} (h : Go ts s t) : Go ts s (key ts ex n t).1.2 := by
 unfold key
 simp only
 split
 ·exact h
 ·split
  ·exact (((h.is hE ‹_›).by hx).take hE _).take hE _
  ·split
   ·exact (h.name hE).take hE _
   ·exact h
theorem table_go : ∀ (f : Nat) (l : T) (n : Int) (s t : St), Go ts s t → Go ts s (tableLoop ts ex f l n t).2
 | 0, _, _, _, _, h => h
 | f + 1, l, n, s, t, h => by
  unfold tableLoop
  simp only
  split
  ·exact h
  ·have h2 := (key_go hE hx n (h.full (l.len / 2) 64)).by hx
   split
   ·exact table_go f _ _ s _ (h2.is hE ‹_›)
   ·split
    ·exact table_go f _ _ s _ (h2.is hE ‹_›)
    ·exact h2
omit hx in
theorem pars_go : ∀ (f : Nat) (l : List ByteArray) (s t : St), Go ts s t → Go ts s (parsLoop ts f l t).2
 | 0, _, _, _, h => h
 | f + 1, l, s, t, h => by
  unfold parsLoop
  simp only
  split
  ·exact h
  ·have h2 := (h.full l.length 16).name hE
   split
   ·exact pars_go f _ s _ (h2.is hE ‹_›)
   ·exact h2
include hb
omit hx in
theorem body_go {s t : St} (h : Go ts s t) : Go ts s (body ts bl t).2 := by
 have h2 : Go ts s (pars ts (take ts (B [40]) t)).2 := by
  unfold pars
  split
  ·exact (h.take hE _).is hE ‹_›
  ·exact (pars_go hE _ _ s _ (h.take hE _)).take hE _
 unfold body
 exact (h2.by hb).take hE _
theorem good_post : Good ts (post ts ex bl) := fun s h => by
 have r := Go.refl h
 have hk : ∀ k : Int, k ≠ 0 → (tk ts s).kind = k → Go ts s (adv s) := fun k hk e => adv_go hE h (by rw [e]; exact hk)
 unfold post
 simp only
 split
 ·exact r
 ·split
  ·exact behind_go hE hx _ _ s _ (hk 2 (by decide) ‹_›)
  ·split
   ·exact behind_go hE hx _ _ s _ (((r.is hE ‹_›).by hx).take hE _)
   ·split
    ·exact hk 3 (by decide) ‹_›
    ·split
     ·exact hk 4 (by decide) ‹_›
     ·split
      ·exact r.is hE ‹_›
      ·split
       ·exact r.is hE ‹_›
       ·split
        ·exact r.is hE ‹_›
        ·split
         ·exact body_go hE hb (r.is hE ‹_›)
         ·split
          ·exact (table_go hE hx _ _ _ s _ (r.is hE ‹_›)).take hE _
          ·exact r.fail 14 (by decide)
theorem good_unary {un : Option (St → R)} (hu : ∀ u, un = some u → Good ts u) : Good ts (unary ts ex bl un) := fun s h => by
 have r := Go.refl h
 have hg : ∀ (k : Int) (x : ByteArray), isT ts x s = true → Go ts s (match un with | none => ((T0, fail 8 (adv s)) : R) | some u => (.ex k s.i 0 ⟨#[]⟩ 0 (T.of [(u (adv s)).1]) .nil, (u (adv s)).2)).2 := fun k x hi => by
  cases un with
  | none => exact (r.is hE hi).fail 8 (by decide)
  | some u => exact Go.by (F := u) (hu u rfl) (r.is hE hi)
 unfold unary
 simp only
 split
 ·exact hg 11 _ ‹_›
 ·split
  ·exact hg 12 _ ‹_›
  ·split
   ·exact hg 13 _ ‹_›
   ·exact good_post hE hx hb s h
theorem ifLoop_go : ∀ (f : Nat) (l b : T) (s t : St), Go ts s t → Go ts s (ifLoop ts ex bl f l b t).2.2
 | 0, _, _, _, _, h => h
 | f + 1, l, b, s, t, h => by
  unfold ifLoop
  simp only
  have h2 := (((h.by hx).take hE (B [116, 104, 101, 110])).by hb)
  split
  ·exact ifLoop_go f _ _ s _ (h2.is hE ‹_›)
  ·exact h2
omit hx in
theorem doEnd_go {s t : St} (h : Go ts s t) : Go ts s (doEnd ts bl t).2 := (h.by hb).take hE _
theorem stat_go (a : Nat) {s t : St} (h : Go ts s t) : Go ts s (stat ts ex bl a t).2 := by
 unfold stat
 simp only
 split
 ·split
  ·exact body_go hE hb (((h.is hE ‹_›).is hE ‹_›).name hE)
  ·split
   ·exact Go.by (F := ex) hx (((h.is hE ‹_›).name hE).is hE ‹_›)
   ·exact (h.is hE ‹_›).name hE
 ·split
  ·have h2 := ifLoop_go hE hx hb (ts.length + 1) .nil .nil s _ (h.is hE ‹_›)
   split
   ·exact ((h2.is hE ‹_›).by hb).take hE _
   ·exact h2.take hE _
  ·split
   ·exact doEnd_go hE hb (((h.is hE ‹_›).by hx).take hE _)
   ·split
    ·exact Go.by (F := ex) hx (((h.is hE ‹_›).by hb).take hE _)
    ·split
     ·split
      ·exact doEnd_go hE hb (((((((h.is hE ‹_›).name hE).is hE ‹_›).name hE).take hE _).by hx).take hE _)
      ·have h2 := (((((h.is hE ‹_›).name hE).take hE (B [61])).by hx).take hE (B [44])).by hx
       split
       ·exact doEnd_go hE hb (((h2.is hE ‹_›).by hx).take hE _)
       ·exact doEnd_go hE hb (h2.take hE _)
     ·split
      ·exact h.is hE ‹_›
      ·split
       ·exact doEnd_go hE hb (h.is hE ‹_›)
       ·have h2 := behind_go hE hx (ts.length + 1) (.ex 6 t.i 0 (name ts t).1 0 .nil .nil) s _ (h.name hE)
        split
        ·exact h2
        ·refine Go.by (F := ex) hx ((?_ : Go ts s _).take hE _)
         split
         ·exact h2.fail 14 (by decide)
         ·exact h2
theorem stat_on (a : Nat) {t : St} (h : t.i < ts.length) : t.i + 1 ≤ (stat ts ex bl a t).2.i ∨ (stat ts ex bl a t).2.c ≠ 0 := by
 have r := Go.refl h
 have on : ∀ {x : ByteArray} {u : St}, isT ts x t = true → Go ts (adv t) u → t.i + 1 ≤ u.i := fun _ hu => hu.1
 have rr : ∀ {x : ByteArray}, isT ts x t = true → Go ts (adv t) (adv t) := fun hi => .refl (is_adv hE h hi).2.1
 unfold stat
 simp only
 split
 ·have q := rr ‹_›
  left
  split
  ·exact (body_go hE hb ((q.is hE ‹_›).name hE)).1
  ·split
   ·exact (Go.by (F := ex) hx ((q.name hE).is hE ‹_›)).1
   ·exact (q.name hE).1
 ·split
  ·have q := rr ‹_›
   left
   have h2 := ifLoop_go hE hx hb (ts.length + 1) .nil .nil (adv t) _ q
   split
   ·exact (((h2.is hE ‹_›).by hb).take hE _).1
   ·exact (h2.take hE _).1
  ·split
   ·exact .inl (doEnd_go hE hb (((rr ‹_›).by hx).take hE _)).1
   ·split
    ·exact .inl (Go.by (F := ex) hx (((rr ‹_›).by hb).take hE _)).1
    ·split
     ·have q := rr ‹_›
      left
      split
      ·exact (doEnd_go hE hb ((((((q.name hE).is hE ‹_›).name hE).take hE _).by hx).take hE _)).1
      ·have h2 := ((((q.name hE).take hE (B [61])).by hx).take hE (B [44])).by hx
       split
       ·exact (doEnd_go hE hb (((h2.is hE ‹_›).by hx).take hE _)).1
       ·exact (doEnd_go hE hb (h2.take hE _)).1
     ·split
      ·exact .inl (Nat.le_refl _)
      ·split
       ·exact .inl (doEnd_go hE hb (rr ‹_›)).1
       ·have key : ∀ u, Go ts (name ts t).2 u → t.i + 1 ≤ u.i ∨ u.c ≠ 0 := fun u hu => by
         unfold TP.name at hu
         split at hu
         ·exact .inl hu.1
         ·rename_i h0
          exact .inr (hu.2.2 h0)
        have h2 := behind_go hE hx (ts.length + 1) (.ex 6 t.i 0 (name ts t).1 0 .nil .nil) (name ts t).2 _ (.refl (r.name hE).2.1)
        split
        ·exact key _ h2
        ·refine key _ (Go.by (F := ex) hx ((?_ : Go ts (name ts t).2 _).take hE _))
         split
         ·exact h2.fail 14 (by decide)
         ·exact h2
theorem blockLoop_go : ∀ (f : Nat) (out : T) (s t : St), Go ts s t → Go ts s (blockLoop ts ex bl f out t).2
 | 0, _, _, _, h => h
 | f + 1, out, s, t, h => by
  unfold blockLoop
  simp only
  split
  ·exact h
  ·split
   ·have h2 : Go ts s (retPart ts ex (adv t)).2 := by
     unfold retPart
     simp only
     split
     ·exact Go.by (F := ex) hx (h.is hE ‹_›)
     ·exact h.is hE ‹_›
    unfold closeB
    split
    ·exact h2.opt hE _
    ·exact (h2.opt hE _).fail 14 (by decide)
   ·exact blockLoop_go f _ s _ ((stat_go hE hx hb _ h).opt hE _)
theorem good_block : Good ts (block ts ex bl) := fun s h => blockLoop_go hE hx hb _ _ s _ (.refl h)
omit hx hb
theorem good_join {un : St → R} (hu : Good ts un) {jn : Option (St → R)} (hj : ∀ u, jn = some u → Good ts u) : Good ts (join ts un jn) := fun s h => by
 have h2 := good_bin hE (good_bin hE (good_pass hu) 5) 4 s h
 unfold join
 simp only
 split
 ·have h3 := h2.is hE ‹_›
  cases jn with
  | none => exact h3.fail 8 (by decide)
  | some u => exact Go.by (F := u) (hj u rfl) h3
 ·exact h2
theorem good_level0 {jn : St → R} (hj : Good ts jn) : Good ts (level0 ts jn) := good_bin hE (good_bin hE (good_bin hE (good_pass hj) 2) 1) 0
omit hE in
theorem good_fail : Good ts (fun s => (T0, fail 8 s)) := fun s h => (Go.refl h).fail 8 (by decide)
omit hE in
theorem good_fail2 : Good ts (fun s => (T.nil, fail 8 s)) := fun s h => (Go.refl h).fail 8 (by decide)
end
theorem good_pk (hE : Ends ts) : ∀ k, Good ts (pk ts k).ex ∧ Good ts (pk ts k).bl ∧ Good ts (pk ts k).un ∧ Good ts (pk ts k).jn
 | 0 => by
  have hu := good_unary hE (good_fail (ts := ts)) (good_fail2 (ts := ts)) (un := none) (fun _ e => by cases e)
  exact ⟨good_fail, good_fail2, hu, good_join hE hu (fun _ e => by cases e)⟩
 | k + 1 => by
  obtain ⟨h1, h2, h3, h4⟩ := good_pk hE k
  have hx := good_level0 hE h4
  have hb := good_block hE h1 h2
  have hu := good_unary hE hx hb (un := some (pk ts k).un) (fun _ e => by cases e; exact h3)
  exact ⟨hx, hb, hu, good_join hE hu (fun _ e => by cases e; exact h4)⟩
end
end TP
