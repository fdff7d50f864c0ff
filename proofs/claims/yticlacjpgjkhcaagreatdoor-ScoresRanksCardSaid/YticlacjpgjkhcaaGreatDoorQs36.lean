/- Texts joined: ZD, ZT -/
import Derived.Test.YticlacjpgjkhcaaGreatDoorQs32
import Derived.Test.YticlacjpgjkhcaaGreatDoorQs33
import Derived.Test.YticlacjpgjkhcaaGreatDoorQs35
set_option linter.unusedVariables false
set_option linter.unusedSimpArgs false

/- The commands of scores at a law's space of one key. -/
namespace Go.Proofs.YticlacjpgjkhcaaGreatDoor
open Go.ChangeShapes Go.WideShapes Go.ChangeAt Go.RowKit

abbrev LDZ := LD KS okS
abbrev DoS := DoP KS okS
theorem d_plainZ (W0 : World) (RAW NAME : ByteArray) (F : FuncId) (bS bM : Nat) (D D' : List (ByteArray × List (ByteArray × Int))) (xs : List ByteArray) (vA : Value) (k n : Int) (s : ByteArray) (R : Nat → World → Value → Prop) (hR : RKeep R) (des : List (ByteArray × Option (List (ByteArray × Int)))) (hm : MayD okS des D) (hD : applyD des D = D') (w : World) (hL : LDZ W0 w bS bM D) (hA : SSl w vA xs) (hx : xs[0]? = some RAW) (hfit : ∀ X, SSl X vA xs → Calls Tryz.prog 95 #[vA] X fun e w' => e = .returned (.int .i64 0) ∧ Below X.heap.size X w') (hup : ∀ X, Calls Tryz.prog 96 #[.string RAW] X fun e w' => e = .returned (.string NAME) ∧ Below X.heap.size X w')
    (hsel : MapT.find NAME flZ = some (.func (.func F) #[] #[])) (hent : ∀ (args : Array Value) (w : World), (callFunc F args).run Tryz.prog w = .ok (.enter F args) w) (hF : ∀ X, Below w.heap.size w X → CmdD KS okS F bS bM D 1 xs k n s R des X) :
    Calls Tryz.prog 17 #[.pointer (some ⟨bS, 0, none⟩), vA] w (DoS W0 bS bM D' k n s R w) := by
  refine (do_DZ KS okS KSok RAW NAME F bS bM D xs vA k n s R hR des hm w hL.sp hA hx hfit hup hsel hent hF).mono ?_
  rintro e w' ⟨A, m, c, rfl, h1, h2, h3⟩
  rw [hD] at h2
  exact ⟨A, m, c, rfl, h1, hL.step h2 h3, h3⟩
theorem d_ZADD (W0 : World) (bS bM : Nat) (hT : TZ W0) (F : List (ByteArray × Int)) (xs : List ByteArray) (P : Nat) (nm tx : Nat → ByteArray) (v : Nat → Int) (hl : xs.length = 2 * P + 2) (h0 : xs[0]? = some ⟨#[90, 65, 68, 68]⟩) (hk : xs[1]? = some ⟨#[107]⟩) (ht : ∀ i, i < P → xs[2 * i + 2]? = some (tx i) ∧ (tx i).size ≤ 100000 ∧ parseI (tx i).data.toList = some (v i) ∧ xs[2 * i + 3]? = some (nm i)) (hP : P ≤ 10) (hP0 : 0 < P) (hb : ZBd (addZ nm v F P)) (vA : Value) (w : World) (hL : LDZ W0 w bS bM (dZ F)) (hA : SSl w vA xs) : Calls Tryz.prog 17 #[.pointer (some ⟨bS, 0, none⟩), vA] w (DoS W0 bS bM (dZ (addZ nm v F P)) 3 (addN nm v F P : Nat) ⟨#[]⟩ R0 w) :=
  d_plainZ W0 ⟨#[90, 65, 68, 68]⟩ ⟨#[90, 65, 68, 68]⟩ 52 bS bM (dZ F) _ _ vA 3 (addN nm v F P : Nat) ⟨#[]⟩ _ R0.keep _ (may_eff okS ⟨#[107]⟩ (some (addZ nm v F P)) (dZ F) (fun x hx => by cases hx; exact hb.ok (addZ_ne nm v F hP0)) (dZ_len _)) (by rw [apply_eff]; exact dZ_set F _ (addZ_ne nm v F hP0)) w hL hA h0 (fun X h => Fits_ZADD _ _ h0 (by omega) (by omega) (by omega) X h) hu_ZADD sel_ZADD ent_ZADD (fun X hX => cZADD bS bM (dZ F) 1 ⟨#[107]⟩ xs P nm tx v hl hk ht hP hP0 F (dZ_find F) (hb.ok (addZ_ne nm v F hP0)) X (hT.at_ (hL.below.trans (hX.mono (Below.size hL.below)))).2.1 (hT.at_ (hL.below.trans (hX.mono (Below.size hL.below)))).2.2)
theorem d_ZINCRBY (W0 : World) (bS bM : Nat) (hT : TZ W0) (F : List (ByteArray × Int)) (nm b : ByteArray) (x y : Int) (hb9 : b.size ≤ 100000) (hpb : parseI b.data.toList = some x) (hx : I64 x) (hy : I64 y) (hr0 : rng (y + x) = true) (hfn : findD nm F = some y) (hb : ZBd (putZ nm (y + x) F)) (vA : Value) (w : World) (hL : LDZ W0 w bS bM (dZ F)) (hA : SSl w vA [⟨#[90, 73, 78, 67, 82, 66, 89]⟩, ⟨#[107]⟩, b, nm]) : Calls Tryz.prog 17 #[.pointer (some ⟨bS, 0, none⟩), vA] w (DoS W0 bS bM (dZ (putZ nm (y + x) F)) 4 0 (numT (y + x)) R0 w) :=
  d_plainZ W0 ⟨#[90, 73, 78, 67, 82, 66, 89]⟩ ⟨#[90, 73, 78, 67, 82, 66, 89]⟩ 53 bS bM (dZ F) _ _ vA 4 0 (numT (y + x)) _ R0.keep _ (may_eff okS ⟨#[107]⟩ (some (putZ nm (y + x) F)) (dZ F) (fun x hx => by cases hx; exact hb.ok (putZ_ne _ _ _)) (dZ_len _)) (by rw [apply_eff]; exact dZ_set F _ (putZ_ne _ _ _)) w hL hA rfl (fun X h => Fits_ZINCRBY _ _ rfl (by simp) (by simp) X h) hu_ZINCRBY sel_ZINCRBY ent_ZINCRBY (fun X hX => cZINCRBY bS bM (dZ F) 1 _ ⟨#[107]⟩ nm b x y hb9 hpb hx hy hr0 W0 hT.1 F (dZ_find F) hfn (hb.ok (putZ_ne _ _ _)) (Nat.le_trans hb.few (by decide)) X (hT.at_ (hL.below.trans (hX.mono (Below.size hL.below)))).2.1 (hT.at_ (hL.below.trans (hX.mono (Below.size hL.below)))).2.2 (hL.below.trans (hX.mono (Below.size hL.below))))
theorem d_ZPOPMIN (W0 : World) (bS bM : Nat) (hT : TZ W0) (F : List (ByteArray × Int)) (p : ByteArray × Int) (T : List (ByteArray × Int)) (hFp : F = p :: T) (hb : ZBd F) (vA : Value) (w : World) (hL : LDZ W0 w bS bM (dZ F)) (hA : SSl w vA [⟨#[90, 80, 79, 80, 77, 73, 78]⟩, ⟨#[107]⟩]) : Calls Tryz.prog 17 #[.pointer (some ⟨bS, 0, none⟩), vA] w (DoS W0 bS bM (dZ (delD p.1 F)) 6 0 ⟨#[]⟩ (RO ([some p.1, some (numT p.2)])) w) :=
  d_plainZ W0 ⟨#[90, 80, 79, 80, 77, 73, 78]⟩ ⟨#[90, 80, 79, 80, 77, 73, 78]⟩ 70 bS bM (dZ F) _ _ vA 6 0 ⟨#[]⟩ _ (RO.keep _) _ (may_eff okS ⟨#[107]⟩ (xoS (delD p.1 F)) (dZ F) (xoS_ok (fun g => (hb.sub (del_subZ p.1 F)).ok g)) (dZ_len _)) (by rw [apply_eff]; exact dZ_xo F _) w hL hA rfl (fun X h => Fits_ZPOPMIN _ _ rfl (by simp) (by simp) X h) hu_ZPOPMIN sel_ZPOPMIN ent_ZPOPMIN (fun X hX => cZPOPMIN bS bM (dZ F) 1 _ ⟨#[107]⟩ p T F hFp (hb.sc p (by rw [hFp]; exact List.mem_cons_self)) (fun g => (hb.sub (del_subZ p.1 F)).ok g) (Nat.le_trans (hb.sub (del_subZ p.1 F)).few (by decide)) W0 hT.1 (dZ_find F) X (hT.at_ (hL.below.trans (hX.mono (Below.size hL.below)))).2.1 (hT.at_ (hL.below.trans (hX.mono (Below.size hL.below)))).2.2 (hL.below.trans (hX.mono (Below.size hL.below))))
theorem d_ZREMRANGEBYRANK (W0 : World) (bS bM : Nat) (hT : TZ W0) (F : List (ByteArray × Int)) (b1 b2 : ByteArray) (lo hi : Int) (hb1 : b1.size ≤ 100000) (hp1 : parseI b1.data.toList = some lo) (hb2 : b2.size ≤ 100000) (hp2 : parseI b2.data.toList = some hi) (hx : -1000000000 ≤ lo ∧ lo ≤ 1000000000) (hy : -1000000000 ≤ hi ∧ hi ≤ 1000000000) (hb : ZBd F) (vA : Value) (w : World) (hL : LDZ W0 w bS bM (dZ F)) (hA : SSl w vA [⟨#[90, 82, 69, 77, 82, 65, 78, 71, 69, 66, 89, 82, 65, 78, 75]⟩, ⟨#[107]⟩, b1, b2]) : Calls Tryz.prog 17 #[.pointer (some ⟨bS, 0, none⟩), vA] w (DoS W0 bS bM (dZ (dels (spanZ lo hi F) F)) 3 ((spanZ lo hi F).length : Nat) ⟨#[]⟩ R0 w) :=
  d_plainZ W0 ⟨#[90, 82, 69, 77, 82, 65, 78, 71, 69, 66, 89, 82, 65, 78, 75]⟩ ⟨#[90, 82, 69, 77, 82, 65, 78, 71, 69, 66, 89, 82, 65, 78, 75]⟩ 73 bS bM (dZ F) _ _ vA 3 ((spanZ lo hi F).length : Nat) ⟨#[]⟩ _ R0.keep _ (may_eff okS ⟨#[107]⟩ (xoS (dels (spanZ lo hi F) F)) (dZ F) (xoS_ok (fun g => (hb.sub (dels_sub _ F)).ok g)) (dZ_len _)) (by rw [apply_eff]; exact dZ_xo F _) w hL hA rfl (fun X h => Fits_ZREMRANGEBYRANK _ _ rfl (by simp) (by simp) X h) hu_ZREMRANGEBYRANK sel_ZREMRANGEBYRANK ent_ZREMRANGEBYRANK (fun X hX => cZREMRANGEBYRANK bS bM (dZ F) 1 _ ⟨#[107]⟩ b1 b2 lo hi hb1 hp1 hb2 hp2 hx hy F (dZ_find F) (fun g => (hb.sub (dels_sub _ F)).ok g) X (hT.at_ (hL.below.trans (hX.mono (Below.size hL.below)))).2.1 (hT.at_ (hL.below.trans (hX.mono (Below.size hL.below)))).2.2)
theorem d_ZREMRANGEBYSCORE (W0 : World) (bS bM : Nat) (hT : TZ W0) (F : List (ByteArray × Int)) (b1 b2 : ByteArray) (lo hi : Int) (hb1 : b1.size ≤ 100000) (hp1 : parseI b1.data.toList = some lo) (hb2 : b2.size ≤ 100000) (hp2 : parseI b2.data.toList = some hi) (hb : ZBd F) (vA : Value) (w : World) (hL : LDZ W0 w bS bM (dZ F)) (hA : SSl w vA [⟨#[90, 82, 69, 77, 82, 65, 78, 71, 69, 66, 89, 83, 67, 79, 82, 69]⟩, ⟨#[107]⟩, b1, b2]) : Calls Tryz.prog 17 #[.pointer (some ⟨bS, 0, none⟩), vA] w (DoS W0 bS bM (dZ (dels (btZ lo hi F) F)) 3 ((btZ lo hi F).length : Nat) ⟨#[]⟩ R0 w) :=
  d_plainZ W0 ⟨#[90, 82, 69, 77, 82, 65, 78, 71, 69, 66, 89, 83, 67, 79, 82, 69]⟩ ⟨#[90, 82, 69, 77, 82, 65, 78, 71, 69, 66, 89, 83, 67, 79, 82, 69]⟩ 76 bS bM (dZ F) _ _ vA 3 ((btZ lo hi F).length : Nat) ⟨#[]⟩ _ R0.keep _ (may_eff okS ⟨#[107]⟩ (xoS (dels (btZ lo hi F) F)) (dZ F) (xoS_ok (fun g => (hb.sub (dels_sub _ F)).ok g)) (dZ_len _)) (by rw [apply_eff]; exact dZ_xo F _) w hL hA rfl (fun X h => Fits_ZREMRANGEBYSCORE _ _ rfl (by simp) (by simp) X h) hu_ZREMRANGEBYSCORE sel_ZREMRANGEBYSCORE ent_ZREMRANGEBYSCORE (fun X hX => cZREMRANGEBYSCORE bS bM (dZ F) 1 _ ⟨#[107]⟩ b1 b2 lo hi hb1 hp1 hb2 hp2 F (dZ_find F) (fun g => (hb.sub (dels_sub _ F)).ok g) X (hT.at_ (hL.below.trans (hX.mono (Below.size hL.below)))).2.1 (hT.at_ (hL.below.trans (hX.mono (Below.size hL.below)))).2.2)
theorem d_ZRANGE (W0 : World) (bS bM : Nat) (hT : TZ W0) (F : List (ByteArray × Int)) (b1 b2 : ByteArray) (lo hi : Int) (hb1 : b1.size ≤ 100000) (hp1 : parseI b1.data.toList = some lo) (hb2 : b2.size ≤ 100000) (hp2 : parseI b2.data.toList = some hi) (hx : -1000000000 ≤ lo ∧ lo ≤ 1000000000) (hy : -1000000000 ≤ hi ∧ hi ≤ 1000000000) (vA : Value) (w : World) (hL : LDZ W0 w bS bM (dZ F)) (hA : SSl w vA [⟨#[90, 82, 65, 78, 71, 69]⟩, ⟨#[107]⟩, b1, b2]) : Calls Tryz.prog 17 #[.pointer (some ⟨bS, 0, none⟩), vA] w (DoS W0 bS bM (dZ F) 6 0 ⟨#[]⟩ (RO (((spanZ lo hi F).map Prod.fst).map some)) w) :=
  d_plainZ W0 ⟨#[90, 82, 65, 78, 71, 69]⟩ ⟨#[90, 82, 65, 78, 71, 69]⟩ 60 bS bM (dZ F) _ _ vA 6 0 ⟨#[]⟩ _ (RO.keep _) [] trivial rfl w hL hA rfl (fun X h => Fits_ZRANGE _ _ rfl (by simp) (by simp) X h) hu_ZRANGE sel_ZRANGE ent_ZRANGE (fun X hX => cZRANGE bS bM (dZ F) 1 _ ⟨#[107]⟩ b1 b2 lo hi hb1 hp1 hb2 hp2 hx hy F (dZ_find F) X (hT.at_ (hL.below.trans (hX.mono (Below.size hL.below)))).2.1 (hT.at_ (hL.below.trans (hX.mono (Below.size hL.below)))).2.2)
theorem d_ZRANGEBYSCORE (W0 : World) (bS bM : Nat) (hT : TZ W0) (F : List (ByteArray × Int)) (b1 b2 : ByteArray) (lo hi : Int) (hb1 : b1.size ≤ 100000) (hp1 : parseI b1.data.toList = some lo) (hb2 : b2.size ≤ 100000) (hp2 : parseI b2.data.toList = some hi) (vA : Value) (w : World) (hL : LDZ W0 w bS bM (dZ F)) (hA : SSl w vA [⟨#[90, 82, 65, 78, 71, 69, 66, 89, 83, 67, 79, 82, 69]⟩, ⟨#[107]⟩, b1, b2]) : Calls Tryz.prog 17 #[.pointer (some ⟨bS, 0, none⟩), vA] w (DoS W0 bS bM (dZ F) 6 0 ⟨#[]⟩ (RO (((btZ lo hi F).map Prod.fst).map some)) w) :=
  d_plainZ W0 ⟨#[90, 82, 65, 78, 71, 69, 66, 89, 83, 67, 79, 82, 69]⟩ ⟨#[90, 82, 65, 78, 71, 69, 66, 89, 83, 67, 79, 82, 69]⟩ 63 bS bM (dZ F) _ _ vA 6 0 ⟨#[]⟩ _ (RO.keep _) [] trivial rfl w hL hA rfl (fun X h => Fits_ZRANGEBYSCORE _ _ rfl (by simp) (by simp) X h) hu_ZRANGEBYSCORE sel_ZRANGEBYSCORE ent_ZRANGEBYSCORE (fun X hX => cZRANGEBYSCORE bS bM (dZ F) 1 _ ⟨#[107]⟩ b1 b2 lo hi hb1 hp1 hb2 hp2 F (dZ_find F) X (hT.at_ (hL.below.trans (hX.mono (Below.size hL.below)))).2.1 (hT.at_ (hL.below.trans (hX.mono (Below.size hL.below)))).2.2)
theorem d_ZCOUNT (W0 : World) (bS bM : Nat) (hT : TZ W0) (F : List (ByteArray × Int)) (b1 b2 : ByteArray) (lo hi : Int) (hb1 : b1.size ≤ 100000) (hp1 : parseI b1.data.toList = some lo) (hb2 : b2.size ≤ 100000) (hp2 : parseI b2.data.toList = some hi) (vA : Value) (w : World) (hL : LDZ W0 w bS bM (dZ F)) (hA : SSl w vA [⟨#[90, 67, 79, 85, 78, 84]⟩, ⟨#[107]⟩, b1, b2]) : Calls Tryz.prog 17 #[.pointer (some ⟨bS, 0, none⟩), vA] w (DoS W0 bS bM (dZ F) 3 ((btZ lo hi F).length : Nat) ⟨#[]⟩ R0 w) :=
  d_plainZ W0 ⟨#[90, 67, 79, 85, 78, 84]⟩ ⟨#[90, 67, 79, 85, 78, 84]⟩ 68 bS bM (dZ F) _ _ vA 3 ((btZ lo hi F).length : Nat) ⟨#[]⟩ _ R0.keep [] trivial rfl w hL hA rfl (fun X h => Fits_ZCOUNT _ _ rfl (by simp) (by simp) X h) hu_ZCOUNT sel_ZCOUNT ent_ZCOUNT (fun X hX => cZCOUNT bS bM (dZ F) 1 _ ⟨#[107]⟩ b1 b2 lo hi hb1 hp1 hb2 hp2 F (dZ_find F) X (hT.at_ (hL.below.trans (hX.mono (Below.size hL.below)))).2.1 (hT.at_ (hL.below.trans (hX.mono (Below.size hL.below)))).2.2)
theorem d_ZCARD (W0 : World) (bS bM : Nat) (hT : TZ W0) (F : List (ByteArray × Int))  (vA : Value) (w : World) (hL : LDZ W0 w bS bM (dZ F)) (hA : SSl w vA [⟨#[90, 67, 65, 82, 68]⟩, ⟨#[107]⟩]) : Calls Tryz.prog 17 #[.pointer (some ⟨bS, 0, none⟩), vA] w (DoS W0 bS bM (dZ F) 3 (F.length : Nat) ⟨#[]⟩ R0 w) :=
  d_plainZ W0 ⟨#[90, 67, 65, 82, 68]⟩ ⟨#[90, 67, 65, 82, 68]⟩ 56 bS bM (dZ F) _ _ vA 3 (F.length : Nat) ⟨#[]⟩ _ R0.keep [] trivial rfl w hL hA rfl (fun X h => Fits_ZCARD _ _ rfl (by simp) (by simp) X h) hu_ZCARD sel_ZCARD ent_ZCARD (fun X hX => cZCARD bS bM (dZ F) 1 _ ⟨#[107]⟩ F (dZ_find F) X (hT.at_ (hL.below.trans (hX.mono (Below.size hL.below)))).2.1 (hT.at_ (hL.below.trans (hX.mono (Below.size hL.below)))).2.2)
theorem d_ZRANK (W0 : World) (bS bM : Nat) (hT : TZ W0) (F : List (ByteArray × Int)) (nm : ByteArray) (s : Int) (hfn : findD nm F = some s) (vA : Value) (w : World) (hL : LDZ W0 w bS bM (dZ F)) (hA : SSl w vA [⟨#[90, 82, 65, 78, 75]⟩, ⟨#[107]⟩, nm]) : Calls Tryz.prog 17 #[.pointer (some ⟨bS, 0, none⟩), vA] w (DoS W0 bS bM (dZ F) 3 ((rankZ (nm, s) F : Nat) : Int) ⟨#[]⟩ R0 w) :=
  d_plainZ W0 ⟨#[90, 82, 65, 78, 75]⟩ ⟨#[90, 82, 65, 78, 75]⟩ 57 bS bM (dZ F) _ _ vA 3 ((rankZ (nm, s) F : Nat) : Int) ⟨#[]⟩ _ R0.keep [] trivial rfl w hL hA rfl (fun X h => Fits_ZRANK _ _ rfl (by simp) (by simp) X h) hu_ZRANK sel_ZRANK ent_ZRANK (fun X hX => cZRANK1 bS bM (dZ F) 1 _ ⟨#[107]⟩ nm s F (dZ_find F) hfn X (hT.at_ (hL.below.trans (hX.mono (Below.size hL.below)))).2.1 (hT.at_ (hL.below.trans (hX.mono (Below.size hL.below)))).2.2)
theorem d_ZREVRANK (W0 : World) (bS bM : Nat) (hT : TZ W0) (F : List (ByteArray × Int)) (nm : ByteArray) (s : Int) (hfn : findD nm F = some s) (vA : Value) (w : World) (hL : LDZ W0 w bS bM (dZ F)) (hA : SSl w vA [⟨#[90, 82, 69, 86, 82, 65, 78, 75]⟩, ⟨#[107]⟩, nm]) : Calls Tryz.prog 17 #[.pointer (some ⟨bS, 0, none⟩), vA] w (DoS W0 bS bM (dZ F) 3 (F.length - 1 - (rankZ (nm, s) F : Nat) : Int) ⟨#[]⟩ R0 w) :=
  d_plainZ W0 ⟨#[90, 82, 69, 86, 82, 65, 78, 75]⟩ ⟨#[90, 82, 69, 86, 82, 65, 78, 75]⟩ 59 bS bM (dZ F) _ _ vA 3 (F.length - 1 - (rankZ (nm, s) F : Nat) : Int) ⟨#[]⟩ _ R0.keep [] trivial rfl w hL hA rfl (fun X h => Fits_ZREVRANK _ _ rfl (by simp) (by simp) X h) hu_ZREVRANK sel_ZREVRANK ent_ZREVRANK (fun X hX => cZREVRANK1 bS bM (dZ F) 1 _ ⟨#[107]⟩ nm s F (dZ_find F) hfn X (hT.at_ (hL.below.trans (hX.mono (Below.size hL.below)))).2.1 (hT.at_ (hL.below.trans (hX.mono (Below.size hL.below)))).2.2)
theorem d_ZSCORE (W0 : World) (bS bM : Nat) (hT : TZ W0) (F : List (ByteArray × Int)) (nm : ByteArray) (s : Int) (hs : I64 s) (hfn : findD nm F = some s) (vA : Value) (w : World) (hL : LDZ W0 w bS bM (dZ F)) (hA : SSl w vA [⟨#[90, 83, 67, 79, 82, 69]⟩, ⟨#[107]⟩, nm]) : Calls Tryz.prog 17 #[.pointer (some ⟨bS, 0, none⟩), vA] w (DoS W0 bS bM (dZ F) 4 0 (numT s) R0 w) :=
  d_plainZ W0 ⟨#[90, 83, 67, 79, 82, 69]⟩ ⟨#[90, 83, 67, 79, 82, 69]⟩ 55 bS bM (dZ F) _ _ vA 4 0 (numT s) _ R0.keep [] trivial rfl w hL hA rfl (fun X h => Fits_ZSCORE _ _ rfl (by simp) (by simp) X h) hu_ZSCORE sel_ZSCORE ent_ZSCORE (fun X hX => cZSCORE bS bM (dZ F) 1 _ ⟨#[107]⟩ nm s hs W0 hT.1 F (dZ_find F) hfn X (hT.at_ (hL.below.trans (hX.mono (Below.size hL.below)))).2.1 (hT.at_ (hL.below.trans (hX.mono (Below.size hL.below)))).2.2 (hL.below.trans (hX.mono (Below.size hL.below))))
theorem d_ZREVRANGE (W0 : World) (bS bM : Nat) (hT : TZ W0) (F : List (ByteArray × Int)) (hne : F ≠ []) (vA : Value) (w : World) (hL : LDZ W0 w bS bM (dZ F)) (hA : SSl w vA [⟨#[90, 82, 69, 86, 82, 65, 78, 71, 69]⟩, ⟨#[107]⟩, ⟨#[48]⟩, ⟨#[45, 49]⟩]) : Calls Tryz.prog 17 #[.pointer (some ⟨bS, 0, none⟩), vA] w (DoS W0 bS bM (dZ F) 6 0 ⟨#[]⟩ (RO ((F.map Prod.fst).reverse.map some)) w) :=
  d_plainZ W0 ⟨#[90, 82, 69, 86, 82, 65, 78, 71, 69]⟩ ⟨#[90, 82, 69, 86, 82, 65, 78, 71, 69]⟩ 62 bS bM (dZ F) _ _ vA 6 0 ⟨#[]⟩ _ (RO.keep _) [] trivial rfl w hL hA rfl (fun X h => Fits_ZREVRANGE _ _ rfl (by simp) (by simp) X h) hu_ZREVRANGE sel_ZREVRANGE ent_ZREVRANGE (fun X hX => cZREVRANGE bS bM (dZ F) 1 _ ⟨#[107]⟩ _ _ (by decide) (by kernel_rfl) (by decide) (by kernel_rfl) F (dZ_find F) hne X (hT.at_ (hL.below.trans (hX.mono (Below.size hL.below)))).2.1 (hT.at_ (hL.below.trans (hX.mono (Below.size hL.below)))).2.2)
end Go.Proofs.YticlacjpgjkhcaaGreatDoor

/- What the program tells of a few scores. -/
namespace Go.Proofs.YticlacjpgjkhcaaGreatDoor
open Go.ChangeShapes Go.WideShapes Go.ChangeAt Go.RowKit

theorem spanZ_all (F : List (ByteArray × Int)) : spanZ 0 (-1) F = F := by
  have h1 : spA 0 F.length = 0 := by unfold spA; simp
  have h2 : spC (-1) F.length = (F.length : Int) - 1 := by unfold spC; simp; omega
  unfold spanZ
  rw [h1, h2]
  by_cases h : F = []
  · subst h
    rfl
  · have h3 : 0 < F.length := List.length_pos_iff.2 h
    rw [if_pos (by omega)]
    have h4 : ((F.length : Int) - 1).toNat + 1 - (0 : Int).toNat = F.length := by omega
    rw [h4]
    simp
def tn (i : Nat) : ByteArray := if i = 0 then ⟨#[97]⟩ else if i = 1 then ⟨#[98]⟩ else ⟨#[65]⟩
def tt (i : Nat) : ByteArray := if i = 0 then ⟨#[53]⟩ else if i = 1 then ⟨#[51]⟩ else ⟨#[53]⟩
def tv (i : Nat) : Int := if i = 0 then 5 else if i = 1 then 3 else 5
theorem tz_add : addZ tn tv [] 3 = [(⟨#[98]⟩, (3 : Int)), (⟨#[65]⟩, (5 : Int)), (⟨#[97]⟩, (5 : Int))] := by kernel_rfl
theorem tz_n : addN tn tv [] 3 = 3 := by kernel_rfl
theorem tz_put : putZ ⟨#[97]⟩ (5 + -9) [(⟨#[98]⟩, (3 : Int)), (⟨#[65]⟩, (5 : Int)), (⟨#[97]⟩, (5 : Int))] = [(⟨#[97]⟩, (-4 : Int)), (⟨#[98]⟩, (3 : Int)), (⟨#[65]⟩, (5 : Int))] := by kernel_rfl
theorem tz_rank : rankZ (⟨#[97]⟩, (5 : Int)) [(⟨#[98]⟩, (3 : Int)), (⟨#[65]⟩, (5 : Int)), (⟨#[97]⟩, (5 : Int))] = 2 := by kernel_rfl
theorem tz_del : delD ⟨#[97]⟩ [(⟨#[97]⟩, (-4 : Int)), (⟨#[98]⟩, (3 : Int)), (⟨#[65]⟩, (5 : Int))] = [(⟨#[98]⟩, (3 : Int)), (⟨#[65]⟩, (5 : Int))] := by kernel_rfl
theorem tz_bt : (btZ 3 5 [(⟨#[98]⟩, (3 : Int)), (⟨#[65]⟩, (5 : Int))]).length = 2 := by kernel_rfl
theorem tz_m4 : numT (-4) = ⟨#[45, 52]⟩ := by kernel_rfl
theorem zb1 : ZBd [(⟨#[98]⟩, (3 : Int)), (⟨#[65]⟩, (5 : Int)), (⟨#[97]⟩, (5 : Int))] := by
  refine ⟨by decide, fun p hp => ?_, ?_, ?_, fun p hp => ?_⟩
  · simp at hp
    rcases hp with rfl | rfl | rfl <;> (show (1 : Nat) ≤ 100; decide)
  · unfold Ord
    refine List.Pairwise.cons (fun x hx => ?_) (List.Pairwise.cons (fun x hx => ?_) (List.Pairwise.cons (fun x hx => by cases hx) List.Pairwise.nil))
    · simp at hx
      rcases hx with rfl | rfl <;> decide
    · simp at hx
      subst hx
      decide
  · show ([⟨#[98]⟩, ⟨#[65]⟩, ⟨#[97]⟩] : List ByteArray).Nodup
    decide
  · simp at hp
    rcases hp with rfl | rfl | rfl <;> exact ⟨by decide, by decide⟩
theorem zb2 : ZBd [(⟨#[97]⟩, (-4 : Int)), (⟨#[98]⟩, (3 : Int)), (⟨#[65]⟩, (5 : Int))] := by
  refine ⟨by decide, fun p hp => ?_, ?_, ?_, fun p hp => ?_⟩
  · simp at hp
    rcases hp with rfl | rfl | rfl <;> (show (1 : Nat) ≤ 100; decide)
  · unfold Ord
    refine List.Pairwise.cons (fun x hx => ?_) (List.Pairwise.cons (fun x hx => ?_) (List.Pairwise.cons (fun x hx => by cases hx) List.Pairwise.nil))
    · simp at hx
      rcases hx with rfl | rfl <;> decide
    · simp at hx
      subst hx
      decide
  · show ([⟨#[97]⟩, ⟨#[98]⟩, ⟨#[65]⟩] : List ByteArray).Nodup
    decide
  · simp at hp
    rcases hp with rfl | rfl | rfl <;> exact ⟨by decide, by decide⟩
theorem tz_a (W0 : World) (bS bM : Nat) (hT : TZ W0) (X : World) (hL : LDZ W0 X bS bM []) (q : Nat) (hq : X.heap.size = q) : Calls Tryz.prog 17 #[.pointer (some ⟨bS, 0, none⟩), .slice (some ⟨q, 0, none⟩) 8 8] (X.alloc (.cells #[.string ⟨#[90, 65, 68, 68]⟩, .string ⟨#[107]⟩, .string ⟨#[53]⟩, .string ⟨#[97]⟩, .string ⟨#[51]⟩, .string ⟨#[98]⟩, .string ⟨#[53]⟩, .string ⟨#[65]⟩] 9)) fun e w' => e = .returned (.agg #[.int .i64 3, .int .i64 3, .string ⟨#[]⟩, .slice none 0 0]) ∧ LDZ W0 w' bS bM (dZ [(⟨#[98]⟩, (3 : Int)), (⟨#[65]⟩, (5 : Int)), (⟨#[97]⟩, (5 : Int))]) ∧ Kp X.heap.size (fun i => i ≠ bS ∧ i ≠ bM) X w' := by
  subst hq
  have ht : ∀ i, i < 3 → ([⟨#[90, 65, 68, 68]⟩, ⟨#[107]⟩, ⟨#[53]⟩, ⟨#[97]⟩, ⟨#[51]⟩, ⟨#[98]⟩, ⟨#[53]⟩, ⟨#[65]⟩] : List ByteArray)[2 * i + 2]? = some (tt i) ∧ (tt i).size ≤ 100000 ∧ parseI (tt i).data.toList = some (tv i) ∧ ([⟨#[90, 65, 68, 68]⟩, ⟨#[107]⟩, ⟨#[53]⟩, ⟨#[97]⟩, ⟨#[51]⟩, ⟨#[98]⟩, ⟨#[53]⟩, ⟨#[65]⟩] : List ByteArray)[2 * i + 3]? = some (tn i) := by
    intro i h
    match i, h with
    | 0, _ => exact ⟨rfl, by decide, by kernel_rfl, rfl⟩
    | 1, _ => exact ⟨rfl, by decide, by kernel_rfl, rfl⟩
    | 2, _ => exact ⟨rfl, by decide, by kernel_rfl, rfl⟩
  exact lit0 X hL [⟨#[90, 65, 68, 68]⟩, ⟨#[107]⟩, ⟨#[53]⟩, ⟨#[97]⟩, ⟨#[51]⟩, ⟨#[98]⟩, ⟨#[53]⟩, ⟨#[65]⟩] (by simp) (fun vA w h hA => d_ZADD W0 bS bM hT [] [⟨#[90, 65, 68, 68]⟩, ⟨#[107]⟩, ⟨#[53]⟩, ⟨#[97]⟩, ⟨#[51]⟩, ⟨#[98]⟩, ⟨#[53]⟩, ⟨#[65]⟩] 3 tn tt tv rfl rfl rfl ht (by decide) (by decide) (by rw [tz_add]; exact zb1) vA w h hA) (by rw [tz_add]) (by rw [tz_n]; rfl) rfl
theorem tz_b (W0 : World) (bS bM : Nat) (hT : TZ W0) (X : World) (hL : LDZ W0 X bS bM (dZ [(⟨#[98]⟩, (3 : Int)), (⟨#[65]⟩, (5 : Int)), (⟨#[97]⟩, (5 : Int))])) (q : Nat) (hq : X.heap.size = q) : Calls Tryz.prog 17 #[.pointer (some ⟨bS, 0, none⟩), .slice (some ⟨q, 0, none⟩) 4 4] (X.alloc (.cells #[.string ⟨#[90, 82, 65, 78, 71, 69]⟩, .string ⟨#[107]⟩, .string ⟨#[48]⟩, .string ⟨#[45, 49]⟩] 9)) fun e w' => ∃ A m c, e = .returned (.agg #[.int .i64 6, .int .i64 0, .string ⟨#[]⟩, .slice A m c]) ∧ (RO [some ⟨#[98]⟩, some ⟨#[65]⟩, some ⟨#[97]⟩]) X.heap.size w' (.slice A m c) ∧ LDZ W0 w' bS bM (dZ [(⟨#[98]⟩, (3 : Int)), (⟨#[65]⟩, (5 : Int)), (⟨#[97]⟩, (5 : Int))]) ∧ Kp X.heap.size (fun i => i ≠ bS ∧ i ≠ bM) X w' := by
  subst hq
  exact litR (RO.keep _) X hL [⟨#[90, 82, 65, 78, 71, 69]⟩, ⟨#[107]⟩, ⟨#[48]⟩, ⟨#[45, 49]⟩] (by simp) (fun vA w h hA => d_ZRANGE W0 bS bM hT [(⟨#[98]⟩, (3 : Int)), (⟨#[65]⟩, (5 : Int)), (⟨#[97]⟩, (5 : Int))] ⟨#[48]⟩ ⟨#[45, 49]⟩ 0 (-1) (by decide) (by kernel_rfl) (by decide) (by kernel_rfl) (by decide) (by decide) vA w h hA) rfl rfl (by rw [spanZ_all]; rfl)
theorem tz_c (W0 : World) (bS bM : Nat) (hT : TZ W0) (X : World) (hL : LDZ W0 X bS bM (dZ [(⟨#[98]⟩, (3 : Int)), (⟨#[65]⟩, (5 : Int)), (⟨#[97]⟩, (5 : Int))])) (q : Nat) (hq : X.heap.size = q) : Calls Tryz.prog 17 #[.pointer (some ⟨bS, 0, none⟩), .slice (some ⟨q, 0, none⟩) 3 3] (X.alloc (.cells #[.string ⟨#[90, 82, 65, 78, 75]⟩, .string ⟨#[107]⟩, .string ⟨#[97]⟩] 9)) fun e w' => e = .returned (.agg #[.int .i64 3, .int .i64 2, .string ⟨#[]⟩, .slice none 0 0]) ∧ LDZ W0 w' bS bM (dZ [(⟨#[98]⟩, (3 : Int)), (⟨#[65]⟩, (5 : Int)), (⟨#[97]⟩, (5 : Int))]) ∧ Kp X.heap.size (fun i => i ≠ bS ∧ i ≠ bM) X w' := by
  subst hq
  exact lit0 X hL [⟨#[90, 82, 65, 78, 75]⟩, ⟨#[107]⟩, ⟨#[97]⟩] (by simp) (fun vA w h hA => d_ZRANK W0 bS bM hT [(⟨#[98]⟩, (3 : Int)), (⟨#[65]⟩, (5 : Int)), (⟨#[97]⟩, (5 : Int))] ⟨#[97]⟩ 5 (by kernel_rfl) vA w h hA) rfl (by rw [tz_rank]; rfl) rfl
theorem tz_d (W0 : World) (bS bM : Nat) (hT : TZ W0) (X : World) (hL : LDZ W0 X bS bM (dZ [(⟨#[98]⟩, (3 : Int)), (⟨#[65]⟩, (5 : Int)), (⟨#[97]⟩, (5 : Int))])) (q : Nat) (hq : X.heap.size = q) : Calls Tryz.prog 17 #[.pointer (some ⟨bS, 0, none⟩), .slice (some ⟨q, 0, none⟩) 4 4] (X.alloc (.cells #[.string ⟨#[90, 73, 78, 67, 82, 66, 89]⟩, .string ⟨#[107]⟩, .string ⟨#[45, 57]⟩, .string ⟨#[97]⟩] 9)) fun e w' => e = .returned (.agg #[.int .i64 4, .int .i64 0, .string ⟨#[45, 52]⟩, .slice none 0 0]) ∧ LDZ W0 w' bS bM (dZ [(⟨#[97]⟩, (-4 : Int)), (⟨#[98]⟩, (3 : Int)), (⟨#[65]⟩, (5 : Int))]) ∧ Kp X.heap.size (fun i => i ≠ bS ∧ i ≠ bM) X w' := by
  subst hq
  exact lit0 X hL [⟨#[90, 73, 78, 67, 82, 66, 89]⟩, ⟨#[107]⟩, ⟨#[45, 57]⟩, ⟨#[97]⟩] (by simp) (fun vA w h hA => d_ZINCRBY W0 bS bM hT [(⟨#[98]⟩, (3 : Int)), (⟨#[65]⟩, (5 : Int)), (⟨#[97]⟩, (5 : Int))] ⟨#[97]⟩ ⟨#[45, 57]⟩ (-9) 5 (by decide) (by kernel_rfl) ⟨by decide, by decide⟩ ⟨by decide, by decide⟩ (by decide) (by kernel_rfl) (by rw [tz_put]; exact zb2) vA w h hA) (by rw [tz_put]) rfl (by kernel_rfl)
theorem tz_e (W0 : World) (bS bM : Nat) (hT : TZ W0) (X : World) (hL : LDZ W0 X bS bM (dZ [(⟨#[97]⟩, (-4 : Int)), (⟨#[98]⟩, (3 : Int)), (⟨#[65]⟩, (5 : Int))])) (q : Nat) (hq : X.heap.size = q) : Calls Tryz.prog 17 #[.pointer (some ⟨bS, 0, none⟩), .slice (some ⟨q, 0, none⟩) 2 2] (X.alloc (.cells #[.string ⟨#[90, 80, 79, 80, 77, 73, 78]⟩, .string ⟨#[107]⟩] 9)) fun e w' => ∃ A m c, e = .returned (.agg #[.int .i64 6, .int .i64 0, .string ⟨#[]⟩, .slice A m c]) ∧ (RO [some ⟨#[97]⟩, some ⟨#[45, 52]⟩]) X.heap.size w' (.slice A m c) ∧ LDZ W0 w' bS bM (dZ [(⟨#[98]⟩, (3 : Int)), (⟨#[65]⟩, (5 : Int))]) ∧ Kp X.heap.size (fun i => i ≠ bS ∧ i ≠ bM) X w' := by
  subst hq
  exact litR (RO.keep _) X hL [⟨#[90, 80, 79, 80, 77, 73, 78]⟩, ⟨#[107]⟩] (by simp) (fun vA w h hA => d_ZPOPMIN W0 bS bM hT [(⟨#[97]⟩, (-4 : Int)), (⟨#[98]⟩, (3 : Int)), (⟨#[65]⟩, (5 : Int))] (⟨#[97]⟩, (-4 : Int)) [(⟨#[98]⟩, (3 : Int)), (⟨#[65]⟩, (5 : Int))] rfl zb2 vA w h hA) (by rw [tz_del]) rfl (by rw [tz_m4])
theorem tz_f (W0 : World) (bS bM : Nat) (hT : TZ W0) (X : World) (hL : LDZ W0 X bS bM (dZ [(⟨#[98]⟩, (3 : Int)), (⟨#[65]⟩, (5 : Int))])) (q : Nat) (hq : X.heap.size = q) : Calls Tryz.prog 17 #[.pointer (some ⟨bS, 0, none⟩), .slice (some ⟨q, 0, none⟩) 4 4] (X.alloc (.cells #[.string ⟨#[90, 67, 79, 85, 78, 84]⟩, .string ⟨#[107]⟩, .string ⟨#[51]⟩, .string ⟨#[53]⟩] 9)) fun e w' => e = .returned (.agg #[.int .i64 3, .int .i64 2, .string ⟨#[]⟩, .slice none 0 0]) ∧ LDZ W0 w' bS bM (dZ [(⟨#[98]⟩, (3 : Int)), (⟨#[65]⟩, (5 : Int))]) ∧ Kp X.heap.size (fun i => i ≠ bS ∧ i ≠ bM) X w' := by
  subst hq
  exact lit0 X hL [⟨#[90, 67, 79, 85, 78, 84]⟩, ⟨#[107]⟩, ⟨#[51]⟩, ⟨#[53]⟩] (by simp) (fun vA w h hA => d_ZCOUNT W0 bS bM hT [(⟨#[98]⟩, (3 : Int)), (⟨#[65]⟩, (5 : Int))] ⟨#[51]⟩ ⟨#[53]⟩ 3 5 (by decide) (by kernel_rfl) (by decide) (by kernel_rfl) vA w h hA) rfl (by rw [tz_bt]; rfl) rfl
set_option maxRecDepth 100000 in
set_option maxHeartbeats 8000000 in
theorem toldZ {W0 : World} (hT : TZ W0) : Calls Tryz.prog 18 #[] W0 fun e w' => e = .returned (.bool true) ∧ Below W0.heap.size W0 w' := by
  have NW := Lib.hid (New9 W0)
  have hfd : ∀ (a b : Int) (c : ByteArray) (A : Option Addr) (m cc : Nat) (w : World), (Instr.field 29 (.agg #[.int .i64 a, .int .i64 b, .string c, .slice A m cc]) 1).run Tryz.prog w = .ok (.int .i64 b) w := fun _ _ _ _ _ _ _ => by kernel_rfl
  go_enter Tryz.func18, Tryz.ntmps18
  go_wp2_with (first | (go_at_call 11; (with_reducible refine (NW.out).mono ?_); rintro e v0 ⟨bS, bM, rfl, hS0, hbS, hbM, hB0⟩; have L0 := Lib.hid (LD.mk0 KS okS hS0 hB0 hbS hbM); clear hS0 hbS hbM hB0; refine Hid.out ?_))
  refine Lib.hid ?_
  have D1 := Lib.hid (tz_a W0 bS bM hT (v0) L0.out (v0.heap.size) rfl)
  go_wp2_with (first | (go_at_call 17; (with_reducible refine (D1.out).mono ?_); rintro e v1 ⟨rfl, hL1, hK1⟩; have L1 := Lib.hid hL1; clear hL1 hK1; refine Hid.out ?_))
  refine Lib.hid ?_
  have M1 := Lib.hid (L1.out.old (alloc_old (o := .cells #[.int .i64 3, .int .i64 3, .string ⟨#[]⟩, .slice none 0 0] 29)))
  have ma1 := Lib.hid (heap_alloc_new v1 (.cells #[.int .i64 3, .int .i64 3, .string ⟨#[]⟩, .slice none 0 0] 29))
  have D2 := Lib.hid (tz_b W0 bS bM hT (v1.alloc (.cells #[.int .i64 3, .int .i64 3, .string ⟨#[]⟩, .slice none 0 0] 29)) M1.out (v1.heap.size + 1) (by simp))
  go_wp2_with (first | (go_at_call 17; (with_reducible refine (D2.out).mono ?_); rintro e v2 ⟨A2, m2, c2, rfl, hR2, hL2, hK2⟩; have L2 := Lib.hid hL2; have ka2 := Lib.hid (keepL hK2 M1.out ma1.out (by decide)); have kR2 := Lib.hid hR2; clear hL2 hK2 hR2; refine Hid.out ?_))
  refine Lib.hid ?_
  have M2 := Lib.hid (L2.out.old (alloc_old (o := .cells #[.int .i64 6, .int .i64 0, .string ⟨#[]⟩, .slice A2 m2 c2] 29)))
  have ma2 := Lib.hid (blk_below ka2.out (alloc_old (o := .cells #[.int .i64 6, .int .i64 0, .string ⟨#[]⟩, .slice A2 m2 c2] 29)))
  have mR22 := Lib.hid (RO.below kR2.out (alloc_old (o := .cells #[.int .i64 6, .int .i64 0, .string ⟨#[]⟩, .slice A2 m2 c2] 29)))
  have mb2 := Lib.hid (heap_alloc_new v2 (.cells #[.int .i64 6, .int .i64 0, .string ⟨#[]⟩, .slice A2 m2 c2] 29))
  have D3 := Lib.hid (tz_c W0 bS bM hT (v2.alloc (.cells #[.int .i64 6, .int .i64 0, .string ⟨#[]⟩, .slice A2 m2 c2] 29)) M2.out (v2.heap.size + 1) (by simp))
  go_wp2_with (first | (go_at_call 17; (with_reducible refine (D3.out).mono ?_); rintro e v3 ⟨rfl, hL3, hK3⟩; have L3 := Lib.hid hL3; have ka3 := Lib.hid (keepL hK3 M2.out ma2.out (by decide)); have kR23 := Lib.hid (RO.keepD hK3 M2.out mR22.out); have kb3 := Lib.hid (keepL hK3 M2.out mb2.out (by decide)); clear hL3 hK3; refine Hid.out ?_))
  refine Lib.hid ?_
  have M3 := Lib.hid (L3.out.old (alloc_old (o := .cells #[.int .i64 3, .int .i64 2, .string ⟨#[]⟩, .slice none 0 0] 29)))
  have ma3 := Lib.hid (blk_below ka3.out (alloc_old (o := .cells #[.int .i64 3, .int .i64 2, .string ⟨#[]⟩, .slice none 0 0] 29)))
  have mR23 := Lib.hid (RO.below kR23.out (alloc_old (o := .cells #[.int .i64 3, .int .i64 2, .string ⟨#[]⟩, .slice none 0 0] 29)))
  have mb3 := Lib.hid (blk_below kb3.out (alloc_old (o := .cells #[.int .i64 3, .int .i64 2, .string ⟨#[]⟩, .slice none 0 0] 29)))
  have mc3 := Lib.hid (heap_alloc_new v3 (.cells #[.int .i64 3, .int .i64 2, .string ⟨#[]⟩, .slice none 0 0] 29))
  have D4 := Lib.hid (tz_d W0 bS bM hT (v3.alloc (.cells #[.int .i64 3, .int .i64 2, .string ⟨#[]⟩, .slice none 0 0] 29)) M3.out (v3.heap.size + 1) (by simp))
  go_wp2_with (first | (go_at_call 17; (with_reducible refine (D4.out).mono ?_); rintro e v4 ⟨rfl, hL4, hK4⟩; have L4 := Lib.hid hL4; have ka4 := Lib.hid (keepL hK4 M3.out ma3.out (by decide)); have kR24 := Lib.hid (RO.keepD hK4 M3.out mR23.out); have kb4 := Lib.hid (keepL hK4 M3.out mb3.out (by decide)); have kc4 := Lib.hid (keepL hK4 M3.out mc3.out (by decide)); clear hL4 hK4; refine Hid.out ?_))
  refine Lib.hid ?_
  have M4 := Lib.hid (L4.out.old (alloc_old (o := .cells #[.int .i64 4, .int .i64 0, .string ⟨#[45, 52]⟩, .slice none 0 0] 29)))
  have ma4 := Lib.hid (blk_below ka4.out (alloc_old (o := .cells #[.int .i64 4, .int .i64 0, .string ⟨#[45, 52]⟩, .slice none 0 0] 29)))
  have mR24 := Lib.hid (RO.below kR24.out (alloc_old (o := .cells #[.int .i64 4, .int .i64 0, .string ⟨#[45, 52]⟩, .slice none 0 0] 29)))
  have mb4 := Lib.hid (blk_below kb4.out (alloc_old (o := .cells #[.int .i64 4, .int .i64 0, .string ⟨#[45, 52]⟩, .slice none 0 0] 29)))
  have mc4 := Lib.hid (blk_below kc4.out (alloc_old (o := .cells #[.int .i64 4, .int .i64 0, .string ⟨#[45, 52]⟩, .slice none 0 0] 29)))
  have md4 := Lib.hid (heap_alloc_new v4 (.cells #[.int .i64 4, .int .i64 0, .string ⟨#[45, 52]⟩, .slice none 0 0] 29))
  have D5 := Lib.hid (tz_e W0 bS bM hT (v4.alloc (.cells #[.int .i64 4, .int .i64 0, .string ⟨#[45, 52]⟩, .slice none 0 0] 29)) M4.out (v4.heap.size + 1) (by simp))
  go_wp2_with (first | (go_at_call 17; (with_reducible refine (D5.out).mono ?_); rintro e v5 ⟨A5, m5, c5, rfl, hR5, hL5, hK5⟩; have L5 := Lib.hid hL5; have ka5 := Lib.hid (keepL hK5 M4.out ma4.out (by decide)); have kR25 := Lib.hid (RO.keepD hK5 M4.out mR24.out); have kb5 := Lib.hid (keepL hK5 M4.out mb4.out (by decide)); have kc5 := Lib.hid (keepL hK5 M4.out mc4.out (by decide)); have kd5 := Lib.hid (keepL hK5 M4.out md4.out (by decide)); have kR5 := Lib.hid hR5; clear hL5 hK5 hR5; refine Hid.out ?_))
  refine Lib.hid ?_
  have M5 := Lib.hid (L5.out.old (alloc_old (o := .cells #[.int .i64 6, .int .i64 0, .string ⟨#[]⟩, .slice A5 m5 c5] 29)))
  have ma5 := Lib.hid (blk_below ka5.out (alloc_old (o := .cells #[.int .i64 6, .int .i64 0, .string ⟨#[]⟩, .slice A5 m5 c5] 29)))
  have mR25 := Lib.hid (RO.below kR25.out (alloc_old (o := .cells #[.int .i64 6, .int .i64 0, .string ⟨#[]⟩, .slice A5 m5 c5] 29)))
  have mb5 := Lib.hid (blk_below kb5.out (alloc_old (o := .cells #[.int .i64 6, .int .i64 0, .string ⟨#[]⟩, .slice A5 m5 c5] 29)))
  have mc5 := Lib.hid (blk_below kc5.out (alloc_old (o := .cells #[.int .i64 6, .int .i64 0, .string ⟨#[]⟩, .slice A5 m5 c5] 29)))
  have md5 := Lib.hid (blk_below kd5.out (alloc_old (o := .cells #[.int .i64 6, .int .i64 0, .string ⟨#[]⟩, .slice A5 m5 c5] 29)))
  have mR55 := Lib.hid (RO.below kR5.out (alloc_old (o := .cells #[.int .i64 6, .int .i64 0, .string ⟨#[]⟩, .slice A5 m5 c5] 29)))
  have me5 := Lib.hid (heap_alloc_new v5 (.cells #[.int .i64 6, .int .i64 0, .string ⟨#[]⟩, .slice A5 m5 c5] 29))
  have D6 := Lib.hid (tz_f W0 bS bM hT (v5.alloc (.cells #[.int .i64 6, .int .i64 0, .string ⟨#[]⟩, .slice A5 m5 c5] 29)) M5.out (v5.heap.size + 1) (by simp))
  obtain ⟨hm2, ⟨g2, rfl⟩, hcc2⟩ := mR25.out.form (by simp)
  have hm2 : m2 = 3 := hm2
  subst hm2
  have cw20 := row_cell mR25.out 2 (.string ⟨#[98]⟩) rfl
  have cw21 := row_cell mR25.out 6 (.string ⟨#[65]⟩) rfl
  obtain ⟨hm5, ⟨g5, rfl⟩, hcc5⟩ := mR55.out.form (by simp)
  have hm5 : m5 = 2 := hm5
  subst hm5
  have cw50 := row_cell mR55.out 2 (.string ⟨#[97]⟩) rfl
  have cw51 := row_cell mR55.out 6 (.string ⟨#[45, 52]⟩) rfl
  obtain ⟨⟨ax0, ax1, ax2, ax3⟩, _⟩ := cells4 ma5.out
  obtain ⟨⟨bx0, bx1, bx2, bx3⟩, _⟩ := cells4 mb5.out
  obtain ⟨⟨cx0, cx1, cx2, cx3⟩, _⟩ := cells4 mc5.out
  obtain ⟨⟨dx0, dx1, dx2, dx3⟩, _⟩ := cells4 md5.out
  obtain ⟨⟨ex0, ex1, ex2, ex3⟩, _⟩ := cells4 me5.out
  go_wp2_with (first | (go_at_call 17; (with_reducible refine (D6.out).mono ?_); rintro e v9 ⟨rfl, hL9, hK9⟩; have L9 := Lib.hid hL9; clear hL9 hK9))
  go_ret
  exact ⟨by simp, L9.out.below⟩
end Go.Proofs.YticlacjpgjkhcaaGreatDoor
