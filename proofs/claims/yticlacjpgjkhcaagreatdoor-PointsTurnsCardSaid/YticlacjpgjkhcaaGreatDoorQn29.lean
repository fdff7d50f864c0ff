/- Texts joined: PD, PT, PQ -/
import Derived.Test.YticlacjpgjkhcaaGreatDoorQn25
import Derived.Test.YticlacjpgjkhcaaGreatDoorQn26
import Derived.Test.YticlacjpgjkhcaaGreatDoorQn27
import Derived.Test.YticlacjpgjkhcaaGreatDoorQn28
set_option linter.unusedVariables false
set_option linter.unusedSimpArgs false

/- The commands of points at a law's space of one key. -/
namespace Go.Proofs.YticlacjpgjkhcaaGreatDoor
open Go.ChangeShapes Go.WideShapes Go.ChangeAt Go.RowKit Go.Fl

abbrev LDP := LD KP okP
abbrev DoQ := DoP KP okP
theorem d_plainP (W0 : World) (RAW NAME : ByteArray) (F : FuncId) (bS bM : Nat) (D D' : List (ByteArray × List (ByteArray × Int × Int))) (xs : List ByteArray) (vA : Value) (k n : Int) (s : ByteArray) (R : Nat → World → Value → Prop) (hR : RKeep R) (des : List (ByteArray × Option (List (ByteArray × Int × Int)))) (hm : MayD okP des D) (hD : applyD des D = D') (w : World) (hL : LDP W0 w bS bM D) (hA : SSl w vA xs) (hx : xs[0]? = some RAW) (hfit : ∀ X, SSl X vA xs → Calls Tryz.prog 95 #[vA] X fun e w' => e = .returned (.int .i64 0) ∧ Below X.heap.size X w') (hup : ∀ X, Calls Tryz.prog 96 #[.string RAW] X fun e w' => e = .returned (.string NAME) ∧ Below X.heap.size X w')
    (hsel : MapT.find NAME flP = some (.func (.func F) #[] #[])) (hent : ∀ (args : Array Value) (w : World), (callFunc F args).run Tryz.prog w = .ok (.enter F args) w) (hF : ∀ X, Below w.heap.size w X → CmdD KP okP F bS bM D 1 xs k n s R des X) :
    Calls Tryz.prog 14 #[.pointer (some ⟨bS, 0, none⟩), vA] w (DoQ W0 bS bM D' k n s R w) := by
  refine (do_DP KP okP KPok RAW NAME F bS bM D xs vA k n s R hR des hm w hL.sp hA hx hfit hup hsel hent hF).mono ?_
  rintro e w' ⟨A, m, c, rfl, h1, h2, h3⟩
  rw [hD] at h2
  exact ⟨A, m, c, rfl, h1, hL.step h2 h3, h3⟩
theorem d_PADD (W0 : World) (bS bM : Nat) (F : List (ByteArray × Int × Int)) (T : List ByteArray) (P : List (ByteArray × Int × Int)) (m : Nat) (hm : P.length = m) (h1 : 1 ≤ m) (h9 : m ≤ 9) (hT : T.length = 3 * m) (hp : ∀ (i : Nat) (p : ByteArray × Int × Int), P[i]? = some p → ∃ s t, T[3 * i]? = some s ∧ T[3 * i + 1]? = some t ∧ T[3 * i + 2]? = some p.1 ∧ s.size ≤ 100000 ∧ t.size ≤ 100000 ∧ okP2 p ∧ parseI s.data.toList = some p.2.1 ∧ parseI t.data.toList = some p.2.2) (hri : ∀ (i : Nat) (p : ByteArray × Int × Int), P[i]? = some p → ∀ q ∈ F ++ P.take i, bl q.1 < bl p.1) (B : Int) (hB : B ≤ 1048576) (hb : PBd (F ++ P) B) (hne : F ++ P ≠ []) (vA : Value) (w : World) (hL : LDP W0 w bS bM (dP F)) (hA : SSl w vA (⟨#[80, 65, 68, 68]⟩ :: ⟨#[107]⟩ :: T)) : Calls Tryz.prog 14 #[.pointer (some ⟨bS, 0, none⟩), vA] w (DoQ W0 bS bM (dP (F ++ P)) 3 (m : Nat) ⟨#[]⟩ R0 w) :=
  d_plainP W0 ⟨#[80, 65, 68, 68]⟩ ⟨#[80, 65, 68, 68]⟩ 37 bS bM (dP F) _ _ vA 3 (m : Nat) ⟨#[]⟩ _ R0.keep _ (may_eff okP ⟨#[107]⟩ _ (dP F) (fun x hx => by cases hx; exact hb.ok hne) (dP_len _)) (by rw [apply_eff]; exact dP_set F _ hne) w hL hA rfl (fun X h => Fits_PADD _ _ rfl (by simp only [List.length_cons, hT]; omega) (by simp only [List.length_cons, hT]; omega) (by simp only [List.length_cons, hT]; omega) X h) hu_PADD sel_PADD ent_PADD (fun X hX => cPADD bS bM (dP F) 1 _ ⟨#[107]⟩ T P F m hm hT hp hri (dP_find F) (hb.ok hne) (hb.ok2 hB) hne X)
theorem d_PTURN (W0 : World) (bS bM : Nat) (F : List (ByteArray × Int × Int)) (t : ByteArray) (x : Int) (ht : t.size ≤ 100000) (hp : parseI t.data.toList = some x) (B : Int) (hB0 : 0 ≤ B) (hB : B ≤ 1048576) (hb : PBd F B) (hne : F ≠ []) (C : Int) (hC : C ≤ 1048576) (hc : PBd (mapP (trn (x % 4)) F) C) (vA : Value) (w : World) (hL : LDP W0 w bS bM (dP F)) (hA : SSl w vA [⟨#[80, 84, 85, 82, 78]⟩, ⟨#[107]⟩, t]) : Calls Tryz.prog 14 #[.pointer (some ⟨bS, 0, none⟩), vA] w (DoQ W0 bS bM (dP (mapP (trn (x % 4)) F)) 3 (F.length : Nat) ⟨#[]⟩ R0 w) :=
  d_plainP W0 ⟨#[80, 84, 85, 82, 78]⟩ ⟨#[80, 84, 85, 82, 78]⟩ 44 bS bM (dP F) _ _ vA 3 (F.length : Nat) ⟨#[]⟩ _ R0.keep _ (may_eff okP ⟨#[107]⟩ _ (dP F) (fun x hx => by cases hx; exact hc.ok (map_ne hne)) (dP_len _)) (by rw [apply_eff]; exact dP_set F _ (map_ne hne)) w hL hA rfl (fun X h => Fits_PTURN _ _ rfl (by simp) (by simp) X h) hu_PTURN sel_PTURN ent_PTURN (fun X hX => cPTURN bS bM (dP F) 1 _ ⟨#[107]⟩ t x ht hp F hne (dP_find F) (hb.ok2 hB) (hc.ok (map_ne hne)) (hc.ok2 hC) X)
theorem d_PMOVE (W0 : World) (bS bM : Nat) (F : List (ByteArray × Int × Int)) (s t : ByteArray) (hs : s.size ≤ 100000) (ht : t.size ≤ 100000) (a b : Int) (ha : okI a = true) (hb9 : okI b = true) (hp1 : parseI s.data.toList = some a) (hp2 : parseI t.data.toList = some b) (B : Int) (hB0 : 0 ≤ B) (hB : B ≤ 1048576) (hb : PBd F B) (hne : F ≠ []) (C : Int) (hC : C ≤ 1048576) (hc : PBd (mapP (mvP a b) F) C) (vA : Value) (w : World) (hL : LDP W0 w bS bM (dP F)) (hA : SSl w vA [⟨#[80, 77, 79, 86, 69]⟩, ⟨#[107]⟩, s, t]) : Calls Tryz.prog 14 #[.pointer (some ⟨bS, 0, none⟩), vA] w (DoQ W0 bS bM (dP (mapP (mvP a b) F)) 3 (F.length : Nat) ⟨#[]⟩ R0 w) :=
  d_plainP W0 ⟨#[80, 77, 79, 86, 69]⟩ ⟨#[80, 77, 79, 86, 69]⟩ 45 bS bM (dP F) _ _ vA 3 (F.length : Nat) ⟨#[]⟩ _ R0.keep _ (may_eff okP ⟨#[107]⟩ _ (dP F) (fun x hx => by cases hx; exact hc.ok (map_ne hne)) (dP_len _)) (by rw [apply_eff]; exact dP_set F _ (map_ne hne)) w hL hA rfl (fun X h => Fits_PMOVE _ _ rfl (by simp) (by simp) X h) hu_PMOVE sel_PMOVE ent_PMOVE (fun X hX => cPMOVE bS bM (dP F) 1 _ ⟨#[107]⟩ s t hs ht a b ha hb9 hp1 hp2 F hne (dP_find F) (hb.ok2 hB) (hc.ok (map_ne hne)) (hc.ok2 hC) X)
theorem d_PSCALE (W0 : World) (bS bM : Nat) (F : List (ByteArray × Int × Int)) (s t : ByteArray) (hs : s.size ≤ 100000) (ht : t.size ≤ 100000) (a b : Int) (ha : okI a = true) (hb9 : okI b = true) (hp1 : parseI s.data.toList = some a) (hp2 : parseI t.data.toList = some b) (B : Int) (hB0 : 0 ≤ B) (hB : B ≤ 1048576) (hb : PBd F B) (hne : F ≠ []) (C : Int) (hC : C ≤ 1048576) (hc : PBd (mapP (mlP a b) F) C) (vA : Value) (w : World) (hL : LDP W0 w bS bM (dP F)) (hA : SSl w vA [⟨#[80, 83, 67, 65, 76, 69]⟩, ⟨#[107]⟩, s, t]) : Calls Tryz.prog 14 #[.pointer (some ⟨bS, 0, none⟩), vA] w (DoQ W0 bS bM (dP (mapP (mlP a b) F)) 3 (F.length : Nat) ⟨#[]⟩ R0 w) :=
  d_plainP W0 ⟨#[80, 83, 67, 65, 76, 69]⟩ ⟨#[80, 83, 67, 65, 76, 69]⟩ 48 bS bM (dP F) _ _ vA 3 (F.length : Nat) ⟨#[]⟩ _ R0.keep _ (may_eff okP ⟨#[107]⟩ _ (dP F) (fun x hx => by cases hx; exact hc.ok (map_ne hne)) (dP_len _)) (by rw [apply_eff]; exact dP_set F _ (map_ne hne)) w hL hA rfl (fun X h => Fits_PSCALE _ _ rfl (by simp) (by simp) X h) hu_PSCALE sel_PSCALE ent_PSCALE (fun X hX => cPSCALE bS bM (dP F) 1 _ ⟨#[107]⟩ s t hs ht a b ha hb9 hp1 hp2 F hne (dP_find F) (hb.ok2 hB) (hc.ok (map_ne hne)) (hc.ok2 hC) X)
theorem d_PALL (W0 : World) (bS bM : Nat) (F : List (ByteArray × Int × Int)) (hT : Tab W0) (B : Int) (hB0 : 0 ≤ B) (hB : B ≤ 1048576) (hb : PBd F B) (hne : F ≠ []) (vA : Value) (w : World) (hL : LDP W0 w bS bM (dP F)) (hA : SSl w vA [⟨#[80, 65, 76, 76]⟩, ⟨#[107]⟩]) : Calls Tryz.prog 14 #[.pointer (some ⟨bS, 0, none⟩), vA] w (DoQ W0 bS bM (dP F) 6 0 ⟨#[]⟩ (RO ((allP F).map some)) w) :=
  d_plainP W0 ⟨#[80, 65, 76, 76]⟩ ⟨#[80, 65, 76, 76]⟩ 41 bS bM (dP F) _ _ vA 6 0 ⟨#[]⟩ _ (RO.keep _) [] trivial rfl w hL hA rfl (fun X h => Fits_PALL _ _ rfl (by simp) (by simp) X h) hu_PALL sel_PALL ent_PALL (fun X hX => cPALL bS bM (dP F) 1 _ ⟨#[107]⟩ F hne (dP_find F) (hb.ok2 hB) (Nat.le_trans hb.few (by decide)) X W0 hT (hL.below.trans (hX.mono (Below.size hL.below))))
theorem d_PPOS (W0 : World) (bS bM : Nat) (F : List (ByteArray × Int × Int)) (hT : Tab W0) (B : Int) (hB0 : 0 ≤ B) (hB : B ≤ 1048576) (hb : PBd F B) (hne : F ≠ []) (i : Nat) (q : ByteArray × Int × Int) (hq : F[i]? = some q) (vA : Value) (w : World) (hL : LDP W0 w bS bM (dP F)) (hA : SSl w vA [⟨#[80, 80, 79, 83]⟩, ⟨#[107]⟩, q.1]) : Calls Tryz.prog 14 #[.pointer (some ⟨bS, 0, none⟩), vA] w (DoQ W0 bS bM (dP F) 6 0 ⟨#[]⟩ (RO ([some (numT q.2.1), some (numT q.2.2)])) w) :=
  d_plainP W0 ⟨#[80, 80, 79, 83]⟩ ⟨#[80, 80, 79, 83]⟩ 39 bS bM (dP F) _ _ vA 6 0 ⟨#[]⟩ _ (RO.keep _) [] trivial rfl w hL hA rfl (fun X h => Fits_PPOS _ _ rfl (by simp) (by simp) X h) hu_PPOS sel_PPOS ent_PPOS (fun X hX => cPPOS bS bM (dP F) 1 _ ⟨#[107]⟩ F hne (dP_find F) (hb.ok2 hB) (Nat.le_trans hb.few (by decide)) i q hq hb.rise X W0 hT (hL.below.trans (hX.mono (Below.size hL.below))))
theorem d_PSUM (W0 : World) (bS bM : Nat) (F : List (ByteArray × Int × Int)) (hT : Tab W0) (B : Int) (hB0 : 0 ≤ B) (hB : B ≤ 1048576) (hb : PBd F B) (hne : F ≠ []) (hB2 : B ≤ 100000) (vA : Value) (w : World) (hL : LDP W0 w bS bM (dP F)) (hA : SSl w vA [⟨#[80, 83, 85, 77]⟩, ⟨#[107]⟩]) : Calls Tryz.prog 14 #[.pointer (some ⟨bS, 0, none⟩), vA] w (DoQ W0 bS bM (dP F) 6 0 ⟨#[]⟩ (RO ([some (numT (sX F)), some (numT (sY F))])) w) :=
  d_plainP W0 ⟨#[80, 83, 85, 77]⟩ ⟨#[80, 83, 85, 77]⟩ 42 bS bM (dP F) _ _ vA 6 0 ⟨#[]⟩ _ (RO.keep _) [] trivial rfl w hL hA rfl (fun X h => Fits_PSUM _ _ rfl (by simp) (by simp) X h) hu_PSUM sel_PSUM ent_PSUM (fun X hX => cPSUM bS bM (dP F) 1 _ ⟨#[107]⟩ F hne (dP_find F) (hb.ok2 hB) (Nat.le_trans hb.few (by decide)) (fun i _ => hb.sums hB0 hB2 i) X W0 hT (hL.below.trans (hX.mono (Below.size hL.below))))
theorem d_PNEAR (W0 : World) (bS bM : Nat) (F : List (ByteArray × Int × Int)) (hT : Tab W0) (s t : ByteArray) (hs : s.size ≤ 100000) (ht : t.size ≤ 100000) (a b : Int) (ha : okI a = true) (hb9 : okI b = true) (hp1 : parseI s.data.toList = some a) (hp2 : parseI t.data.toList = some b) (B : Int) (hB0 : 0 ≤ B) (hB : B ≤ 1048576) (hb : PBd F B) (hne : F ≠ []) (i : Nat) (hi : (nrP a b F F.length).1 = i) (q : ByteArray × Int × Int) (hq : F[i]? = some q) (vA : Value) (w : World) (hL : LDP W0 w bS bM (dP F)) (hA : SSl w vA [⟨#[80, 78, 69, 65, 82]⟩, ⟨#[107]⟩, s, t]) : Calls Tryz.prog 14 #[.pointer (some ⟨bS, 0, none⟩), vA] w (DoQ W0 bS bM (dP F) 6 0 ⟨#[]⟩ (RO ([some q.1, some (numT q.2.1), some (numT q.2.2)])) w) :=
  d_plainP W0 ⟨#[80, 78, 69, 65, 82]⟩ ⟨#[80, 78, 69, 65, 82]⟩ 43 bS bM (dP F) _ _ vA 6 0 ⟨#[]⟩ _ (RO.keep _) [] trivial rfl w hL hA rfl (fun X h => Fits_PNEAR _ _ rfl (by simp) (by simp) X h) hu_PNEAR sel_PNEAR ent_PNEAR (fun X hX => cPNEAR bS bM (dP F) 1 _ ⟨#[107]⟩ s t hs ht a b ha hb9 hp1 hp2 F hne (dP_find F) (hb.ok2 hB) (Nat.le_trans hb.few (by decide)) i hi q hq X W0 hT (hL.below.trans (hX.mono (Below.size hL.below))))
theorem d_PMOVEf (W0 : World) (bS bM : Nat) (F : List (ByteArray × Int × Int)) (s t : ByteArray) (hs : s.size ≤ 100000) (ht : t.size ≤ 100000) (a b : Int) (ha : okI a = true) (hb9 : okI b = true) (hp1 : parseI s.data.toList = some a) (hp2 : parseI t.data.toList = some b) (B : Int) (hB0 : 0 ≤ B) (hB : B ≤ 1048576) (hb : PBd F B) (hne : F ≠ []) (M : Nat) (pM : ByteArray × Int × Int) (hM : F[M]? = some pM) (hlo : ∀ (i : Nat) (p : ByteArray × Int × Int), i < M → F[i]? = some p → okI (mvP a b p.2.1 p.2.2).1 = true ∧ okI (mvP a b p.2.1 p.2.2).2 = true) (hbad : (okI (mvP a b pM.2.1 pM.2.2).1 && okI (mvP a b pM.2.1 pM.2.2).2) = false) (vA : Value) (w : World) (hL : LDP W0 w bS bM (dP F)) (hA : SSl w vA [⟨#[80, 77, 79, 86, 69]⟩, ⟨#[107]⟩, s, t]) : Calls Tryz.prog 14 #[.pointer (some ⟨bS, 0, none⟩), vA] w fun e w' => e = .returned (.agg #[.int .i64 2, .int .i64 7, .string ⟨#[]⟩, .slice none 0 0]) ∧ LDP W0 w' bS bM (dP F) ∧ Below w.heap.size w w' := by
  refine (do_failGp bS vA 7 w (fun X hX => ?_)).mono ?_
  · obtain ⟨⟨l, hSP, hAE⟩, hall⟩ := SPG.below KP okP hL.sp hX
    exact Do_failP ⟨#[80, 77, 79, 86, 69]⟩ ⟨#[80, 77, 79, 86, 69]⟩ 45 bS bM l 1 _ vA 7 X hSP (hA.below hX) rfl (fun X h => Fits_PMOVE _ _ rfl (by simp) (by simp) X h) hu_PMOVE sel_PMOVE ent_PMOVE (fPMOVE X bS bM (dP F) l 1 _ ⟨#[107]⟩ s t hs ht a b ha hb9 hp1 hp2 F hne (dP_find F) (hb.ok2 hB) M pM hM hlo hbad (Nat.le_trans hb.few (by decide)) (SPG.below KP okP hL.sp hX))
  · rintro e w' ⟨rfl, h1⟩
    exact ⟨rfl, hL.old h1, h1⟩
end Go.Proofs.YticlacjpgjkhcaaGreatDoor

/- What the program tells of a few points. -/
namespace Go.Proofs.YticlacjpgjkhcaaGreatDoor
open Go.ChangeShapes Go.WideShapes Go.ChangeAt Go.RowKit Go.Fl

theorem pb_ab (x y u v B : Int) (h1 : -B ≤ x ∧ x ≤ B) (h2 : -B ≤ y ∧ y ≤ B) (h3 : -B ≤ u ∧ u ≤ B) (h4 : -B ≤ v ∧ v ≤ B) : PBd [(⟨#[97]⟩, x, y), (⟨#[98]⟩, u, v)] B := by
  refine ⟨by simp, fun p hp => ?_, fun i p q hp hq => ?_, fun p hp => ?_⟩
  · simp at hp
    rcases hp with rfl | rfl <;> (show (1 : Nat) ≤ 100; decide)
  · match i, hp, hq with
    | 0, hp, hq =>
      cases hp
      cases hq
      show bl ⟨#[97]⟩ < bl ⟨#[98]⟩
      decide
    | i + 1, hp, hq => simp at hq
  · simp at hp
    rcases hp with rfl | rfl
    · exact ⟨h1, h2⟩
    · exact ⟨h3, h4⟩
theorem n_m2 : numT (-2) = ⟨#[45, 50]⟩ := by kernel_rfl
theorem n_p1 : numT 1 = ⟨#[49]⟩ := by kernel_rfl
theorem n_m1 : numT (-1) = ⟨#[45, 49]⟩ := by kernel_rfl
theorem n_z : numT 0 = ⟨#[48]⟩ := by kernel_rfl
theorem t1_turn : mapP (trn (1 % 4)) [(⟨#[97]⟩, (1 : Int), (2 : Int)), (⟨#[98]⟩, (0 : Int), (-1 : Int))] = [(⟨#[97]⟩, (-2 : Int), (1 : Int)), (⟨#[98]⟩, (1 : Int), (0 : Int))] := by kernel_rfl
theorem t1_near : (nrP 1 0 [(⟨#[97]⟩, (-2 : Int), (1 : Int)), (⟨#[98]⟩, (1 : Int), (0 : Int))] ([(⟨#[97]⟩, (-2 : Int), (1 : Int)), (⟨#[98]⟩, (1 : Int), (0 : Int))] : List (ByteArray × Int × Int)).length).1 = ((1 : Nat) : Int) := by decide
theorem t1_sx : sX [(⟨#[97]⟩, (-2 : Int), (1 : Int)), (⟨#[98]⟩, (1 : Int), (0 : Int))] = -1 := by decide
theorem t1_sy : sY [(⟨#[97]⟩, (-2 : Int), (1 : Int)), (⟨#[98]⟩, (1 : Int), (0 : Int))] = 1 := by decide
theorem pb1 : PBd [(⟨#[97]⟩, (1 : Int), (2 : Int)), (⟨#[98]⟩, (0 : Int), (-1 : Int))] 3 := pb_ab 1 2 0 (-1) 3 (by decide) (by decide) (by decide) (by decide)
theorem pb2 : PBd [(⟨#[97]⟩, (-2 : Int), (1 : Int)), (⟨#[98]⟩, (1 : Int), (0 : Int))] 3 := pb_ab (-2) 1 1 0 3 (by decide) (by decide) (by decide) (by decide)
theorem tp_a (W0 : World) (bS bM : Nat)  (X : World) (hL : LDP W0 X bS bM []) (q : Nat) (hq : X.heap.size = q) : Calls Tryz.prog 14 #[.pointer (some ⟨bS, 0, none⟩), .slice (some ⟨q, 0, none⟩) 8 8] (X.alloc (.cells #[.string ⟨#[80, 65, 68, 68]⟩, .string ⟨#[107]⟩, .string ⟨#[49]⟩, .string ⟨#[50]⟩, .string ⟨#[97]⟩, .string ⟨#[48]⟩, .string ⟨#[45, 49]⟩, .string ⟨#[98]⟩] 9)) fun e w' => e = .returned (.agg #[.int .i64 3, .int .i64 2, .string ⟨#[]⟩, .slice none 0 0]) ∧ LDP W0 w' bS bM (dP [(⟨#[97]⟩, (1 : Int), (2 : Int)), (⟨#[98]⟩, (0 : Int), (-1 : Int))]) ∧ Kp X.heap.size (fun i => i ≠ bS ∧ i ≠ bM) X w' := by
  subst hq
  have hp : ∀ (i : Nat) (p : ByteArray × Int × Int), ([(⟨#[97]⟩, (1 : Int), (2 : Int)), (⟨#[98]⟩, (0 : Int), (-1 : Int))] : List (ByteArray × Int × Int))[i]? = some p → ∃ s t, ([⟨#[49]⟩, ⟨#[50]⟩, ⟨#[97]⟩, ⟨#[48]⟩, ⟨#[45, 49]⟩, ⟨#[98]⟩] : List ByteArray)[3 * i]? = some s ∧ ([⟨#[49]⟩, ⟨#[50]⟩, ⟨#[97]⟩, ⟨#[48]⟩, ⟨#[45, 49]⟩, ⟨#[98]⟩] : List ByteArray)[3 * i + 1]? = some t ∧ ([⟨#[49]⟩, ⟨#[50]⟩, ⟨#[97]⟩, ⟨#[48]⟩, ⟨#[45, 49]⟩, ⟨#[98]⟩] : List ByteArray)[3 * i + 2]? = some p.1 ∧ s.size ≤ 100000 ∧ t.size ≤ 100000 ∧ okP2 p ∧ parseI s.data.toList = some p.2.1 ∧ parseI t.data.toList = some p.2.2 := by
    intro i p h
    match i, h with
    | 0, h => cases h; exact ⟨⟨#[49]⟩, ⟨#[50]⟩, rfl, rfl, rfl, by decide, by decide, ⟨by decide, by decide⟩, by kernel_rfl, by kernel_rfl⟩
    | 1, h => cases h; exact ⟨⟨#[48]⟩, ⟨#[45, 49]⟩, rfl, rfl, rfl, by decide, by decide, ⟨by decide, by decide⟩, by kernel_rfl, by kernel_rfl⟩
    | i + 2, h => simp at h
  have hri : ∀ (i : Nat) (p : ByteArray × Int × Int), ([(⟨#[97]⟩, (1 : Int), (2 : Int)), (⟨#[98]⟩, (0 : Int), (-1 : Int))] : List (ByteArray × Int × Int))[i]? = some p → ∀ q ∈ [] ++ ([(⟨#[97]⟩, (1 : Int), (2 : Int)), (⟨#[98]⟩, (0 : Int), (-1 : Int))] : List (ByteArray × Int × Int)).take i, bl q.1 < bl p.1 := by
    intro i p h q hq
    match i, h with
    | 0, h => simp at hq
    | 1, h =>
      cases h
      simp at hq
      subst hq
      show bl ⟨#[97]⟩ < bl ⟨#[98]⟩
      decide
    | i + 2, h => simp at h
  exact lit0 X hL [⟨#[80, 65, 68, 68]⟩, ⟨#[107]⟩, ⟨#[49]⟩, ⟨#[50]⟩, ⟨#[97]⟩, ⟨#[48]⟩, ⟨#[45, 49]⟩, ⟨#[98]⟩] (by simp) (fun vA w h hA => d_PADD W0 bS bM [] [⟨#[49]⟩, ⟨#[50]⟩, ⟨#[97]⟩, ⟨#[48]⟩, ⟨#[45, 49]⟩, ⟨#[98]⟩] [(⟨#[97]⟩, (1 : Int), (2 : Int)), (⟨#[98]⟩, (0 : Int), (-1 : Int))] 2 rfl (by decide) (by decide) rfl hp hri 3 (by decide) pb1 (by simp) vA w h hA) rfl rfl rfl
theorem tp_b (W0 : World) (bS bM : Nat)  (X : World) (hL : LDP W0 X bS bM (dP [(⟨#[97]⟩, (1 : Int), (2 : Int)), (⟨#[98]⟩, (0 : Int), (-1 : Int))])) (q : Nat) (hq : X.heap.size = q) : Calls Tryz.prog 14 #[.pointer (some ⟨bS, 0, none⟩), .slice (some ⟨q, 0, none⟩) 3 3] (X.alloc (.cells #[.string ⟨#[80, 84, 85, 82, 78]⟩, .string ⟨#[107]⟩, .string ⟨#[49]⟩] 9)) fun e w' => e = .returned (.agg #[.int .i64 3, .int .i64 2, .string ⟨#[]⟩, .slice none 0 0]) ∧ LDP W0 w' bS bM (dP [(⟨#[97]⟩, (-2 : Int), (1 : Int)), (⟨#[98]⟩, (1 : Int), (0 : Int))]) ∧ Kp X.heap.size (fun i => i ≠ bS ∧ i ≠ bM) X w' := by
  subst hq
  exact lit0 X hL [⟨#[80, 84, 85, 82, 78]⟩, ⟨#[107]⟩, ⟨#[49]⟩] (by simp) (fun vA w h hA => d_PTURN W0 bS bM [(⟨#[97]⟩, (1 : Int), (2 : Int)), (⟨#[98]⟩, (0 : Int), (-1 : Int))] ⟨#[49]⟩ 1 (by decide) (by kernel_rfl) 3 (by decide) (by decide) pb1 (by simp) 3 (by decide) (by rw [t1_turn]; exact pb2) vA w h hA) (by rw [t1_turn]) rfl rfl
theorem tp_c (W0 : World) (bS bM : Nat) (hT : Tab W0) (X : World) (hL : LDP W0 X bS bM (dP [(⟨#[97]⟩, (-2 : Int), (1 : Int)), (⟨#[98]⟩, (1 : Int), (0 : Int))])) (q : Nat) (hq : X.heap.size = q) : Calls Tryz.prog 14 #[.pointer (some ⟨bS, 0, none⟩), .slice (some ⟨q, 0, none⟩) 3 3] (X.alloc (.cells #[.string ⟨#[80, 80, 79, 83]⟩, .string ⟨#[107]⟩, .string ⟨#[97]⟩] 9)) fun e w' => ∃ A m c, e = .returned (.agg #[.int .i64 6, .int .i64 0, .string ⟨#[]⟩, .slice A m c]) ∧ (RO [some ⟨#[45, 50]⟩, some ⟨#[49]⟩]) X.heap.size w' (.slice A m c) ∧ LDP W0 w' bS bM (dP [(⟨#[97]⟩, (-2 : Int), (1 : Int)), (⟨#[98]⟩, (1 : Int), (0 : Int))]) ∧ Kp X.heap.size (fun i => i ≠ bS ∧ i ≠ bM) X w' := by
  subst hq
  exact litR (RO.keep _) X hL [⟨#[80, 80, 79, 83]⟩, ⟨#[107]⟩, ⟨#[97]⟩] (by simp) (fun vA w h hA => d_PPOS W0 bS bM [(⟨#[97]⟩, (-2 : Int), (1 : Int)), (⟨#[98]⟩, (1 : Int), (0 : Int))] hT 3 (by decide) (by decide) pb2 (by simp) 0 (⟨#[97]⟩, (-2 : Int), (1 : Int)) rfl vA w h hA) rfl rfl (by rw [show numT (-2) = _ from n_m2, show numT 1 = _ from n_p1])
theorem tp_d (W0 : World) (bS bM : Nat) (hT : Tab W0) (X : World) (hL : LDP W0 X bS bM (dP [(⟨#[97]⟩, (-2 : Int), (1 : Int)), (⟨#[98]⟩, (1 : Int), (0 : Int))])) (q : Nat) (hq : X.heap.size = q) : Calls Tryz.prog 14 #[.pointer (some ⟨bS, 0, none⟩), .slice (some ⟨q, 0, none⟩) 2 2] (X.alloc (.cells #[.string ⟨#[80, 83, 85, 77]⟩, .string ⟨#[107]⟩] 9)) fun e w' => ∃ A m c, e = .returned (.agg #[.int .i64 6, .int .i64 0, .string ⟨#[]⟩, .slice A m c]) ∧ (RO [some ⟨#[45, 49]⟩, some ⟨#[49]⟩]) X.heap.size w' (.slice A m c) ∧ LDP W0 w' bS bM (dP [(⟨#[97]⟩, (-2 : Int), (1 : Int)), (⟨#[98]⟩, (1 : Int), (0 : Int))]) ∧ Kp X.heap.size (fun i => i ≠ bS ∧ i ≠ bM) X w' := by
  subst hq
  exact litR (RO.keep _) X hL [⟨#[80, 83, 85, 77]⟩, ⟨#[107]⟩] (by simp) (fun vA w h hA => d_PSUM W0 bS bM [(⟨#[97]⟩, (-2 : Int), (1 : Int)), (⟨#[98]⟩, (1 : Int), (0 : Int))] hT 3 (by decide) (by decide) pb2 (by simp) (by decide) vA w h hA) rfl rfl (by rw [t1_sx, t1_sy, n_m1, n_p1])
theorem tp_e (W0 : World) (bS bM : Nat) (hT : Tab W0) (X : World) (hL : LDP W0 X bS bM (dP [(⟨#[97]⟩, (-2 : Int), (1 : Int)), (⟨#[98]⟩, (1 : Int), (0 : Int))])) (q : Nat) (hq : X.heap.size = q) : Calls Tryz.prog 14 #[.pointer (some ⟨bS, 0, none⟩), .slice (some ⟨q, 0, none⟩) 4 4] (X.alloc (.cells #[.string ⟨#[80, 78, 69, 65, 82]⟩, .string ⟨#[107]⟩, .string ⟨#[49]⟩, .string ⟨#[48]⟩] 9)) fun e w' => ∃ A m c, e = .returned (.agg #[.int .i64 6, .int .i64 0, .string ⟨#[]⟩, .slice A m c]) ∧ (RO [some ⟨#[98]⟩, some ⟨#[49]⟩, some ⟨#[48]⟩]) X.heap.size w' (.slice A m c) ∧ LDP W0 w' bS bM (dP [(⟨#[97]⟩, (-2 : Int), (1 : Int)), (⟨#[98]⟩, (1 : Int), (0 : Int))]) ∧ Kp X.heap.size (fun i => i ≠ bS ∧ i ≠ bM) X w' := by
  subst hq
  exact litR (RO.keep _) X hL [⟨#[80, 78, 69, 65, 82]⟩, ⟨#[107]⟩, ⟨#[49]⟩, ⟨#[48]⟩] (by simp) (fun vA w h hA => d_PNEAR W0 bS bM [(⟨#[97]⟩, (-2 : Int), (1 : Int)), (⟨#[98]⟩, (1 : Int), (0 : Int))] hT ⟨#[49]⟩ ⟨#[48]⟩ (by decide) (by decide) 1 0 (by decide) (by decide) (by kernel_rfl) (by kernel_rfl) 3 (by decide) (by decide) pb2 (by simp) 1 t1_near (⟨#[98]⟩, (1 : Int), (0 : Int)) rfl vA w h hA) rfl rfl (by rw [show numT 1 = _ from n_p1, show numT 0 = _ from n_z])
theorem tp_f (W0 : World) (bS bM : Nat) (X : World) (hL : LDP W0 X bS bM (dP [(⟨#[97]⟩, (-2 : Int), (1 : Int)), (⟨#[98]⟩, (1 : Int), (0 : Int))])) (q : Nat) (hq : X.heap.size = q) : Calls Tryz.prog 14 #[.pointer (some ⟨bS, 0, none⟩), .slice (some ⟨q, 0, none⟩) 4 4] (X.alloc (.cells #[.string ⟨#[80, 77, 79, 86, 69]⟩, .string ⟨#[107]⟩, .string ⟨#[49, 48, 52, 56, 53, 55, 54]⟩, .string ⟨#[48]⟩] 9)) fun e w' => e = .returned (.agg #[.int .i64 2, .int .i64 7, .string ⟨#[]⟩, .slice none 0 0]) ∧ LDP W0 w' bS bM (dP [(⟨#[97]⟩, (-2 : Int), (1 : Int)), (⟨#[98]⟩, (1 : Int), (0 : Int))]) ∧ Kp X.heap.size (fun i => i ≠ bS ∧ i ≠ bM) X w' := by
  subst hq
  have hb0 : Below X.heap.size X (X.alloc (.cells #[.string ⟨#[80, 77, 79, 86, 69]⟩, .string ⟨#[107]⟩, .string ⟨#[49, 48, 52, 56, 53, 55, 54]⟩, .string ⟨#[48]⟩] 9)) := alloc_old
  refine (d_PMOVEf W0 bS bM [(⟨#[97]⟩, (-2 : Int), (1 : Int)), (⟨#[98]⟩, (1 : Int), (0 : Int))] ⟨#[49, 48, 52, 56, 53, 55, 54]⟩ ⟨#[48]⟩ (by decide) (by decide) 1048576 0 (by decide) (by decide) (by kernel_rfl) (by kernel_rfl) 3 (by decide) (by decide) pb2 (by simp) 1 (⟨#[98]⟩, (1 : Int), (0 : Int)) rfl (fun i p hi hp => ?_) (by decide) _ _ (hL.old hb0) (SSl.lit X [⟨#[80, 77, 79, 86, 69]⟩, ⟨#[107]⟩, ⟨#[49, 48, 52, 56, 53, 55, 54]⟩, ⟨#[48]⟩] (by simp))).mono ?_
  · match i, hi, hp with
    | 0, _, hp => cases hp; exact ⟨by decide, by decide⟩
  · rintro e w' ⟨h1, h2, h3⟩
    exact ⟨h1, h2, (Kp.of hb0).trans ((Kp.of h3).mono (Below.size hb0) (fun _ h => h))⟩
set_option maxRecDepth 100000 in
set_option maxHeartbeats 8000000 in
theorem toldP {W0 : World} (hT : Tab W0) : Calls Tryz.prog 10 #[] W0 fun e w' => e = .returned (.bool true) ∧ Below W0.heap.size W0 w' := by
  have NW := Lib.hid (New9 W0)
  have hfd : ∀ (a b : Int) (c : ByteArray) (A : Option Addr) (m cc : Nat) (w : World), (Instr.field 29 (.agg #[.int .i64 a, .int .i64 b, .string c, .slice A m cc]) 1).run Tryz.prog w = .ok (.int .i64 b) w := fun _ _ _ _ _ _ _ => by kernel_rfl
  go_enter Tryz.func10, Tryz.ntmps10
  go_wp2_with (first | (go_at_call 11; (with_reducible refine (NW.out).mono ?_); rintro e v0 ⟨bS, bM, rfl, hS0, hbS, hbM, hB0⟩; have L0 := Lib.hid (LD.mk0 KP okP hS0 hB0 hbS hbM); clear hS0 hbS hbM hB0; refine Hid.out ?_))
  refine Lib.hid ?_
  have D1 := Lib.hid (tp_a W0 bS bM  (v0) L0.out (v0.heap.size) rfl)
  go_wp2_with (first | (go_at_call 14; (with_reducible refine (D1.out).mono ?_); rintro e v1 ⟨rfl, hL1, hK1⟩; have L1 := Lib.hid hL1; clear hL1 hK1; refine Hid.out ?_))
  refine Lib.hid ?_
  have M1 := Lib.hid (L1.out.old (alloc_old (o := .cells #[.int .i64 3, .int .i64 2, .string ⟨#[]⟩, .slice none 0 0] 29)))
  have ma1 := Lib.hid (heap_alloc_new v1 (.cells #[.int .i64 3, .int .i64 2, .string ⟨#[]⟩, .slice none 0 0] 29))
  have D2 := Lib.hid (tp_b W0 bS bM  (v1.alloc (.cells #[.int .i64 3, .int .i64 2, .string ⟨#[]⟩, .slice none 0 0] 29)) M1.out (v1.heap.size + 1) (by simp))
  go_wp2_with (first | (go_at_call 14; (with_reducible refine (D2.out).mono ?_); rintro e v2 ⟨rfl, hL2, hK2⟩; have L2 := Lib.hid hL2; have ka2 := Lib.hid (keepL hK2 M1.out ma1.out (by decide)); clear hL2 hK2; refine Hid.out ?_))
  refine Lib.hid ?_
  have M2 := Lib.hid (L2.out.old (alloc_old (o := .cells #[.int .i64 3, .int .i64 2, .string ⟨#[]⟩, .slice none 0 0] 29)))
  have ma2 := Lib.hid (blk_below ka2.out (alloc_old (o := .cells #[.int .i64 3, .int .i64 2, .string ⟨#[]⟩, .slice none 0 0] 29)))
  have mb2 := Lib.hid (heap_alloc_new v2 (.cells #[.int .i64 3, .int .i64 2, .string ⟨#[]⟩, .slice none 0 0] 29))
  have D3 := Lib.hid (tp_c W0 bS bM hT (v2.alloc (.cells #[.int .i64 3, .int .i64 2, .string ⟨#[]⟩, .slice none 0 0] 29)) M2.out (v2.heap.size + 1) (by simp))
  go_wp2_with (first | (go_at_call 14; (with_reducible refine (D3.out).mono ?_); rintro e v3 ⟨A3, m3, c3, rfl, hR3, hL3, hK3⟩; have L3 := Lib.hid hL3; have ka3 := Lib.hid (keepL hK3 M2.out ma2.out (by decide)); have kb3 := Lib.hid (keepL hK3 M2.out mb2.out (by decide)); have kR3 := Lib.hid hR3; clear hL3 hK3 hR3; refine Hid.out ?_))
  refine Lib.hid ?_
  have M3 := Lib.hid (L3.out.old (alloc_old (o := .cells #[.int .i64 6, .int .i64 0, .string ⟨#[]⟩, .slice A3 m3 c3] 29)))
  have ma3 := Lib.hid (blk_below ka3.out (alloc_old (o := .cells #[.int .i64 6, .int .i64 0, .string ⟨#[]⟩, .slice A3 m3 c3] 29)))
  have mb3 := Lib.hid (blk_below kb3.out (alloc_old (o := .cells #[.int .i64 6, .int .i64 0, .string ⟨#[]⟩, .slice A3 m3 c3] 29)))
  have mR33 := Lib.hid (RO.below kR3.out (alloc_old (o := .cells #[.int .i64 6, .int .i64 0, .string ⟨#[]⟩, .slice A3 m3 c3] 29)))
  have mc3 := Lib.hid (heap_alloc_new v3 (.cells #[.int .i64 6, .int .i64 0, .string ⟨#[]⟩, .slice A3 m3 c3] 29))
  have D4 := Lib.hid (tp_d W0 bS bM hT (v3.alloc (.cells #[.int .i64 6, .int .i64 0, .string ⟨#[]⟩, .slice A3 m3 c3] 29)) M3.out (v3.heap.size + 1) (by simp))
  go_wp2_with (first | (go_at_call 14; (with_reducible refine (D4.out).mono ?_); rintro e v4 ⟨A4, m4, c4, rfl, hR4, hL4, hK4⟩; have L4 := Lib.hid hL4; have ka4 := Lib.hid (keepL hK4 M3.out ma3.out (by decide)); have kb4 := Lib.hid (keepL hK4 M3.out mb3.out (by decide)); have kR34 := Lib.hid (RO.keepD hK4 M3.out mR33.out); have kc4 := Lib.hid (keepL hK4 M3.out mc3.out (by decide)); have kR4 := Lib.hid hR4; clear hL4 hK4 hR4; refine Hid.out ?_))
  refine Lib.hid ?_
  have M4 := Lib.hid (L4.out.old (alloc_old (o := .cells #[.int .i64 6, .int .i64 0, .string ⟨#[]⟩, .slice A4 m4 c4] 29)))
  have ma4 := Lib.hid (blk_below ka4.out (alloc_old (o := .cells #[.int .i64 6, .int .i64 0, .string ⟨#[]⟩, .slice A4 m4 c4] 29)))
  have mb4 := Lib.hid (blk_below kb4.out (alloc_old (o := .cells #[.int .i64 6, .int .i64 0, .string ⟨#[]⟩, .slice A4 m4 c4] 29)))
  have mR34 := Lib.hid (RO.below kR34.out (alloc_old (o := .cells #[.int .i64 6, .int .i64 0, .string ⟨#[]⟩, .slice A4 m4 c4] 29)))
  have mc4 := Lib.hid (blk_below kc4.out (alloc_old (o := .cells #[.int .i64 6, .int .i64 0, .string ⟨#[]⟩, .slice A4 m4 c4] 29)))
  have mR44 := Lib.hid (RO.below kR4.out (alloc_old (o := .cells #[.int .i64 6, .int .i64 0, .string ⟨#[]⟩, .slice A4 m4 c4] 29)))
  have md4 := Lib.hid (heap_alloc_new v4 (.cells #[.int .i64 6, .int .i64 0, .string ⟨#[]⟩, .slice A4 m4 c4] 29))
  have D5 := Lib.hid (tp_e W0 bS bM hT (v4.alloc (.cells #[.int .i64 6, .int .i64 0, .string ⟨#[]⟩, .slice A4 m4 c4] 29)) M4.out (v4.heap.size + 1) (by simp))
  go_wp2_with (first | (go_at_call 14; (with_reducible refine (D5.out).mono ?_); rintro e v5 ⟨A5, m5, c5, rfl, hR5, hL5, hK5⟩; have L5 := Lib.hid hL5; have ka5 := Lib.hid (keepL hK5 M4.out ma4.out (by decide)); have kb5 := Lib.hid (keepL hK5 M4.out mb4.out (by decide)); have kR35 := Lib.hid (RO.keepD hK5 M4.out mR34.out); have kc5 := Lib.hid (keepL hK5 M4.out mc4.out (by decide)); have kR45 := Lib.hid (RO.keepD hK5 M4.out mR44.out); have kd5 := Lib.hid (keepL hK5 M4.out md4.out (by decide)); have kR5 := Lib.hid hR5; clear hL5 hK5 hR5; refine Hid.out ?_))
  refine Lib.hid ?_
  have M5 := Lib.hid (L5.out.old (alloc_old (o := .cells #[.int .i64 6, .int .i64 0, .string ⟨#[]⟩, .slice A5 m5 c5] 29)))
  have ma5 := Lib.hid (blk_below ka5.out (alloc_old (o := .cells #[.int .i64 6, .int .i64 0, .string ⟨#[]⟩, .slice A5 m5 c5] 29)))
  have mb5 := Lib.hid (blk_below kb5.out (alloc_old (o := .cells #[.int .i64 6, .int .i64 0, .string ⟨#[]⟩, .slice A5 m5 c5] 29)))
  have mR35 := Lib.hid (RO.below kR35.out (alloc_old (o := .cells #[.int .i64 6, .int .i64 0, .string ⟨#[]⟩, .slice A5 m5 c5] 29)))
  have mc5 := Lib.hid (blk_below kc5.out (alloc_old (o := .cells #[.int .i64 6, .int .i64 0, .string ⟨#[]⟩, .slice A5 m5 c5] 29)))
  have mR45 := Lib.hid (RO.below kR45.out (alloc_old (o := .cells #[.int .i64 6, .int .i64 0, .string ⟨#[]⟩, .slice A5 m5 c5] 29)))
  have md5 := Lib.hid (blk_below kd5.out (alloc_old (o := .cells #[.int .i64 6, .int .i64 0, .string ⟨#[]⟩, .slice A5 m5 c5] 29)))
  have mR55 := Lib.hid (RO.below kR5.out (alloc_old (o := .cells #[.int .i64 6, .int .i64 0, .string ⟨#[]⟩, .slice A5 m5 c5] 29)))
  have me5 := Lib.hid (heap_alloc_new v5 (.cells #[.int .i64 6, .int .i64 0, .string ⟨#[]⟩, .slice A5 m5 c5] 29))
  have D6 := Lib.hid (tp_f W0 bS bM (v5.alloc (.cells #[.int .i64 6, .int .i64 0, .string ⟨#[]⟩, .slice A5 m5 c5] 29)) M5.out (v5.heap.size + 1) (by simp))
  obtain ⟨hm3, ⟨g3, rfl⟩, hcc3⟩ := mR35.out.form (by simp)
  have hm3 : m3 = 2 := hm3
  subst hm3
  have cw30 := row_cell mR35.out 2 (.string ⟨#[45, 50]⟩) rfl
  have cw31 := row_cell mR35.out 6 (.string ⟨#[49]⟩) rfl
  obtain ⟨hm4, ⟨g4, rfl⟩, hcc4⟩ := mR45.out.form (by simp)
  have hm4 : m4 = 2 := hm4
  subst hm4
  have cw40 := row_cell mR45.out 2 (.string ⟨#[45, 49]⟩) rfl
  obtain ⟨hm5, ⟨g5, rfl⟩, hcc5⟩ := mR55.out.form (by simp)
  have hm5 : m5 = 3 := hm5
  subst hm5
  have cw50 := row_cell mR55.out 2 (.string ⟨#[98]⟩) rfl
  obtain ⟨⟨ax0, ax1, ax2, ax3⟩, _⟩ := cells4 ma5.out
  obtain ⟨⟨bx0, bx1, bx2, bx3⟩, _⟩ := cells4 mb5.out
  obtain ⟨⟨cx0, cx1, cx2, cx3⟩, _⟩ := cells4 mc5.out
  obtain ⟨⟨dx0, dx1, dx2, dx3⟩, _⟩ := cells4 md5.out
  obtain ⟨⟨ex0, ex1, ex2, ex3⟩, _⟩ := cells4 me5.out
  go_wp2_with (first | (go_at_call 14; (with_reducible refine (D6.out).mono ?_); rintro e v9 ⟨rfl, hL9, hK9⟩; have L9 := Lib.hid hL9; clear hL9 hK9))
  go_ret
  exact ⟨by simp, L9.out.below⟩
end Go.Proofs.YticlacjpgjkhcaaGreatDoor

/- Points of a law: names in order; what the commands answer at them. -/
namespace Go.Proofs.YticlacjpgjkhcaaGreatDoor
open Go.ChangeShapes Go.WideShapes Go.ChangeAt Go.RowKit Go.Fl

def nP (j : Nat) : ByteArray := ⟨#[UInt8.ofNat (97 + j)]⟩
def fP (X Y : Nat → Int) (i : Nat) : List (ByteArray × Int × Int) := (List.range i).map fun j => (nP j, X j, Y j)
theorem fP_len (X Y : Nat → Int) (i : Nat) : (fP X Y i).length = i := by simp [fP]
theorem fP_succ (X Y : Nat → Int) (i : Nat) : fP X Y (i + 1) = fP X Y i ++ [(nP i, X i, Y i)] := by simp [fP, List.range_succ]
theorem fP_at (X Y : Nat → Int) (i j : Nat) (h : j < i) : (fP X Y i)[j]? = some (nP j, X j, Y j) := by simp [fP, h]
theorem fP_ne (X Y : Nat → Int) (i : Nat) (h : 1 ≤ i) : fP X Y i ≠ [] := fun e => by
  have := fP_len X Y i
  rw [e] at this
  simp at this
  omega
theorem nP_lt : ∀ i, i < 9 → ∀ j, j < i → bl (nP j) < bl (nP i) := by decide
theorem nP_far (X Y : Nat → Int) (i : Nat) (h : i < 9) : ∀ q ∈ fP X Y i, bl q.1 < bl (nP i) := by
  intro q hq
  obtain ⟨j, hj, rfl⟩ := List.mem_map.1 hq
  exact nP_lt i h j (List.mem_range.1 hj)
theorem fP_bd (X Y : Nat → Int) (B : Int) (hX : ∀ j, -B ≤ X j ∧ X j ≤ B) (hY : ∀ j, -B ≤ Y j ∧ Y j ≤ B) : ∀ i, i ≤ 9 → PBd (fP X Y i) B
  | 0, _ => PBd.nil B
  | i + 1, h => by
    rw [fP_succ]
    exact (fP_bd X Y B hX hY i (by omega)).snoc _ (by rw [fP_len]; omega) (by show (1 : Nat) ≤ 100; decide) (nP_far X Y i (by omega)) ⟨hX i, hY i⟩
/-- One point more is laid behind the others. -/
theorem q_padd (W0 : World) (bS bM : Nat) (X Y : Nat → Int) (B : Int) (hB : B ≤ 1000000) (hX : ∀ j, -B ≤ X j ∧ X j ≤ B) (hY : ∀ j, -B ≤ Y j ∧ Y j ≤ B) (i : Nat) (hi : i < 9) (vA : Value) (w : World) (hL : LDP W0 w bS bM (dP (fP X Y i))) (hA : SSl w vA [⟨#[80, 65, 68, 68]⟩, ⟨#[107]⟩, numT (X i), numT (Y i), nP i]) : Calls Tryz.prog 14 #[.pointer (some ⟨bS, 0, none⟩), vA] w (DoQ W0 bS bM (dP (fP X Y (i + 1))) 3 1 ⟨#[]⟩ R0 w) := by
  have hx : I64 (X i) := by have := hX i; exact ⟨by omega, by omega⟩
  have hy : I64 (Y i) := by have := hY i; exact ⟨by omega, by omega⟩
  have hb := fP_bd X Y B hX hY (i + 1) (by omega)
  rw [fP_succ] at hb ⊢
  refine d_PADD W0 bS bM (fP X Y i) [numT (X i), numT (Y i), nP i] [(nP i, X i, Y i)] 1 rfl (by decide) (by decide) rfl (fun k p hp => ?_) (fun k p hp q hq => ?_) B (by omega) hb (by simp) vA w hL hA
  · match k, hp with
    | 0, hp =>
      cases hp
      refine ⟨_, _, rfl, rfl, rfl, Nat.le_trans (numT_size _ hx) (by decide), Nat.le_trans (numT_size _ hy) (by decide), ⟨?_, ?_⟩, parse_numT _ hx, parse_numT _ hy⟩
      · have := hX i; simp [okI]; omega
      · have := hY i; simp [okI]; omega
    | k + 1, hp => simp at hp
  · match k, hp with
    | 0, hp =>
      cases hp
      simp at hq
      exact nP_far X Y i hi q hq
    | k + 1, hp => simp at hp
/-- Moved together, the nearest one is the same. -/
theorem dst_mv (a b m m' : Int) (p : ByteArray × Int × Int) : dst (a + m) (b + m') (p.1, mvP m m' p.2.1 p.2.2) = dst a b p := by
  unfold dst mvP
  have e1 : p.2.1 + m - (a + m) = p.2.1 - a := by omega
  have e2 : p.2.2 + m' - (b + m') = p.2.2 - b := by omega
  simp only [e1, e2]
theorem nr_mv (a b m m' : Int) (F : List (ByteArray × Int × Int)) : ∀ k, nrP (a + m) (b + m') (mapP (mvP m m') F) k = nrP a b F k
  | 0 => rfl
  | k + 1 => by
    have ih := nr_mv a b m m' F k
    unfold nrP
    rw [ih]
    unfold mapP
    rw [List.getElem?_map]
    cases F[k]? with
    | none => rfl
    | some p =>
      show (if (nrP a b F k).1 < 0 ∨ dst (a + m) (b + m') (p.1, mvP m m' p.2.1 p.2.2) < (nrP a b F k).2 then _ else _) = _
      simp only [dst_mv]
theorem nr_in (a b : Int) (F : List (ByteArray × Int × Int)) : ∀ k, 1 ≤ k → k ≤ F.length → 0 ≤ (nrP a b F k).1 ∧ (nrP a b F k).1 < (k : Int)
  | 0, h, _ => by omega
  | k + 1, _, hl => by
    obtain ⟨p, hp⟩ : ∃ p, F[k]? = some p := ⟨_, List.getElem?_eq_getElem (by omega)⟩
    have e : nrP a b F (k + 1) = if (nrP a b F k).1 < 0 ∨ dst a b p < (nrP a b F k).2 then ((k : Int), dst a b p) else nrP a b F k := by
      show (match F[k]? with | none => nrP a b F k | some p => if (nrP a b F k).1 < 0 ∨ dst a b p < (nrP a b F k).2 then ((k : Int), dst a b p) else nrP a b F k) = _
      rw [hp]
    rw [e]
    by_cases h0 : k = 0
    · subst h0
      rw [if_pos (.inl (by show (-1 : Int) < 0; decide))]
      simp
    · have ih := nr_in a b F k (by omega) (by omega)
      split
      · simp only; omega
      · omega
theorem nr_at (a b : Int) (X Y : Nat → Int) (n k : Nat) (h : k < n) : nrP a b (fP X Y n) (k + 1) = if (nrP a b (fP X Y n) k).1 < 0 ∨ dst a b (nP k, X k, Y k) < (nrP a b (fP X Y n) k).2 then ((k : Int), dst a b (nP k, X k, Y k)) else nrP a b (fP X Y n) k := by
  show (match (fP X Y n)[k]? with | none => nrP a b (fP X Y n) k | some p => if (nrP a b (fP X Y n) k).1 < 0 ∨ dst a b p < (nrP a b (fP X Y n) k).2 then ((k : Int), dst a b p) else nrP a b (fP X Y n) k) = _
  rw [fP_at X Y n k h]
/-- The nearest of a law's points. -/
theorem q_pnear (W0 : World) (bS bM : Nat) (hT : Tab W0) (F : List (ByteArray × Int × Int)) (B : Int) (hB0 : 0 ≤ B) (hB : B ≤ 1048576) (hb : PBd F B) (hne : F ≠ []) (a b : Int) (ha : okI a = true) (hb9 : okI b = true) (i : Nat) (hi : (nrP a b F F.length).1 = i) (q : ByteArray × Int × Int) (hq : F[i]? = some q) (vA : Value) (w : World) (hL : LDP W0 w bS bM (dP F)) (hA : SSl w vA [⟨#[80, 78, 69, 65, 82]⟩, ⟨#[107]⟩, numT a, numT b]) : Calls Tryz.prog 14 #[.pointer (some ⟨bS, 0, none⟩), vA] w (DoQ W0 bS bM (dP F) 6 0 ⟨#[]⟩ (RO [some q.1, some (numT q.2.1), some (numT q.2.2)]) w) :=
  d_PNEAR W0 bS bM F hT _ _ (Nat.le_trans (numT_size _ (I64.okI ha)) (by decide)) (Nat.le_trans (numT_size _ (I64.okI hb9)) (by decide)) a b ha hb9 (parse_numT _ (I64.okI ha)) (parse_numT _ (I64.okI hb9)) B hB0 hB hb hne i hi q hq vA w hL hA
theorem q_pmove (W0 : World) (bS bM : Nat) (F : List (ByteArray × Int × Int)) (B : Int) (hB0 : 0 ≤ B) (hB : B ≤ 1048576) (hb : PBd F B) (hne : F ≠ []) (a b : Int) (ha : okI a = true) (hb9 : okI b = true) (C : Int) (hC : C ≤ 1048576) (hc : PBd (mapP (mvP a b) F) C) (vA : Value) (w : World) (hL : LDP W0 w bS bM (dP F)) (hA : SSl w vA [⟨#[80, 77, 79, 86, 69]⟩, ⟨#[107]⟩, numT a, numT b]) : Calls Tryz.prog 14 #[.pointer (some ⟨bS, 0, none⟩), vA] w (DoQ W0 bS bM (dP (mapP (mvP a b) F)) 3 (F.length : Nat) ⟨#[]⟩ R0 w) :=
  d_PMOVE W0 bS bM F _ _ (Nat.le_trans (numT_size _ (I64.okI ha)) (by decide)) (Nat.le_trans (numT_size _ (I64.okI hb9)) (by decide)) a b ha hb9 (parse_numT _ (I64.okI ha)) (parse_numT _ (I64.okI hb9)) B hB0 hB hb hne C hC hc vA w hL hA
/-- A row with one that does not fit has a first such one. -/
theorem first_bad (g : ByteArray × Int × Int → Bool) : ∀ (F : List (ByteArray × Int × Int)), (∀ p ∈ F, g p = true) ∨ ∃ (M : Nat) (p : ByteArray × Int × Int), F[M]? = some p ∧ g p = false ∧ ∀ (i : Nat) (q : ByteArray × Int × Int), i < M → F[i]? = some q → g q = true
  | [] => .inl fun p hp => by cases hp
  | p :: r => by
    cases hp : g p with
    | false => exact .inr ⟨0, p, rfl, hp, fun i q hi => by omega⟩
    | true =>
      rcases first_bad g r with h | ⟨M, q, h1, h2, h3⟩
      · exact .inl fun q hq => by
          rcases List.mem_cons.1 hq with rfl | hq
          · exact hp
          · exact h q hq
      · refine .inr ⟨M + 1, q, by simpa using h1, h2, fun i s hi hs => ?_⟩
        cases i with
        | zero => simp at hs; subst hs; exact hp
        | succ i => exact h3 i s (by omega) (by simpa using hs)
/-- The law's num. -/
theorem num_any {W0 : World} (hT : Tab W0) (x : Int) (hx : I64 x) (w : World) (hi : Below W0.heap.size W0 w) : Calls Tryz.prog 16 #[.int .i64 x] w fun e w' => e = .returned (.string (numT x)) ∧ Below w.heap.size w w' := by
  have NU := Lib.hid (Number13 hT x hx w hi)
  clear hT hx hi
  go_enter Tryz.func16, Tryz.ntmps16
  go_wp2_with (first | (go_at_call 13; (with_reducible refine (NU.out).mono ?_); rintro e w1 ⟨rfl, h1⟩; have B1 := Lib.hid h1; clear h1))
  go_ret
  exact ⟨rfl, B1.out⟩
end Go.Proofs.YticlacjpgjkhcaaGreatDoor
