/- Texts joined: C10, C11 -/
import Derived.Test.YticlacjpgjkhcaaGreatDoorQh26
import Derived.Test.YticlacjpgjkhcaaGreatDoorQh27
import Derived.Test.YticlacjpgjkhcaaGreatDoorQh28
import Derived.Test.YticlacjpgjkhcaaGreatDoorQh30

/- The commands of hashes at a law's space, over data. -/
namespace Go.Proofs.YticlacjpgjkhcaaGreatDoor
open Go.ChangeShapes Go.WideShapes Go.ChangeAt Go.RowKit

abbrev LDF := LD KF okF
abbrev DoF := DoP KF okF
theorem ok_names {k : ByteArray} {G : List (ByteArray × ByteArray)} (h : okF k (srtF G)) : ∀ n ∈ namesD G, n.size ≤ 1000000 := by
  intro n hn
  have h1 : n ∈ namesD (srtF G) := by rw [names_srtF, srtN_mem]; exact hn
  obtain ⟨p, hp, rfl⟩ := List.mem_map.1 h1
  exact Nat.le_trans (h.2.2.2.2.1 p.1 (List.mem_flatMap.2 ⟨p, hp, by simp⟩)) (by decide)
theorem xoF_ok {k : ByteArray} {G : List (ByteArray × ByteArray)} (h : G ≠ [] → okF k (srtF G)) : ∀ x, xoF G = some x → okF k x := by
  intro x hx
  unfold xoF at hx
  split at hx
  · cases hx
  · rename_i h2
    cases hx
    exact h h2
theorem d_plainH (W0 : World) (RAW NAME : ByteArray) (F : FuncId) (bS bM : Nat) (D D' : List (ByteArray × List (ByteArray × ByteArray))) (xs : List ByteArray) (vA : Value) (k n : Int) (s : ByteArray) (R : Nat → World → Value → Prop) (hR : RKeep R) (des : List (ByteArray × Option (List (ByteArray × ByteArray)))) (hm : MayD okF des D) (hD : applyD des D = D') (w : World) (hL : LDF W0 w bS bM D) (hA : SSl w vA xs) (hx : xs[0]? = some RAW) (hfit : ∀ X, SSl X vA xs → Calls Tryz.prog 95 #[vA] X fun e w' => e = .returned (.int .i64 0) ∧ Below X.heap.size X w') (hup : ∀ X, Calls Tryz.prog 96 #[.string RAW] X fun e w' => e = .returned (.string NAME) ∧ Below X.heap.size X w')
    (hsel : MapT.find NAME flH = some (.func (.func F) #[] #[])) (hent : ∀ (args : Array Value) (w : World), (callFunc F args).run Tryz.prog w = .ok (.enter F args) w) (hF : ∀ X, Below w.heap.size w X → CmdD KF okF F bS bM D 1 xs k n s R des X) :
    Calls Tryz.prog 23 #[.pointer (some ⟨bS, 0, none⟩), vA] w (DoF W0 bS bM D' k n s R w) := by
  refine (do_DH KF okF KFok RAW NAME F bS bM D xs vA k n s R hR des hm w hL.sp hA hx hfit hup hsel hent hF).mono ?_
  rintro e w' ⟨A, m, c, rfl, h1, h2, h3⟩
  rw [hD] at h2
  exact ⟨A, m, c, rfl, h1, hL.step h2 h3, h3⟩
theorem d_HGET1 (W0 : World) (bS bM : Nat) (D : List (ByteArray × List (ByteArray × ByteArray))) (k : ByteArray) (nm : ByteArray) (hnm : nm.size ≤ 1000000) (t : ByteArray) (F : List (ByteArray × ByteArray)) (hF : (findD k D).getD [] = F) (hfn : findD nm F = some t) (hfew : F.length ≤ 15) (vA : Value) (w : World) (hL : LDF W0 w bS bM D) (hA : SSl w vA [⟨#[72, 71, 69, 84]⟩, k, nm]) : Calls Tryz.prog 23 #[.pointer (some ⟨bS, 0, none⟩), vA] w (DoF W0 bS bM D 4 0 t R0 w) :=
  d_plainH W0 ⟨#[72, 71, 69, 84]⟩ ⟨#[72, 71, 69, 84]⟩ 79 bS bM D _ _ vA 4 0 t _ R0.keep [] trivial rfl w hL hA rfl (fun X h => Fits_HGET _ _ rfl (by simp) (by simp) X h) hu_HGET sel_HGET ent_HGET (fun X hX => cHGET1 bS bM D 1 _ k nm hnm t F hF hfn hfew X)
theorem d_HEXISTS1 (W0 : World) (bS bM : Nat) (D : List (ByteArray × List (ByteArray × ByteArray))) (k : ByteArray) (nm : ByteArray) (hnm : nm.size ≤ 1000000) (F : List (ByteArray × ByteArray)) (hF : (findD k D).getD [] = F) (hfn : (findD nm F).isSome = true) (hfew : F.length ≤ 15) (vA : Value) (w : World) (hL : LDF W0 w bS bM D) (hA : SSl w vA [⟨#[72, 69, 88, 73, 83, 84, 83]⟩, k, nm]) : Calls Tryz.prog 23 #[.pointer (some ⟨bS, 0, none⟩), vA] w (DoF W0 bS bM D 3 1 ⟨#[]⟩ R0 w) :=
  d_plainH W0 ⟨#[72, 69, 88, 73, 83, 84, 83]⟩ ⟨#[72, 69, 88, 73, 83, 84, 83]⟩ 82 bS bM D _ _ vA 3 1 ⟨#[]⟩ _ R0.keep [] trivial rfl w hL hA rfl (fun X h => Fits_HEXISTS _ _ rfl (by simp) (by simp) X h) hu_HEXISTS sel_HEXISTS ent_HEXISTS (fun X hX => cHEXISTS1 bS bM D 1 _ k nm hnm F hF hfn hfew X)
theorem d_HEXISTS0 (W0 : World) (bS bM : Nat) (D : List (ByteArray × List (ByteArray × ByteArray))) (k : ByteArray) (nm : ByteArray) (hnm : nm.size ≤ 1000000) (F : List (ByteArray × ByteArray)) (hF : (findD k D).getD [] = F) (hfn : (findD nm F).isSome = false) (hfew : F.length ≤ 15) (vA : Value) (w : World) (hL : LDF W0 w bS bM D) (hA : SSl w vA [⟨#[72, 69, 88, 73, 83, 84, 83]⟩, k, nm]) : Calls Tryz.prog 23 #[.pointer (some ⟨bS, 0, none⟩), vA] w (DoF W0 bS bM D 3 0 ⟨#[]⟩ R0 w) :=
  d_plainH W0 ⟨#[72, 69, 88, 73, 83, 84, 83]⟩ ⟨#[72, 69, 88, 73, 83, 84, 83]⟩ 82 bS bM D _ _ vA 3 0 ⟨#[]⟩ _ R0.keep [] trivial rfl w hL hA rfl (fun X h => Fits_HEXISTS _ _ rfl (by simp) (by simp) X h) hu_HEXISTS sel_HEXISTS ent_HEXISTS (fun X hX => cHEXISTS0 bS bM D 1 _ k nm hnm F hF hfn hfew X)
theorem d_HSTRLEN (W0 : World) (bS bM : Nat) (D : List (ByteArray × List (ByteArray × ByteArray))) (k : ByteArray) (nm : ByteArray) (hnm : nm.size ≤ 1000000) (F : List (ByteArray × ByteArray)) (hF : (findD k D).getD [] = F) (hfew : F.length ≤ 15) (vA : Value) (w : World) (hL : LDF W0 w bS bM D) (hA : SSl w vA [⟨#[72, 83, 84, 82, 76, 69, 78]⟩, k, nm]) : Calls Tryz.prog 23 #[.pointer (some ⟨bS, 0, none⟩), vA] w (DoF W0 bS bM D 3 (((findD nm F).getD ⟨#[]⟩).size : Nat) ⟨#[]⟩ R0 w) :=
  d_plainH W0 ⟨#[72, 83, 84, 82, 76, 69, 78]⟩ ⟨#[72, 83, 84, 82, 76, 69, 78]⟩ 84 bS bM D _ _ vA 3 (((findD nm F).getD ⟨#[]⟩).size : Nat) ⟨#[]⟩ _ R0.keep [] trivial rfl w hL hA rfl (fun X h => Fits_HSTRLEN _ _ rfl (by simp) (by simp) X h) hu_HSTRLEN sel_HSTRLEN ent_HSTRLEN (fun X hX => cHSTRLEN bS bM D 1 _ k nm hnm F hF hfew X)
theorem d_HLEN (W0 : World) (bS bM : Nat) (D : List (ByteArray × List (ByteArray × ByteArray))) (k : ByteArray) (F : List (ByteArray × ByteArray)) (hF : (findD k D).getD [] = F) (hfew : F.length ≤ 15) (vA : Value) (w : World) (hL : LDF W0 w bS bM D) (hA : SSl w vA [⟨#[72, 76, 69, 78]⟩, k]) : Calls Tryz.prog 23 #[.pointer (some ⟨bS, 0, none⟩), vA] w (DoF W0 bS bM D 3 (F.length : Nat) ⟨#[]⟩ R0 w) :=
  d_plainH W0 ⟨#[72, 76, 69, 78]⟩ ⟨#[72, 76, 69, 78]⟩ 83 bS bM D _ _ vA 3 (F.length : Nat) ⟨#[]⟩ _ R0.keep [] trivial rfl w hL hA rfl (fun X h => Fits_HLEN _ _ rfl (by simp) (by simp) X h) hu_HLEN sel_HLEN ent_HLEN (fun X hX => cHLEN bS bM D 1 _ k F hF hfew X)
theorem d_HSETNX (W0 : World) (bS bM : Nat) (D : List (ByteArray × List (ByteArray × ByteArray))) (k : ByteArray) (nm t : ByteArray) (hnm : nm.size ≤ 1000000) (F : List (ByteArray × ByteArray)) (hF : (findD k D).getD [] = F) (hfn : (findD nm F).isSome = true) (hfew : F.length ≤ 15) (vA : Value) (w : World) (hL : LDF W0 w bS bM D) (hA : SSl w vA [⟨#[72, 83, 69, 84, 78, 88]⟩, k, nm, t]) : Calls Tryz.prog 23 #[.pointer (some ⟨bS, 0, none⟩), vA] w (DoF W0 bS bM D 3 0 ⟨#[]⟩ R0 w) :=
  d_plainH W0 ⟨#[72, 83, 69, 84, 78, 88]⟩ ⟨#[72, 83, 69, 84, 78, 88]⟩ 78 bS bM D _ _ vA 3 0 ⟨#[]⟩ _ R0.keep [] trivial rfl w hL hA rfl (fun X h => Fits_HSETNX _ _ rfl (by simp) (by simp) X h) hu_HSETNX sel_HSETNX ent_HSETNX (fun X hX => cHSETNX bS bM D 1 _ k nm t hnm F hF hfn hfew X)
theorem d_HKEYS (W0 : World) (bS bM : Nat) (D : List (ByteArray × List (ByteArray × ByteArray))) (k : ByteArray) (F : List (ByteArray × ByteArray)) (hF : (findD k D).getD [] = F) (hfew : F.length ≤ 15) (hsz : ∀ n ∈ namesD F, n.size ≤ 1000000) (vA : Value) (w : World) (hL : LDF W0 w bS bM D) (hA : SSl w vA [⟨#[72, 75, 69, 89, 83]⟩, k]) : Calls Tryz.prog 23 #[.pointer (some ⟨bS, 0, none⟩), vA] w (DoF W0 bS bM D 6 0 ⟨#[]⟩ (RO ((allT true false (srtF F)).map some)) w) :=
  d_plainH W0 ⟨#[72, 75, 69, 89, 83]⟩ ⟨#[72, 75, 69, 89, 83]⟩ 85 bS bM D _ _ vA 6 0 ⟨#[]⟩ _ (RO.keep _) [] trivial rfl w hL hA rfl (fun X h => Fits_HKEYS _ _ rfl (by simp) (by simp) X h) hu_HKEYS sel_HKEYS ent_HKEYS (fun X hX => cHKEYS bS bM D 1 _ k F hF hfew hsz X)
theorem d_HVALS (W0 : World) (bS bM : Nat) (D : List (ByteArray × List (ByteArray × ByteArray))) (k : ByteArray) (F : List (ByteArray × ByteArray)) (hF : (findD k D).getD [] = F) (hfew : F.length ≤ 15) (hsz : ∀ n ∈ namesD F, n.size ≤ 1000000) (vA : Value) (w : World) (hL : LDF W0 w bS bM D) (hA : SSl w vA [⟨#[72, 86, 65, 76, 83]⟩, k]) : Calls Tryz.prog 23 #[.pointer (some ⟨bS, 0, none⟩), vA] w (DoF W0 bS bM D 6 0 ⟨#[]⟩ (RO ((allT false true (srtF F)).map some)) w) :=
  d_plainH W0 ⟨#[72, 86, 65, 76, 83]⟩ ⟨#[72, 86, 65, 76, 83]⟩ 87 bS bM D _ _ vA 6 0 ⟨#[]⟩ _ (RO.keep _) [] trivial rfl w hL hA rfl (fun X h => Fits_HVALS _ _ rfl (by simp) (by simp) X h) hu_HVALS sel_HVALS ent_HVALS (fun X hX => cHVALS bS bM D 1 _ k F hF hfew hsz X)
theorem d_HGETALL (W0 : World) (bS bM : Nat) (D : List (ByteArray × List (ByteArray × ByteArray))) (k : ByteArray) (F : List (ByteArray × ByteArray)) (hF : (findD k D).getD [] = F) (hfew : F.length ≤ 15) (hsz : ∀ n ∈ namesD F, n.size ≤ 1000000) (vA : Value) (w : World) (hL : LDF W0 w bS bM D) (hA : SSl w vA [⟨#[72, 71, 69, 84, 65, 76, 76]⟩, k]) : Calls Tryz.prog 23 #[.pointer (some ⟨bS, 0, none⟩), vA] w (DoF W0 bS bM D 6 0 ⟨#[]⟩ (RO ((allT true true (srtF F)).map some)) w) :=
  d_plainH W0 ⟨#[72, 71, 69, 84, 65, 76, 76]⟩ ⟨#[72, 71, 69, 84, 65, 76, 76]⟩ 88 bS bM D _ _ vA 6 0 ⟨#[]⟩ _ (RO.keep _) [] trivial rfl w hL hA rfl (fun X h => Fits_HGETALL _ _ rfl (by simp) (by simp) X h) hu_HGETALL sel_HGETALL ent_HGETALL (fun X hX => cHGETALL bS bM D 1 _ k F hF hfew hsz X)
theorem d_HMGET (W0 : World) (bS bM : Nat) (D : List (ByteArray × List (ByteArray × ByteArray))) (k : ByteArray) (ns : List ByteArray) (hne : ns ≠ []) (hN1 : ns.length ≤ 1000) (hps : ∀ (i : Nat) (n : ByteArray), ns[i]? = some n → n.size ≤ 1000000) (F : List (ByteArray × ByteArray)) (hF : (findD k D).getD [] = F) (hfew : F.length ≤ 15) (vA : Value) (w : World) (hL : LDF W0 w bS bM D) (hA : SSl w vA (⟨#[72, 77, 71, 69, 84]⟩ :: k :: ns)) : Calls Tryz.prog 23 #[.pointer (some ⟨bS, 0, none⟩), vA] w (DoF W0 bS bM D 6 0 ⟨#[]⟩ (RO (ns.map (fun n => findD n F))) w) :=
  d_plainH W0 ⟨#[72, 77, 71, 69, 84]⟩ ⟨#[72, 77, 71, 69, 84]⟩ 80 bS bM D _ _ vA 6 0 ⟨#[]⟩ _ (RO.keep _) [] trivial rfl w hL hA rfl (fun X h => Fits_HMGET _ _ rfl (by simp; have := List.length_pos_iff.2 hne; omega) X h) hu_HMGET sel_HMGET ent_HMGET (fun X hX => cHMGET bS bM D 1 _ k ns hne hN1 hps F hF hfew X)
theorem puts_some {F : List (ByteArray × ByteArray)} {n : ByteArray} (P : List (ByteArray × ByteArray)) (h : (findD n F).isSome = true) : (findD n (putsD F P)).isSome = true := by
  induction P generalizing F with
  | nil => exact h
  | cons p r ih =>
    refine ih ?_
    rw [findD_putD]
    split
    · rfl
    · exact h
theorem puts_find {F : List (ByteArray × ByteArray)} {P : List (ByteArray × ByteArray)} {i : Nat} {p : ByteArray × ByteArray} (h : P[i]? = some p) : (findD p.1 (putsD F P)).isSome = true := by
  induction P generalizing F i with
  | nil => simp at h
  | cons q r ih =>
    cases i with
    | zero =>
      simp at h
      subst h
      refine puts_some r ?_
      rw [findD_putD, if_pos rfl]
      rfl
    | succ i => exact ih (F := putD q.1 q.2 F) (by simpa using h)
theorem d_HSET (W0 : World) (bS bM : Nat) (D : List (ByteArray × List (ByteArray × ByteArray))) (k : ByteArray) (F : List (ByteArray × ByteArray)) (hF : (findD k D).getD [] = F) (hfew : F.length ≤ 15) (P : List (ByteArray × ByteArray)) (hP : P ≠ []) (hok : okF k (srtF (putsD F P))) (hfp : F.length + P.length ≤ 16) (hl : D.length < 4096) (vA : Value) (w : World) (hL : LDF W0 w bS bM D) (hA : SSl w vA (⟨#[72, 83, 69, 84]⟩ :: k :: tF P)) : Calls Tryz.prog 23 #[.pointer (some ⟨bS, 0, none⟩), vA] w (DoF W0 bS bM (setX k (some (srtF (putsD F P))) D) 3 (newsD F P : Nat) ⟨#[]⟩ R0 w) :=
  d_plainH W0 ⟨#[72, 83, 69, 84]⟩ ⟨#[72, 83, 69, 84]⟩ 77 bS bM D _ _ vA 3 (newsD F P : Nat) ⟨#[]⟩ _ R0.keep _ (may_eff okF k _ D (fun x hx => by cases hx; exact hok) hl) (apply_eff k _ D) w hL hA rfl (fun X h => Fits_HSET _ _ rfl (by rw [List.length_cons, List.length_cons, tF_len]; have := List.length_pos_iff.2 hP; omega) (by rw [List.length_cons, List.length_cons, tF_len]; omega) (by rw [List.length_cons, List.length_cons, tF_len]; omega) X h) hu_HSET sel_HSET ent_HSET (fun X hX => cHSET bS bM D 1 _ k F P (putsD_ne hP) hok (ok_names hok) (fun i p hp => ok_names hok p.1 (mem_names.2 (puts_find hp))) hfp hF hfew X)
theorem d_HDEL (W0 : World) (bS bM : Nat) (D : List (ByteArray × List (ByteArray × ByteArray))) (k : ByteArray) (F : List (ByteArray × ByteArray)) (hF : (findD k D).getD [] = F) (hfew : F.length ≤ 15) (ns : List ByteArray) (hne : ns ≠ []) (hN1 : ns.length ≤ 1000) (hok : delsD F ns ≠ [] → okF k (srtF (delsD F ns))) (hsz : ∀ n ∈ namesD (delsD F ns), n.size ≤ 1000000) (hps : ∀ (i : Nat) (n : ByteArray), ns[i]? = some n → n.size ≤ 1000000) (hl : D.length < 4096) (vA : Value) (w : World) (hL : LDF W0 w bS bM D) (hA : SSl w vA (⟨#[72, 68, 69, 76]⟩ :: k :: ns)) : Calls Tryz.prog 23 #[.pointer (some ⟨bS, 0, none⟩), vA] w (DoF W0 bS bM (setX k (xoF (delsD F ns)) D) 3 (goneD F ns : Nat) ⟨#[]⟩ R0 w) :=
  d_plainH W0 ⟨#[72, 68, 69, 76]⟩ ⟨#[72, 68, 69, 76]⟩ 81 bS bM D _ _ vA 3 (goneD F ns : Nat) ⟨#[]⟩ _ R0.keep _ (may_eff okF k _ D (xoF_ok hok) hl) (apply_eff k _ D) w hL hA rfl (fun X h => Fits_HDEL _ _ rfl (by simp; have := List.length_pos_iff.2 hne; omega) X h) hu_HDEL sel_HDEL ent_HDEL (fun X hX => cHDEL bS bM D 1 _ k F ns hne hN1 hok hsz hps hF hfew X)
theorem d_HINCRBY0 (W0 : World) (bS bM : Nat) (D : List (ByteArray × List (ByteArray × ByteArray))) (k : ByteArray) (hT : Tab W0) (F : List (ByteArray × ByteArray)) (hF : (findD k D).getD [] = F) (hfew : F.length ≤ 15) (nm b : ByteArray) (hnm : nm.size ≤ 1000000) (x : Int) (hb : b.size ≤ 100000) (hpb : parseI b.data.toList = some x) (hx : I64 x) (hr0 : rng (0 + x) = true) (hfn : findD nm F = none) (hok : okF k (srtF (putD nm (numT (0 + x)) F))) (hl : D.length < 4096) (vA : Value) (w : World) (hL : LDF W0 w bS bM D) (hA : SSl w vA [⟨#[72, 73, 78, 67, 82, 66, 89]⟩, k, nm, b]) : Calls Tryz.prog 23 #[.pointer (some ⟨bS, 0, none⟩), vA] w (DoF W0 bS bM (setX k (some (srtF (putD nm (numT (0 + x)) F))) D) 3 (0 + x) ⟨#[]⟩ R0 w) :=
  d_plainH W0 ⟨#[72, 73, 78, 67, 82, 66, 89]⟩ ⟨#[72, 73, 78, 67, 82, 66, 89]⟩ 89 bS bM D _ _ vA 3 (0 + x) ⟨#[]⟩ _ R0.keep _ (may_eff okF k _ D (fun x hx => by cases hx; exact hok) hl) (apply_eff k _ D) w hL hA rfl (fun X h => Fits_HINCRBY _ _ rfl (by simp) (by simp) X h) hu_HINCRBY sel_HINCRBY ent_HINCRBY (fun X hX => cHINCRBY0 bS bM D 1 _ k nm b hnm x hb hpb hx hr0 W0 hT F hF hfn hok (ok_names hok) hfew X (hL.below.trans (hX.mono (Below.size hL.below))))
theorem d_HINCRBY1 (W0 : World) (bS bM : Nat) (D : List (ByteArray × List (ByteArray × ByteArray))) (k : ByteArray) (hT : Tab W0) (F : List (ByteArray × ByteArray)) (hF : (findD k D).getD [] = F) (hfew : F.length ≤ 15) (nm b : ByteArray) (hnm : nm.size ≤ 1000000) (x : Int) (hb : b.size ≤ 100000) (hpb : parseI b.data.toList = some x) (hx : I64 x) (t : ByteArray) (y : Int) (ht : t.size ≤ 100000) (hpt : parseI t.data.toList = some y) (hy : I64 y) (hr0 : rng (y + x) = true) (hfn : findD nm F = some t) (hok : okF k (srtF (putD nm (numT (y + x)) F))) (hl : D.length < 4096) (vA : Value) (w : World) (hL : LDF W0 w bS bM D) (hA : SSl w vA [⟨#[72, 73, 78, 67, 82, 66, 89]⟩, k, nm, b]) : Calls Tryz.prog 23 #[.pointer (some ⟨bS, 0, none⟩), vA] w (DoF W0 bS bM (setX k (some (srtF (putD nm (numT (y + x)) F))) D) 3 (y + x) ⟨#[]⟩ R0 w) :=
  d_plainH W0 ⟨#[72, 73, 78, 67, 82, 66, 89]⟩ ⟨#[72, 73, 78, 67, 82, 66, 89]⟩ 89 bS bM D _ _ vA 3 (y + x) ⟨#[]⟩ _ R0.keep _ (may_eff okF k _ D (fun x hx => by cases hx; exact hok) hl) (apply_eff k _ D) w hL hA rfl (fun X h => Fits_HINCRBY _ _ rfl (by simp) (by simp) X h) hu_HINCRBY sel_HINCRBY ent_HINCRBY (fun X hX => cHINCRBY1 bS bM D 1 _ k nm b hnm x hb hpb hx t y ht hpt hy hr0 W0 hT F hF hfn hok (ok_names hok) hfew X (hL.below.trans (hX.mono (Below.size hL.below))))
theorem d_HINCRBYf (W0 : World) (bS bM : Nat) (D : List (ByteArray × List (ByteArray × ByteArray))) (k : ByteArray) (F : List (ByteArray × ByteArray)) (hF : (findD k D).getD [] = F) (hfew : F.length ≤ 15) (nm b : ByteArray) (hnm : nm.size ≤ 1000000) (x : Int) (hb : b.size ≤ 100000) (hpb : parseI b.data.toList = some x) (t : ByteArray) (ht : t.size ≤ 100000) (hpt : parseI t.data.toList = none) (hfn : findD nm F = some t) (vA : Value) (w : World) (hL : LDF W0 w bS bM D) (hA : SSl w vA [⟨#[72, 73, 78, 67, 82, 66, 89]⟩, k, nm, b]) : Calls Tryz.prog 23 #[.pointer (some ⟨bS, 0, none⟩), vA] w fun e w' => e = .returned (.agg #[.int .i64 2, .int .i64 4, .string ⟨#[]⟩, .slice none 0 0]) ∧ LDF W0 w' bS bM D ∧ Below w.heap.size w w' := by
  refine (do_failG bS vA 4 w (fun X hX => ?_)).mono ?_
  · obtain ⟨⟨l, hSP, hAE⟩, hall⟩ := SPG.below KF okF hL.sp hX
    exact Do_failH ⟨#[72, 73, 78, 67, 82, 66, 89]⟩ ⟨#[72, 73, 78, 67, 82, 66, 89]⟩ 89 bS bM l 1 _ vA 4 X hSP (hA.below hX) rfl (fun X h => Fits_HINCRBY _ _ rfl (by simp) (by simp) X h) hu_HINCRBY sel_HINCRBY ent_HINCRBY (fHINCRBY X bS bM D l 1 _ k nm b hnm x hb hpb t ht hpt F hF hfn hfew (SPG.below KF okF hL.sp hX))
  · rintro e w' ⟨rfl, h1⟩
    exact ⟨rfl, hL.old h1, h1⟩
end Go.Proofs.YticlacjpgjkhcaaGreatDoor

/- Calls of a law's do at a space of one hash. -/
namespace Go.Proofs.YticlacjpgjkhcaaGreatDoor
open Go.ChangeShapes Go.WideShapes Go.ChangeAt Go.RowKit

/-- Fields that are few and small. -/
structure FBd (F : List (ByteArray × ByteArray)) (B : Nat) : Prop where
  nd : (namesD F).Nodup
  few : F.length ≤ 15
  sz : ∀ p ∈ F, p.1.size ≤ B ∧ p.2.size ≤ B
theorem FBd.ok {F : List (ByteArray × ByteArray)} {B : Nat} (h : FBd F B) (hB : B ≤ 4000) (hne : F ≠ []) : okF ⟨#[107]⟩ (srtF F) :=
  okF_of (by decide) hne (by have := h.few; omega) h.nd (fun p hp => ⟨Nat.le_trans (h.sz p hp).1 hB, Nat.le_trans (h.sz p hp).2 hB⟩)
theorem mem_putF {k t : ByteArray} {F : List (ByteArray × ByteArray)} {p : ByteArray × ByteArray} (h : p ∈ putD k t F) : p ∈ F ∨ p = (k, t) := by
  induction F with
  | nil => exact .inr (by simpa [putD] using h)
  | cons q r ih =>
    obtain ⟨y, v⟩ := q
    unfold putD at h
    split at h
    · rename_i hy
      rcases List.mem_cons.1 h with h | h
      · exact .inr (by rw [h, hy])
      · exact .inl (List.mem_cons_of_mem _ h)
    · rcases List.mem_cons.1 h with h | h
      · exact .inl (by rw [h]; exact List.mem_cons_self)
      · rcases ih h with h | h
        · exact .inl (List.mem_cons_of_mem _ h)
        · exact .inr h
theorem FBd.put {F : List (ByteArray × ByteArray)} {B : Nat} (h : FBd F B) (k t : ByteArray) (hk : k.size ≤ B) (ht : t.size ≤ B) (hl : (putD k t F).length ≤ 15) : FBd (putD k t F) B :=
  ⟨nd_putD h.nd, hl, fun p hp => by
    rcases mem_putF hp with hp | rfl
    · exact h.sz p hp
    · exact ⟨hk, ht⟩⟩
theorem FBd.srt {F : List (ByteArray × ByteArray)} {B : Nat} (h : FBd F B) : FBd (srtF F) B := ⟨nd_srtF h.nd, by rw [len_srtF]; exact h.few, fun p hp => h.sz p (mem_srtF hp)⟩
theorem FBd.nil (B : Nat) : FBd [] B := ⟨List.nodup_nil, by simp, fun _ h => by cases h⟩
theorem FBd.drop {F : List (ByteArray × ByteArray)} {B : Nat} (h : FBd F B) (i : Nat) : FBd (F.drop i) B :=
  ⟨by unfold namesD; rw [List.map_drop]; exact h.nd.sublist (List.drop_sublist _ _), by rw [List.length_drop]; have := h.few; omega, fun p hp => h.sz p (List.mem_of_mem_drop hp)⟩
theorem FBd.names {F : List (ByteArray × ByteArray)} {B : Nat} (h : FBd F B) (hB : B ≤ 4000) : ∀ n ∈ namesD (srtF F), n.size ≤ 1000000 := by
  intro n hn
  obtain ⟨p, hp, rfl⟩ := List.mem_map.1 hn
  have := (h.sz p (mem_srtF hp)).1
  omega
theorem srt_srt {F : List (ByteArray × ByteArray)} (h : (namesD F).Nodup) : srtF (srtF F) = srtF F := srtF_of (nd_srtF h) (rises_srtF F)
theorem srt_drop {F : List (ByteArray × ByteArray)} (h : (namesD F).Nodup) (i : Nat) : srtF ((srtF F).drop i) = (srtF F).drop i := by
  refine srtF_of ?_ ?_
  · unfold namesD
    rw [List.map_drop]
    exact (nd_srtF h).sublist (List.drop_sublist _ _)
  · unfold Rises namesD
    rw [List.map_drop]
    exact (rises_srtF F).sublist (List.drop_sublist _ _)
theorem allT_names (G : List (ByteArray × ByteArray)) : allT true false G = namesD G := by
  induction G with
  | nil => rfl
  | cons p r ih => show [p.1] ++ [] ++ allT true false r = p.1 :: namesD r; rw [ih]; rfl
theorem allT_texts (G : List (ByteArray × ByteArray)) : allT false true G = G.map Prod.snd := by
  induction G with
  | nil => rfl
  | cons p r ih => show [] ++ [p.2] ++ allT false true r = p.2 :: r.map Prod.snd; rw [ih]; rfl
theorem xo_some {G : List (ByteArray × ByteArray)} (h : G ≠ []) : some (srtF G) = xoF G := (if_neg h).symm
theorem puts1_set {F : List (ByteArray × ByteArray)} (h : (namesD F).Nodup) (n t : ByteArray) : setX ⟨#[107]⟩ (some (srtF (putD n t (srtF F)))) (dF F) = dF (putD n t F) := by
  rw [srtF_put h, xo_some (putsD_ne1 n t F)]
  exact dF_set F _
theorem q_set (W0 : World) (bS bM : Nat) (F : List (ByteArray × ByteArray)) (B : Nat) (hB : B ≤ 4000) (hb : FBd F B) (n t : ByteArray) (hn : n.size ≤ B) (ht : t.size ≤ B) (X : World) (hL : LDF W0 X bS bM (dF F)) (q : Nat) (hq : X.heap.size = q) : Calls Tryz.prog 23 #[.pointer (some ⟨bS, 0, none⟩), .slice (some ⟨q, 0, none⟩) 4 4] (X.alloc (.cells #[.string ⟨#[72, 83, 69, 84]⟩, .string ⟨#[107]⟩, .string n, .string t] 9)) fun e w' => e = .returned (.agg #[.int .i64 3, .int .i64 (if (findD n F).isNone = true then 1 else 0), .string ⟨#[]⟩, .slice none 0 0]) ∧ LDF W0 w' bS bM (dF (putD n t F)) ∧ Kp X.heap.size (fun i => i ≠ bS ∧ i ≠ bM) X w' := by
  subst hq
  have hok : okF ⟨#[107]⟩ (srtF (putsD (srtF F) [(n, t)])) := by
    rw [srtF_puts [(n, t)] hb.nd]
    refine okF_of (by decide) (putsD_ne1 n t F) (by have := len_putF n t F; have := hb.few; show (putD n t F).length ≤ 16; omega) (nd_putD hb.nd) (fun p hp => ?_)
    rcases mem_putF hp with hp | rfl
    · have := hb.sz p hp; exact ⟨by omega, by omega⟩
    · exact ⟨by show n.size ≤ 4000; omega, by show t.size ≤ 4000; omega⟩
  have hnn : ((newsD (srtF F) [(n, t)] : Nat) : Int) = if (findD n F).isNone = true then 1 else 0 := by
    rw [news_congr [(n, t)] (fun n => findD_srtF F n)]
    show (((if (findD n F).isNone = true then 1 else 0) + 0 : Nat) : Int) = _
    split <;> rfl
  exact lit0 X hL [⟨#[72, 83, 69, 84]⟩, ⟨#[107]⟩, n, t] (by simp) (fun vA w h hA => d_HSET W0 bS bM (dF F) ⟨#[107]⟩ (srtF F) (dF_find F) (by rw [len_srtF]; exact hb.few) [(n, t)] (by simp) hok (by rw [len_srtF]; exact Nat.succ_le_succ hb.few) (dF_len F) vA w h hA) (puts1_set hb.nd n t) hnn rfl
theorem q_get (W0 : World) (bS bM : Nat) (F : List (ByteArray × ByteArray)) (B : Nat) (hB : B ≤ 4000) (hb : FBd F B) (n t : ByteArray) (hn : n.size ≤ B) (hf : findD n F = some t) (X : World) (hL : LDF W0 X bS bM (dF F)) (q : Nat) (hq : X.heap.size = q) : Calls Tryz.prog 23 #[.pointer (some ⟨bS, 0, none⟩), .slice (some ⟨q, 0, none⟩) 3 3] (X.alloc (.cells #[.string ⟨#[72, 71, 69, 84]⟩, .string ⟨#[107]⟩, .string n] 9)) fun e w' => e = .returned (.agg #[.int .i64 4, .int .i64 0, .string t, .slice none 0 0]) ∧ LDF W0 w' bS bM (dF F) ∧ Kp X.heap.size (fun i => i ≠ bS ∧ i ≠ bM) X w' := by
  subst hq
  exact lit0 X hL [⟨#[72, 71, 69, 84]⟩, ⟨#[107]⟩, n] (by simp) (fun vA w h hA => d_HGET1 W0 bS bM (dF F) ⟨#[107]⟩ n (by omega) t (srtF F) (dF_find F) (by rw [findD_srtF]; exact hf) (by rw [len_srtF]; exact hb.few) vA w h hA) rfl rfl rfl
theorem q_exists1 (W0 : World) (bS bM : Nat) (F : List (ByteArray × ByteArray)) (B : Nat) (hB : B ≤ 4000) (hb : FBd F B) (n t : ByteArray) (hn : n.size ≤ B) (hf : findD n F = some t) (X : World) (hL : LDF W0 X bS bM (dF F)) (q : Nat) (hq : X.heap.size = q) : Calls Tryz.prog 23 #[.pointer (some ⟨bS, 0, none⟩), .slice (some ⟨q, 0, none⟩) 3 3] (X.alloc (.cells #[.string ⟨#[72, 69, 88, 73, 83, 84, 83]⟩, .string ⟨#[107]⟩, .string n] 9)) fun e w' => e = .returned (.agg #[.int .i64 3, .int .i64 1, .string ⟨#[]⟩, .slice none 0 0]) ∧ LDF W0 w' bS bM (dF F) ∧ Kp X.heap.size (fun i => i ≠ bS ∧ i ≠ bM) X w' := by
  subst hq
  exact lit0 X hL [⟨#[72, 69, 88, 73, 83, 84, 83]⟩, ⟨#[107]⟩, n] (by simp) (fun vA w h hA => d_HEXISTS1 W0 bS bM (dF F) ⟨#[107]⟩ n (by omega) (srtF F) (dF_find F) (by rw [findD_srtF, hf]; rfl) (by rw [len_srtF]; exact hb.few) vA w h hA) rfl rfl rfl
theorem q_exists0 (W0 : World) (bS bM : Nat) (F : List (ByteArray × ByteArray)) (B : Nat) (hB : B ≤ 4000) (hb : FBd F B) (n : ByteArray) (hn : n.size ≤ B) (hf : findD n F = none) (X : World) (hL : LDF W0 X bS bM (dF F)) (q : Nat) (hq : X.heap.size = q) : Calls Tryz.prog 23 #[.pointer (some ⟨bS, 0, none⟩), .slice (some ⟨q, 0, none⟩) 3 3] (X.alloc (.cells #[.string ⟨#[72, 69, 88, 73, 83, 84, 83]⟩, .string ⟨#[107]⟩, .string n] 9)) fun e w' => e = .returned (.agg #[.int .i64 3, .int .i64 0, .string ⟨#[]⟩, .slice none 0 0]) ∧ LDF W0 w' bS bM (dF F) ∧ Kp X.heap.size (fun i => i ≠ bS ∧ i ≠ bM) X w' := by
  subst hq
  exact lit0 X hL [⟨#[72, 69, 88, 73, 83, 84, 83]⟩, ⟨#[107]⟩, n] (by simp) (fun vA w h hA => d_HEXISTS0 W0 bS bM (dF F) ⟨#[107]⟩ n (by omega) (srtF F) (dF_find F) (by rw [findD_srtF, hf]; rfl) (by rw [len_srtF]; exact hb.few) vA w h hA) rfl rfl rfl
theorem q_strlen (W0 : World) (bS bM : Nat) (F : List (ByteArray × ByteArray)) (B : Nat) (hB : B ≤ 4000) (hb : FBd F B) (n t : ByteArray) (hn : n.size ≤ B) (hf : findD n F = some t) (X : World) (hL : LDF W0 X bS bM (dF F)) (q : Nat) (hq : X.heap.size = q) : Calls Tryz.prog 23 #[.pointer (some ⟨bS, 0, none⟩), .slice (some ⟨q, 0, none⟩) 3 3] (X.alloc (.cells #[.string ⟨#[72, 83, 84, 82, 76, 69, 78]⟩, .string ⟨#[107]⟩, .string n] 9)) fun e w' => e = .returned (.agg #[.int .i64 3, .int .i64 (t.size : Int), .string ⟨#[]⟩, .slice none 0 0]) ∧ LDF W0 w' bS bM (dF F) ∧ Kp X.heap.size (fun i => i ≠ bS ∧ i ≠ bM) X w' := by
  subst hq
  exact lit0 X hL [⟨#[72, 83, 84, 82, 76, 69, 78]⟩, ⟨#[107]⟩, n] (by simp) (fun vA w h hA => d_HSTRLEN W0 bS bM (dF F) ⟨#[107]⟩ n (by omega) (srtF F) (dF_find F) (by rw [len_srtF]; exact hb.few) vA w h hA) rfl (by rw [findD_srtF, hf]; rfl) rfl
theorem q_setnx (W0 : World) (bS bM : Nat) (F : List (ByteArray × ByteArray)) (B : Nat) (hB : B ≤ 4000) (hb : FBd F B) (n t : ByteArray) (hn : n.size ≤ B) (hf : findD n F = some t) (X : World) (hL : LDF W0 X bS bM (dF F)) (q : Nat) (hq : X.heap.size = q) : Calls Tryz.prog 23 #[.pointer (some ⟨bS, 0, none⟩), .slice (some ⟨q, 0, none⟩) 4 4] (X.alloc (.cells #[.string ⟨#[72, 83, 69, 84, 78, 88]⟩, .string ⟨#[107]⟩, .string n, .string ⟨#[122]⟩] 9)) fun e w' => e = .returned (.agg #[.int .i64 3, .int .i64 0, .string ⟨#[]⟩, .slice none 0 0]) ∧ LDF W0 w' bS bM (dF F) ∧ Kp X.heap.size (fun i => i ≠ bS ∧ i ≠ bM) X w' := by
  subst hq
  exact lit0 X hL [⟨#[72, 83, 69, 84, 78, 88]⟩, ⟨#[107]⟩, n, ⟨#[122]⟩] (by simp) (fun vA w h hA => d_HSETNX W0 bS bM (dF F) ⟨#[107]⟩ n _ (by omega) (srtF F) (dF_find F) (by rw [findD_srtF, hf]; rfl) (by rw [len_srtF]; exact hb.few) vA w h hA) rfl rfl rfl
theorem q_len (W0 : World) (bS bM : Nat) (F : List (ByteArray × ByteArray)) (B : Nat) (_hB : B ≤ 4000) (hb : FBd F B) (X : World) (hL : LDF W0 X bS bM (dF F)) (q : Nat) (hq : X.heap.size = q) : Calls Tryz.prog 23 #[.pointer (some ⟨bS, 0, none⟩), .slice (some ⟨q, 0, none⟩) 2 2] (X.alloc (.cells #[.string ⟨#[72, 76, 69, 78]⟩, .string ⟨#[107]⟩] 9)) fun e w' => e = .returned (.agg #[.int .i64 3, .int .i64 (F.length : Int), .string ⟨#[]⟩, .slice none 0 0]) ∧ LDF W0 w' bS bM (dF F) ∧ Kp X.heap.size (fun i => i ≠ bS ∧ i ≠ bM) X w' := by
  subst hq
  exact lit0 X hL [⟨#[72, 76, 69, 78]⟩, ⟨#[107]⟩] (by simp) (fun vA w h hA => d_HLEN W0 bS bM (dF F) ⟨#[107]⟩ (srtF F) (dF_find F) (by rw [len_srtF]; exact hb.few) vA w h hA) rfl (by rw [len_srtF]) rfl
theorem q_keys (W0 : World) (bS bM : Nat) (F : List (ByteArray × ByteArray)) (B : Nat) (hB : B ≤ 4000) (hb : FBd F B) (X : World) (hL : LDF W0 X bS bM (dF F)) (q : Nat) (hq : X.heap.size = q) : Calls Tryz.prog 23 #[.pointer (some ⟨bS, 0, none⟩), .slice (some ⟨q, 0, none⟩) 2 2] (X.alloc (.cells #[.string ⟨#[72, 75, 69, 89, 83]⟩, .string ⟨#[107]⟩] 9)) fun e w' => ∃ A m c, e = .returned (.agg #[.int .i64 6, .int .i64 0, .string ⟨#[]⟩, .slice A m c]) ∧ (RO ((namesD (srtF F)).map some)) X.heap.size w' (.slice A m c) ∧ LDF W0 w' bS bM (dF F) ∧ Kp X.heap.size (fun i => i ≠ bS ∧ i ≠ bM) X w' := by
  subst hq
  exact litR (RO.keep _) X hL [⟨#[72, 75, 69, 89, 83]⟩, ⟨#[107]⟩] (by simp) (fun vA w h hA => d_HKEYS W0 bS bM (dF F) ⟨#[107]⟩ (srtF F) (dF_find F) (by rw [len_srtF]; exact hb.few) (hb.names hB) vA w h hA) rfl rfl (by rw [srt_srt hb.nd, allT_names])
theorem q_vals (W0 : World) (bS bM : Nat) (F : List (ByteArray × ByteArray)) (B : Nat) (hB : B ≤ 4000) (hb : FBd F B) (X : World) (hL : LDF W0 X bS bM (dF F)) (q : Nat) (hq : X.heap.size = q) : Calls Tryz.prog 23 #[.pointer (some ⟨bS, 0, none⟩), .slice (some ⟨q, 0, none⟩) 2 2] (X.alloc (.cells #[.string ⟨#[72, 86, 65, 76, 83]⟩, .string ⟨#[107]⟩] 9)) fun e w' => ∃ A m c, e = .returned (.agg #[.int .i64 6, .int .i64 0, .string ⟨#[]⟩, .slice A m c]) ∧ (RO (((srtF F).map Prod.snd).map some)) X.heap.size w' (.slice A m c) ∧ LDF W0 w' bS bM (dF F) ∧ Kp X.heap.size (fun i => i ≠ bS ∧ i ≠ bM) X w' := by
  subst hq
  exact litR (RO.keep _) X hL [⟨#[72, 86, 65, 76, 83]⟩, ⟨#[107]⟩] (by simp) (fun vA w h hA => d_HVALS W0 bS bM (dF F) ⟨#[107]⟩ (srtF F) (dF_find F) (by rw [len_srtF]; exact hb.few) (hb.names hB) vA w h hA) rfl rfl (by rw [srt_srt hb.nd, allT_texts])
theorem q_all (W0 : World) (bS bM : Nat) (F : List (ByteArray × ByteArray)) (B : Nat) (hB : B ≤ 4000) (hb : FBd F B) (X : World) (hL : LDF W0 X bS bM (dF F)) (q : Nat) (hq : X.heap.size = q) : Calls Tryz.prog 23 #[.pointer (some ⟨bS, 0, none⟩), .slice (some ⟨q, 0, none⟩) 2 2] (X.alloc (.cells #[.string ⟨#[72, 71, 69, 84, 65, 76, 76]⟩, .string ⟨#[107]⟩] 9)) fun e w' => ∃ A m c, e = .returned (.agg #[.int .i64 6, .int .i64 0, .string ⟨#[]⟩, .slice A m c]) ∧ (RO ((allT true true (srtF F)).map some)) X.heap.size w' (.slice A m c) ∧ LDF W0 w' bS bM (dF F) ∧ Kp X.heap.size (fun i => i ≠ bS ∧ i ≠ bM) X w' := by
  subst hq
  exact litR (RO.keep _) X hL [⟨#[72, 71, 69, 84, 65, 76, 76]⟩, ⟨#[107]⟩] (by simp) (fun vA w h hA => d_HGETALL W0 bS bM (dF F) ⟨#[107]⟩ (srtF F) (dF_find F) (by rw [len_srtF]; exact hb.few) (hb.names hB) vA w h hA) rfl rfl (by rw [srt_srt hb.nd])
theorem q_del (W0 : World) (bS bM : Nat) (p : ByteArray × ByteArray) (r : List (ByteArray × ByteArray)) (B : Nat) (hB : B ≤ 4000) (hb : FBd (p :: r) B) (hs : srtF (p :: r) = p :: r) (hr : srtF r = r) (X : World) (hL : LDF W0 X bS bM (dF (p :: r))) (q : Nat) (hq : X.heap.size = q) : Calls Tryz.prog 23 #[.pointer (some ⟨bS, 0, none⟩), .slice (some ⟨q, 0, none⟩) 3 3] (X.alloc (.cells #[.string ⟨#[72, 68, 69, 76]⟩, .string ⟨#[107]⟩, .string p.1] 9)) fun e w' => e = .returned (.agg #[.int .i64 3, .int .i64 1, .string ⟨#[]⟩, .slice none 0 0]) ∧ LDF W0 w' bS bM (dF r) ∧ Kp X.heap.size (fun i => i ≠ bS ∧ i ≠ bM) X w' := by
  subst hq
  have hdl : delsD (p :: r) [p.1] = r := by
    obtain ⟨a, b⟩ := p
    show delD a ((a, b) :: r) = r
    simp [delD]
  have hgn : ((goneD (p :: r) [p.1] : Nat) : Int) = 1 := by
    obtain ⟨a, b⟩ := p
    simp [goneD, findD]
  have hb1 : FBd r B := hb.drop 1
  have hok : delsD (p :: r) [p.1] ≠ [] → okF ⟨#[107]⟩ (srtF (delsD (p :: r) [p.1])) := by
    rw [hdl]
    exact hb1.ok hB
  have hsz : ∀ n ∈ namesD (delsD (p :: r) [p.1]), n.size ≤ 1000000 := by
    rw [hdl]
    have := hb1.names hB
    rw [hr] at this
    exact this
  exact lit0 X hL [⟨#[72, 68, 69, 76]⟩, ⟨#[107]⟩, p.1] (by simp) (fun vA w h hA => d_HDEL W0 bS bM (dF (p :: r)) ⟨#[107]⟩ (p :: r) (by rw [dF_find, hs]) hb.few [p.1] (by simp) (by simp) hok hsz (fun i n h => by have := (hb.sz p List.mem_cons_self).1; cases i with | zero => (simp at h; subst h; omega) | succ i => (simp at h)) (dF_len _) vA w h hA) (by rw [hdl]; exact dF_set (p :: r) r) hgn rfl
theorem q_incr0 (W0 : World) (bS bM : Nat) (F : List (ByteArray × ByteArray)) (B : Nat) (hB : B ≤ 4000) (hb : FBd F B) (hT : Tab W0) (n b : ByteArray) (hn : n.size ≤ B) (x : Int) (hbz : b.size ≤ 100000) (hpb : parseI b.data.toList = some x) (hx : I64 x) (hf : findD n F = none) (hB21 : 21 ≤ B) (X : World) (hL : LDF W0 X bS bM (dF F)) (q : Nat) (hq : X.heap.size = q) : Calls Tryz.prog 23 #[.pointer (some ⟨bS, 0, none⟩), .slice (some ⟨q, 0, none⟩) 4 4] (X.alloc (.cells #[.string ⟨#[72, 73, 78, 67, 82, 66, 89]⟩, .string ⟨#[107]⟩, .string n, .string b] 9)) fun e w' => e = .returned (.agg #[.int .i64 3, .int .i64 (0 + x), .string ⟨#[]⟩, .slice none 0 0]) ∧ LDF W0 w' bS bM (dF (putD n (numT (0 + x)) F)) ∧ Kp X.heap.size (fun i => i ≠ bS ∧ i ≠ bM) X w' := by
  subst hq
  have hr0 : rng (0 + x) = true := by rw [Int.zero_add]; exact rng_yes hx.1 hx.2
  have hx0 : I64 (0 + x) := rng_of hr0
  have hok : okF ⟨#[107]⟩ (srtF (putD n (numT (0 + x)) (srtF F))) := by
    rw [srtF_put hb.nd]
    refine okF_of (by decide) (putsD_ne1 n _ F) (by have := len_putF n (numT (0 + x)) F; have := hb.few; omega) (nd_putD hb.nd) (fun p hp => ?_)
    rcases mem_putF hp with hp | rfl
    · have := hb.sz p hp; exact ⟨by omega, by omega⟩
    · exact ⟨by show n.size ≤ 4000; omega, Nat.le_trans (numT_size _ hx0) (by decide)⟩
  exact lit0 X hL [⟨#[72, 73, 78, 67, 82, 66, 89]⟩, ⟨#[107]⟩, n, b] (by simp) (fun vA w h hA => d_HINCRBY0 W0 bS bM (dF F) ⟨#[107]⟩ hT (srtF F) (dF_find F) (by rw [len_srtF]; exact hb.few) n b (by omega) x hbz hpb hx hr0 (by rw [findD_srtF]; exact hf) hok (dF_len F) vA w h hA) (puts1_set hb.nd n _) rfl rfl
theorem q_incr1 (W0 : World) (bS bM : Nat) (F : List (ByteArray × ByteArray)) (B : Nat) (hB : B ≤ 4000) (hb : FBd F B) (hT : Tab W0) (n b : ByteArray) (hn : n.size ≤ B) (x : Int) (hbz : b.size ≤ 100000) (hpb : parseI b.data.toList = some x) (hx : I64 x) (t : ByteArray) (y : Int) (htz : t.size ≤ 100000) (hpt : parseI t.data.toList = some y) (hy : I64 y) (hr0 : rng (y + x) = true) (hf : findD n F = some t) (X : World) (hL : LDF W0 X bS bM (dF F)) (q : Nat) (hq : X.heap.size = q) : Calls Tryz.prog 23 #[.pointer (some ⟨bS, 0, none⟩), .slice (some ⟨q, 0, none⟩) 4 4] (X.alloc (.cells #[.string ⟨#[72, 73, 78, 67, 82, 66, 89]⟩, .string ⟨#[107]⟩, .string n, .string b] 9)) fun e w' => e = .returned (.agg #[.int .i64 3, .int .i64 (y + x), .string ⟨#[]⟩, .slice none 0 0]) ∧ LDF W0 w' bS bM (dF (putD n (numT (y + x)) F)) ∧ Kp X.heap.size (fun i => i ≠ bS ∧ i ≠ bM) X w' := by
  subst hq
  have hx0 : I64 (y + x) := rng_of hr0
  have hok : okF ⟨#[107]⟩ (srtF (putD n (numT (y + x)) (srtF F))) := by
    rw [srtF_put hb.nd]
    refine okF_of (by decide) (putsD_ne1 n _ F) (by have := len_putF n (numT (y + x)) F; have := hb.few; omega) (nd_putD hb.nd) (fun p hp => ?_)
    rcases mem_putF hp with hp | rfl
    · have := hb.sz p hp; exact ⟨by omega, by omega⟩
    · exact ⟨by show n.size ≤ 4000; omega, Nat.le_trans (numT_size _ hx0) (by decide)⟩
  exact lit0 X hL [⟨#[72, 73, 78, 67, 82, 66, 89]⟩, ⟨#[107]⟩, n, b] (by simp) (fun vA w h hA => d_HINCRBY1 W0 bS bM (dF F) ⟨#[107]⟩ hT (srtF F) (dF_find F) (by rw [len_srtF]; exact hb.few) n b (by omega) x hbz hpb hx t y htz hpt hy hr0 (by rw [findD_srtF]; exact hf) hok (dF_len F) vA w h hA) (puts1_set hb.nd n _) rfl rfl
end Go.Proofs.YticlacjpgjkhcaaGreatDoor
