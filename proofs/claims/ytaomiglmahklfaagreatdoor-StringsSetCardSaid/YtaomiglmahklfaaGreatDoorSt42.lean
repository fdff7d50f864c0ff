/- The law StringsSet. -/
import Derived.Test.YtaomiglmahklfaaGreatDoorSt39
namespace Go.Proofs.YtaomiglmahklfaaGreatDoor
open Go.ChangeShapes Go.WideShapes Go.ChangeAt Go.RowKit

theorem ext_size (t : ByteArray) (a b : Nat) (h : b ≤ t.size) : (t.extract a b).size = b - a := by
  rw [ByteArray.size_extract]
  omega
theorem ext_nil (t : ByteArray) (a b : Nat) (h : b ≤ a) (hb : b ≤ t.size) : t.extract a b = ⟨#[]⟩ := by
  apply bytes_inj
  have := ext_size t a b hb
  have h0 : (t.extract a b).data.toList.length = 0 := by simp; omega
  rw [List.eq_nil_of_length_eq_zero h0]
theorem toList_ext (t : ByteArray) (a b : Nat) : (t.extract a b).data.toList = (t.data.toList.drop a).take (b - a) := by
  rw [ByteArray.data_extract, Array.toList_extract]
theorem ext_all (t : ByteArray) : t.extract 0 t.size = t := by
  apply bytes_inj
  rw [toList_ext]
  have : t.data.toList.length = t.size := by simp
  rw [List.drop_zero, Nat.sub_zero, ← this, List.take_length]
theorem ext_join (t : ByteArray) (p : Nat) (hp : p ≤ t.size) : t.extract 0 p ++ t.extract p t.size = t := by
  apply bytes_inj
  have hl : t.data.toList.length = t.size := by simp
  rw [ByteArray.data_append, Array.toList_append, toList_ext, toList_ext, List.drop_zero, Nat.sub_zero]
  rw [List.take_of_length_le (l := t.data.toList.drop p) (by rw [List.length_drop]; omega), List.take_append_drop]
theorem n_sum {a b : Nat} (ha : a ≤ 300) (hb : b ≤ 300) : wrap64 ((a : Int) + (b : Int)) = (a : Int) + (b : Int) := IntWalk.wrap64_in _ (by omega)
theorem n_one {a : Nat} (ha : a ≤ 300) : wrap64 ((a : Int) + 1) = (a : Int) + 1 := IntWalk.wrap64_in _ (by omega)
theorem n_oneU {a : Nat} (ha : a ≤ 300) : IntKind.u64.wrap ((a : Int) + 1) = (a : Int) + 1 := IntWalk.u64_in _ (by omega)
theorem n_back {a p : Nat} (ha : a ≤ 300) (hp : p ≤ a) : wrap64 ((p : Int) - 1) = (p : Int) - 1 := IntWalk.wrap64_in _ (by omega)
theorem i_back {a p : Nat} (ha : a ≤ 300) (hp : p ≤ a) : I64 ((p : Int) - 1) := ⟨by omega, by omega⟩
theorem i_at {a p : Nat} (ha : a ≤ 300) (hp : p ≤ a) : I64 (p : Int) := ⟨by omega, by omega⟩
theorem s_set (W0 : World) (bS bM : Nat) (v : ByteArray) (hv : v.size ≤ 300) (X : World) (hL : LW W0 X bS bM []) (q : Nat) (hq0 : X.heap.size = q) : Calls Tryz.prog 11 #[.pointer (some ⟨bS, 0, none⟩), .slice (some ⟨q, 0, none⟩) 3 3] (X.alloc (.cells #[.string ⟨#[83, 69, 84]⟩, .string ⟨#[107]⟩, .string v] 9)) fun e w' => e = .returned (.agg #[.int .i64 1, .int .i64 0, .string ⟨#[79, 75]⟩, .slice none 0 0]) ∧ LW W0 w' bS bM (MapT.put ⟨#[107]⟩ (.agg #[.string ⟨#[107]⟩, .int .i64 1, .string v, .slice none 0 0, .slice none 0 0, .slice none 0 0, .slice none 0 0, .int .i64 0]) []) ∧ Kp X.heap.size (fun i => i ≠ bS ∧ i ≠ bM) X w' := by
  exact d_set W0 bS bM [] ⟨#[107]⟩ v (by decide) (by decide) (by omega) (by decide) rfl X hL q hq0
theorem s_get (W0 : World) (bS bM : Nat) (v : ByteArray) (X : World) (hL : LW W0 X bS bM (MapT.put ⟨#[107]⟩ (.agg #[.string ⟨#[107]⟩, .int .i64 1, .string v, .slice none 0 0, .slice none 0 0, .slice none 0 0, .slice none 0 0, .int .i64 0]) [])) (q : Nat) (hq0 : X.heap.size = q) : Calls Tryz.prog 11 #[.pointer (some ⟨bS, 0, none⟩), .slice (some ⟨q, 0, none⟩) 2 2] (X.alloc (.cells #[.string ⟨#[71, 69, 84]⟩, .string ⟨#[107]⟩] 9)) fun e w' => e = .returned (.agg #[.int .i64 4, .int .i64 0, .string v, .slice none 0 0]) ∧ LW W0 w' bS bM (MapT.put ⟨#[107]⟩ (.agg #[.string ⟨#[107]⟩, .int .i64 1, .string v, .slice none 0 0, .slice none 0 0, .slice none 0 0, .slice none 0 0, .int .i64 0]) []) ∧ Kp X.heap.size (fun i => i ≠ bS ∧ i ≠ bM) X w' := by
  exact d_get W0 bS bM (MapT.put ⟨#[107]⟩ (.agg #[.string ⟨#[107]⟩, .int .i64 1, .string v, .slice none 0 0, .slice none 0 0, .slice none 0 0, .slice none 0 0, .int .i64 0]) []) ⟨#[107]⟩ v 0 (find_now _ _ _) (.inl rfl) X hL q hq0
theorem s_len (W0 : World) (bS bM : Nat) (v : ByteArray) (N : Int) (hN : (v.size : Int) = N) (X : World) (hL : LW W0 X bS bM (MapT.put ⟨#[107]⟩ (.agg #[.string ⟨#[107]⟩, .int .i64 1, .string v, .slice none 0 0, .slice none 0 0, .slice none 0 0, .slice none 0 0, .int .i64 0]) [])) (q : Nat) (hq0 : X.heap.size = q) : Calls Tryz.prog 11 #[.pointer (some ⟨bS, 0, none⟩), .slice (some ⟨q, 0, none⟩) 2 2] (X.alloc (.cells #[.string ⟨#[83, 84, 82, 76, 69, 78]⟩, .string ⟨#[107]⟩] 9)) fun e w' => e = .returned (.agg #[.int .i64 3, .int .i64 N, .string ⟨#[]⟩, .slice none 0 0]) ∧ LW W0 w' bS bM (MapT.put ⟨#[107]⟩ (.agg #[.string ⟨#[107]⟩, .int .i64 1, .string v, .slice none 0 0, .slice none 0 0, .slice none 0 0, .slice none 0 0, .int .i64 0]) []) ∧ Kp X.heap.size (fun i => i ≠ bS ∧ i ≠ bM) X w' := by
  subst hN
  exact d_len W0 bS bM (MapT.put ⟨#[107]⟩ (.agg #[.string ⟨#[107]⟩, .int .i64 1, .string v, .slice none 0 0, .slice none 0 0, .slice none 0 0, .slice none 0 0, .int .i64 0]) []) ⟨#[107]⟩ v 0 (find_now _ _ _) (.inl rfl) X hL q hq0
theorem s_none (W0 : World) (bS bM : Nat) (X : World) (hL : LW W0 X bS bM []) (q : Nat) (hq0 : X.heap.size = q) : Calls Tryz.prog 11 #[.pointer (some ⟨bS, 0, none⟩), .slice (some ⟨q, 0, none⟩) 2 2] (X.alloc (.cells #[.string ⟨#[71, 69, 84]⟩, .string ⟨#[107]⟩] 9)) fun e w' => e = .returned (.agg #[.int .i64 5, .int .i64 0, .string ⟨#[]⟩, .slice none 0 0]) ∧ LW W0 w' bS bM [] ∧ Kp X.heap.size (fun i => i ≠ bS ∧ i ≠ bM) X w' := by
  exact d_getno W0 bS bM [] ⟨#[107]⟩ rfl X hL q hq0
theorem s_del (W0 : World) (bS bM : Nat) (v : ByteArray) (hv : v.size ≤ 4096) (X : World) (hL : LW W0 X bS bM (MapT.put ⟨#[107]⟩ (.agg #[.string ⟨#[107]⟩, .int .i64 1, .string v, .slice none 0 0, .slice none 0 0, .slice none 0 0, .slice none 0 0, .int .i64 0]) [])) (q : Nat) (hq0 : X.heap.size = q) : Calls Tryz.prog 11 #[.pointer (some ⟨bS, 0, none⟩), .slice (some ⟨q, 0, none⟩) 2 2] (X.alloc (.cells #[.string ⟨#[71, 69, 84, 68, 69, 76]⟩, .string ⟨#[107]⟩] 9)) fun e w' => e = .returned (.agg #[.int .i64 4, .int .i64 0, .string v, .slice none 0 0]) ∧ LW W0 w' bS bM [] ∧ Kp X.heap.size (fun i => i ≠ bS ∧ i ≠ bM) X w' := by
  have := d_getdel W0 bS bM (MapT.put ⟨#[107]⟩ (.agg #[.string ⟨#[107]⟩, .int .i64 1, .string v, .slice none 0 0, .slice none 0 0, .slice none 0 0, .slice none 0 0, .int .i64 0]) []) ⟨#[107]⟩ v 0 (by decide) (by omega) (find_now _ _ _) (.inl rfl) X hL q hq0
  rw [del_put_new] at this
  exact this
theorem s_left (W0 : World) (bS bM : Nat) (v : ByteArray) (hv : v.size ≤ 300) (p : Nat) (hp : p ≤ v.size) (X : World) (hL : LW W0 X bS bM (MapT.put ⟨#[107]⟩ (.agg #[.string ⟨#[107]⟩, .int .i64 1, .string v, .slice none 0 0, .slice none 0 0, .slice none 0 0, .slice none 0 0, .int .i64 0]) [])) (q : Nat) (hq0 : X.heap.size = q) : Calls Tryz.prog 11 #[.pointer (some ⟨bS, 0, none⟩), .slice (some ⟨q, 0, none⟩) 4 4] (X.alloc (.cells #[.string ⟨#[71, 69, 84, 82, 65, 78, 71, 69]⟩, .string ⟨#[107]⟩, .string ⟨#[48]⟩, .string (numT ((p : Int) - 1))] 9)) fun e w' => ∃ c, e = .returned (.agg #[.int .i64 4, .int .i64 0, .string c, .slice none 0 0]) ∧ (0 < p → c = v.extract 0 p) ∧ c.size ≤ 300 ∧ LW W0 w' bS bM (MapT.put ⟨#[107]⟩ (.agg #[.string ⟨#[107]⟩, .int .i64 1, .string v, .slice none 0 0, .slice none 0 0, .slice none 0 0, .slice none 0 0, .int .i64 0]) []) ∧ Kp X.heap.size (fun i => i ≠ bS ∧ i ≠ bM) X w' := by
  have hI : I64 ((p : Int) - 1) := ⟨by omega, by omega⟩
  have z := numT_size _ hI
  by_cases hs : spA 0 (v.size : Int) ≤ spC ((p : Int) - 1) (v.size : Int)
  · refine (d_part1 W0 bS bM (MapT.put ⟨#[107]⟩ (.agg #[.string ⟨#[107]⟩, .int .i64 1, .string v, .slice none 0 0, .slice none 0 0, .slice none 0 0, .slice none 0 0, .int .i64 0]) []) ⟨#[107]⟩ ⟨#[48]⟩ (numT ((p : Int) - 1)) 0 ((p : Int) - 1) (by decide) (by omega) (by kernel_rfl) (parse_numT _ hI) (by omega) (by omega) v 0 (by omega) (find_now _ _ _) (.inl rfl) hs X hL q hq0).mono ?_
    rintro e w' ⟨rfl, h1, h2⟩
    refine ⟨_, rfl, fun hp0 => ?_, by rw [ByteArray.size_extract]; omega, h1, h2⟩
    have e1 : spA 0 (v.size : Int) = 0 := by unfold spA; simp
    have e2 : spC ((p : Int) - 1) (v.size : Int) = (p : Int) - 1 := by unfold spC; rw [if_neg (by omega)]; omega
    rw [e1, e2, show ((p : Int) - 1 + 1).toNat = p by omega]
    rfl
  · refine (d_part0 W0 bS bM (MapT.put ⟨#[107]⟩ (.agg #[.string ⟨#[107]⟩, .int .i64 1, .string v, .slice none 0 0, .slice none 0 0, .slice none 0 0, .slice none 0 0, .int .i64 0]) []) ⟨#[107]⟩ ⟨#[48]⟩ (numT ((p : Int) - 1)) 0 ((p : Int) - 1) (by decide) (by omega) (by kernel_rfl) (parse_numT _ hI) (by omega) (by omega) v 0 (by omega) (find_now _ _ _) (.inl rfl) (by omega) X hL q hq0).mono ?_
    rintro e w' ⟨rfl, h1, h2⟩
    refine ⟨_, rfl, fun hp0 => ?_, by decide, h1, h2⟩
    exfalso
    apply hs
    have e1 : spA 0 (v.size : Int) = 0 := by unfold spA; simp
    have e2 : spC ((p : Int) - 1) (v.size : Int) = (p : Int) - 1 := by unfold spC; rw [if_neg (by omega)]; omega
    rw [e1, e2]; omega
theorem s_right (W0 : World) (bS bM : Nat) (v d : ByteArray) (hv : v.size ≤ 300) (p : Nat) (hp : p ≤ v.size) (hd : v.extract p v.size = d) (X : World) (hL : LW W0 X bS bM (MapT.put ⟨#[107]⟩ (.agg #[.string ⟨#[107]⟩, .int .i64 1, .string v, .slice none 0 0, .slice none 0 0, .slice none 0 0, .slice none 0 0, .int .i64 0]) [])) (q : Nat) (hq0 : X.heap.size = q) : Calls Tryz.prog 11 #[.pointer (some ⟨bS, 0, none⟩), .slice (some ⟨q, 0, none⟩) 4 4] (X.alloc (.cells #[.string ⟨#[71, 69, 84, 82, 65, 78, 71, 69]⟩, .string ⟨#[107]⟩, .string (numT (p : Int)), .string ⟨#[45, 49]⟩] 9)) fun e w' => e = .returned (.agg #[.int .i64 4, .int .i64 0, .string d, .slice none 0 0]) ∧ LW W0 w' bS bM (MapT.put ⟨#[107]⟩ (.agg #[.string ⟨#[107]⟩, .int .i64 1, .string v, .slice none 0 0, .slice none 0 0, .slice none 0 0, .slice none 0 0, .int .i64 0]) []) ∧ Kp X.heap.size (fun i => i ≠ bS ∧ i ≠ bM) X w' := by
  subst hd
  have hI : I64 (p : Int) := ⟨by omega, by omega⟩
  have z := numT_size _ hI
  have e1 : spA (p : Int) (v.size : Int) = p := by unfold spA; rw [if_neg (by omega)]
  have e2 : spC (-1) (v.size : Int) = (v.size : Int) - 1 := by unfold spC; rw [if_pos (by decide)]; omega
  by_cases hs : p < v.size
  · have := d_part1 W0 bS bM (MapT.put ⟨#[107]⟩ (.agg #[.string ⟨#[107]⟩, .int .i64 1, .string v, .slice none 0 0, .slice none 0 0, .slice none 0 0, .slice none 0 0, .int .i64 0]) []) ⟨#[107]⟩ (numT (p : Int)) ⟨#[45, 49]⟩ (p : Int) (-1) (by omega) (by decide) (parse_numT _ hI) (by kernel_rfl) (by omega) (by decide) v 0 (by omega) (find_now _ _ _) (.inl rfl) (by rw [e1, e2]; omega) X hL q hq0
    rw [e1, e2, show ((v.size : Int) - 1 + 1).toNat = v.size by omega, Int.toNat_natCast] at this
    exact this
  · have := d_part0 W0 bS bM (MapT.put ⟨#[107]⟩ (.agg #[.string ⟨#[107]⟩, .int .i64 1, .string v, .slice none 0 0, .slice none 0 0, .slice none 0 0, .slice none 0 0, .int .i64 0]) []) ⟨#[107]⟩ (numT (p : Int)) ⟨#[45, 49]⟩ (p : Int) (-1) (by omega) (by decide) (parse_numT _ hI) (by kernel_rfl) (by omega) (by decide) v 0 (by omega) (find_now _ _ _) (.inl rfl) (by rw [e1, e2]; omega) X hL q hq0
    rw [ext_nil v p v.size (by omega) (Nat.le_refl _)]
    exact this
theorem s_app (W0 : World) (bS bM : Nat) (v w t : ByteArray) (N : Int) (hN : (v.size : Int) + (w.size : Int) = N) (ht : v ++ w = t) (hv : v.size ≤ 300) (hw : w.size ≤ 300) (X : World) (hL : LW W0 X bS bM (MapT.put ⟨#[107]⟩ (.agg #[.string ⟨#[107]⟩, .int .i64 1, .string v, .slice none 0 0, .slice none 0 0, .slice none 0 0, .slice none 0 0, .int .i64 0]) [])) (q : Nat) (hq0 : X.heap.size = q) : Calls Tryz.prog 11 #[.pointer (some ⟨bS, 0, none⟩), .slice (some ⟨q, 0, none⟩) 3 3] (X.alloc (.cells #[.string ⟨#[65, 80, 80, 69, 78, 68]⟩, .string ⟨#[107]⟩, .string w] 9)) fun e w' => e = .returned (.agg #[.int .i64 3, .int .i64 N, .string ⟨#[]⟩, .slice none 0 0]) ∧ LW W0 w' bS bM (MapT.put ⟨#[107]⟩ (.agg #[.string ⟨#[107]⟩, .int .i64 1, .string t, .slice none 0 0, .slice none 0 0, .slice none 0 0, .slice none 0 0, .int .i64 0]) []) ∧ Kp X.heap.size (fun i => i ≠ bS ∧ i ≠ bM) X w' := by
  subst hN
  subst ht
  by_cases he : v = v ++ w
  · have := d_app0 W0 bS bM (MapT.put ⟨#[107]⟩ (.agg #[.string ⟨#[107]⟩, .int .i64 1, .string v, .slice none 0 0, .slice none 0 0, .slice none 0 0, .slice none 0 0, .int .i64 0]) []) ⟨#[107]⟩ w v 0 (by omega) he.symm (find_now _ _ _) (.inl rfl) X hL q hq0
    rw [← he]
    exact this
  · have := d_app1 W0 bS bM (MapT.put ⟨#[107]⟩ (.agg #[.string ⟨#[107]⟩, .int .i64 1, .string v, .slice none 0 0, .slice none 0 0, .slice none 0 0, .slice none 0 0, .int .i64 0]) []) ⟨#[107]⟩ w v 0 (by decide) (by decide) (by omega) (by decide) (by decide) he (by simp [MapT.put]) (find_now _ _ _) (.inl rfl) X hL q hq0
    rw [put_put] at this
    exact this
theorem s_over (W0 : World) (bS bM : Nat) (t s T : ByteArray) (p : Nat) (ht : t.size ≤ 1000) (hs0 : 0 < s.size) (hs : s.size ≤ 300) (hp : p + s.size ≤ t.size) (hT : ovT t s p = T) (hTs : T.size = t.size) (X : World) (hL : LW W0 X bS bM (MapT.put ⟨#[107]⟩ (.agg #[.string ⟨#[107]⟩, .int .i64 1, .string t, .slice none 0 0, .slice none 0 0, .slice none 0 0, .slice none 0 0, .int .i64 0]) [])) (q : Nat) (hq0 : X.heap.size = q) : Calls Tryz.prog 11 #[.pointer (some ⟨bS, 0, none⟩), .slice (some ⟨q, 0, none⟩) 4 4] (X.alloc (.cells #[.string ⟨#[83, 69, 84, 82, 65, 78, 71, 69]⟩, .string ⟨#[107]⟩, .string (numT (p : Int)), .string s] 9)) fun e w' => e = .returned (.agg #[.int .i64 3, .int .i64 (T.size : Int), .string ⟨#[]⟩, .slice none 0 0]) ∧ LW W0 w' bS bM (MapT.put ⟨#[107]⟩ (.agg #[.string ⟨#[107]⟩, .int .i64 1, .string T, .slice none 0 0, .slice none 0 0, .slice none 0 0, .slice none 0 0, .int .i64 0]) []) ∧ Kp X.heap.size (fun i => i ≠ bS ∧ i ≠ bM) X w' := by
  rw [hTs]
  have hI : I64 (p : Int) := ⟨by omega, by omega⟩
  have z := numT_size _ hI
  subst hT
  by_cases he : t = ovT t s p
  · have := d_over0 W0 bS bM (MapT.put ⟨#[107]⟩ (.agg #[.string ⟨#[107]⟩, .int .i64 1, .string t, .slice none 0 0, .slice none 0 0, .slice none 0 0, .slice none 0 0, .int .i64 0]) []) ⟨#[107]⟩ (numT (p : Int)) s p (by omega) (by omega) (parse_numT _ hI) t 0 he t.size (by omega) hs0 (by omega) (by omega) (find_now _ _ _) (.inl rfl) X hL q hq0
    rw [← he]
    exact this
  · have := d_over1 W0 bS bM (MapT.put ⟨#[107]⟩ (.agg #[.string ⟨#[107]⟩, .int .i64 1, .string t, .slice none 0 0, .slice none 0 0, .slice none 0 0, .slice none 0 0, .int .i64 0]) []) ⟨#[107]⟩ (numT (p : Int)) s p (by omega) (by omega) (parse_numT _ hI) t 0 he (by decide) (by decide) (by decide) (by decide) t.size (by omega) hs0 (by omega) (by omega) (by simp [MapT.put]) (find_now _ _ _) (.inl rfl) X hL q hq0
    rw [put_put] at this
    exact this
theorem s_overE (W0 : World) (bS bM : Nat) (t : ByteArray) (p : Nat) (hp : p ≤ 4000) (X : World) (hL : LW W0 X bS bM (MapT.put ⟨#[107]⟩ (.agg #[.string ⟨#[107]⟩, .int .i64 1, .string t, .slice none 0 0, .slice none 0 0, .slice none 0 0, .slice none 0 0, .int .i64 0]) [])) (q : Nat) (hq0 : X.heap.size = q) : Calls Tryz.prog 11 #[.pointer (some ⟨bS, 0, none⟩), .slice (some ⟨q, 0, none⟩) 4 4] (X.alloc (.cells #[.string ⟨#[83, 69, 84, 82, 65, 78, 71, 69]⟩, .string ⟨#[107]⟩, .string (numT (p : Int)), .string ⟨#[]⟩] 9)) fun e w' => e = .returned (.agg #[.int .i64 3, .int .i64 (t.size : Int), .string ⟨#[]⟩, .slice none 0 0]) ∧ LW W0 w' bS bM (MapT.put ⟨#[107]⟩ (.agg #[.string ⟨#[107]⟩, .int .i64 1, .string t, .slice none 0 0, .slice none 0 0, .slice none 0 0, .slice none 0 0, .int .i64 0]) []) ∧ Kp X.heap.size (fun i => i ≠ bS ∧ i ≠ bM) X w' := by
  have hI : I64 (p : Int) := ⟨by omega, by omega⟩
  have z := numT_size _ hI
  exact d_overE W0 bS bM (MapT.put ⟨#[107]⟩ (.agg #[.string ⟨#[107]⟩, .int .i64 1, .string t, .slice none 0 0, .slice none 0 0, .slice none 0 0, .slice none 0 0, .int .i64 0]) []) ⟨#[107]⟩ (numT (p : Int)) p (by omega) (by omega) (parse_numT _ hI) t 0 (find_now _ _ _) (.inl rfl) X hL q hq0
end Go.Proofs.YtaomiglmahklfaaGreatDoor
