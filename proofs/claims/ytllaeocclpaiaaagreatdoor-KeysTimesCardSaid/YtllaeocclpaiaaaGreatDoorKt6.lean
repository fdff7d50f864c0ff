/- What the program tells of a few keys. -/
import Derived.Test.YtllaeocclpaiaaaGreatDoorKt4
import Derived.Test.YtllaeocclpaiaaaGreatDoorKt5
import Derived.Test.YtllaeocclpaiaaaGreatDoorFt
import Derived.Test.YtllaeocclpaiaaaGreatDoorSt31
import Derived.Test.YtllaeocclpaiaaaGreatDoorSt38
namespace Go.Proofs.YtllaeocclpaiaaaGreatDoor
set_option linter.unusedVariables false
open Go.ChangeShapes Go.WideShapes Go.ChangeAt Go.RowKit

theorem k1 (W0 : World) (bS bM : Nat) (X : World) (hL : LW W0 X bS bM (MapT.put ⟨#[97]⟩ (.agg #[.string ⟨#[97]⟩, .int .i64 1, .string ⟨#[120]⟩, .slice none 0 0, .slice none 0 0, .slice none 0 0, .slice none 0 0, .int .i64 0]) [])) (q : Nat) (hq0 : X.heap.size = q) : Calls Tryz.prog 6 #[.pointer (some ⟨bS, 0, none⟩), .slice (some ⟨q, 0, none⟩) 3 3] (X.alloc (.cells #[.string ⟨#[114, 101, 110, 97, 109, 101]⟩, .string ⟨#[97]⟩, .string ⟨#[98]⟩] 9)) fun e w' => e = .returned (.agg #[.int .i64 1, .int .i64 0, .string ⟨#[79, 75]⟩, .slice none 0 0]) ∧ LW W0 w' bS bM (MapT.put ⟨#[98]⟩ (.agg #[.string ⟨#[98]⟩, .int .i64 1, .string ⟨#[120]⟩, .slice none 0 0, .slice none 0 0, .slice none 0 0, .slice none 0 0, .int .i64 0]) []) ∧ Kp X.heap.size (fun i => i ≠ bS ∧ i ≠ bM) X w' := by
  subst hq0
  have h := do_lit W0 ⟨#[114, 101, 110, 97, 109, 101]⟩ ⟨#[82, 69, 78, 65, 77, 69]⟩ 19 bS bM (MapT.put ⟨#[97]⟩ (.agg #[.string ⟨#[97]⟩, .int .i64 1, .string ⟨#[120]⟩, .slice none 0 0, .slice none 0 0, .slice none 0 0, .slice none 0 0, .int .i64 0]) []) [⟨#[114, 101, 110, 97, 109, 101]⟩, ⟨#[97]⟩, ⟨#[98]⟩] 1 0 ⟨#[79, 75]⟩ [⟨⟨#[97]⟩, 0, ⟨#[]⟩, 0⟩, ⟨⟨#[98]⟩, 1, ⟨#[120]⟩, 0⟩] (rename_ok W0 bS bM (MapT.put ⟨#[97]⟩ (.agg #[.string ⟨#[97]⟩, .int .i64 1, .string ⟨#[120]⟩, .slice none 0 0, .slice none 0 0, .slice none 0 0, .slice none 0 0, .int .i64 0]) []) 1 _ ⟨#[97]⟩ ⟨#[98]⟩ ⟨#[120]⟩ 0 rfl rfl (fun h => absurd (congrArg (fun b => b.data.toList) h) (by decide)) (by kernel_rfl) (.inl rfl) (by decide) (by decide) (by decide) (by decide) (by decide)) (by simp) ⟨.inr ⟨rfl, by decide, ⟨#[120]⟩, 0, by decide, by kernel_rfl⟩, ⟨.inl ⟨rfl, by decide, by decide, by decide, by decide, by decide, by decide, .inl (by kernel_rfl)⟩, trivial⟩⟩ (by simp) find_RENAME rfl ent_RENAME (fun vv X h => Fits_rename_low vv [⟨#[114, 101, 110, 97, 109, 101]⟩, ⟨#[97]⟩, ⟨#[98]⟩] rfl (by simp) (by simp) X h) hu_rename_low X hL
  rw [show applyE [⟨⟨#[97]⟩, 0, ⟨#[]⟩, 0⟩, ⟨⟨#[98]⟩, 1, ⟨#[120]⟩, 0⟩] (MapT.put ⟨#[97]⟩ (.agg #[.string ⟨#[97]⟩, .int .i64 1, .string ⟨#[120]⟩, .slice none 0 0, .slice none 0 0, .slice none 0 0, .slice none 0 0, .int .i64 0]) []) = (MapT.put ⟨#[98]⟩ (.agg #[.string ⟨#[98]⟩, .int .i64 1, .string ⟨#[120]⟩, .slice none 0 0, .slice none 0 0, .slice none 0 0, .slice none 0 0, .int .i64 0]) []) from by kernel_rfl] at h
  exact h
theorem k2 (W0 : World) (bS bM : Nat) (X : World) (hL : LW W0 X bS bM (MapT.put ⟨#[98]⟩ (.agg #[.string ⟨#[98]⟩, .int .i64 1, .string ⟨#[120]⟩, .slice none 0 0, .slice none 0 0, .slice none 0 0, .slice none 0 0, .int .i64 0]) [])) (q : Nat) (hq0 : X.heap.size = q) : Calls Tryz.prog 6 #[.pointer (some ⟨bS, 0, none⟩), .slice (some ⟨q, 0, none⟩) 2 2] (X.alloc (.cells #[.string ⟨#[80, 84, 84, 76]⟩, .string ⟨#[98]⟩] 9)) fun e w' => e = .returned (.agg #[.int .i64 3, .int .i64 (-1), .string ⟨#[]⟩, .slice none 0 0]) ∧ LW W0 w' bS bM (MapT.put ⟨#[98]⟩ (.agg #[.string ⟨#[98]⟩, .int .i64 1, .string ⟨#[120]⟩, .slice none 0 0, .slice none 0 0, .slice none 0 0, .slice none 0 0, .int .i64 0]) []) ∧ Kp X.heap.size (fun i => i ≠ bS ∧ i ≠ bM) X w' := by
  subst hq0
  have h := do_lit W0 ⟨#[80, 84, 84, 76]⟩ ⟨#[80, 84, 84, 76]⟩ 27 bS bM (MapT.put ⟨#[98]⟩ (.agg #[.string ⟨#[98]⟩, .int .i64 1, .string ⟨#[120]⟩, .slice none 0 0, .slice none 0 0, .slice none 0 0, .slice none 0 0, .int .i64 0]) []) [⟨#[80, 84, 84, 76]⟩, ⟨#[98]⟩] 3 (-1) ⟨#[]⟩ [] (pttl_of W0 bS bM (MapT.put ⟨#[98]⟩ (.agg #[.string ⟨#[98]⟩, .int .i64 1, .string ⟨#[120]⟩, .slice none 0 0, .slice none 0 0, .slice none 0 0, .slice none 0 0, .int .i64 0]) []) 1 _ (-1) (fun w j vA hS hj hA => left_never bS bM (MapT.put ⟨#[98]⟩ (.agg #[.string ⟨#[98]⟩, .int .i64 1, .string ⟨#[120]⟩, .slice none 0 0, .slice none 0 0, .slice none 0 0, .slice none 0 0, .int .i64 0]) []) 1 _ ⟨#[98]⟩ rfl ⟨#[120]⟩ (by kernel_rfl) (.inl rfl) 1 w j vA hS hj hA)) (by simp) trivial (by simp) find_PTTL rfl ent_PTTL (fun vv X h => Fits_PTTL vv [⟨#[80, 84, 84, 76]⟩, ⟨#[98]⟩] rfl (by simp) (by simp) X h) hu_PTTL X hL
  exact h
theorem k3 (W0 : World) (bS bM : Nat) (X : World) (hL : LW W0 X bS bM (MapT.put ⟨#[98]⟩ (.agg #[.string ⟨#[98]⟩, .int .i64 1, .string ⟨#[120]⟩, .slice none 0 0, .slice none 0 0, .slice none 0 0, .slice none 0 0, .int .i64 0]) [])) (q : Nat) (hq0 : X.heap.size = q) : Calls Tryz.prog 6 #[.pointer (some ⟨bS, 0, none⟩), .slice (some ⟨q, 0, none⟩) 3 3] (X.alloc (.cells #[.string ⟨#[80, 69, 88, 80, 73, 82, 69]⟩, .string ⟨#[98]⟩, .string ⟨#[49, 48, 48]⟩] 9)) fun e w' => e = .returned (.agg #[.int .i64 3, .int .i64 1, .string ⟨#[]⟩, .slice none 0 0]) ∧ LW W0 w' bS bM (MapT.put ⟨#[98]⟩ (.agg #[.string ⟨#[98]⟩, .int .i64 1, .string ⟨#[120]⟩, .slice none 0 0, .slice none 0 0, .slice none 0 0, .slice none 0 0, .int .i64 101]) []) ∧ Kp X.heap.size (fun i => i ≠ bS ∧ i ≠ bM) X w' := by
  subst hq0
  have h := do_lit W0 ⟨#[80, 69, 88, 80, 73, 82, 69]⟩ ⟨#[80, 69, 88, 80, 73, 82, 69]⟩ 23 bS bM (MapT.put ⟨#[98]⟩ (.agg #[.string ⟨#[98]⟩, .int .i64 1, .string ⟨#[120]⟩, .slice none 0 0, .slice none 0 0, .slice none 0 0, .slice none 0 0, .int .i64 0]) []) [⟨#[80, 69, 88, 80, 73, 82, 69]⟩, ⟨#[98]⟩, ⟨#[49, 48, 48]⟩] 3 1 ⟨#[]⟩ [⟨⟨#[98]⟩, 1, ⟨#[120]⟩, 101⟩] (pexpire_ok W0 bS bM (MapT.put ⟨#[98]⟩ (.agg #[.string ⟨#[98]⟩, .int .i64 1, .string ⟨#[120]⟩, .slice none 0 0, .slice none 0 0, .slice none 0 0, .slice none 0 0, .int .i64 0]) []) 1 _ _ (fun w j vA hS hj hA => expire_raw bS bM (MapT.put ⟨#[98]⟩ (.agg #[.string ⟨#[98]⟩, .int .i64 1, .string ⟨#[120]⟩, .slice none 0 0, .slice none 0 0, .slice none 0 0, .slice none 0 0, .int .i64 0]) []) 1 _ ⟨#[98]⟩ ⟨#[49, 48, 48]⟩ ⟨#[120]⟩ rfl rfl 100 1 101 (by decide) (by kernel_rfl) (by decide) (by decide) (by decide) (by decide) (by decide) (by decide) (by decide) (by decide) (by decide) (by decide) (by decide) (by decide) (by decide) (by kernel_rfl) w j vA hS hj hA)) (by simp) ⟨.inl ⟨rfl, by decide, by decide, by decide, by decide, by decide, by decide, .inr ⟨⟨#[120]⟩, 0, by decide, by kernel_rfl⟩⟩, trivial⟩ (by simp) find_PEXPIRE rfl ent_PEXPIRE (fun vv X h => Fits_PEXPIRE vv [⟨#[80, 69, 88, 80, 73, 82, 69]⟩, ⟨#[98]⟩, ⟨#[49, 48, 48]⟩] rfl (by simp) (by simp) X h) hu_PEXPIRE X hL
  rw [show applyE [⟨⟨#[98]⟩, 1, ⟨#[120]⟩, 101⟩] (MapT.put ⟨#[98]⟩ (.agg #[.string ⟨#[98]⟩, .int .i64 1, .string ⟨#[120]⟩, .slice none 0 0, .slice none 0 0, .slice none 0 0, .slice none 0 0, .int .i64 0]) []) = (MapT.put ⟨#[98]⟩ (.agg #[.string ⟨#[98]⟩, .int .i64 1, .string ⟨#[120]⟩, .slice none 0 0, .slice none 0 0, .slice none 0 0, .slice none 0 0, .int .i64 101]) []) from by kernel_rfl] at h
  exact h
theorem k4 (W0 : World) (bS bM : Nat) (X : World) (hL : LW W0 X bS bM (MapT.put ⟨#[98]⟩ (.agg #[.string ⟨#[98]⟩, .int .i64 1, .string ⟨#[120]⟩, .slice none 0 0, .slice none 0 0, .slice none 0 0, .slice none 0 0, .int .i64 101]) [])) (q : Nat) (hq0 : X.heap.size = q) : Calls Tryz.prog 6 #[.pointer (some ⟨bS, 0, none⟩), .slice (some ⟨q, 0, none⟩) 2 2] (X.alloc (.cells #[.string ⟨#[80, 84, 84, 76]⟩, .string ⟨#[98]⟩] 9)) fun e w' => e = .returned (.agg #[.int .i64 3, .int .i64 100, .string ⟨#[]⟩, .slice none 0 0]) ∧ LW W0 w' bS bM (MapT.put ⟨#[98]⟩ (.agg #[.string ⟨#[98]⟩, .int .i64 1, .string ⟨#[120]⟩, .slice none 0 0, .slice none 0 0, .slice none 0 0, .slice none 0 0, .int .i64 101]) []) ∧ Kp X.heap.size (fun i => i ≠ bS ∧ i ≠ bM) X w' := by
  subst hq0
  have h := do_lit W0 ⟨#[80, 84, 84, 76]⟩ ⟨#[80, 84, 84, 76]⟩ 27 bS bM (MapT.put ⟨#[98]⟩ (.agg #[.string ⟨#[98]⟩, .int .i64 1, .string ⟨#[120]⟩, .slice none 0 0, .slice none 0 0, .slice none 0 0, .slice none 0 0, .int .i64 101]) []) [⟨#[80, 84, 84, 76]⟩, ⟨#[98]⟩] 3 100 ⟨#[]⟩ [] (pttl_of W0 bS bM (MapT.put ⟨#[98]⟩ (.agg #[.string ⟨#[98]⟩, .int .i64 1, .string ⟨#[120]⟩, .slice none 0 0, .slice none 0 0, .slice none 0 0, .slice none 0 0, .int .i64 101]) []) 1 _ 100 (fun w j vA hS hj hA => left_yes bS bM (MapT.put ⟨#[98]⟩ (.agg #[.string ⟨#[98]⟩, .int .i64 1, .string ⟨#[120]⟩, .slice none 0 0, .slice none 0 0, .slice none 0 0, .slice none 0 0, .int .i64 101]) []) 1 _ ⟨#[98]⟩ rfl ⟨#[120]⟩ 101 (by kernel_rfl) (.inr ⟨by decide, by decide⟩) (by decide) (by decide) (by decide) (by decide) 1 100 (by decide) (by decide) (by decide) w j vA hS hj hA)) (by simp) trivial (by simp) find_PTTL rfl ent_PTTL (fun vv X h => Fits_PTTL vv [⟨#[80, 84, 84, 76]⟩, ⟨#[98]⟩] rfl (by simp) (by simp) X h) hu_PTTL X hL
  exact h
theorem k5 (W0 : World) (bS bM : Nat) (X : World) (hL : LW W0 X bS bM (MapT.put ⟨#[98]⟩ (.agg #[.string ⟨#[98]⟩, .int .i64 1, .string ⟨#[120]⟩, .slice none 0 0, .slice none 0 0, .slice none 0 0, .slice none 0 0, .int .i64 101]) [])) (q : Nat) (hq0 : X.heap.size = q) : Calls Tryz.prog 6 #[.pointer (some ⟨bS, 0, none⟩), .slice (some ⟨q, 0, none⟩) 3 3] (X.alloc (.cells #[.string ⟨#[68, 69, 76]⟩, .string ⟨#[98]⟩, .string ⟨#[98]⟩] 9)) fun e w' => e = .returned (.agg #[.int .i64 3, .int .i64 1, .string ⟨#[]⟩, .slice none 0 0]) ∧ LW W0 w' bS bM [] ∧ Kp X.heap.size (fun i => i ≠ bS ∧ i ≠ bM) X w' := by
  subst hq0
  have h := do_lit W0 ⟨#[68, 69, 76]⟩ ⟨#[68, 69, 76]⟩ 16 bS bM (MapT.put ⟨#[98]⟩ (.agg #[.string ⟨#[98]⟩, .int .i64 1, .string ⟨#[120]⟩, .slice none 0 0, .slice none 0 0, .slice none 0 0, .slice none 0 0, .int .i64 101]) []) [⟨#[68, 69, 76]⟩, ⟨#[98]⟩, ⟨#[98]⟩] 3 1 ⟨#[]⟩ [⟨⟨#[98]⟩, 0, ⟨#[]⟩, 0⟩] (del_yes W0 bS bM (MapT.put ⟨#[98]⟩ (.agg #[.string ⟨#[98]⟩, .int .i64 1, .string ⟨#[120]⟩, .slice none 0 0, .slice none 0 0, .slice none 0 0, .slice none 0 0, .int .i64 101]) []) 1 ⟨#[98]⟩ 2 (by decide) (by decide) ⟨#[120]⟩ 101 (by kernel_rfl) (.inr ⟨by decide, by decide⟩)) (by simp) ⟨.inr ⟨rfl, by decide, ⟨#[120]⟩, 101, by decide, by kernel_rfl⟩, trivial⟩ (by simp) find_DEL rfl ent_DEL (fun vv X h => Fits_DEL vv [⟨#[68, 69, 76]⟩, ⟨#[98]⟩, ⟨#[98]⟩] rfl (by simp) X h) hu_DEL X hL
  rw [show applyE [⟨⟨#[98]⟩, 0, ⟨#[]⟩, 0⟩] (MapT.put ⟨#[98]⟩ (.agg #[.string ⟨#[98]⟩, .int .i64 1, .string ⟨#[120]⟩, .slice none 0 0, .slice none 0 0, .slice none 0 0, .slice none 0 0, .int .i64 101]) []) = [] from by kernel_rfl] at h
  exact h
theorem k6 (W0 : World) (bS bM : Nat) (X : World) (hL : LW W0 X bS bM []) (q : Nat) (hq0 : X.heap.size = q) : Calls Tryz.prog 6 #[.pointer (some ⟨bS, 0, none⟩), .slice (some ⟨q, 0, none⟩) 2 2] (X.alloc (.cells #[.string ⟨#[84, 89, 80, 69]⟩, .string ⟨#[98]⟩] 9)) fun e w' => e = .returned (.agg #[.int .i64 1, .int .i64 0, .string ⟨#[110, 111, 110, 101]⟩, .slice none 0 0]) ∧ LW W0 w' bS bM [] ∧ Kp X.heap.size (fun i => i ≠ bS ∧ i ≠ bM) X w' := by
  subst hq0
  have h := do_lit W0 ⟨#[84, 89, 80, 69]⟩ ⟨#[84, 89, 80, 69]⟩ 18 bS bM [] [⟨#[84, 89, 80, 69]⟩, ⟨#[98]⟩] 1 0 ⟨#[110, 111, 110, 101]⟩ [] (kind_no W0 bS bM [] 1 _ ⟨#[98]⟩ rfl (fun X hX j vA vl hj => JGet_no bS bM j [] ⟨#[98]⟩ 1 vA vl rfl X hX hj)) (by simp) trivial (by simp) find_TYPE rfl ent_TYPE (fun vv X h => Fits_TYPE vv [⟨#[84, 89, 80, 69]⟩, ⟨#[98]⟩] rfl (by simp) (by simp) X h) hu_TYPE X hL
  exact h
set_option maxRecDepth 100000 in
set_option maxHeartbeats 8000000 in
theorem told9 (w : World) : Calls Tryz.prog 9 #[] w fun e w' => e = .returned (.bool true) ∧ Below w.heap.size w w' := by
  have fK := field_K
  have fN := field_N
  have fS := field_S
  have NW := Lib.hid (New9 w)
  go_enter Tryz.func9, Tryz.ntmps9
  go_wp2_with (first | (go_at_call 4; (with_reducible refine (NW.out).mono ?_); rintro e v0 ⟨bS, bM, rfl, hS0, hbS, hbM, hB0⟩; have L0 := Lib.hid (LW.mk hS0 hB0 hbS hbM); clear hS0 hbS hbM hB0; refine Hid.out ?_))
  refine Lib.hid ?_
  have PU1 := Lib.hid (Put10_new bS bM [] ⟨#[97]⟩ ⟨#[120]⟩ (by decide) (by decide) (by decide) 0 (by decide) (by decide) v0 L0.out.sp rfl (by decide))
  go_wp2_with (first | (go_at_call 5; (with_reducible refine (PU1.out).mono ?_); rintro e p1 ⟨rfl, hSP, hK⟩; have LP1 := Lib.hid (L0.out.step hSP hK); clear hSP hK; refine Hid.out ?_))
  refine Lib.hid ?_
  have D1 := Lib.hid (k1 w bS bM (p1) LP1.out (p1.heap.size) rfl)
  go_wp2_with (first | (go_at_call 6; (with_reducible refine (D1.out).mono ?_); rintro e v1 ⟨rfl, hL, hK⟩; have L1 := Lib.hid hL; clear hL hK; refine Hid.out ?_))
  refine Lib.hid ?_
  have M1 := Lib.hid (L1.out.old (alloc_old (o := .cells #[.int .i64 1, .int .i64 0, .string ⟨#[79, 75]⟩, .slice none 0 0] 36)))
  have a_1 := Lib.hid (heap_alloc_new v1 (.cells #[.int .i64 1, .int .i64 0, .string ⟨#[79, 75]⟩, .slice none 0 0] 36))
  have D2 := Lib.hid (k2 w bS bM (v1.alloc (.cells #[.int .i64 1, .int .i64 0, .string ⟨#[79, 75]⟩, .slice none 0 0] 36)) M1.out (v1.heap.size + 1) (by simp))
  go_wp2_with (first | (go_at_call 6; (with_reducible refine (D2.out).mono ?_); rintro e v2 ⟨rfl, hL, hK⟩; have L2 := Lib.hid hL; have a_2 := Lib.hid (keep37 hK M1.out.sp a_1.out); clear hL hK; refine Hid.out ?_))
  refine Lib.hid ?_
  have M2 := Lib.hid (L2.out.old (alloc_old (o := .cells #[.int .i64 3, .int .i64 (-1), .string ⟨#[]⟩, .slice none 0 0] 36)))
  have ax_2 := Lib.hid (blk_below a_2.out (alloc_old (o := .cells #[.int .i64 3, .int .i64 (-1), .string ⟨#[]⟩, .slice none 0 0] 36)))
  have b_2 := Lib.hid (heap_alloc_new v2 (.cells #[.int .i64 3, .int .i64 (-1), .string ⟨#[]⟩, .slice none 0 0] 36))
  have D3 := Lib.hid (k3 w bS bM (v2.alloc (.cells #[.int .i64 3, .int .i64 (-1), .string ⟨#[]⟩, .slice none 0 0] 36)) M2.out (v2.heap.size + 1) (by simp))
  go_wp2_with (first | (go_at_call 6; (with_reducible refine (D3.out).mono ?_); rintro e v3 ⟨rfl, hL, hK⟩; have L3 := Lib.hid hL; have a_3 := Lib.hid (keep37 hK M2.out.sp ax_2.out); have b_3 := Lib.hid (keep37 hK M2.out.sp b_2.out); clear hL hK; refine Hid.out ?_))
  refine Lib.hid ?_
  have M3 := Lib.hid (L3.out.old (alloc_old (o := .cells #[.int .i64 3, .int .i64 1, .string ⟨#[]⟩, .slice none 0 0] 36)))
  have ax_3 := Lib.hid (blk_below a_3.out (alloc_old (o := .cells #[.int .i64 3, .int .i64 1, .string ⟨#[]⟩, .slice none 0 0] 36)))
  have bx_3 := Lib.hid (blk_below b_3.out (alloc_old (o := .cells #[.int .i64 3, .int .i64 1, .string ⟨#[]⟩, .slice none 0 0] 36)))
  have c_3 := Lib.hid (heap_alloc_new v3 (.cells #[.int .i64 3, .int .i64 1, .string ⟨#[]⟩, .slice none 0 0] 36))
  have D4 := Lib.hid (k4 w bS bM (v3.alloc (.cells #[.int .i64 3, .int .i64 1, .string ⟨#[]⟩, .slice none 0 0] 36)) M3.out (v3.heap.size + 1) (by simp))
  go_wp2_with (first | (go_at_call 6; (with_reducible refine (D4.out).mono ?_); rintro e v4 ⟨rfl, hL, hK⟩; have L4 := Lib.hid hL; have a_4 := Lib.hid (keep37 hK M3.out.sp ax_3.out); have b_4 := Lib.hid (keep37 hK M3.out.sp bx_3.out); have c_4 := Lib.hid (keep37 hK M3.out.sp c_3.out); clear hL hK; refine Hid.out ?_))
  refine Lib.hid ?_
  have M4 := Lib.hid (L4.out.old (alloc_old (o := .cells #[.int .i64 3, .int .i64 100, .string ⟨#[]⟩, .slice none 0 0] 36)))
  have ax_4 := Lib.hid (blk_below a_4.out (alloc_old (o := .cells #[.int .i64 3, .int .i64 100, .string ⟨#[]⟩, .slice none 0 0] 36)))
  have bx_4 := Lib.hid (blk_below b_4.out (alloc_old (o := .cells #[.int .i64 3, .int .i64 100, .string ⟨#[]⟩, .slice none 0 0] 36)))
  have cx_4 := Lib.hid (blk_below c_4.out (alloc_old (o := .cells #[.int .i64 3, .int .i64 100, .string ⟨#[]⟩, .slice none 0 0] 36)))
  have d_4 := Lib.hid (heap_alloc_new v4 (.cells #[.int .i64 3, .int .i64 100, .string ⟨#[]⟩, .slice none 0 0] 36))
  have D5 := Lib.hid (k5 w bS bM (v4.alloc (.cells #[.int .i64 3, .int .i64 100, .string ⟨#[]⟩, .slice none 0 0] 36)) M4.out (v4.heap.size + 1) (by simp))
  go_wp2_with (first | (go_at_call 6; (with_reducible refine (D5.out).mono ?_); rintro e v5 ⟨rfl, hL, hK⟩; have L5 := Lib.hid hL; have a_5 := Lib.hid (keep37 hK M4.out.sp ax_4.out); have b_5 := Lib.hid (keep37 hK M4.out.sp bx_4.out); have c_5 := Lib.hid (keep37 hK M4.out.sp cx_4.out); have d_5 := Lib.hid (keep37 hK M4.out.sp d_4.out); clear hL hK; refine Hid.out ?_))
  refine Lib.hid ?_
  have M5 := Lib.hid (L5.out.old (alloc_old (o := .cells #[.int .i64 3, .int .i64 1, .string ⟨#[]⟩, .slice none 0 0] 36)))
  have ax_5 := Lib.hid (blk_below a_5.out (alloc_old (o := .cells #[.int .i64 3, .int .i64 1, .string ⟨#[]⟩, .slice none 0 0] 36)))
  have bx_5 := Lib.hid (blk_below b_5.out (alloc_old (o := .cells #[.int .i64 3, .int .i64 1, .string ⟨#[]⟩, .slice none 0 0] 36)))
  have cx_5 := Lib.hid (blk_below c_5.out (alloc_old (o := .cells #[.int .i64 3, .int .i64 1, .string ⟨#[]⟩, .slice none 0 0] 36)))
  have dx_5 := Lib.hid (blk_below d_5.out (alloc_old (o := .cells #[.int .i64 3, .int .i64 1, .string ⟨#[]⟩, .slice none 0 0] 36)))
  have m_5 := Lib.hid (heap_alloc_new v5 (.cells #[.int .i64 3, .int .i64 1, .string ⟨#[]⟩, .slice none 0 0] 36))
  obtain ⟨⟨a0, a1, a2, a3⟩, _⟩ := cells4 ax_5.out
  obtain ⟨⟨b0, b1, b2, b3⟩, _⟩ := cells4 bx_5.out
  obtain ⟨⟨c0, c1, c2, c3⟩, _⟩ := cells4 cx_5.out
  obtain ⟨⟨d0, d1, d2, d3⟩, _⟩ := cells4 dx_5.out
  obtain ⟨⟨m0, m1, m2, m3⟩, _⟩ := cells4 m_5.out
  have D6 := Lib.hid (k6 w bS bM (v5.alloc (.cells #[.int .i64 3, .int .i64 1, .string ⟨#[]⟩, .slice none 0 0] 36)) M5.out (v5.heap.size + 1) (by simp))
  go_wp2_with (first | (go_at_call 6; (with_reducible refine (D6.out).mono ?_); rintro e v6 ⟨rfl, hL, hK⟩; have L6 := Lib.hid hL; have a_6 := Lib.hid (keep37 hK M5.out.sp ax_5.out); have b_6 := Lib.hid (keep37 hK M5.out.sp bx_5.out); have c_6 := Lib.hid (keep37 hK M5.out.sp cx_5.out); have d_6 := Lib.hid (keep37 hK M5.out.sp dx_5.out); have m_6 := Lib.hid (keep37 hK M5.out.sp m_5.out); clear hL hK))
  go_ret
  exact ⟨by simp, L6.out.below⟩
end Go.Proofs.YtllaeocclpaiaaaGreatDoor
