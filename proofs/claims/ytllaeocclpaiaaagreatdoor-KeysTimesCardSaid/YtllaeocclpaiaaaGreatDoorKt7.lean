/- The walk of KeysTimes. -/
import Derived.Test.YtllaeocclpaiaaaGreatDoorKt6
namespace Go.Proofs.YtllaeocclpaiaaaGreatDoor
set_option linter.unusedVariables false
open Go.ChangeShapes Go.WideShapes Go.ChangeAt Go.RowKit

theorem u64_mod (x m : Int) (h0 : 0 < m) : 0 ≤ (IntKind.u64.wrap x).tmod m ∧ (IntKind.u64.wrap x).tmod m < m := by
  have h : 0 ≤ IntKind.u64.wrap x := by
    have : IntKind.u64.wrap x = x % 18446744073709551616 := rfl
    rw [this]; omega
  exact ⟨Int.tmod_nonneg m h, Int.tmod_lt_of_pos _ h0⟩
theorem sec_in (x n : Int) (h : wrap64 (1 + wrap64 ((IntKind.u64.wrap x).tmod 10000)) = n) : 1 ≤ n ∧ n ≤ 10000 := by
  obtain ⟨h1, h2⟩ := u64_mod x 10000 (by decide)
  have e1 : wrap64 ((IntKind.u64.wrap x).tmod 10000) = (IntKind.u64.wrap x).tmod 10000 := IntWalk.wrap64_in _ ⟨by omega, by omega⟩
  have e2 : wrap64 (1 + (IntKind.u64.wrap x).tmod 10000) = 1 + (IntKind.u64.wrap x).tmod 10000 := IntWalk.wrap64_in _ ⟨by omega, by omega⟩
  rw [e1, e2] at h
  omega
theorem lat_in (x t : Int) (h : wrap64 ((IntKind.u64.wrap x).tmod 12000000) = t) : 0 ≤ t ∧ t < 12000000 := by
  obtain ⟨h1, h2⟩ := u64_mod x 12000000 (by decide)
  rw [IntWalk.wrap64_in _ ⟨by omega, by omega⟩] at h
  omega
/-- A command at a time, its effects not applied. -/
theorem doK (W0 : World) (RAW NAME : ByteArray) (F : FuncId) (bS bM : Nat) (l : MapT.Ents) (now : Int) (xs : List ByteArray) (k n : Int) (s : ByteArray) (es : List Ent) (N : Nat) (hN : es.length = N) (X : World) (hF : CmdOk X F bS bM l now xs k n s R0 es) (hn : xs.length ≤ 1000)
    (hf : MapT.find NAME flT = some (.func (.func F) #[] #[])) (hx : xs[0]? = some RAW) (hent : ∀ (args : Array Value) (w : World), (callFunc F args).run Tryz.prog w = .ok (.enter F args) w) (hfit : ∀ v X, SSl X v xs → Calls Tryz.prog 39 #[v] X fun e w' => e = .returned (.int .i64 0) ∧ Below X.heap.size X w') (hup : ∀ X, Calls Tryz.prog 40 #[.string RAW] X fun e w' => e = .returned (.string NAME) ∧ Below X.heap.size X w') (hL : LW W0 X bS bM l) :
    Calls Tryz.prog 8 #[.pointer (some ⟨bS, 0, none⟩), .int .i64 now, .slice (some ⟨X.heap.size, 0, none⟩) xs.length xs.length] (X.alloc (.cells (xs.map Value.string).toArray 9)) fun e w' => ∃ A' c', e = .returned (.tuple #[.agg #[.int .i64 k, .int .i64 n, .string s, .slice none 0 0], .slice A' N c', .bool true]) ∧ Below X.heap.size X w' := by
  subst hN
  have hb : Below X.heap.size X (X.alloc (.cells (xs.map Value.string).toArray 9)) := alloc_old
  refine (Do_ok X RAW NAME F bS bM l now xs _ k n s R0 es hF R0.keep _ hb (hL.sp.below hb) (SSl.lit X xs hn) hf hx hent (hfit _) hup).mono ?_
  rintro e w' ⟨A, m, c, A', n', c', rfl, hR, hE, hB⟩
  cases hR
  obtain ⟨rfl, _⟩ := hE.form
  exact ⟨A', c', rfl, hb.trans (hB.mono (Below.size hb))⟩
theorem x_expire (W0 : World) (bS bM : Nat) (n : Int) (h1 : 1 ≤ n) (h2 : n ≤ 10000) (X : World) (hL : LW W0 X bS bM (MapT.put ⟨#[107]⟩ (.agg #[.string ⟨#[107]⟩, .int .i64 1, .string ⟨#[118]⟩, .slice none 0 0, .slice none 0 0, .slice none 0 0, .slice none 0 0, .int .i64 0]) [])) (q : Nat) (hq0 : X.heap.size = q) : Calls Tryz.prog 6 #[.pointer (some ⟨bS, 0, none⟩), .slice (some ⟨q, 0, none⟩) 3 3] (X.alloc (.cells #[.string ⟨#[69, 88, 80, 73, 82, 69]⟩, .string ⟨#[107]⟩, .string (numT n)] 9)) fun e w' => e = .returned (.agg #[.int .i64 3, .int .i64 1, .string ⟨#[]⟩, .slice none 0 0]) ∧ LW W0 w' bS bM [(⟨#[107]⟩, .agg #[.string ⟨#[107]⟩, .int .i64 1, .string ⟨#[118]⟩, .slice none 0 0, .slice none 0 0, .slice none 0 0, .slice none 0 0, .int .i64 (n * 1000 + 1)])] ∧ Kp X.heap.size (fun i => i ≠ bS ∧ i ≠ bM) X w' := by
  subst hq0
  have hI : I64 n := ⟨by omega, by omega⟩
  have hs := numT_size n hI
  have h := do_lit W0 ⟨#[69, 88, 80, 73, 82, 69]⟩ ⟨#[69, 88, 80, 73, 82, 69]⟩ 21 bS bM (MapT.put ⟨#[107]⟩ (.agg #[.string ⟨#[107]⟩, .int .i64 1, .string ⟨#[118]⟩, .slice none 0 0, .slice none 0 0, .slice none 0 0, .slice none 0 0, .int .i64 0]) []) [⟨#[69, 88, 80, 73, 82, 69]⟩, ⟨#[107]⟩, numT n] 3 1 ⟨#[]⟩ [⟨⟨#[107]⟩, 1, ⟨#[118]⟩, n * 1000 + 1⟩] (expire_ok W0 bS bM (MapT.put ⟨#[107]⟩ (.agg #[.string ⟨#[107]⟩, .int .i64 1, .string ⟨#[118]⟩, .slice none 0 0, .slice none 0 0, .slice none 0 0, .slice none 0 0, .int .i64 0]) []) 1 _ _ (fun w j vA hS hj hA => expire_raw bS bM (MapT.put ⟨#[107]⟩ (.agg #[.string ⟨#[107]⟩, .int .i64 1, .string ⟨#[118]⟩, .slice none 0 0, .slice none 0 0, .slice none 0 0, .slice none 0 0, .int .i64 0]) []) 1 _ ⟨#[107]⟩ (numT n) ⟨#[118]⟩ rfl rfl n 1000 (n * 1000 + 1) (by omega) (parse_numT n hI) (by omega) (by omega) (by omega) (by omega) (by omega) (by omega) (by omega) rfl (by omega) (by omega) (by decide) (by decide) (by decide) (by kernel_rfl) w j vA hS hj hA)) (by simp) ⟨.inl ⟨rfl, (of_decide_eq_true rfl), (of_decide_eq_true rfl), (of_decide_eq_true rfl), by show 0 ≤ n * 1000 + 1; omega, by show n * 1000 + 1 ≤ 1125899906842624; omega, by decide, .inr ⟨⟨#[118]⟩, 0, by decide, by kernel_rfl⟩⟩, trivial⟩ (by simp) find_EXPIRE rfl ent_EXPIRE (fun vv X h => Fits_EXPIRE vv [⟨#[69, 88, 80, 73, 82, 69]⟩, ⟨#[107]⟩, numT n] rfl (by simp) (by simp) X h) hu_EXPIRE X hL
  have e1 : applyE [⟨⟨#[107]⟩, 1, ⟨#[118]⟩, n * 1000 + 1⟩] (MapT.put ⟨#[107]⟩ (.agg #[.string ⟨#[107]⟩, .int .i64 1, .string ⟨#[118]⟩, .slice none 0 0, .slice none 0 0, .slice none 0 0, .slice none 0 0, .int .i64 0]) []) = [(⟨#[107]⟩, .agg #[.string ⟨#[107]⟩, .int .i64 1, .string ⟨#[118]⟩, .slice none 0 0, .slice none 0 0, .slice none 0 0, .slice none 0 0, .int .i64 (n * 1000 + 1)])] := by
    show MapT.put ⟨#[107]⟩ (Ent.val ⟨⟨#[107]⟩, 1, ⟨#[118]⟩, n * 1000 + 1⟩) (MapT.put ⟨#[107]⟩ (.agg #[.string ⟨#[107]⟩, .int .i64 1, .string ⟨#[118]⟩, .slice none 0 0, .slice none 0 0, .slice none 0 0, .slice none 0 0, .int .i64 0]) []) = _
    simp [MapT.put, Ent.val, entV]
  rw [e1] at h
  exact h
set_option maxRecDepth 100000 in
set_option maxHeartbeats 8000000 in
theorem times_walk (sec lat : Int) (w : World) (hT : Tab w) : Calls Tryz.prog 3 #[.int .i64 sec, .int .i64 lat] w fun e w' => e = .returned (.bool true) ∧ Below w.heap.size w w' := by
  have fK := field_K
  have fN := field_N
  have fS := field_S
  have NW := Lib.hid (New9 w)
  go_enter Tryz.func3, Tryz.ntmps3
  go_wp2_with (first | (go_at_call 4; (with_reducible refine (NW.out).mono ?_); rintro e v0 ⟨bS, bM, rfl, hS0, hbS, hbM, hB0⟩; have L0 := Lib.hid (LW.mk hS0 hB0 hbS hbM); clear hS0 hbS hbM hB0; refine Hid.out ?_))
  refine Lib.hid ?_
  generalize hn : wrap64 (1 + wrap64 ((IntKind.u64.wrap sec).tmod 10000)) = n
  generalize ht : wrap64 ((IntKind.u64.wrap lat).tmod 12000000) = t
  obtain ⟨n1, n2⟩ := sec_in _ _ hn
  obtain ⟨t1, t2⟩ := lat_in _ _ ht
  clear hn ht
  have PU1 := Lib.hid (Put10_new bS bM [] ⟨#[107]⟩ ⟨#[118]⟩ (by decide) (by decide) (by decide) 0 (by decide) (by decide) v0 L0.out.sp rfl (by decide))
  go_wp2_with (first | (go_at_call 5; (with_reducible refine (PU1.out).mono ?_); rintro e p1 ⟨rfl, hSP, hK⟩; have LP1 := Lib.hid (L0.out.step hSP hK); clear hSP hK; refine Hid.out ?_))
  refine Lib.hid ?_
  have hI : I64 n := ⟨by omega, by omega⟩
  have U1 := Lib.hid (Number13 hT n hI p1 LP1.out.below)
  go_wp2_with (first | (go_at_call 7; (with_reducible refine (U1.out).mono ?_); rintro e u1 ⟨rfl, hb⟩; have K1 := Lib.hid (LP1.out.old hb); clear hb; refine Hid.out ?_))
  refine Lib.hid ?_
  have D1 := Lib.hid (x_expire w bS bM n n1 n2 u1 K1.out (u1.heap.size) rfl)
  go_wp2_with (first | (go_at_call 6; (with_reducible refine (D1.out).mono ?_); rintro e v1 ⟨rfl, hL, hK⟩; have L1 := Lib.hid hL; clear hL hK; refine Hid.out ?_))
  refine Lib.hid ?_
  obtain ⟨nw, hnw⟩ : ∃ nw, 1 + t = nw := ⟨_, rfl⟩
  obtain ⟨lf, hlf⟩ : ∃ lf, n * 1000 - t = lf := ⟨_, rfl⟩
  obtain ⟨m, hm⟩ : ∃ m, n * 1000 + 1 = m := ⟨_, rfl⟩
  have FA := Lib.hid (show 0 ≤ nw ∧ 0 < m ∧ m ≤ 20000000 ∧ nw ≤ 13000000 ∧ m - nw = lf ∧ 1 ≤ nw from by omega)
  rw [hm] at L1
  have HNM := Lib.hid (And.intro hnw (And.intro hlf hm))
  by_cases hover : lf ≤ 0
  · obtain ⟨ml, hml⟩ : ∃ ml, ml = ([(⟨#[107]⟩, .agg #[.string ⟨#[107]⟩, .int .i64 1, .string ⟨#[118]⟩, .slice none 0 0, .slice none 0 0, .slice none 0 0, .slice none 0 0, .int .i64 m])] : MapT.Ents) := ⟨_, rfl⟩
    rw [← hml] at L1
    have hle : m ≤ nw := by have := FA.out.2.2.2.2.1; omega
    have C0 := Lib.hid (show Calls Tryz.prog 8 #[.pointer (some ⟨bS, 0, none⟩), .int .i64 nw, .slice (some ⟨v1.heap.size, 0, none⟩) 2 2] ((v1).alloc (.cells #[.string ⟨#[84, 84, 76]⟩, .string ⟨#[107]⟩] 9)) (fun e w' => ∃ A' c', e = .returned (.tuple #[.agg #[.int .i64 3, .int .i64 (-2), .string ⟨#[]⟩, .slice none 0 0], .slice A' 0 c', .bool true]) ∧ Below (v1).heap.size (v1) w') from doK w ⟨#[84, 84, 76]⟩ ⟨#[84, 84, 76]⟩ 25 bS bM ml nw [⟨#[84, 84, 76]⟩, ⟨#[107]⟩] 3 (-2) ⟨#[]⟩ [] 0 rfl (v1) (ttl_of _ bS bM ml nw _ (-2) (fun w j vA hS hj hA => left_no bS bM ml nw _ ⟨#[107]⟩ rfl (fun X hX j vA vl hj => JGet_over bS bM j _ ⟨#[107]⟩ nw vA vl ⟨#[118]⟩ m 1 (by rw [hml]; simp [MapT.find]) FA.out.2.1 hle X hX hj) 1000 w j vA hS hj hA)) (by simp) find_TTL rfl ent_TTL (fun vv X h => Fits_TTL vv [⟨#[84, 84, 76]⟩, ⟨#[107]⟩] rfl (by simp) (by simp) X h) hu_TTL L1.out)
    go_wp2_with (first | (go_at_call 8; (with_reducible refine (C0.out).mono ?_); rintro e x0 ⟨A0, c0, rfl, h0⟩; have M0 := Lib.hid (L1.out.old h0); clear h0; refine Hid.out ?_))
    refine Lib.hid ?_
    have N0 := Lib.hid (M0.out.old (alloc_old (o := .cells #[.int .i64 3, .int .i64 (-2), .string ⟨#[]⟩, .slice none 0 0] 36)))
    have a_0 := Lib.hid (heap_alloc_new x0 (.cells #[.int .i64 3, .int .i64 (-2), .string ⟨#[]⟩, .slice none 0 0] 36))
    have hq1 : (x0.alloc (.cells #[.int .i64 3, .int .i64 (-2), .string ⟨#[]⟩, .slice none 0 0] 36)).heap.size = x0.heap.size + 1 := by simp
    have C1 := Lib.hid (show Calls Tryz.prog 8 #[.pointer (some ⟨bS, 0, none⟩), .int .i64 nw, .slice (some ⟨x0.heap.size + 1, 0, none⟩) 2 2] ((x0.alloc (.cells #[.int .i64 3, .int .i64 (-2), .string ⟨#[]⟩, .slice none 0 0] 36)).alloc (.cells #[.string ⟨#[80, 84, 84, 76]⟩, .string ⟨#[107]⟩] 9)) (fun e w' => ∃ A' c', e = .returned (.tuple #[.agg #[.int .i64 3, .int .i64 (-2), .string ⟨#[]⟩, .slice none 0 0], .slice A' 0 c', .bool true]) ∧ Below (x0.alloc (.cells #[.int .i64 3, .int .i64 (-2), .string ⟨#[]⟩, .slice none 0 0] 36)).heap.size (x0.alloc (.cells #[.int .i64 3, .int .i64 (-2), .string ⟨#[]⟩, .slice none 0 0] 36)) w') from hq1 ▸ doK w ⟨#[80, 84, 84, 76]⟩ ⟨#[80, 84, 84, 76]⟩ 27 bS bM ml nw [⟨#[80, 84, 84, 76]⟩, ⟨#[107]⟩] 3 (-2) ⟨#[]⟩ [] 0 rfl (x0.alloc (.cells #[.int .i64 3, .int .i64 (-2), .string ⟨#[]⟩, .slice none 0 0] 36)) (pttl_of _ bS bM ml nw _ (-2) (fun w j vA hS hj hA => left_no bS bM ml nw _ ⟨#[107]⟩ rfl (fun X hX j vA vl hj => JGet_over bS bM j _ ⟨#[107]⟩ nw vA vl ⟨#[118]⟩ m 1 (by rw [hml]; simp [MapT.find]) FA.out.2.1 hle X hX hj) 1 w j vA hS hj hA)) (by simp) find_PTTL rfl ent_PTTL (fun vv X h => Fits_PTTL vv [⟨#[80, 84, 84, 76]⟩, ⟨#[107]⟩] rfl (by simp) (by simp) X h) hu_PTTL N0.out)
    go_wp2_with (first | (go_at_call 8; (with_reducible refine (C1.out).mono ?_); rintro e x1 ⟨A1, c1, rfl, h1⟩; have M1 := Lib.hid (N0.out.old h1); have a_1 := Lib.hid (blk_below a_0.out h1); clear h1; refine Hid.out ?_))
    refine Lib.hid ?_
    have N1 := Lib.hid (M1.out.old (alloc_old (o := .cells #[.int .i64 3, .int .i64 (-2), .string ⟨#[]⟩, .slice none 0 0] 36)))
    have ax_1 := Lib.hid (blk_below a_1.out (alloc_old (o := .cells #[.int .i64 3, .int .i64 (-2), .string ⟨#[]⟩, .slice none 0 0] 36)))
    have b_1 := Lib.hid (heap_alloc_new x1 (.cells #[.int .i64 3, .int .i64 (-2), .string ⟨#[]⟩, .slice none 0 0] 36))
    have hq2 : (x1.alloc (.cells #[.int .i64 3, .int .i64 (-2), .string ⟨#[]⟩, .slice none 0 0] 36)).heap.size = x1.heap.size + 1 := by simp
    have C2 := Lib.hid (show Calls Tryz.prog 8 #[.pointer (some ⟨bS, 0, none⟩), .int .i64 nw, .slice (some ⟨x1.heap.size + 1, 0, none⟩) 1 1] ((x1.alloc (.cells #[.int .i64 3, .int .i64 (-2), .string ⟨#[]⟩, .slice none 0 0] 36)).alloc (.cells #[.string ⟨#[68, 66, 83, 73, 90, 69]⟩] 9)) (fun e w' => ∃ A' c', e = .returned (.tuple #[.agg #[.int .i64 3, .int .i64 0, .string ⟨#[]⟩, .slice none 0 0], .slice A' 0 c', .bool true]) ∧ Below (x1.alloc (.cells #[.int .i64 3, .int .i64 (-2), .string ⟨#[]⟩, .slice none 0 0] 36)).heap.size (x1.alloc (.cells #[.int .i64 3, .int .i64 (-2), .string ⟨#[]⟩, .slice none 0 0] 36)) w') from hq2 ▸ doK w ⟨#[68, 66, 83, 73, 90, 69]⟩ ⟨#[68, 66, 83, 73, 90, 69]⟩ 32 bS bM ml nw [⟨#[68, 66, 83, 73, 90, 69]⟩] 3 0 ⟨#[]⟩ [] 0 rfl (x1.alloc (.cells #[.int .i64 3, .int .i64 (-2), .string ⟨#[]⟩, .slice none 0 0] 36)) ((by rw [hml]; exact size_over _ bS bM nw _ ⟨#[107]⟩ ⟨#[118]⟩ m (by unfold maxLen; decide) FA.out.2.1 hle)) (by simp) find_DBSIZE rfl ent_DBSIZE (fun vv X h => Fits_DBSIZE vv [⟨#[68, 66, 83, 73, 90, 69]⟩] rfl (by simp) (by simp) X h) hu_DBSIZE N1.out)
    go_wp2_with (first | (go_at_call 8; (with_reducible refine (C2.out).mono ?_); rintro e x2 ⟨A2, c2, rfl, h2⟩; have M2 := Lib.hid (N1.out.old h2); have a_2 := Lib.hid (blk_below ax_1.out h2); have b_2 := Lib.hid (blk_below b_1.out h2); clear h2; refine Hid.out ?_))
    refine Lib.hid ?_
    have N2 := Lib.hid (M2.out.old (alloc_old (o := .cells #[.int .i64 3, .int .i64 0, .string ⟨#[]⟩, .slice none 0 0] 36)))
    have ax_2 := Lib.hid (blk_below a_2.out (alloc_old (o := .cells #[.int .i64 3, .int .i64 0, .string ⟨#[]⟩, .slice none 0 0] 36)))
    have bx_2 := Lib.hid (blk_below b_2.out (alloc_old (o := .cells #[.int .i64 3, .int .i64 0, .string ⟨#[]⟩, .slice none 0 0] 36)))
    have c_2 := Lib.hid (heap_alloc_new x2 (.cells #[.int .i64 3, .int .i64 0, .string ⟨#[]⟩, .slice none 0 0] 36))
    have hq3 : (x2.alloc (.cells #[.int .i64 3, .int .i64 0, .string ⟨#[]⟩, .slice none 0 0] 36)).heap.size = x2.heap.size + 1 := by simp
    have C3 := Lib.hid (show Calls Tryz.prog 8 #[.pointer (some ⟨bS, 0, none⟩), .int .i64 nw, .slice (some ⟨x2.heap.size + 1, 0, none⟩) 2 2] ((x2.alloc (.cells #[.int .i64 3, .int .i64 0, .string ⟨#[]⟩, .slice none 0 0] 36)).alloc (.cells #[.string ⟨#[84, 89, 80, 69]⟩, .string ⟨#[107]⟩] 9)) (fun e w' => ∃ A' c', e = .returned (.tuple #[.agg #[.int .i64 1, .int .i64 0, .string ⟨#[110, 111, 110, 101]⟩, .slice none 0 0], .slice A' 0 c', .bool true]) ∧ Below (x2.alloc (.cells #[.int .i64 3, .int .i64 0, .string ⟨#[]⟩, .slice none 0 0] 36)).heap.size (x2.alloc (.cells #[.int .i64 3, .int .i64 0, .string ⟨#[]⟩, .slice none 0 0] 36)) w') from hq3 ▸ doK w ⟨#[84, 89, 80, 69]⟩ ⟨#[84, 89, 80, 69]⟩ 18 bS bM ml nw [⟨#[84, 89, 80, 69]⟩, ⟨#[107]⟩] 1 0 ⟨#[110, 111, 110, 101]⟩ [] 0 rfl (x2.alloc (.cells #[.int .i64 3, .int .i64 0, .string ⟨#[]⟩, .slice none 0 0] 36)) (kind_no _ bS bM ml nw _ ⟨#[107]⟩ rfl (fun X hX j vA vl hj => JGet_over bS bM j _ ⟨#[107]⟩ nw vA vl ⟨#[118]⟩ m 1 (by rw [hml]; simp [MapT.find]) FA.out.2.1 hle X hX hj)) (by simp) find_TYPE rfl ent_TYPE (fun vv X h => Fits_TYPE vv [⟨#[84, 89, 80, 69]⟩, ⟨#[107]⟩] rfl (by simp) (by simp) X h) hu_TYPE N2.out)
    go_wp2_with (first | (go_at_call 8; (with_reducible refine (C3.out).mono ?_); rintro e x3 ⟨A3, c3, rfl, h3⟩; have M3 := Lib.hid (N2.out.old h3); have a_3 := Lib.hid (blk_below ax_2.out h3); have b_3 := Lib.hid (blk_below bx_2.out h3); have c_3 := Lib.hid (blk_below c_2.out h3); clear h3; refine Hid.out ?_))
    refine Lib.hid ?_
    have N3 := Lib.hid (M3.out.old (alloc_old (o := .cells #[.int .i64 1, .int .i64 0, .string ⟨#[110, 111, 110, 101]⟩, .slice none 0 0] 36)))
    have ax_3 := Lib.hid (blk_below a_3.out (alloc_old (o := .cells #[.int .i64 1, .int .i64 0, .string ⟨#[110, 111, 110, 101]⟩, .slice none 0 0] 36)))
    have bx_3 := Lib.hid (blk_below b_3.out (alloc_old (o := .cells #[.int .i64 1, .int .i64 0, .string ⟨#[110, 111, 110, 101]⟩, .slice none 0 0] 36)))
    have cx_3 := Lib.hid (blk_below c_3.out (alloc_old (o := .cells #[.int .i64 1, .int .i64 0, .string ⟨#[110, 111, 110, 101]⟩, .slice none 0 0] 36)))
    have d_3 := Lib.hid (heap_alloc_new x3 (.cells #[.int .i64 1, .int .i64 0, .string ⟨#[110, 111, 110, 101]⟩, .slice none 0 0] 36))
    have hq4 : (x3.alloc (.cells #[.int .i64 1, .int .i64 0, .string ⟨#[110, 111, 110, 101]⟩, .slice none 0 0] 36)).heap.size = x3.heap.size + 1 := by simp
    have C4 := Lib.hid (show Calls Tryz.prog 8 #[.pointer (some ⟨bS, 0, none⟩), .int .i64 nw, .slice (some ⟨x3.heap.size + 1, 0, none⟩) 2 2] ((x3.alloc (.cells #[.int .i64 1, .int .i64 0, .string ⟨#[110, 111, 110, 101]⟩, .slice none 0 0] 36)).alloc (.cells #[.string ⟨#[68, 69, 76]⟩, .string ⟨#[107]⟩] 9)) (fun e w' => ∃ A' c', e = .returned (.tuple #[.agg #[.int .i64 3, .int .i64 0, .string ⟨#[]⟩, .slice none 0 0], .slice A' 0 c', .bool true]) ∧ Below (x3.alloc (.cells #[.int .i64 1, .int .i64 0, .string ⟨#[110, 111, 110, 101]⟩, .slice none 0 0] 36)).heap.size (x3.alloc (.cells #[.int .i64 1, .int .i64 0, .string ⟨#[110, 111, 110, 101]⟩, .slice none 0 0] 36)) w') from hq4 ▸ doK w ⟨#[68, 69, 76]⟩ ⟨#[68, 69, 76]⟩ 16 bS bM ml nw [⟨#[68, 69, 76]⟩, ⟨#[107]⟩] 3 0 ⟨#[]⟩ [] 0 rfl (x3.alloc (.cells #[.int .i64 1, .int .i64 0, .string ⟨#[110, 111, 110, 101]⟩, .slice none 0 0] 36)) (del_no _ bS bM ml nw ⟨#[107]⟩ 1 (by decide) (by decide) (fun X hX j vA vl hj => JGet_over bS bM j _ ⟨#[107]⟩ nw vA vl ⟨#[118]⟩ m 1 (by rw [hml]; simp [MapT.find]) FA.out.2.1 hle X hX hj)) (by simp) find_DEL rfl ent_DEL (fun vv X h => Fits_DEL vv [⟨#[68, 69, 76]⟩, ⟨#[107]⟩] rfl (by simp) X h) hu_DEL N3.out)
    go_wp2_with (first | (go_at_call 8; (with_reducible refine (C4.out).mono ?_); rintro e x4 ⟨A4, c4, rfl, h4⟩; have M4 := Lib.hid (N3.out.old h4); have a_4 := Lib.hid (blk_below ax_3.out h4); have b_4 := Lib.hid (blk_below bx_3.out h4); have c_4 := Lib.hid (blk_below cx_3.out h4); have d_4 := Lib.hid (blk_below d_3.out h4); clear h4; refine Hid.out ?_))
    refine Lib.hid ?_
    have N4 := Lib.hid (M4.out.old (alloc_old (o := .cells #[.int .i64 3, .int .i64 0, .string ⟨#[]⟩, .slice none 0 0] 36)))
    have ax_4 := Lib.hid (blk_below a_4.out (alloc_old (o := .cells #[.int .i64 3, .int .i64 0, .string ⟨#[]⟩, .slice none 0 0] 36)))
    have bx_4 := Lib.hid (blk_below b_4.out (alloc_old (o := .cells #[.int .i64 3, .int .i64 0, .string ⟨#[]⟩, .slice none 0 0] 36)))
    have cx_4 := Lib.hid (blk_below c_4.out (alloc_old (o := .cells #[.int .i64 3, .int .i64 0, .string ⟨#[]⟩, .slice none 0 0] 36)))
    have dx_4 := Lib.hid (blk_below d_4.out (alloc_old (o := .cells #[.int .i64 3, .int .i64 0, .string ⟨#[]⟩, .slice none 0 0] 36)))
    have m9_4 := Lib.hid (heap_alloc_new x4 (.cells #[.int .i64 3, .int .i64 0, .string ⟨#[]⟩, .slice none 0 0] 36))
    have TO := Lib.hid (told9 (x4.alloc (.cells #[.int .i64 3, .int .i64 0, .string ⟨#[]⟩, .slice none 0 0] 36)))
    go_wp2_with (first | (go_at_call 9; (with_reducible refine (TO.out).mono ?_); rintro e y1 ⟨rfl, hb⟩; have T1 := Lib.hid (N4.out.old hb); obtain ⟨⟨a0, a1, a2, a3⟩, _⟩ := cells4 (blk_below ax_4.out hb); obtain ⟨⟨b0, b1, b2, b3⟩, _⟩ := cells4 (blk_below bx_4.out hb); obtain ⟨⟨c0, c1, c2, c3⟩, _⟩ := cells4 (blk_below cx_4.out hb); obtain ⟨⟨d0, d1, d2, d3⟩, _⟩ := cells4 (blk_below dx_4.out hb); obtain ⟨⟨m90, m91, m92, m93⟩, _⟩ := cells4 (blk_below m9_4.out hb); clear hb))
    go_ret
    exact ⟨by simp, T1.out.below⟩
  · obtain ⟨ml, hml⟩ : ∃ ml, ml = ([(⟨#[107]⟩, .agg #[.string ⟨#[107]⟩, .int .i64 1, .string ⟨#[118]⟩, .slice none 0 0, .slice none 0 0, .slice none 0 0, .slice none 0 0, .int .i64 m])] : MapT.Ents) := ⟨_, rfl⟩
    rw [← hml] at L1
    have hlt : nw < m := by have := FA.out.2.2.2.2.1; omega
    obtain ⟨r, hr⟩ : ∃ r, (lf + 999).tdiv 1000 = r := ⟨_, rfl⟩
    have hr0 : 0 ≤ r ∧ r ≤ 20001000 := by have := FA.out; rw [← hr]; exact ⟨Int.tdiv_nonneg (by omega) (by omega), Int.le_trans (Int.tdiv_le_self _ (by omega)) (by omega)⟩
    have C0 := Lib.hid (show Calls Tryz.prog 8 #[.pointer (some ⟨bS, 0, none⟩), .int .i64 nw, .slice (some ⟨v1.heap.size, 0, none⟩) 2 2] ((v1).alloc (.cells #[.string ⟨#[84, 84, 76]⟩, .string ⟨#[107]⟩] 9)) (fun e w' => ∃ A' c', e = .returned (.tuple #[.agg #[.int .i64 3, .int .i64 r, .string ⟨#[]⟩, .slice none 0 0], .slice A' 0 c', .bool true]) ∧ Below (v1).heap.size (v1) w') from doK w ⟨#[84, 84, 76]⟩ ⟨#[84, 84, 76]⟩ 25 bS bM ml nw [⟨#[84, 84, 76]⟩, ⟨#[107]⟩] 3 r ⟨#[]⟩ [] 0 rfl (v1) (ttl_of _ bS bM ml nw _ r (fun w j vA hS hj hA => left_yes bS bM ml nw _ ⟨#[107]⟩ rfl ⟨#[118]⟩ m (show MapT.find ⟨#[107]⟩ ml = some (.agg #[.string ⟨#[107]⟩, .int .i64 1, .string ⟨#[118]⟩, .slice none 0 0, .slice none 0 0, .slice none 0 0, .slice none 0 0, .int .i64 m]) from by rw [hml]; simp [MapT.find]) (.inr ⟨FA.out.2.1, hlt⟩) FA.out.2.1 hlt (by have := FA.out; omega) FA.out.1 1000 r (by decide) (by decide) (by rw [← hr]; congr 1; have := FA.out; omega) w j vA hS hj hA)) (by simp) find_TTL rfl ent_TTL (fun vv X h => Fits_TTL vv [⟨#[84, 84, 76]⟩, ⟨#[107]⟩] rfl (by simp) (by simp) X h) hu_TTL L1.out)
    go_wp2_with (first | (go_at_call 8; (with_reducible refine (C0.out).mono ?_); rintro e x0 ⟨A0, c0, rfl, h0⟩; have M0 := Lib.hid (L1.out.old h0); clear h0; refine Hid.out ?_))
    refine Lib.hid ?_
    have N0 := Lib.hid (M0.out.old (alloc_old (o := .cells #[.int .i64 3, .int .i64 r, .string ⟨#[]⟩, .slice none 0 0] 36)))
    have a_0 := Lib.hid (heap_alloc_new x0 (.cells #[.int .i64 3, .int .i64 r, .string ⟨#[]⟩, .slice none 0 0] 36))
    have hq1 : (x0.alloc (.cells #[.int .i64 3, .int .i64 r, .string ⟨#[]⟩, .slice none 0 0] 36)).heap.size = x0.heap.size + 1 := by simp
    have C1 := Lib.hid (show Calls Tryz.prog 8 #[.pointer (some ⟨bS, 0, none⟩), .int .i64 nw, .slice (some ⟨x0.heap.size + 1, 0, none⟩) 2 2] ((x0.alloc (.cells #[.int .i64 3, .int .i64 r, .string ⟨#[]⟩, .slice none 0 0] 36)).alloc (.cells #[.string ⟨#[80, 84, 84, 76]⟩, .string ⟨#[107]⟩] 9)) (fun e w' => ∃ A' c', e = .returned (.tuple #[.agg #[.int .i64 3, .int .i64 lf, .string ⟨#[]⟩, .slice none 0 0], .slice A' 0 c', .bool true]) ∧ Below (x0.alloc (.cells #[.int .i64 3, .int .i64 r, .string ⟨#[]⟩, .slice none 0 0] 36)).heap.size (x0.alloc (.cells #[.int .i64 3, .int .i64 r, .string ⟨#[]⟩, .slice none 0 0] 36)) w') from hq1 ▸ doK w ⟨#[80, 84, 84, 76]⟩ ⟨#[80, 84, 84, 76]⟩ 27 bS bM ml nw [⟨#[80, 84, 84, 76]⟩, ⟨#[107]⟩] 3 lf ⟨#[]⟩ [] 0 rfl (x0.alloc (.cells #[.int .i64 3, .int .i64 r, .string ⟨#[]⟩, .slice none 0 0] 36)) (pttl_of _ bS bM ml nw _ lf (fun w j vA hS hj hA => left_yes bS bM ml nw _ ⟨#[107]⟩ rfl ⟨#[118]⟩ m (show MapT.find ⟨#[107]⟩ ml = some (.agg #[.string ⟨#[107]⟩, .int .i64 1, .string ⟨#[118]⟩, .slice none 0 0, .slice none 0 0, .slice none 0 0, .slice none 0 0, .int .i64 m]) from by rw [hml]; simp [MapT.find]) (.inr ⟨FA.out.2.1, hlt⟩) FA.out.2.1 hlt (by have := FA.out; omega) FA.out.1 1 lf (by decide) (by decide) (by rw [Int.tdiv_one]; have := FA.out; omega) w j vA hS hj hA)) (by simp) find_PTTL rfl ent_PTTL (fun vv X h => Fits_PTTL vv [⟨#[80, 84, 84, 76]⟩, ⟨#[107]⟩] rfl (by simp) (by simp) X h) hu_PTTL N0.out)
    go_wp2_with (first | (go_at_call 8; (with_reducible refine (C1.out).mono ?_); rintro e x1 ⟨A1, c1, rfl, h1⟩; have M1 := Lib.hid (N0.out.old h1); have a_1 := Lib.hid (blk_below a_0.out h1); clear h1; refine Hid.out ?_))
    refine Lib.hid ?_
    have N1 := Lib.hid (M1.out.old (alloc_old (o := .cells #[.int .i64 3, .int .i64 lf, .string ⟨#[]⟩, .slice none 0 0] 36)))
    have ax_1 := Lib.hid (blk_below a_1.out (alloc_old (o := .cells #[.int .i64 3, .int .i64 lf, .string ⟨#[]⟩, .slice none 0 0] 36)))
    have b_1 := Lib.hid (heap_alloc_new x1 (.cells #[.int .i64 3, .int .i64 lf, .string ⟨#[]⟩, .slice none 0 0] 36))
    have hq2 : (x1.alloc (.cells #[.int .i64 3, .int .i64 lf, .string ⟨#[]⟩, .slice none 0 0] 36)).heap.size = x1.heap.size + 1 := by simp
    have C2 := Lib.hid (show Calls Tryz.prog 8 #[.pointer (some ⟨bS, 0, none⟩), .int .i64 nw, .slice (some ⟨x1.heap.size + 1, 0, none⟩) 1 1] ((x1.alloc (.cells #[.int .i64 3, .int .i64 lf, .string ⟨#[]⟩, .slice none 0 0] 36)).alloc (.cells #[.string ⟨#[68, 66, 83, 73, 90, 69]⟩] 9)) (fun e w' => ∃ A' c', e = .returned (.tuple #[.agg #[.int .i64 3, .int .i64 1, .string ⟨#[]⟩, .slice none 0 0], .slice A' 0 c', .bool true]) ∧ Below (x1.alloc (.cells #[.int .i64 3, .int .i64 lf, .string ⟨#[]⟩, .slice none 0 0] 36)).heap.size (x1.alloc (.cells #[.int .i64 3, .int .i64 lf, .string ⟨#[]⟩, .slice none 0 0] 36)) w') from hq2 ▸ doK w ⟨#[68, 66, 83, 73, 90, 69]⟩ ⟨#[68, 66, 83, 73, 90, 69]⟩ 32 bS bM ml nw [⟨#[68, 66, 83, 73, 90, 69]⟩] 3 1 ⟨#[]⟩ [] 0 rfl (x1.alloc (.cells #[.int .i64 3, .int .i64 lf, .string ⟨#[]⟩, .slice none 0 0] 36)) ((by rw [hml]; exact size_yes _ bS bM nw _ ⟨#[107]⟩ ⟨#[118]⟩ m (by unfold maxLen; decide) (.inr ⟨FA.out.2.1, hlt⟩))) (by simp) find_DBSIZE rfl ent_DBSIZE (fun vv X h => Fits_DBSIZE vv [⟨#[68, 66, 83, 73, 90, 69]⟩] rfl (by simp) (by simp) X h) hu_DBSIZE N1.out)
    go_wp2_with (first | (go_at_call 8; (with_reducible refine (C2.out).mono ?_); rintro e x2 ⟨A2, c2, rfl, h2⟩; have M2 := Lib.hid (N1.out.old h2); have a_2 := Lib.hid (blk_below ax_1.out h2); have b_2 := Lib.hid (blk_below b_1.out h2); clear h2; refine Hid.out ?_))
    refine Lib.hid ?_
    have N2 := Lib.hid (M2.out.old (alloc_old (o := .cells #[.int .i64 3, .int .i64 1, .string ⟨#[]⟩, .slice none 0 0] 36)))
    have ax_2 := Lib.hid (blk_below a_2.out (alloc_old (o := .cells #[.int .i64 3, .int .i64 1, .string ⟨#[]⟩, .slice none 0 0] 36)))
    have bx_2 := Lib.hid (blk_below b_2.out (alloc_old (o := .cells #[.int .i64 3, .int .i64 1, .string ⟨#[]⟩, .slice none 0 0] 36)))
    have c_2 := Lib.hid (heap_alloc_new x2 (.cells #[.int .i64 3, .int .i64 1, .string ⟨#[]⟩, .slice none 0 0] 36))
    have hq3 : (x2.alloc (.cells #[.int .i64 3, .int .i64 1, .string ⟨#[]⟩, .slice none 0 0] 36)).heap.size = x2.heap.size + 1 := by simp
    have C3 := Lib.hid (show Calls Tryz.prog 8 #[.pointer (some ⟨bS, 0, none⟩), .int .i64 nw, .slice (some ⟨x2.heap.size + 1, 0, none⟩) 2 2] ((x2.alloc (.cells #[.int .i64 3, .int .i64 1, .string ⟨#[]⟩, .slice none 0 0] 36)).alloc (.cells #[.string ⟨#[84, 89, 80, 69]⟩, .string ⟨#[107]⟩] 9)) (fun e w' => ∃ A' c', e = .returned (.tuple #[.agg #[.int .i64 1, .int .i64 0, .string ⟨#[115, 116, 114, 105, 110, 103]⟩, .slice none 0 0], .slice A' 0 c', .bool true]) ∧ Below (x2.alloc (.cells #[.int .i64 3, .int .i64 1, .string ⟨#[]⟩, .slice none 0 0] 36)).heap.size (x2.alloc (.cells #[.int .i64 3, .int .i64 1, .string ⟨#[]⟩, .slice none 0 0] 36)) w') from hq3 ▸ doK w ⟨#[84, 89, 80, 69]⟩ ⟨#[84, 89, 80, 69]⟩ 18 bS bM ml nw [⟨#[84, 89, 80, 69]⟩, ⟨#[107]⟩] 1 0 ⟨#[115, 116, 114, 105, 110, 103]⟩ [] 0 rfl (x2.alloc (.cells #[.int .i64 3, .int .i64 1, .string ⟨#[]⟩, .slice none 0 0] 36)) (kind_yes _ bS bM ml nw _ ⟨#[107]⟩ rfl ⟨#[118]⟩ m (show MapT.find ⟨#[107]⟩ ml = some (.agg #[.string ⟨#[107]⟩, .int .i64 1, .string ⟨#[118]⟩, .slice none 0 0, .slice none 0 0, .slice none 0 0, .slice none 0 0, .int .i64 m]) from by rw [hml]; simp [MapT.find]) (.inr ⟨FA.out.2.1, hlt⟩)) (by simp) find_TYPE rfl ent_TYPE (fun vv X h => Fits_TYPE vv [⟨#[84, 89, 80, 69]⟩, ⟨#[107]⟩] rfl (by simp) (by simp) X h) hu_TYPE N2.out)
    go_wp2_with (first | (go_at_call 8; (with_reducible refine (C3.out).mono ?_); rintro e x3 ⟨A3, c3, rfl, h3⟩; have M3 := Lib.hid (N2.out.old h3); have a_3 := Lib.hid (blk_below ax_2.out h3); have b_3 := Lib.hid (blk_below bx_2.out h3); have c_3 := Lib.hid (blk_below c_2.out h3); clear h3; refine Hid.out ?_))
    refine Lib.hid ?_
    have N3 := Lib.hid (M3.out.old (alloc_old (o := .cells #[.int .i64 1, .int .i64 0, .string ⟨#[115, 116, 114, 105, 110, 103]⟩, .slice none 0 0] 36)))
    have ax_3 := Lib.hid (blk_below a_3.out (alloc_old (o := .cells #[.int .i64 1, .int .i64 0, .string ⟨#[115, 116, 114, 105, 110, 103]⟩, .slice none 0 0] 36)))
    have bx_3 := Lib.hid (blk_below b_3.out (alloc_old (o := .cells #[.int .i64 1, .int .i64 0, .string ⟨#[115, 116, 114, 105, 110, 103]⟩, .slice none 0 0] 36)))
    have cx_3 := Lib.hid (blk_below c_3.out (alloc_old (o := .cells #[.int .i64 1, .int .i64 0, .string ⟨#[115, 116, 114, 105, 110, 103]⟩, .slice none 0 0] 36)))
    have d_3 := Lib.hid (heap_alloc_new x3 (.cells #[.int .i64 1, .int .i64 0, .string ⟨#[115, 116, 114, 105, 110, 103]⟩, .slice none 0 0] 36))
    have hq4 : (x3.alloc (.cells #[.int .i64 1, .int .i64 0, .string ⟨#[115, 116, 114, 105, 110, 103]⟩, .slice none 0 0] 36)).heap.size = x3.heap.size + 1 := by simp
    have C4 := Lib.hid (show Calls Tryz.prog 8 #[.pointer (some ⟨bS, 0, none⟩), .int .i64 nw, .slice (some ⟨x3.heap.size + 1, 0, none⟩) 2 2] ((x3.alloc (.cells #[.int .i64 1, .int .i64 0, .string ⟨#[115, 116, 114, 105, 110, 103]⟩, .slice none 0 0] 36)).alloc (.cells #[.string ⟨#[68, 69, 76]⟩, .string ⟨#[107]⟩] 9)) (fun e w' => ∃ A' c', e = .returned (.tuple #[.agg #[.int .i64 3, .int .i64 1, .string ⟨#[]⟩, .slice none 0 0], .slice A' 1 c', .bool true]) ∧ Below (x3.alloc (.cells #[.int .i64 1, .int .i64 0, .string ⟨#[115, 116, 114, 105, 110, 103]⟩, .slice none 0 0] 36)).heap.size (x3.alloc (.cells #[.int .i64 1, .int .i64 0, .string ⟨#[115, 116, 114, 105, 110, 103]⟩, .slice none 0 0] 36)) w') from hq4 ▸ doK w ⟨#[68, 69, 76]⟩ ⟨#[68, 69, 76]⟩ 16 bS bM ml nw [⟨#[68, 69, 76]⟩, ⟨#[107]⟩] 3 1 ⟨#[]⟩ [⟨⟨#[107]⟩, 0, ⟨#[]⟩, 0⟩] 1 rfl (x3.alloc (.cells #[.int .i64 1, .int .i64 0, .string ⟨#[115, 116, 114, 105, 110, 103]⟩, .slice none 0 0] 36)) (del_yes _ bS bM ml nw ⟨#[107]⟩ 1 (by decide) (by decide) ⟨#[118]⟩ m (show MapT.find ⟨#[107]⟩ ml = some (.agg #[.string ⟨#[107]⟩, .int .i64 1, .string ⟨#[118]⟩, .slice none 0 0, .slice none 0 0, .slice none 0 0, .slice none 0 0, .int .i64 m]) from by rw [hml]; simp [MapT.find]) (.inr ⟨FA.out.2.1, hlt⟩)) (by simp) find_DEL rfl ent_DEL (fun vv X h => Fits_DEL vv [⟨#[68, 69, 76]⟩, ⟨#[107]⟩] rfl (by simp) X h) hu_DEL N3.out)
    go_wp2_with (first | (go_at_call 8; (with_reducible refine (C4.out).mono ?_); rintro e x4 ⟨A4, c4, rfl, h4⟩; have M4 := Lib.hid (N3.out.old h4); have a_4 := Lib.hid (blk_below ax_3.out h4); have b_4 := Lib.hid (blk_below bx_3.out h4); have c_4 := Lib.hid (blk_below cx_3.out h4); have d_4 := Lib.hid (blk_below d_3.out h4); clear h4; refine Hid.out ?_))
    refine Lib.hid ?_
    have N4 := Lib.hid (M4.out.old (alloc_old (o := .cells #[.int .i64 3, .int .i64 1, .string ⟨#[]⟩, .slice none 0 0] 36)))
    have ax_4 := Lib.hid (blk_below a_4.out (alloc_old (o := .cells #[.int .i64 3, .int .i64 1, .string ⟨#[]⟩, .slice none 0 0] 36)))
    have bx_4 := Lib.hid (blk_below b_4.out (alloc_old (o := .cells #[.int .i64 3, .int .i64 1, .string ⟨#[]⟩, .slice none 0 0] 36)))
    have cx_4 := Lib.hid (blk_below c_4.out (alloc_old (o := .cells #[.int .i64 3, .int .i64 1, .string ⟨#[]⟩, .slice none 0 0] 36)))
    have dx_4 := Lib.hid (blk_below d_4.out (alloc_old (o := .cells #[.int .i64 3, .int .i64 1, .string ⟨#[]⟩, .slice none 0 0] 36)))
    have m9_4 := Lib.hid (heap_alloc_new x4 (.cells #[.int .i64 3, .int .i64 1, .string ⟨#[]⟩, .slice none 0 0] 36))
    have TO := Lib.hid (told9 (x4.alloc (.cells #[.int .i64 3, .int .i64 1, .string ⟨#[]⟩, .slice none 0 0] 36)))
    go_wp2_with (first | (go_at_call 9; (with_reducible refine (TO.out).mono ?_); rintro e y1 ⟨rfl, hb⟩; have T1 := Lib.hid (N4.out.old hb); obtain ⟨⟨a0, a1, a2, a3⟩, _⟩ := cells4 (blk_below ax_4.out hb); obtain ⟨⟨b0, b1, b2, b3⟩, _⟩ := cells4 (blk_below bx_4.out hb); obtain ⟨⟨c0, c1, c2, c3⟩, _⟩ := cells4 (blk_below cx_4.out hb); obtain ⟨⟨d0, d1, d2, d3⟩, _⟩ := cells4 (blk_below dx_4.out hb); obtain ⟨⟨m90, m91, m92, m93⟩, _⟩ := cells4 (blk_below m9_4.out hb); clear hb))
    go_ret
    exact ⟨by simp, T1.out.below⟩
end Go.Proofs.YtllaeocclpaiaaaGreatDoor
