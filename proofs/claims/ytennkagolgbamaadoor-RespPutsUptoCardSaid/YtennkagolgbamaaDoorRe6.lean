/- The walk of the law RespSizes. -/
import Derived.Test.YtennkagolgbamaaDoorRe5
namespace Go.Proofs.YtennkagolgbamaaDoor
open Go.ChangeShapes Go.WideShapes Go.ChangeAt Go.RowKit Go.Resp

/-- Read of a text's bytes, where nothing comes of it. -/
theorem read_text (s : ByteArray) (code : Nat) (hk : readT s.data.toList = ([], 0, code)) (hs : s.size ≤ maxLen) (w : World) : Calls Tryd.prog 13 #[.slice (some ⟨w.heap.size, 0, none⟩) s.size (grownCap w s.size 0 5)] (Lib.bytesWorld w 5 s)
    fun e w' => ∃ v, e = .returned (.tuple #[v, .int .i64 0, .int .i64 (codeOf code)]) ∧ Below w.heap.size w w' := by
  refine (Read_any _ _ _ (BSl_bytes w s hs)).mono ?_
  rintro e w' ⟨v, xs, p, st, hr, rfl, hown, hb⟩
  rw [hk] at hr
  obtain ⟨rfl, rfl, rfl⟩ : [] = xs ∧ 0 = p ∧ code = st := by injection hr with h1 h2; injection h2 with h2 h3; exact ⟨h1, h2, h3⟩
  exact ⟨v, rfl, (Lib.bytesWorld_below w 5 s).trans (hb.mono (by rw [Lib.bytesWorld_size]; omega))⟩
def digB (a : Nat) : ByteArray := ⟨(Lib.decDigits a).toArray⟩
def textA (a : Nat) : ByteArray := ⟨#[42]⟩ ++ digB a ++ ⟨#[13, 10]⟩
def textB (b : Nat) : ByteArray := ⟨#[42, 49, 13, 10, 36]⟩ ++ digB b ++ ⟨#[13, 10]⟩
theorem codeA (a : Nat) (h1 : 1022 ≤ a) (h2 : a ≤ 1026) : ∃ st, readT (textA a).data.toList = ([], 0, st) ∧ (codeOf st == 0) = decide ((a : Int) ≤ 1024) := by
  have h : a = 1022 ∨ a = 1023 ∨ a = 1024 ∨ a = 1025 ∨ a = 1026 := by omega
  rcases h with rfl | rfl | rfl | rfl | rfl
  · exact ⟨1, by kernel_rfl, rfl⟩
  · exact ⟨1, by kernel_rfl, rfl⟩
  · exact ⟨1, by kernel_rfl, rfl⟩
  · exact ⟨2, by kernel_rfl, rfl⟩
  · exact ⟨2, by kernel_rfl, rfl⟩
theorem codeB (b : Nat) (h1 : 16382 ≤ b) (h2 : b ≤ 16386) : ∃ st, readT (textB b).data.toList = ([], 0, st) ∧ (codeOf st == 0) = decide ((b : Int) ≤ 16384) := by
  have h : b = 16382 ∨ b = 16383 ∨ b = 16384 ∨ b = 16385 ∨ b = 16386 := by omega
  rcases h with rfl | rfl | rfl | rfl | rfl
  · exact ⟨1, by kernel_rfl, rfl⟩
  · exact ⟨1, by kernel_rfl, rfl⟩
  · exact ⟨1, by kernel_rfl, rfl⟩
  · exact ⟨2, by kernel_rfl, rfl⟩
  · exact ⟨2, by kernel_rfl, rfl⟩
theorem w64 (n : Int) : wrap64 n = (n + 9223372036854775808) % 18446744073709551616 - 9223372036854775808 := by rw [← IntWalk.i64_left, IntKind.wrap_i64]
theorem near (base n : Int) (h0 : 0 ≤ base) (h1 : base ≤ 100000) : ∃ a : Nat, wrap64 (base + wrap64 ((IntKind.u64.wrap n).tmod 5)) = (a : Int) ∧ base ≤ (a : Int) ∧ (a : Int) ≤ base + 4 := by
  have e : IntKind.u64.wrap n = n % 18446744073709551616 := IntKind.wrap_u64 n
  have hm : (IntKind.u64.wrap n).tmod 5 = (n % 18446744073709551616) % 5 := by
    rw [e]; exact Int.tmod_eq_emod_of_nonneg (Int.emod_nonneg _ (by decide))
  rw [hm, IntWalk.wrap64_in ((n % 18446744073709551616) % 5) (by omega), IntWalk.wrap64_in _ (by omega)]
  exact ⟨(base + n % 18446744073709551616 % 5).toNat, by omega, by omega, by omega⟩
theorem digB_size (a : Nat) (h : a ≤ 99999) : (digB a).size ≤ 5 := by
  show (Lib.decDigits a).length ≤ 5
  rw [Lib.decDigits_length]
  unfold Lib.nDigits; split
  · omega
  · unfold Lib.nDigits; split
    · omega
    · unfold Lib.nDigits; split
      · omega
      · unfold Lib.nDigits; split
        · omega
        · unfold Lib.nDigits; split <;> omega
theorem size_textA (a : Nat) : (textA a).size = 1 + (digB a).size + 2 := by unfold textA; rw [ByteArray.size_append, ByteArray.size_append]; rfl
theorem size_textB (a : Nat) : (textB a).size = 5 + (digB a).size + 2 := by unfold textB; rw [ByteArray.size_append, ByteArray.size_append]; rfl
theorem digits14' (n : Nat) (hn' : n ≤ 1000000) (w : World) : Calls Tryd.prog 14 #[.int .i64 (n : Int)] w fun e w' => e = .returned (.string (digB n)) ∧ w = w' := digits14 n hn' w
theorem bad2 (w : World) : Calls Tryd.prog 13 #[.slice (some ⟨w.heap.size, 0, none⟩) 2 2] (w.alloc (.cells #[.int .u8 42, .int .u8 48] 5 (2, 3)))
    fun e w' => ∃ v, e = .returned (.tuple #[v, .int .i64 0, .int .i64 22]) ∧ Below (w.heap.size + 1) (w.alloc (.cells #[.int .u8 42, .int .u8 48] 5 (2, 3))) w' := told_bad [42, 48] 2 (by kernel_rfl) (by unfold maxLen; decide) w
theorem bad5 (w : World) : Calls Tryd.prog 13 #[.slice (some ⟨w.heap.size, 0, none⟩) 5 5] (w.alloc (.cells #[.int .u8 42, .int .u8 45, .int .u8 49, .int .u8 13, .int .u8 10] 5 (5, 6)))
    fun e w' => ∃ v, e = .returned (.tuple #[v, .int .i64 0, .int .i64 22]) ∧ Below (w.heap.size + 1) (w.alloc (.cells #[.int .u8 42, .int .u8 45, .int .u8 49, .int .u8 13, .int .u8 10] 5 (5, 6))) w' := told_bad [42, 45, 49, 13, 10] 2 (by kernel_rfl) (by unfold maxLen; decide) w
theorem bad7 (w : World) : Calls Tryd.prog 13 #[.slice (some ⟨w.heap.size, 0, none⟩) 7 7] (w.alloc (.cells #[.int .u8 42, .int .u8 49, .int .u8 13, .int .u8 10, .int .u8 36, .int .u8 48, .int .u8 49] 5 (7, 8)))
    fun e w' => ∃ v, e = .returned (.tuple #[v, .int .i64 0, .int .i64 22]) ∧ Below (w.heap.size + 1) (w.alloc (.cells #[.int .u8 42, .int .u8 49, .int .u8 13, .int .u8 10, .int .u8 36, .int .u8 48, .int .u8 49] 5 (7, 8))) w' := told_bad [42, 49, 13, 10, 36, 48, 49] 2 (by kernel_rfl) (by unfold maxLen; decide) w
theorem bel_new {w w' : World} {o : Obj} (h : Below (w.heap.size + 1) (w.alloc o) w') : Below w.heap.size w w' := (Below.alloc (Below.refl _ _) (Nat.le_refl _) _).trans (h.mono (by omega))
/-- What a call leaves: nothing that was there at the beginning has turned. -/
def Inv (w0 w : World) : Prop := Below w0.heap.size w0 w
theorem Inv.on {w0 w w' : World} (h : Inv w0 w) (hb : Below w.heap.size w w') : Inv w0 w' := Below.trans h (hb.mono (Below.size h))
set_option maxHeartbeats 1000000 in
theorem sizes_walk (n k : Int) (w : World) : Calls Tryd.prog 4 #[.int .i64 n, .int .i64 k] w fun e w' => e = .returned (.bool true) ∧ Below w.heap.size w w' := by
  have hcv := conv_sb
  have kc := fun (w : World) (C : Array Value) (n c : Nat) => Lib.run_convert_bytes_const (P := Tryd.prog) w 27 5 C n c Tryd.underlying27 Tryd.underlying5
  obtain ⟨a, ha, a1, a2⟩ := near 1022 n (by omega) (by omega)
  obtain ⟨b, hb, b1, b2⟩ := near 16382 k (by omega) (by omega)
  obtain ⟨sa, ra, ca⟩ := codeA a (by omega) (by omega)
  obtain ⟨sb, rb, cb⟩ := codeB b (by omega) (by omega)
  have za := digB_size a (by omega)
  have zb := digB_size b (by omega)
  have RA : ∀ w : World, Calls Tryd.prog 13 #[.slice (some ⟨w.heap.size, 0, none⟩) (1 + (digB a).size + 2) (grownCap w (1 + (digB a).size + 2) 0 5)] (Lib.bytesWorld w 5 (⟨#[42]⟩ ++ digB a ++ ⟨#[13, 10]⟩)) fun e w' => ∃ v, e = .returned (.tuple #[v, .int .i64 0, .int .i64 (codeOf sa)]) ∧ Below w.heap.size w w' := fun w => by
    have h := read_text (textA a) sa ra (by rw [size_textA]; unfold maxLen; omega) w
    rw [size_textA] at h
    exact h
  have RB : ∀ w : World, Calls Tryd.prog 13 #[.slice (some ⟨w.heap.size, 0, none⟩) (5 + (digB b).size + 2) (grownCap w (5 + (digB b).size + 2) 0 5)] (Lib.bytesWorld w 5 (⟨#[42, 49, 13, 10, 36]⟩ ++ digB b ++ ⟨#[13, 10]⟩)) fun e w' => ∃ v, e = .returned (.tuple #[v, .int .i64 0, .int .i64 (codeOf sb)]) ∧ Below w.heap.size w w' := fun w => by
    have h := read_text (textB b) sb rb (by rw [size_textB]; unfold maxLen; omega) w
    rw [size_textB] at h
    exact h
  have DA := Lib.hid (fun w => digits14' a (by omega) w)
  have DB := Lib.hid (fun w => digits14' b (by omega) w)
  obtain ⟨xa, hxa⟩ : ∃ x : Int, codeOf sa = x := ⟨_, rfl⟩
  obtain ⟨xb, hxb⟩ : ∃ x : Int, codeOf sb = x := ⟨_, rfl⟩
  rw [hxa] at ca RA
  rw [hxb] at cb RB
  have RA' := Lib.hid RA
  have RB' := Lib.hid RB
  clear ra rb hxa hxb RA RB
  have hi := Lib.hid (show Inv w w from Below.refl _ _)
  go_enter Tryd.func4, Tryd.ntmps4
  go_wp2_with (first
    | (go_at_call_of 14 (Value.int .i64 (a : Int)); (with_reducible refine (DA.out _).mono ?_); rintro e w' ⟨rfl, rfl⟩)
    | (go_at_call_of 14 (Value.int .i64 (b : Int)); (with_reducible refine (DB.out _).mono ?_); rintro e w' ⟨rfl, rfl⟩)
    | (go_at_call 13; (with_reducible refine (RA'.out _).mono ?_); rintro e w1 ⟨v1, rfl, hb1⟩; have B1 := Lib.hid hb1; clear hb1; refine Hid.out ?_))
  refine Lib.hid ?_
  go_wp2_with (first
    | (go_at_call_of 14 (Value.int .i64 (b : Int)); (with_reducible refine (DB.out _).mono ?_); rintro e w' ⟨rfl, rfl⟩)
    | (go_at_call 13; (with_reducible refine (RB'.out _).mono ?_); rintro e w2 ⟨v2, rfl, hb2⟩; have B2 := Lib.hid hb2; clear hb2; refine Hid.out ?_))
  refine Lib.hid ?_
  go_wp2_with (go_at_call 13; (with_reducible refine (bad2 _).mono ?_); rintro e w3 ⟨v3, rfl, hb3⟩; have B3 := Lib.hid (bel_new hb3); clear hb3; refine Hid.out ?_)
  refine Lib.hid ?_
  go_wp2_with (go_at_call 13; (with_reducible refine (bad5 _).mono ?_); rintro e w4 ⟨v4, rfl, hb4⟩; have B4 := Lib.hid (bel_new hb4); clear hb4; refine Hid.out ?_)
  refine Lib.hid ?_
  go_wp2_with (go_at_call 13; (with_reducible refine (bad7 _).mono ?_); rintro e w5 ⟨v5, rfl, hb5⟩; have B5 := Lib.hid (bel_new hb5); clear hb5; refine Hid.out ?_)
  refine Lib.hid ?_
  go_wp2_with (go_at_call 10; (with_reducible refine (told_any _).mono ?_); rintro e w6 ⟨rfl, hb6⟩; have B6 := Lib.hid hb6; clear hb6)
  go_ret
  exact ⟨by simp, (((((hi.out.on B1.out).on B2.out).on B3.out).on B4.out).on B5.out).on B6.out⟩
end Go.Proofs.YtennkagolgbamaaDoor
