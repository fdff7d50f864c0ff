/- The law LibBytes. -/
import Derived.Test.YtjoegdnefdaokaaDoorLb8
namespace Go.Proofs.YtjoegdnefdaokaaDoor
open Go.ChangeShapes Go.WideShapes Go.ChangeAt Go.RowKit

theorem byte_pos (s : ByteArray) (hs : s.size ≤ 1000000) (k : Nat) (hk1 : 1 ≤ k) (hk : k ≤ s.size) (w : World) :
    Calls Tryd.prog 10 #[.string ⟨#[98, 121, 116, 101]⟩, .slice (some ⟨w.heap.size, 0, none⟩) 2 2] (w.alloc (.cells #[.int .i64 3, .int .i64 0, .string s, .slice none 0 0, .int .i64 2, .int .i64 (k : Int), .string ⟨#[]⟩, .slice none 0 0] 28)) fun e w' => e = .returned (.tuple #[.agg #[.int .i64 2, .int .i64 ((byteAt s (k - 1)).toNat : Int), .string ⟨#[]⟩, .slice none 0 0], .int .i64 0, .bool true]) ∧ Below w.heap.size w w' :=
  on_row (call_byte s _ _ [(3, 0, s), (2, (k : Int), ⟨#[]⟩)] (ASl.lit w [(3, 0, s), (2, (k : Int), ⟨#[]⟩)] (by simp)) rfl 2 ((byteAt s (k - 1)).toNat : Int) 0 ⟨#[]⟩ fun w1 hb => of_byte_pos s hs _ w1 [(3, 0, s), (2, (k : Int), ⟨#[]⟩)] ((ASl.lit w [(3, 0, s), (2, (k : Int), ⟨#[]⟩)] (by simp)).below hb) k hk1 hk rfl)
theorem byte_neg (s : ByteArray) (hs : s.size ≤ 1000000) (k : Nat) (hk1 : 1 ≤ k) (hk : k ≤ s.size) (w : World) :
    Calls Tryd.prog 10 #[.string ⟨#[98, 121, 116, 101]⟩, .slice (some ⟨w.heap.size, 0, none⟩) 2 2] (w.alloc (.cells #[.int .i64 3, .int .i64 0, .string s, .slice none 0 0, .int .i64 2, .int .i64 ((k : Int) - s.size - 1), .string ⟨#[]⟩, .slice none 0 0] 28)) fun e w' => e = .returned (.tuple #[.agg #[.int .i64 2, .int .i64 ((byteAt s (k - 1)).toNat : Int), .string ⟨#[]⟩, .slice none 0 0], .int .i64 0, .bool true]) ∧ Below w.heap.size w w' :=
  on_row (call_byte s _ _ [(3, 0, s), (2, ((k : Int) - s.size - 1), ⟨#[]⟩)] (ASl.lit w [(3, 0, s), (2, ((k : Int) - s.size - 1), ⟨#[]⟩)] (by simp)) rfl 2 ((byteAt s (k - 1)).toNat : Int) 0 ⟨#[]⟩ fun w1 hb => of_byte_neg s hs _ w1 [(3, 0, s), (2, ((k : Int) - s.size - 1), ⟨#[]⟩)] ((ASl.lit w [(3, 0, s), (2, ((k : Int) - s.size - 1), ⟨#[]⟩)] (by simp)).below hb) k hk1 hk rfl)
theorem text_char (c : UInt8) (w : World) :
    Calls Tryd.prog 7 #[.string ⟨#[99, 104, 97, 114]⟩, .slice (some ⟨w.heap.size, 0, none⟩) 1 1] (w.alloc (.cells #[.int .i64 2, .int .i64 (c.toNat : Int), .string ⟨#[]⟩, .slice none 0 0] 28)) fun e w' => e = .returned (.tuple #[.string ⟨#[c]⟩, .bool true]) ∧ Below w.heap.size w w' :=
  on_row (text7 _ _ _ ⟨#[c]⟩ (call_char _ _ [(2, (c.toNat : Int), ⟨#[]⟩)] (ASl.lit w [(2, (c.toNat : Int), ⟨#[]⟩)] (by simp)) c rfl))
theorem text_charA (c : UInt8) (w : World) (o : Obj) :
    Calls Tryd.prog 7 #[.string ⟨#[99, 104, 97, 114]⟩, .slice (some ⟨w.heap.size + 1, 0, none⟩) 1 1] ((w.alloc o).alloc (.cells #[.int .i64 2, .int .i64 (c.toNat : Int), .string ⟨#[]⟩, .slice none 0 0] 28)) fun e w' => e = .returned (.tuple #[.string ⟨#[c]⟩, .bool true]) ∧ Below (w.alloc o).heap.size (w.alloc o) w' := by
  have := text_char c (w.alloc o)
  rw [World.size_alloc] at this ⊢
  exact this
theorem text_tostring (w0 : World) (hT : Tab w0) (n : Int) (hI : I64 n) (w : World) (hi : Inv w0 w) :
    Calls Tryd.prog 7 #[.string ⟨#[116, 111, 115, 116, 114, 105, 110, 103]⟩, .slice (some ⟨w.heap.size, 0, none⟩) 1 1] (w.alloc (.cells #[.int .i64 2, .int .i64 n, .string ⟨#[]⟩, .slice none 0 0] 28)) fun e w' => e = .returned (.tuple #[.string ⟨(Lib.itoa n).toArray⟩, .bool true]) ∧ Below w.heap.size w w' :=
  on_row (text7 _ _ _ ⟨(Lib.itoa n).toArray⟩ (call_tostring _ _ [(2, n, ⟨#[]⟩)] (ASl.lit w [(2, n, ⟨#[]⟩)] (by simp)) w0 hT n hI (Below.alloc hi (Inv.size hi) _) rfl))
theorem ParseN (n : Int) (hn : I64 n) (w : World) : Calls Tryd.prog 17 #[.string ⟨(Lib.itoa n).toArray⟩] w fun e w' => e = .returned (.tuple #[.int .i64 n, .bool true]) ∧ Below w.heap.size w w' := by
  have hl : (⟨(Lib.itoa n).toArray⟩ : ByteArray).size ≤ 21 := Lib.itoa_length_le n (by have := hn.1; omega) (by have := hn.2; omega)
  refine (Parse9 _ (by omega) w).mono ?_
  rintro e w' ⟨rfl, m, rfl⟩
  refine ⟨?_, below_drewN (Below.refl _ _) m⟩
  show Ending.returned (optV (parseI (Lib.itoa n))) = _
  rw [parse_itoa n hn.1 hn.2]
  rfl
theorem call_back (n : Int) (hn : I64 n) (w : World) :
    Calls Tryd.prog 10 #[.string ⟨#[116, 111, 105, 110, 116]⟩, .slice (some ⟨w.heap.size, 0, none⟩) 1 1] (w.alloc (.cells #[.int .i64 3, .int .i64 0, .string ⟨(Lib.itoa n).toArray⟩, .slice none 0 0] 28)) fun e w' => e = .returned (.tuple #[.agg #[.int .i64 2, .int .i64 n, .string ⟨#[]⟩, .slice none 0 0], .int .i64 0, .bool true]) ∧ Below w.heap.size w w' :=
  on_row (call_toint _ _ [(3, 0, ⟨(Lib.itoa n).toArray⟩)] (ASl.lit w [(3, 0, ⟨(Lib.itoa n).toArray⟩)] (by simp)) _ n (ParseN n hn) rfl)
def abT : ByteArray := ⟨#[97, 98]⟩
theorem text_rep (k : Nat) (hk : k ≤ 300) (w : World) :
    Calls Tryd.prog 7 #[.string ⟨#[114, 101, 112]⟩, .slice (some ⟨w.heap.size, 0, none⟩) 2 2] (w.alloc (.cells #[.int .i64 3, .int .i64 0, .string ⟨#[97, 98]⟩, .slice none 0 0, .int .i64 2, .int .i64 (k : Int), .string ⟨#[]⟩, .slice none 0 0] 28)) fun e w' => e = .returned (.tuple #[.string (repT ⟨#[97, 98]⟩ k), .bool true]) ∧ Below w.heap.size w w' := by
  have e2 : (⟨#[97, 98]⟩ : ByteArray).size = 2 := rfl
  refine on_row (text7 _ _ _ (repT ⟨#[97, 98]⟩ k) (call_rep ⟨#[97, 98]⟩ _ _ [(3, 0, ⟨#[97, 98]⟩), (2, (k : Int), ⟨#[]⟩)] (ASl.lit w [(3, 0, ⟨#[97, 98]⟩), (2, (k : Int), ⟨#[]⟩)] (by simp)) rfl 3 0 0 (repT ⟨#[97, 98]⟩ k) fun w1 hb => ?_))
  by_cases hz : k = 0
  · subst hz
    exact of_rep_zero ⟨#[97, 98]⟩ _ w1 [(3, 0, ⟨#[97, 98]⟩), (2, ((0 : Nat) : Int), ⟨#[]⟩)] ((ASl.lit w [(3, 0, ⟨#[97, 98]⟩), (2, ((0 : Nat) : Int), ⟨#[]⟩)] (by simp)).below hb) rfl
  · exact of_rep ⟨#[97, 98]⟩ (by rw [e2]; omega) _ w1 [(3, 0, ⟨#[97, 98]⟩), (2, (k : Int), ⟨#[]⟩)] ((ASl.lit w [(3, 0, ⟨#[97, 98]⟩), (2, (k : Int), ⟨#[]⟩)] (by simp)).below hb) k (by rw [e2]; omega) (by omega) (by rw [e2]; omega) rfl
set_option maxRecDepth 100000 in
set_option maxHeartbeats 8000000 in
theorem bytes_walk (w0 : World) (hT : Tab w0) (s : ByteArray) (hs : s.size ≤ maxLen) (i n : Int) (hn : I64 n) : Calls Tryd.prog 4 #[.string s, .int .i64 i, .int .i64 n] w0 fun e w' => e = .returned (.bool true) ∧ Below w0.heap.size w0 w' := by
  have TO := Lib.hid (fun w (hi : Inv w0 w) => told6 w0 hT w hi)
  have b0 := Lib.hid (show Inv w0 w0 from Below.refl _ _)
  unfold maxLen at hs
  by_cases hz : s.size = 0
  · have z0 : ((s.size : Int) == 0) = true := by simp [hz]
    clear hz hT hn
    go_enter Tryd.func4, Tryd.ntmps4
    go_wp2_with (first | (go_at_call 6; (with_reducible refine (TO.out _ b0.out).mono ?_); rintro e w1 ⟨rfl, h1⟩; have B1 := Lib.hid h1; clear h1))
    go_ret
    exact ⟨rfl, B1.out⟩
  have z0 : ((s.size : Int) == 0) = false := by rw [beq_eq_false_iff_ne]; omega
  by_cases hg : 300 < s.size
  · have z1 : (300 : Int) < (s.size : Int) := by omega
    clear hz hT hn
    go_enter Tryd.func4, Tryd.ntmps4
    go_wp2_with (first | (go_at_call 6; (with_reducible refine (TO.out _ b0.out).mono ?_); rintro e w1 ⟨rfl, h1⟩; have B1 := Lib.hid h1; clear h1))
    go_ret
    exact ⟨rfl, B1.out⟩
  have z1 : ¬ (300 : Int) < (s.size : Int) := by omega
  obtain ⟨k, hk, hk2⟩ := cut_of i s.size (by omega) (by omega)
  have q0 : IntKind.u64.wrap (s.size : Int) = (s.size : Int) := by rw [IntKind.wrap_u64]; omega
  have S8 := Lib.hid (fun w => str8 s w)
  have S8a := Lib.hid (fun w => str8 ⟨#[97, 98]⟩ w)
  have S8n := Lib.hid (fun w => str8 ⟨(Lib.itoa n).toArray⟩ w)
  obtain ⟨k1, hk1⟩ : ∃ k1, k + 1 = k1 := ⟨_, rfl⟩
  have BP := Lib.hid (fun w => byte_pos s (by omega) k1 (by omega) (by omega) w)
  have BN := Lib.hid (fun w => byte_neg s (by omega) k1 (by omega) (by omega) w)
  have e0 : k1 - 1 = k := by omega
  have e1 : (k1 : Int) - s.size - 1 = (k : Int) - s.size := by omega
  have e2 : (k : Int) + 1 = (k1 : Int) := by omega
  simp only [e0, e1] at BP BN
  have N1 := Lib.hid (fun w => num9 (k1 : Int) ⟨by omega, by omega⟩ w)
  have N2 := Lib.hid (fun w => num9 ((k : Int) - s.size) ⟨by omega, by omega⟩ w)
  have N3 := Lib.hid (fun w => num9 (k : Int) ⟨by omega, by omega⟩ w)
  have TC := Lib.hid (fun w o => text_charA (byteAt s k) w o)
  have TT := Lib.hid (fun w (hi : Inv w0 w) => text_tostring w0 hT n hn w hi)
  have TI := Lib.hid (fun w => call_back n hn w)
  have TR := Lib.hid (fun w => text_rep k (by omega) w)
  have hrs := repT_size ⟨#[97, 98]⟩ k
  generalize repT ⟨#[97, 98]⟩ k = r at TR hrs
  have m3 : (((r.size : Nat) : Int) == 2 * (k : Int)) = true := by
    rw [hrs]
    show ((((k * 2 : Nat) : Nat) : Int) == 2 * (k : Int)) = true
    rw [beq_iff_eq]; omega
  have hix : ∀ w, (Instr.index 9 (.string s) (.int .i64 (k : Int))).run Tryd.prog w = .ok (.int .u8 ((byteAt s k).toNat : Int)) w := fun w => by
    rw [run_index_string w 9 s .i64 _ Tryd.underlying9, dif_pos ⟨by omega, by omega⟩]
    have g1 : ((k : Int)).toNat = k := by omega
    have g2 : s.data.toList[k]? = some (s[k]'(by omega)) := by rw [List.getElem?_eq_getElem (by simp; omega)]; rfl
    simp only [g1]
    unfold byteAt
    rw [List.getD, g2]
    rfl
  have hsl : ∀ w, (Instr.slice 9 (.string s) (some (.int .i64 (k : Int))) (some (.int .i64 (k1 : Int))) none).run Tryd.prog w = .ok (.string ⟨#[byteAt s k]⟩) w := fun w => by
    rw [run_slice_string w 9 s .i64 .i64 _ _ Tryd.underlying9 (by omega) (by omega) (by omega)]
    have g1 : ((k : Int)).toNat = k := by omega
    have g2 : ((k1 : Int)).toNat = k + 1 := by omega
    rw [g1, g2]
    have : s.extract k (k + 1) = ⟨#[byteAt s k]⟩ := by
      apply bytes_inj
      rw [Lib.extract_data]
      have g2 : s.data.toList[k]? = some (byteAt s k) := by unfold byteAt; rw [List.getD, List.getElem?_eq_getElem (by simp; omega)]; rfl
      have hlt : k < s.data.toList.length := by simp; omega
      rw [List.drop_eq_getElem_cons hlt]
      have g3 : s.data.toList[k] = byteAt s k := by rw [List.getElem?_eq_getElem hlt] at g2; exact Option.some.inj g2
      rw [g3]
      simp
    rw [this]
  have hw : wrap64 ((byteAt s k).toNat : Int) = ((byteAt s k).toNat : Int) := IntWalk.wrap64_in _ (by have := (byteAt s k).toNat_lt; omega)
  have hw2 : IntKind.i64.wrap ((byteAt s k).toNat : Int) = ((byteAt s k).toNat : Int) := IntWalk.i64_in _ (by have := (byteAt s k).toNat_lt; omega)
  have hw3 : IntKind.i64.wrap (2 * (k : Int)) = 2 * (k : Int) := IntWalk.i64_in _ (by omega)
  have hw4 : IntKind.i64.wrap (k1 : Int) = (k1 : Int) := IntWalk.i64_in _ (by omega)
  obtain ⟨c, hc⟩ : ∃ c, ((byteAt s k).toNat : Int) = c := ⟨_, rfl⟩
  generalize byteAt s k = cb at BP BN TC hix hsl hw hw2 hc
  have hl0 : (k : Int) < (s.size : Int) := by omega
  simp only [hc] at BP BN TC hix hw hw2
  clear hc e0 e1 hk1 hz hg hT hrs
  go_enter Tryd.func4, Tryd.ntmps4
  go_wp2_with (first | (go_at_call 8; (with_reducible refine (S8.out _).mono ?_); rintro e w1 ⟨rfl, h1⟩; have B1 := Lib.hid h1; clear h1; refine Hid.out ?_))
  refine Lib.hid ?_
  go_wp2_with (first | (go_at_call 9; (with_reducible refine (N1.out _).mono ?_); rintro e w2 ⟨rfl, h2⟩; have B2 := Lib.hid (belT B1.out h2); clear h2) | (go_at_call 10; (with_reducible refine (BP.out _).mono ?_); rintro e w3 ⟨rfl, h3⟩; have B3 := Lib.hid (belT B2.out h3); clear h3; refine Hid.out ?_))
  refine Lib.hid ?_
  have H3 := Lib.hid (heap_alloc_new w3 (.cells #[.int .i64 2, .int .i64 c, .string ⟨#[]⟩, .slice none 0 0] 28))
  go_wp2_with (first | (go_at_call 8; (with_reducible refine (S8.out _).mono ?_); rintro e w4 ⟨rfl, h4⟩; have B4 := Lib.hid h4; clear h4; refine Hid.out ?_))
  refine Lib.hid ?_
  go_wp2_with (first | (go_at_call 9; (with_reducible refine (N2.out _).mono ?_); rintro e w5 ⟨rfl, h5⟩; have B5 := Lib.hid (belT B4.out h5); clear h5) | (go_at_call 10; (with_reducible refine (BN.out _).mono ?_); rintro e w6 ⟨rfl, h6⟩; have B6 := Lib.hid (show Below (w3.alloc (.cells #[.int .i64 2, .int .i64 c, .string ⟨#[]⟩, .slice none 0 0] 28)).heap.size (w3.alloc (.cells #[.int .i64 2, .int .i64 c, .string ⟨#[]⟩, .slice none 0 0] 28)) w6 from belT B5.out h6); clear h6; refine Hid.out ?_))
  refine Lib.hid ?_
  have H6 := Lib.hid (heap_alloc_new w6 (.cells #[.int .i64 2, .int .i64 c, .string ⟨#[]⟩, .slice none 0 0] 28))
  have c6 := (cells4 B6.out H3.out).1
  obtain ⟨c60, c61, c62, c63⟩ := c6
  have z6 := (cells4 B6.out H3.out).2.2
  go_wp2_with (first | (go_at_call 7; (with_reducible refine (TC.out _ _).mono ?_); rintro e w7 ⟨rfl, h7⟩; have B7 := Lib.hid h7; clear h7; refine Hid.out ?_))
  refine Lib.hid ?_
  clear c60 c61 c62 c63 z6
  have I7 := Lib.hid (show Inv w0 w7 from belA B3.out (belA B6.out B7.out))
  go_wp2_with (first | (go_at_call 7; (with_reducible refine (TT.out _ I7.out).mono ?_); rintro e w8 ⟨rfl, h8⟩; have B8 := Lib.hid (belT B7.out h8); clear h8; refine Hid.out ?_))
  refine Lib.hid ?_
  go_wp2_with (first | (go_at_call 8; (with_reducible refine (S8n.out _).mono ?_); rintro e w9 ⟨rfl, h9⟩; have B9 := Lib.hid (belT B8.out h9); clear h9) | (go_at_call 10; (with_reducible refine (TI.out _).mono ?_); rintro e w10 ⟨rfl, h10⟩; have B10 := Lib.hid (belT B9.out h10); clear h10; refine Hid.out ?_))
  refine Lib.hid ?_
  have H10 := Lib.hid (heap_alloc_new w10 (.cells #[.int .i64 2, .int .i64 n, .string ⟨#[]⟩, .slice none 0 0] 28))
  go_wp2_with (first | (go_at_call 8; (with_reducible refine (S8a.out _).mono ?_); rintro e w11 ⟨rfl, h11⟩; have B11 := Lib.hid h11; clear h11; refine Hid.out ?_))
  refine Lib.hid ?_
  go_wp2_with (first | (go_at_call 9; (with_reducible refine (N3.out _).mono ?_); rintro e w12 ⟨rfl, h12⟩; have B12 := Lib.hid (belT B11.out h12); clear h12) | (go_at_call 7; (with_reducible refine (TR.out _).mono ?_); rintro e w13 ⟨rfl, h13⟩; have B13 := Lib.hid (show Below (w10.alloc (.cells #[.int .i64 2, .int .i64 n, .string ⟨#[]⟩, .slice none 0 0] 28)).heap.size (w10.alloc (.cells #[.int .i64 2, .int .i64 n, .string ⟨#[]⟩, .slice none 0 0] 28)) w13 from belT B12.out h13); clear h13; refine Hid.out ?_))
  refine Lib.hid ?_
  have I13 := Lib.hid (show Inv w0 w13 from belA B3.out (belA B6.out (belA B10.out B13.out)))
  have K13 := Lib.hid (show ∀ X, Below w13.heap.size w13 X → (X.cell? ⟨w3.heap.size, 1, none⟩ = some (.int .i64 c) ∧ X.cell? ⟨w6.heap.size, 1, none⟩ = some (.int .i64 c) ∧ X.cell? ⟨w10.heap.size, 0, none⟩ = some (.int .i64 2) ∧ X.cell? ⟨w10.heap.size, 1, none⟩ = some (.int .i64 n)) from fun X hb =>
    ⟨(cells4 (belA B6.out (belA B10.out (belT B13.out hb))) H3.out).1.2.1, (cells4 (belA B10.out (belT B13.out hb)) H6.out).1.2.1, (cells4 (belT B13.out hb) H10.out).1.1, (cells4 (belT B13.out hb) H10.out).1.2.1⟩)
  have S0 : ((w13.drew.cell? ⟨w3.heap.size, 1, none⟩ = some (.int .i64 c) ∧ w13.drew.cell? ⟨w6.heap.size, 1, none⟩ = some (.int .i64 c) ∧ w13.drew.cell? ⟨w10.heap.size, 0, none⟩ = some (.int .i64 2) ∧ w13.drew.cell? ⟨w10.heap.size, 1, none⟩ = some (.int .i64 n)) ∧ Below w13.heap.size w13 w13.drew) := ⟨K13.out _ (Below.refl w13.heap.size w13).drew, (Below.refl w13.heap.size w13).drew⟩
  have SK := Lib.hid (show ∀ Y X : World, Below X.heap.size X Y → ((X.cell? ⟨w3.heap.size, 1, none⟩ = some (.int .i64 c) ∧ X.cell? ⟨w6.heap.size, 1, none⟩ = some (.int .i64 c) ∧ X.cell? ⟨w10.heap.size, 0, none⟩ = some (.int .i64 2) ∧ X.cell? ⟨w10.heap.size, 1, none⟩ = some (.int .i64 n)) ∧ Below w13.heap.size w13 X) → ((Y.cell? ⟨w3.heap.size, 1, none⟩ = some (.int .i64 c) ∧ Y.cell? ⟨w6.heap.size, 1, none⟩ = some (.int .i64 c) ∧ Y.cell? ⟨w10.heap.size, 0, none⟩ = some (.int .i64 2) ∧ Y.cell? ⟨w10.heap.size, 1, none⟩ = some (.int .i64 n)) ∧ Below w13.heap.size w13 Y) from fun Y X hb h => ⟨K13.out _ (belT h.2 hb), belT h.2 hb⟩)
  have SI := Lib.hid (show ∀ X : World, ((X.cell? ⟨w3.heap.size, 1, none⟩ = some (.int .i64 c) ∧ X.cell? ⟨w6.heap.size, 1, none⟩ = some (.int .i64 c) ∧ X.cell? ⟨w10.heap.size, 0, none⟩ = some (.int .i64 2) ∧ X.cell? ⟨w10.heap.size, 1, none⟩ = some (.int .i64 n)) ∧ Below w13.heap.size w13 X) → Inv w0 X from fun X h => Below.trans I13.out (h.2.mono (Inv.size I13.out)))
  clear B1 B2 B3 B4 B5 B6 B7 B8 B9 B10 B11 B12 B13 H3 H6 H10
  go_wp2_with fail
  dsimp only [List.append]
  go_region_held3 (fun X => ((X.cell? ⟨w3.heap.size, 1, none⟩ = some (.int .i64 c) ∧ X.cell? ⟨w6.heap.size, 1, none⟩ = some (.int .i64 c) ∧ X.cell? ⟨w10.heap.size, 0, none⟩ = some (.int .i64 2) ∧ X.cell? ⟨w10.heap.size, 1, none⟩ = some (.int .i64 n)) ∧ Below w13.heap.size w13 X)) (first | exact S0 | exact SK.out _ _ (by assumption) (by assumption) | exact SK.out _ _ (by assumption) ⟨by assumption, by assumption⟩)
    (first | (go_at_call 6; (with_reducible refine (TO.out _ (SI.out _ ?_)).mono ?_); assumption; rintro e w5 ⟨rfl, hb5⟩))
  go_wp2
  go_ret
  exact ⟨by simp, Below.trans I13.out ((belT (Below.refl w13.heap.size w13).drew hb5).mono (Inv.size I13.out))⟩
end Go.Proofs.YtjoegdnefdaokaaDoor
