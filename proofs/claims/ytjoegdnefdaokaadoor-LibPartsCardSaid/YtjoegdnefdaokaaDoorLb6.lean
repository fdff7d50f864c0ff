/- text; the law's own few examples (told) answer true. -/
import Derived.Test.YtjoegdnefdaokaaDoorLb5
namespace Go.Proofs.YtjoegdnefdaokaaDoor
open Go.ChangeShapes Go.WideShapes Go.ChangeAt Go.RowKit

set_option maxHeartbeats 1000000 in
theorem text7 (name : ByteArray) (v : Value) (w : World) (r : ByteArray) (hc : Calls Tryd.prog 10 #[.string name, v] w fun e w' => e = .returned (.tuple #[.agg #[.int .i64 3, .int .i64 0, .string r, .slice none 0 0], .int .i64 0, .bool true]) ∧ Below w.heap.size w w') :
    Calls Tryd.prog 7 #[.string name, v] w fun e w' => e = .returned (.tuple #[.string r, .bool true]) ∧ Below w.heap.size w w' := by
  have C := Lib.hid hc
  clear hc
  go_enter Tryd.func7, Tryd.ntmps7
  go_wp2_with (first | (go_at_call 10; (with_reducible refine (C.out).mono ?_); rintro e w1 ⟨rfl, h1⟩; have B1 := Lib.hid h1; clear h1))
  go_quiet (fail)
  go_wp2
  go_ret2
  exact ⟨rfl, below_drewN (B1.out.trans (alloc_old.mono (Below.size B1.out))) _⟩
/-- A call over a row that the text writes out: what was there stays. -/
theorem on_row {k : Nat} {a : Array Value} {w : World} {o : Obj} {e0 : Ending} (h : Calls Tryd.prog k a (w.alloc o) fun e w' => e = e0 ∧ Below (w.alloc o).heap.size (w.alloc o) w') : Calls Tryd.prog k a (w.alloc o) fun e w' => e = e0 ∧ Below w.heap.size w w' :=
  h.mono fun _ _ ⟨h1, h2⟩ => ⟨h1, alloc_old.trans (h2.mono (by simp))⟩
theorem lenA (ps : List (Int × Int × ByteArray)) : (cellsA ps).length = 4 * ps.length := by
  induction ps with
  | nil => rfl
  | cons p r ih => unfold cellsA at ih ⊢; rw [List.flatMap_cons, List.length_append, ih, List.length_cons]; show 4 + _ = _; omega
theorem told_sub (w : World) : Calls Tryd.prog 10 #[.string ⟨#[115, 117, 98]⟩, .slice (some ⟨w.heap.size, 0, none⟩) 2 2] (w.alloc (.cells #[.int .i64 3, .int .i64 0, .string ⟨#[97, 98, 99]⟩, .slice none 0 0, .int .i64 2, .int .i64 (-2), .string ⟨#[]⟩, .slice none 0 0] 28)) fun e w' => e = .returned (.tuple #[.agg #[.int .i64 3, .int .i64 0, .string ⟨#[98, 99]⟩, .slice none 0 0], .int .i64 0, .bool true]) ∧ Below w.heap.size w w' :=
  on_row (call_sub ⟨#[97, 98, 99]⟩ _ _ [(3, 0, ⟨#[97, 98, 99]⟩), (2, (-2), ⟨#[]⟩)] (ASl.lit w [(3, 0, ⟨#[97, 98, 99]⟩), (2, (-2), ⟨#[]⟩)] (by decide)) rfl 3 0 0 ⟨#[98, 99]⟩ fun w1 hb => of_sub_one ⟨#[97, 98, 99]⟩ _ w1 [(3, 0, ⟨#[97, 98, 99]⟩), (2, (-2), ⟨#[]⟩)] ((ASl.lit w [(3, 0, ⟨#[97, 98, 99]⟩), (2, (-2), ⟨#[]⟩)] (by decide)).below hb) (-2) rfl rfl ⟨#[98, 99]⟩ sub_abc)
theorem told_char (w : World) : Calls Tryd.prog 10 #[.string ⟨#[99, 104, 97, 114]⟩, .slice (some ⟨w.heap.size, 0, none⟩) 1 1] (w.alloc (.cells #[.int .i64 2, .int .i64 256, .string ⟨#[]⟩, .slice none 0 0] 28)) fun e w' => e = .returned (.tuple #[.agg #[.int .i64 0, .int .i64 0, .string ⟨#[]⟩, .slice none 0 0], .int .i64 9, .bool true]) ∧ Below w.heap.size w w' :=
  on_row (call_char_no _ _ [(2, 256, ⟨#[]⟩)] (ASl.lit w [(2, 256, ⟨#[]⟩)] (by decide)) rfl)
theorem told_charA (w : World) (o : Obj) : Calls Tryd.prog 10 #[.string ⟨#[99, 104, 97, 114]⟩, .slice (some ⟨w.heap.size + 1, 0, none⟩) 1 1] ((w.alloc o).alloc (.cells #[.int .i64 2, .int .i64 256, .string ⟨#[]⟩, .slice none 0 0] 28)) fun e w' => e = .returned (.tuple #[.agg #[.int .i64 0, .int .i64 0, .string ⟨#[]⟩, .slice none 0 0], .int .i64 9, .bool true]) ∧ Below (w.alloc o).heap.size (w.alloc o) w' := by
  have := told_char (w.alloc o)
  simpa using this
theorem told_made (w0 : World) (hT : Tab w0) (w : World) (hi : Inv w0 w) : Calls Tryd.prog 11 #[.string ⟨#[116, 111, 115, 116, 114, 105, 110, 103]⟩, .slice (some ⟨w.heap.size, 0, none⟩) 1 1] (w.alloc (.cells #[.int .i64 2, .int .i64 12, .string ⟨#[]⟩, .slice none 0 0] 28)) fun e w' => e = .returned (.int .i64 2) ∧ Below w.heap.size w w' := by
  have e2 : (⟨(Lib.itoa 12).toArray⟩ : ByteArray).size = 2 := by kernel_rfl
  have h := made_tostring _ _ [(2, 12, ⟨#[]⟩)] 12 (ASl.lit w [(2, 12, ⟨#[]⟩)] (by decide)) rfl ⟨(Lib.itoa 12).toArray⟩ (by rw [e2]; decide) fun w1 hb => call_tostring _ w1 [(2, 12, ⟨#[]⟩)] ((ASl.lit w [(2, 12, ⟨#[]⟩)] (by decide)).below hb) w0 hT 12 ⟨by decide, by decide⟩ (Below.trans hi (((alloc_old (w := w)).trans (hb.mono (by simp))).mono (Inv.size hi))) rfl
  rw [e2] at h
  exact on_row h
set_option maxHeartbeats 4000000 in
theorem told6 (w0 : World) (hT : Tab w0) (w : World) (hi : Inv w0 w) : Calls Tryd.prog 6 #[] w fun e w' => e = .returned (.bool true) ∧ Below w.heap.size w w' := by
  have M := Lib.hid (fun w1 (hb : Below w.heap.size w w1) => told_made w0 hT w1 (Below.trans hi (hb.mono (Inv.size hi))))
  have b0 := Lib.hid (Below.refl w.heap.size w)
  clear hT hi
  go_enter Tryd.func6, Tryd.ntmps6
  go_wp2_with (first | (go_at_call 10; (with_reducible refine (told_sub _).mono ?_); rintro e w1 ⟨rfl, h1⟩; have B1 := Lib.hid h1; clear h1; have H1 := Lib.hid (heap_alloc_new w1 (.cells #[.int .i64 3, .int .i64 0, .string ⟨#[98, 99]⟩, .slice none 0 0] 28)); refine Hid.out ?_))
  refine Lib.hid ?_
  go_wp2_with (first | (go_at_call 10; (with_reducible refine (told_charA _ _).mono ?_); rintro e w2 ⟨rfl, h2⟩; have B2 := Lib.hid (show Below (w1.alloc (.cells #[.int .i64 3, .int .i64 0, .string ⟨#[98, 99]⟩, .slice none 0 0] 28)).heap.size _ w2 from h2); clear h2; refine Hid.out ?_))
  refine Lib.hid ?_
  go_wp2_with (first | (go_at_call 10; (with_reducible refine (call_error _).mono ?_); rintro e w3 ⟨rfl, h3⟩; have B3 := Lib.hid (belA B2.out h3); clear h3; refine Hid.out ?_))
  refine Lib.hid ?_
  have D3 := Lib.hid (fun o => belT B3.out (alloc_old (o := o)))
  obtain ⟨⟨c0, c1, c2, c3⟩, _, hz⟩ := cells4 B3.out H1.out
  go_wp2_with (first | (go_at_call 13; (with_reducible refine (Out_nil _).mono ?_); rintro e w4 ⟨rfl, h4⟩; have B4 := Lib.hid (belT (D3.out _) h4); clear h4; refine Hid.out ?_))
  refine Lib.hid ?_
  have B5 := Lib.hid (B1.out.trans (((alloc_old (w := w1)).trans (B4.out.mono (by simp))).mono (Below.size B1.out)))
  clear B2 B3 D3 B4 c0 c1 c2 c3 hz
  go_wp2_with (first | (go_at_call 11; (with_reducible refine (M.out _ B5.out).mono ?_); rintro e w6 ⟨rfl, h6⟩; have B6 := Lib.hid (B5.out.trans (h6.mono (Below.size B5.out))); clear h6))
  go_ret
  exact ⟨by simp, B6.out⟩
end Go.Proofs.YtjoegdnefdaokaaDoor
