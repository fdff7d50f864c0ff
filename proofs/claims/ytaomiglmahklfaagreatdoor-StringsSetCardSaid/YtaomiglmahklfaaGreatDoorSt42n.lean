/- The walks of StringsSet from any other place. -/
import Derived.Test.YtaomiglmahklfaaGreatDoorSt42
namespace Go.Proofs.YtaomiglmahklfaaGreatDoor
open Go.ChangeShapes Go.WideShapes Go.ChangeAt Go.RowKit

set_option maxRecDepth 100000 in
set_option maxHeartbeats 16000000 in
theorem set_nelt (v : ByteArray) (hv : v.size ≤ 300) (at_ : Int) (p : Nat) (hp : p ≤ v.size) (hk : wrap64 ((IntKind.u64.wrap at_).tmod ((v.size : Int) + 1)) = (p : Int)) (d : ByteArray) (hd : v.extract p v.size = d) (hds : d.size ≤ 300) (hz : ((p : Int) == 0) = false) (hp0 : 0 < p) (x1 : ByteArray) (hvw : v ++ (⟨#[]⟩ : ByteArray) = v) (hy1 : x1 ++ (⟨#[]⟩ : ByteArray) = x1) (hxs : x1.size ≤ 1000) (hsl1 : ∀ X, (Instr.slice 9 (.string v) none (some (.int .i64 (p : Int))) none).run Tryz.prog X = .ok (.string x1) X) (x2 y2 : ByteArray) (hx2 : x2.size ≤ 1000) (hlt : (x1.size : Int) < (v.size : Int)) (hsl2 : ∀ X, (Instr.slice 9 (.string v) (some (.int .i64 (x1.size : Int))) none none).run Tryz.prog X = .ok (.string x2) X) (hy2 : x1 ++ x2 = y2) (w0 : World) (hT : Tab w0) : Calls Tryz.prog 6 #[.string v, .string ⟨#[]⟩, .int .i64 at_] w0 fun e w' => e = .returned (.bool true) ∧ Below w0.heap.size w0 w' := by
  have fK := field_K
  have fN := field_N
  have fS := field_S
  have g1 : ¬ (300 : Int) < (v.size : Int) := by omega
  have wn1 := n_one hv
  have wn2 := n_oneU hv
  have wk1 := n_back hv hp
  have hI1 := i_back hv hp
  have hI2 := i_at hv hp
  have o2 : ¬ 9223372036854775807 < x1.size + x2.size := by omega
  have NW := Lib.hid (New9 w0)
  go_enter Tryz.func6, Tryz.ntmps6
  go_wp2_with (first | (go_at_call 9; (with_reducible refine (NW.out).mono ?_); rintro e v0 ⟨bS, bM, rfl, hS0, hbS, hbM, hB0⟩; have L0 := Lib.hid (LW.mk hS0 hB0 hbS hbM); clear hS0 hbS hbM hB0; refine Hid.out ?_))
  refine Lib.hid ?_
  have D1 := Lib.hid (s_set w0 bS bM v hv (v0) L0.out (v0.heap.size) rfl)
  go_wp2_with (first | (go_at_call 11; (with_reducible refine (D1.out).mono ?_); rintro e v1 ⟨rfl, hL, hK⟩; have L1 := Lib.hid hL; clear hL hK; refine Hid.out ?_))
  refine Lib.hid ?_
  have M1 := Lib.hid (L1.out.old (alloc_old (o := .cells #[.int .i64 1, .int .i64 0, .string ⟨#[79, 75]⟩, .slice none 0 0] 37)))
  have la_1 := Lib.hid (heap_alloc_new v1 (.cells #[.int .i64 1, .int .i64 0, .string ⟨#[79, 75]⟩, .slice none 0 0] 37))
  have D2 := Lib.hid (s_get w0 bS bM v (v1.alloc (.cells #[.int .i64 1, .int .i64 0, .string ⟨#[79, 75]⟩, .slice none 0 0] 37)) M1.out (v1.heap.size + 1) (by simp))
  go_wp2_with (first | (go_at_call 11; (with_reducible refine (D2.out).mono ?_); rintro e v2 ⟨rfl, hL, hK⟩; have L2 := Lib.hid hL; have la_2 := Lib.hid (keep37 hK M1.out.sp la_1.out); clear hL hK; refine Hid.out ?_))
  refine Lib.hid ?_
  have M2 := Lib.hid (L2.out.old (alloc_old (o := .cells #[.int .i64 4, .int .i64 0, .string v, .slice none 0 0] 37)))
  have lax_2 := Lib.hid (blk_below la_2.out (alloc_old (o := .cells #[.int .i64 4, .int .i64 0, .string v, .slice none 0 0] 37)))
  have lb_2 := Lib.hid (heap_alloc_new v2 (.cells #[.int .i64 4, .int .i64 0, .string v, .slice none 0 0] 37))
  have U1 := Lib.hid (Number13 hT ((p : Int) - 1) hI1 (v2.alloc (.cells #[.int .i64 4, .int .i64 0, .string v, .slice none 0 0] 37)) M2.out.below)
  go_wp2_with (first | (go_at_call 13; (with_reducible refine (U1.out).mono ?_); rintro e u1 ⟨rfl, hb⟩; have K1 := Lib.hid (M2.out.old hb); have lan_1 := Lib.hid (blk_below lax_2.out hb); have lbn_1 := Lib.hid (blk_below lb_2.out hb); clear hb; refine Hid.out ?_))
  refine Lib.hid ?_
  have D3 := Lib.hid (s_left w0 bS bM v hv p hp (u1) K1.out (u1.heap.size) rfl)
  go_wp2_with (first | (go_at_call 11; (with_reducible refine (D3.out).mono ?_); rintro e v3 ⟨cL, rfl, hcL, hcs, hL, hK⟩; have L3 := Lib.hid hL; have la_3 := Lib.hid (keep37 hK K1.out.sp lan_1.out); have lb_3 := Lib.hid (keep37 hK K1.out.sp lbn_1.out); have hj : cL ++ d = v := by { rw [hcL hp0, ← hd]; exact ext_join v p hp }; have HC := Lib.hid hcs; clear hcL hcs; clear hL hK; refine Hid.out ?_))
  refine Lib.hid ?_
  have M3 := Lib.hid (L3.out.old (alloc_old (o := .cells #[.int .i64 4, .int .i64 0, .string cL, .slice none 0 0] 37)))
  have lax_3 := Lib.hid (blk_below la_3.out (alloc_old (o := .cells #[.int .i64 4, .int .i64 0, .string cL, .slice none 0 0] 37)))
  have lbx_3 := Lib.hid (blk_below lb_3.out (alloc_old (o := .cells #[.int .i64 4, .int .i64 0, .string cL, .slice none 0 0] 37)))
  have lc_3 := Lib.hid (heap_alloc_new v3 (.cells #[.int .i64 4, .int .i64 0, .string cL, .slice none 0 0] 37))
  have U2 := Lib.hid (Number13 hT (p : Int) hI2 (v3.alloc (.cells #[.int .i64 4, .int .i64 0, .string cL, .slice none 0 0] 37)) M3.out.below)
  go_wp2_with (first | (go_at_call 13; (with_reducible refine (U2.out).mono ?_); rintro e u2 ⟨rfl, hb⟩; have K2 := Lib.hid (M3.out.old hb); have lan_2 := Lib.hid (blk_below lax_3.out hb); have lbn_2 := Lib.hid (blk_below lbx_3.out hb); have lcn_2 := Lib.hid (blk_below lc_3.out hb); clear hb; refine Hid.out ?_))
  refine Lib.hid ?_
  have D4 := Lib.hid (s_right w0 bS bM v d hv p hp hd (u2) K2.out (u2.heap.size) rfl)
  go_wp2_with (first | (go_at_call 11; (with_reducible refine (D4.out).mono ?_); rintro e v4 ⟨rfl, hL, hK⟩; have L4 := Lib.hid hL; have la_4 := Lib.hid (keep37 hK K2.out.sp lan_2.out); have lb_4 := Lib.hid (keep37 hK K2.out.sp lbn_2.out); have lc_4 := Lib.hid (keep37 hK K2.out.sp lcn_2.out); clear hL hK; refine Hid.out ?_))
  refine Lib.hid ?_
  have M4 := Lib.hid (L4.out.old (alloc_old (o := .cells #[.int .i64 4, .int .i64 0, .string d, .slice none 0 0] 37)))
  have lax_4 := Lib.hid (blk_below la_4.out (alloc_old (o := .cells #[.int .i64 4, .int .i64 0, .string d, .slice none 0 0] 37)))
  have lbx_4 := Lib.hid (blk_below lb_4.out (alloc_old (o := .cells #[.int .i64 4, .int .i64 0, .string d, .slice none 0 0] 37)))
  have lcx_4 := Lib.hid (blk_below lc_4.out (alloc_old (o := .cells #[.int .i64 4, .int .i64 0, .string d, .slice none 0 0] 37)))
  have ld_4 := Lib.hid (heap_alloc_new v4 (.cells #[.int .i64 4, .int .i64 0, .string d, .slice none 0 0] 37))
  obtain ⟨⟨la0, la1, la2, la3⟩, _⟩ := cells4 lax_4.out
  obtain ⟨⟨lb0, lb1, lb2, lb3⟩, _⟩ := cells4 lbx_4.out
  obtain ⟨⟨lc0, lc1, lc2, lc3⟩, _⟩ := cells4 lcx_4.out
  obtain ⟨⟨ld0, ld1, ld2, ld3⟩, _⟩ := cells4 ld_4.out
  have D5 := Lib.hid (s_app w0 bS bM v ⟨#[]⟩ v (v.size : Int) (Int.add_zero _) hvw hv (by decide) (v4.alloc (.cells #[.int .i64 4, .int .i64 0, .string d, .slice none 0 0] 37)) M4.out (v4.heap.size + 1) (by simp))
  go_wp2_with (first | (go_at_call 11; (with_reducible refine (D5.out).mono ?_); rintro e v5 ⟨rfl, hL, hK⟩; have L5 := Lib.hid hL; have la_5 := Lib.hid (keep37 hK M4.out.sp lax_4.out); have lb_5 := Lib.hid (keep37 hK M4.out.sp lbx_4.out); have lc_5 := Lib.hid (keep37 hK M4.out.sp lcx_4.out); have ld_5 := Lib.hid (keep37 hK M4.out.sp ld_4.out); clear hL hK; refine Hid.out ?_))
  refine Lib.hid ?_
  have M5 := Lib.hid (L5.out.old (alloc_old (o := .cells #[.int .i64 3, .int .i64 (v.size : Int), .string ⟨#[]⟩, .slice none 0 0] 37)))
  have lax_5 := Lib.hid (blk_below la_5.out (alloc_old (o := .cells #[.int .i64 3, .int .i64 (v.size : Int), .string ⟨#[]⟩, .slice none 0 0] 37)))
  have lbx_5 := Lib.hid (blk_below lb_5.out (alloc_old (o := .cells #[.int .i64 3, .int .i64 (v.size : Int), .string ⟨#[]⟩, .slice none 0 0] 37)))
  have lcx_5 := Lib.hid (blk_below lc_5.out (alloc_old (o := .cells #[.int .i64 3, .int .i64 (v.size : Int), .string ⟨#[]⟩, .slice none 0 0] 37)))
  have ldx_5 := Lib.hid (blk_below ld_5.out (alloc_old (o := .cells #[.int .i64 3, .int .i64 (v.size : Int), .string ⟨#[]⟩, .slice none 0 0] 37)))
  have le_5 := Lib.hid (heap_alloc_new v5 (.cells #[.int .i64 3, .int .i64 (v.size : Int), .string ⟨#[]⟩, .slice none 0 0] 37))
  have D6 := Lib.hid (s_get w0 bS bM v (v5.alloc (.cells #[.int .i64 3, .int .i64 (v.size : Int), .string ⟨#[]⟩, .slice none 0 0] 37)) M5.out (v5.heap.size + 1) (by simp))
  go_wp2_with (first | (go_at_call 11; (with_reducible refine (D6.out).mono ?_); rintro e v6 ⟨rfl, hL, hK⟩; have L6 := Lib.hid hL; have la_6 := Lib.hid (keep37 hK M5.out.sp lax_5.out); have lb_6 := Lib.hid (keep37 hK M5.out.sp lbx_5.out); have lc_6 := Lib.hid (keep37 hK M5.out.sp lcx_5.out); have ld_6 := Lib.hid (keep37 hK M5.out.sp ldx_5.out); have le_6 := Lib.hid (keep37 hK M5.out.sp le_5.out); clear hL hK; refine Hid.out ?_))
  refine Lib.hid ?_
  have M6 := Lib.hid (L6.out.old (alloc_old (o := .cells #[.int .i64 4, .int .i64 0, .string v, .slice none 0 0] 37)))
  have lax_6 := Lib.hid (blk_below la_6.out (alloc_old (o := .cells #[.int .i64 4, .int .i64 0, .string v, .slice none 0 0] 37)))
  have lbx_6 := Lib.hid (blk_below lb_6.out (alloc_old (o := .cells #[.int .i64 4, .int .i64 0, .string v, .slice none 0 0] 37)))
  have lcx_6 := Lib.hid (blk_below lc_6.out (alloc_old (o := .cells #[.int .i64 4, .int .i64 0, .string v, .slice none 0 0] 37)))
  have ldx_6 := Lib.hid (blk_below ld_6.out (alloc_old (o := .cells #[.int .i64 4, .int .i64 0, .string v, .slice none 0 0] 37)))
  have lex_6 := Lib.hid (blk_below le_6.out (alloc_old (o := .cells #[.int .i64 4, .int .i64 0, .string v, .slice none 0 0] 37)))
  have lf_6 := Lib.hid (heap_alloc_new v6 (.cells #[.int .i64 4, .int .i64 0, .string v, .slice none 0 0] 37))
  have D7 := Lib.hid (s_len w0 bS bM v (v.size : Int) rfl (v6.alloc (.cells #[.int .i64 4, .int .i64 0, .string v, .slice none 0 0] 37)) M6.out (v6.heap.size + 1) (by simp))
  go_wp2_with (first | (go_at_call 11; (with_reducible refine (D7.out).mono ?_); rintro e v7 ⟨rfl, hL, hK⟩; have L7 := Lib.hid hL; have la_7 := Lib.hid (keep37 hK M6.out.sp lax_6.out); have lb_7 := Lib.hid (keep37 hK M6.out.sp lbx_6.out); have lc_7 := Lib.hid (keep37 hK M6.out.sp lcx_6.out); have ld_7 := Lib.hid (keep37 hK M6.out.sp ldx_6.out); have le_7 := Lib.hid (keep37 hK M6.out.sp lex_6.out); have lf_7 := Lib.hid (keep37 hK M6.out.sp lf_6.out); clear hL hK; refine Hid.out ?_))
  refine Lib.hid ?_
  have M7 := Lib.hid (L7.out.old (alloc_old (o := .cells #[.int .i64 3, .int .i64 (v.size : Int), .string ⟨#[]⟩, .slice none 0 0] 37)))
  have lax_7 := Lib.hid (blk_below la_7.out (alloc_old (o := .cells #[.int .i64 3, .int .i64 (v.size : Int), .string ⟨#[]⟩, .slice none 0 0] 37)))
  have lbx_7 := Lib.hid (blk_below lb_7.out (alloc_old (o := .cells #[.int .i64 3, .int .i64 (v.size : Int), .string ⟨#[]⟩, .slice none 0 0] 37)))
  have lcx_7 := Lib.hid (blk_below lc_7.out (alloc_old (o := .cells #[.int .i64 3, .int .i64 (v.size : Int), .string ⟨#[]⟩, .slice none 0 0] 37)))
  have ldx_7 := Lib.hid (blk_below ld_7.out (alloc_old (o := .cells #[.int .i64 3, .int .i64 (v.size : Int), .string ⟨#[]⟩, .slice none 0 0] 37)))
  have lex_7 := Lib.hid (blk_below le_7.out (alloc_old (o := .cells #[.int .i64 3, .int .i64 (v.size : Int), .string ⟨#[]⟩, .slice none 0 0] 37)))
  have lfx_7 := Lib.hid (blk_below lf_7.out (alloc_old (o := .cells #[.int .i64 3, .int .i64 (v.size : Int), .string ⟨#[]⟩, .slice none 0 0] 37)))
  have lg_7 := Lib.hid (heap_alloc_new v7 (.cells #[.int .i64 3, .int .i64 (v.size : Int), .string ⟨#[]⟩, .slice none 0 0] 37))
  have U3 := Lib.hid (Number13 hT (p : Int) hI2 (v7.alloc (.cells #[.int .i64 3, .int .i64 (v.size : Int), .string ⟨#[]⟩, .slice none 0 0] 37)) M7.out.below)
  go_wp2_with (first | (go_at_call 13; (with_reducible refine (U3.out).mono ?_); rintro e u3 ⟨rfl, hb⟩; have K3 := Lib.hid (M7.out.old hb); have lan_3 := Lib.hid (blk_below lax_7.out hb); have lbn_3 := Lib.hid (blk_below lbx_7.out hb); have lcn_3 := Lib.hid (blk_below lcx_7.out hb); have ldn_3 := Lib.hid (blk_below ldx_7.out hb); have len_3 := Lib.hid (blk_below lex_7.out hb); have lfn_3 := Lib.hid (blk_below lfx_7.out hb); have lgn_3 := Lib.hid (blk_below lg_7.out hb); clear hb; refine Hid.out ?_))
  refine Lib.hid ?_
  have D8 := Lib.hid (s_overE w0 bS bM v p (by omega) (u3) K3.out (u3.heap.size) rfl)
  go_wp2_with (first | (go_at_call 11; (with_reducible refine (D8.out).mono ?_); rintro e v8 ⟨rfl, hL, hK⟩; have L8 := Lib.hid hL; have la_8 := Lib.hid (keep37 hK K3.out.sp lan_3.out); have lb_8 := Lib.hid (keep37 hK K3.out.sp lbn_3.out); have lc_8 := Lib.hid (keep37 hK K3.out.sp lcn_3.out); have ld_8 := Lib.hid (keep37 hK K3.out.sp ldn_3.out); have le_8 := Lib.hid (keep37 hK K3.out.sp len_3.out); have lf_8 := Lib.hid (keep37 hK K3.out.sp lfn_3.out); have lg_8 := Lib.hid (keep37 hK K3.out.sp lgn_3.out); clear hL hK; refine Hid.out ?_))
  refine Lib.hid ?_
  have M8 := Lib.hid (L8.out.old (alloc_old (o := .cells #[.int .i64 3, .int .i64 (v.size : Int), .string ⟨#[]⟩, .slice none 0 0] 37)))
  have lax_8 := Lib.hid (blk_below la_8.out (alloc_old (o := .cells #[.int .i64 3, .int .i64 (v.size : Int), .string ⟨#[]⟩, .slice none 0 0] 37)))
  have lbx_8 := Lib.hid (blk_below lb_8.out (alloc_old (o := .cells #[.int .i64 3, .int .i64 (v.size : Int), .string ⟨#[]⟩, .slice none 0 0] 37)))
  have lcx_8 := Lib.hid (blk_below lc_8.out (alloc_old (o := .cells #[.int .i64 3, .int .i64 (v.size : Int), .string ⟨#[]⟩, .slice none 0 0] 37)))
  have ldx_8 := Lib.hid (blk_below ld_8.out (alloc_old (o := .cells #[.int .i64 3, .int .i64 (v.size : Int), .string ⟨#[]⟩, .slice none 0 0] 37)))
  have lex_8 := Lib.hid (blk_below le_8.out (alloc_old (o := .cells #[.int .i64 3, .int .i64 (v.size : Int), .string ⟨#[]⟩, .slice none 0 0] 37)))
  have lfx_8 := Lib.hid (blk_below lf_8.out (alloc_old (o := .cells #[.int .i64 3, .int .i64 (v.size : Int), .string ⟨#[]⟩, .slice none 0 0] 37)))
  have lgx_8 := Lib.hid (blk_below lg_8.out (alloc_old (o := .cells #[.int .i64 3, .int .i64 (v.size : Int), .string ⟨#[]⟩, .slice none 0 0] 37)))
  have lh_8 := Lib.hid (heap_alloc_new v8 (.cells #[.int .i64 3, .int .i64 (v.size : Int), .string ⟨#[]⟩, .slice none 0 0] 37))
  have D9 := Lib.hid (s_get w0 bS bM v (v8.alloc (.cells #[.int .i64 3, .int .i64 (v.size : Int), .string ⟨#[]⟩, .slice none 0 0] 37)) M8.out (v8.heap.size + 1) (by simp))
  go_wp2_with (first | (go_at_call 11; (with_reducible refine (D9.out).mono ?_); rintro e v9 ⟨rfl, hL, hK⟩; have L9 := Lib.hid hL; have la_9 := Lib.hid (keep37 hK M8.out.sp lax_8.out); have lb_9 := Lib.hid (keep37 hK M8.out.sp lbx_8.out); have lc_9 := Lib.hid (keep37 hK M8.out.sp lcx_8.out); have ld_9 := Lib.hid (keep37 hK M8.out.sp ldx_8.out); have le_9 := Lib.hid (keep37 hK M8.out.sp lex_8.out); have lf_9 := Lib.hid (keep37 hK M8.out.sp lfx_8.out); have lg_9 := Lib.hid (keep37 hK M8.out.sp lgx_8.out); have lh_9 := Lib.hid (keep37 hK M8.out.sp lh_8.out); clear hL hK; refine Hid.out ?_))
  refine Lib.hid ?_
  have M9 := Lib.hid (L9.out.old (alloc_old (o := .cells #[.int .i64 4, .int .i64 0, .string v, .slice none 0 0] 37)))
  have lax_9 := Lib.hid (blk_below la_9.out (alloc_old (o := .cells #[.int .i64 4, .int .i64 0, .string v, .slice none 0 0] 37)))
  have lbx_9 := Lib.hid (blk_below lb_9.out (alloc_old (o := .cells #[.int .i64 4, .int .i64 0, .string v, .slice none 0 0] 37)))
  have lcx_9 := Lib.hid (blk_below lc_9.out (alloc_old (o := .cells #[.int .i64 4, .int .i64 0, .string v, .slice none 0 0] 37)))
  have ldx_9 := Lib.hid (blk_below ld_9.out (alloc_old (o := .cells #[.int .i64 4, .int .i64 0, .string v, .slice none 0 0] 37)))
  have lex_9 := Lib.hid (blk_below le_9.out (alloc_old (o := .cells #[.int .i64 4, .int .i64 0, .string v, .slice none 0 0] 37)))
  have lfx_9 := Lib.hid (blk_below lf_9.out (alloc_old (o := .cells #[.int .i64 4, .int .i64 0, .string v, .slice none 0 0] 37)))
  have lgx_9 := Lib.hid (blk_below lg_9.out (alloc_old (o := .cells #[.int .i64 4, .int .i64 0, .string v, .slice none 0 0] 37)))
  have lhx_9 := Lib.hid (blk_below lh_9.out (alloc_old (o := .cells #[.int .i64 4, .int .i64 0, .string v, .slice none 0 0] 37)))
  have li_9 := Lib.hid (heap_alloc_new v9 (.cells #[.int .i64 4, .int .i64 0, .string v, .slice none 0 0] 37))
  have D10 := Lib.hid (s_del w0 bS bM v (by omega) (v9.alloc (.cells #[.int .i64 4, .int .i64 0, .string v, .slice none 0 0] 37)) M9.out (v9.heap.size + 1) (by simp))
  go_wp2_with (first | (go_at_call 11; (with_reducible refine (D10.out).mono ?_); rintro e v10 ⟨rfl, hL, hK⟩; have L10 := Lib.hid hL; have la_10 := Lib.hid (keep37 hK M9.out.sp lax_9.out); have lb_10 := Lib.hid (keep37 hK M9.out.sp lbx_9.out); have lc_10 := Lib.hid (keep37 hK M9.out.sp lcx_9.out); have ld_10 := Lib.hid (keep37 hK M9.out.sp ldx_9.out); have le_10 := Lib.hid (keep37 hK M9.out.sp lex_9.out); have lf_10 := Lib.hid (keep37 hK M9.out.sp lfx_9.out); have lg_10 := Lib.hid (keep37 hK M9.out.sp lgx_9.out); have lh_10 := Lib.hid (keep37 hK M9.out.sp lhx_9.out); have li_10 := Lib.hid (keep37 hK M9.out.sp li_9.out); clear hL hK; refine Hid.out ?_))
  refine Lib.hid ?_
  have M10 := Lib.hid (L10.out.old (alloc_old (o := .cells #[.int .i64 4, .int .i64 0, .string v, .slice none 0 0] 37)))
  have lax_10 := Lib.hid (blk_below la_10.out (alloc_old (o := .cells #[.int .i64 4, .int .i64 0, .string v, .slice none 0 0] 37)))
  have lbx_10 := Lib.hid (blk_below lb_10.out (alloc_old (o := .cells #[.int .i64 4, .int .i64 0, .string v, .slice none 0 0] 37)))
  have lcx_10 := Lib.hid (blk_below lc_10.out (alloc_old (o := .cells #[.int .i64 4, .int .i64 0, .string v, .slice none 0 0] 37)))
  have ldx_10 := Lib.hid (blk_below ld_10.out (alloc_old (o := .cells #[.int .i64 4, .int .i64 0, .string v, .slice none 0 0] 37)))
  have lex_10 := Lib.hid (blk_below le_10.out (alloc_old (o := .cells #[.int .i64 4, .int .i64 0, .string v, .slice none 0 0] 37)))
  have lfx_10 := Lib.hid (blk_below lf_10.out (alloc_old (o := .cells #[.int .i64 4, .int .i64 0, .string v, .slice none 0 0] 37)))
  have lgx_10 := Lib.hid (blk_below lg_10.out (alloc_old (o := .cells #[.int .i64 4, .int .i64 0, .string v, .slice none 0 0] 37)))
  have lhx_10 := Lib.hid (blk_below lh_10.out (alloc_old (o := .cells #[.int .i64 4, .int .i64 0, .string v, .slice none 0 0] 37)))
  have lix_10 := Lib.hid (blk_below li_10.out (alloc_old (o := .cells #[.int .i64 4, .int .i64 0, .string v, .slice none 0 0] 37)))
  have lj_10 := Lib.hid (heap_alloc_new v10 (.cells #[.int .i64 4, .int .i64 0, .string v, .slice none 0 0] 37))
  have TO := Lib.hid (told8 (v10.alloc (.cells #[.int .i64 4, .int .i64 0, .string v, .slice none 0 0] 37)) (hT.at_ M10.out.below))
  go_wp2_with (first | (go_at_call 8; (with_reducible refine (TO.out).mono ?_); rintro e x1 ⟨rfl, hb⟩; have T1 := Lib.hid (M10.out.old hb); have laq := Lib.hid (blk_below lax_10.out hb); have lbq := Lib.hid (blk_below lbx_10.out hb); have lcq := Lib.hid (blk_below lcx_10.out hb); have ldq := Lib.hid (blk_below ldx_10.out hb); have leq := Lib.hid (blk_below lex_10.out hb); have lfq := Lib.hid (blk_below lfx_10.out hb); have lgq := Lib.hid (blk_below lgx_10.out hb); have lhq := Lib.hid (blk_below lhx_10.out hb); have liq := Lib.hid (blk_below lix_10.out hb); have ljq := Lib.hid (blk_below lj_10.out hb); obtain ⟨⟨la0, la1, la2, la3⟩, _⟩ := cells4 laq.out; obtain ⟨⟨lb0, lb1, lb2, lb3⟩, _⟩ := cells4 lbq.out; obtain ⟨⟨lc0, lc1, lc2, lc3⟩, _⟩ := cells4 lcq.out; obtain ⟨⟨ld0, ld1, ld2, ld3⟩, _⟩ := cells4 ldq.out; obtain ⟨⟨le0, le1, le2, le3⟩, _⟩ := cells4 leq.out; obtain ⟨⟨lf0, lf1, lf2, lf3⟩, _⟩ := cells4 lfq.out; obtain ⟨⟨lg0, lg1, lg2, lg3⟩, _⟩ := cells4 lgq.out; obtain ⟨⟨lh0, lh1, lh2, lh3⟩, _⟩ := cells4 lhq.out; obtain ⟨⟨li0, li1, li2, li3⟩, _⟩ := cells4 liq.out; obtain ⟨⟨lj0, lj1, lj2, lj3⟩, _⟩ := cells4 ljq.out; clear hb; have DG := Lib.hid (s_none w0 bS bM x1 T1.out _ rfl); refine Hid.out ?_))
  refine Lib.hid ?_
  have o3 : ¬ 9223372036854775807 < cL.size + d.size := by { have := HC.out; omega }
  go_wp2_with (first | (go_at_call 11; (with_reducible refine (DG.out).mono ?_); rintro e x2 ⟨rfl, hL, hK⟩; have T2 := Lib.hid hL; clear hL hK))
  go_ret
  exact ⟨by simp, T2.out.below⟩
set_option maxRecDepth 100000 in
set_option maxHeartbeats 16000000 in
theorem set_neeq (v : ByteArray) (hv : v.size ≤ 300) (at_ : Int) (p : Nat) (hp : p ≤ v.size) (hk : wrap64 ((IntKind.u64.wrap at_).tmod ((v.size : Int) + 1)) = (p : Int)) (d : ByteArray) (hd : v.extract p v.size = d) (hds : d.size ≤ 300) (hz : ((p : Int) == 0) = false) (hp0 : 0 < p) (x1 : ByteArray) (hvw : v ++ (⟨#[]⟩ : ByteArray) = v) (hy1 : x1 ++ (⟨#[]⟩ : ByteArray) = x1) (hxs : x1.size ≤ 1000) (hsl1 : ∀ X, (Instr.slice 9 (.string v) none (some (.int .i64 (p : Int))) none).run Tryz.prog X = .ok (.string x1) X) (hlt : ¬ (x1.size : Int) < (v.size : Int)) (w0 : World) (hT : Tab w0) : Calls Tryz.prog 6 #[.string v, .string ⟨#[]⟩, .int .i64 at_] w0 fun e w' => e = .returned (.bool true) ∧ Below w0.heap.size w0 w' := by
  have fK := field_K
  have fN := field_N
  have fS := field_S
  have g1 : ¬ (300 : Int) < (v.size : Int) := by omega
  have wn1 := n_one hv
  have wn2 := n_oneU hv
  have wk1 := n_back hv hp
  have hI1 := i_back hv hp
  have hI2 := i_at hv hp
  have NW := Lib.hid (New9 w0)
  go_enter Tryz.func6, Tryz.ntmps6
  go_wp2_with (first | (go_at_call 9; (with_reducible refine (NW.out).mono ?_); rintro e v0 ⟨bS, bM, rfl, hS0, hbS, hbM, hB0⟩; have L0 := Lib.hid (LW.mk hS0 hB0 hbS hbM); clear hS0 hbS hbM hB0; refine Hid.out ?_))
  refine Lib.hid ?_
  have D1 := Lib.hid (s_set w0 bS bM v hv (v0) L0.out (v0.heap.size) rfl)
  go_wp2_with (first | (go_at_call 11; (with_reducible refine (D1.out).mono ?_); rintro e v1 ⟨rfl, hL, hK⟩; have L1 := Lib.hid hL; clear hL hK; refine Hid.out ?_))
  refine Lib.hid ?_
  have M1 := Lib.hid (L1.out.old (alloc_old (o := .cells #[.int .i64 1, .int .i64 0, .string ⟨#[79, 75]⟩, .slice none 0 0] 37)))
  have la_1 := Lib.hid (heap_alloc_new v1 (.cells #[.int .i64 1, .int .i64 0, .string ⟨#[79, 75]⟩, .slice none 0 0] 37))
  have D2 := Lib.hid (s_get w0 bS bM v (v1.alloc (.cells #[.int .i64 1, .int .i64 0, .string ⟨#[79, 75]⟩, .slice none 0 0] 37)) M1.out (v1.heap.size + 1) (by simp))
  go_wp2_with (first | (go_at_call 11; (with_reducible refine (D2.out).mono ?_); rintro e v2 ⟨rfl, hL, hK⟩; have L2 := Lib.hid hL; have la_2 := Lib.hid (keep37 hK M1.out.sp la_1.out); clear hL hK; refine Hid.out ?_))
  refine Lib.hid ?_
  have M2 := Lib.hid (L2.out.old (alloc_old (o := .cells #[.int .i64 4, .int .i64 0, .string v, .slice none 0 0] 37)))
  have lax_2 := Lib.hid (blk_below la_2.out (alloc_old (o := .cells #[.int .i64 4, .int .i64 0, .string v, .slice none 0 0] 37)))
  have lb_2 := Lib.hid (heap_alloc_new v2 (.cells #[.int .i64 4, .int .i64 0, .string v, .slice none 0 0] 37))
  have U1 := Lib.hid (Number13 hT ((p : Int) - 1) hI1 (v2.alloc (.cells #[.int .i64 4, .int .i64 0, .string v, .slice none 0 0] 37)) M2.out.below)
  go_wp2_with (first | (go_at_call 13; (with_reducible refine (U1.out).mono ?_); rintro e u1 ⟨rfl, hb⟩; have K1 := Lib.hid (M2.out.old hb); have lan_1 := Lib.hid (blk_below lax_2.out hb); have lbn_1 := Lib.hid (blk_below lb_2.out hb); clear hb; refine Hid.out ?_))
  refine Lib.hid ?_
  have D3 := Lib.hid (s_left w0 bS bM v hv p hp (u1) K1.out (u1.heap.size) rfl)
  go_wp2_with (first | (go_at_call 11; (with_reducible refine (D3.out).mono ?_); rintro e v3 ⟨cL, rfl, hcL, hcs, hL, hK⟩; have L3 := Lib.hid hL; have la_3 := Lib.hid (keep37 hK K1.out.sp lan_1.out); have lb_3 := Lib.hid (keep37 hK K1.out.sp lbn_1.out); have hj : cL ++ d = v := by { rw [hcL hp0, ← hd]; exact ext_join v p hp }; have HC := Lib.hid hcs; clear hcL hcs; clear hL hK; refine Hid.out ?_))
  refine Lib.hid ?_
  have M3 := Lib.hid (L3.out.old (alloc_old (o := .cells #[.int .i64 4, .int .i64 0, .string cL, .slice none 0 0] 37)))
  have lax_3 := Lib.hid (blk_below la_3.out (alloc_old (o := .cells #[.int .i64 4, .int .i64 0, .string cL, .slice none 0 0] 37)))
  have lbx_3 := Lib.hid (blk_below lb_3.out (alloc_old (o := .cells #[.int .i64 4, .int .i64 0, .string cL, .slice none 0 0] 37)))
  have lc_3 := Lib.hid (heap_alloc_new v3 (.cells #[.int .i64 4, .int .i64 0, .string cL, .slice none 0 0] 37))
  have U2 := Lib.hid (Number13 hT (p : Int) hI2 (v3.alloc (.cells #[.int .i64 4, .int .i64 0, .string cL, .slice none 0 0] 37)) M3.out.below)
  go_wp2_with (first | (go_at_call 13; (with_reducible refine (U2.out).mono ?_); rintro e u2 ⟨rfl, hb⟩; have K2 := Lib.hid (M3.out.old hb); have lan_2 := Lib.hid (blk_below lax_3.out hb); have lbn_2 := Lib.hid (blk_below lbx_3.out hb); have lcn_2 := Lib.hid (blk_below lc_3.out hb); clear hb; refine Hid.out ?_))
  refine Lib.hid ?_
  have D4 := Lib.hid (s_right w0 bS bM v d hv p hp hd (u2) K2.out (u2.heap.size) rfl)
  go_wp2_with (first | (go_at_call 11; (with_reducible refine (D4.out).mono ?_); rintro e v4 ⟨rfl, hL, hK⟩; have L4 := Lib.hid hL; have la_4 := Lib.hid (keep37 hK K2.out.sp lan_2.out); have lb_4 := Lib.hid (keep37 hK K2.out.sp lbn_2.out); have lc_4 := Lib.hid (keep37 hK K2.out.sp lcn_2.out); clear hL hK; refine Hid.out ?_))
  refine Lib.hid ?_
  have M4 := Lib.hid (L4.out.old (alloc_old (o := .cells #[.int .i64 4, .int .i64 0, .string d, .slice none 0 0] 37)))
  have lax_4 := Lib.hid (blk_below la_4.out (alloc_old (o := .cells #[.int .i64 4, .int .i64 0, .string d, .slice none 0 0] 37)))
  have lbx_4 := Lib.hid (blk_below lb_4.out (alloc_old (o := .cells #[.int .i64 4, .int .i64 0, .string d, .slice none 0 0] 37)))
  have lcx_4 := Lib.hid (blk_below lc_4.out (alloc_old (o := .cells #[.int .i64 4, .int .i64 0, .string d, .slice none 0 0] 37)))
  have ld_4 := Lib.hid (heap_alloc_new v4 (.cells #[.int .i64 4, .int .i64 0, .string d, .slice none 0 0] 37))
  obtain ⟨⟨la0, la1, la2, la3⟩, _⟩ := cells4 lax_4.out
  obtain ⟨⟨lb0, lb1, lb2, lb3⟩, _⟩ := cells4 lbx_4.out
  obtain ⟨⟨lc0, lc1, lc2, lc3⟩, _⟩ := cells4 lcx_4.out
  obtain ⟨⟨ld0, ld1, ld2, ld3⟩, _⟩ := cells4 ld_4.out
  have D5 := Lib.hid (s_app w0 bS bM v ⟨#[]⟩ v (v.size : Int) (Int.add_zero _) hvw hv (by decide) (v4.alloc (.cells #[.int .i64 4, .int .i64 0, .string d, .slice none 0 0] 37)) M4.out (v4.heap.size + 1) (by simp))
  go_wp2_with (first | (go_at_call 11; (with_reducible refine (D5.out).mono ?_); rintro e v5 ⟨rfl, hL, hK⟩; have L5 := Lib.hid hL; have la_5 := Lib.hid (keep37 hK M4.out.sp lax_4.out); have lb_5 := Lib.hid (keep37 hK M4.out.sp lbx_4.out); have lc_5 := Lib.hid (keep37 hK M4.out.sp lcx_4.out); have ld_5 := Lib.hid (keep37 hK M4.out.sp ld_4.out); clear hL hK; refine Hid.out ?_))
  refine Lib.hid ?_
  have M5 := Lib.hid (L5.out.old (alloc_old (o := .cells #[.int .i64 3, .int .i64 (v.size : Int), .string ⟨#[]⟩, .slice none 0 0] 37)))
  have lax_5 := Lib.hid (blk_below la_5.out (alloc_old (o := .cells #[.int .i64 3, .int .i64 (v.size : Int), .string ⟨#[]⟩, .slice none 0 0] 37)))
  have lbx_5 := Lib.hid (blk_below lb_5.out (alloc_old (o := .cells #[.int .i64 3, .int .i64 (v.size : Int), .string ⟨#[]⟩, .slice none 0 0] 37)))
  have lcx_5 := Lib.hid (blk_below lc_5.out (alloc_old (o := .cells #[.int .i64 3, .int .i64 (v.size : Int), .string ⟨#[]⟩, .slice none 0 0] 37)))
  have ldx_5 := Lib.hid (blk_below ld_5.out (alloc_old (o := .cells #[.int .i64 3, .int .i64 (v.size : Int), .string ⟨#[]⟩, .slice none 0 0] 37)))
  have le_5 := Lib.hid (heap_alloc_new v5 (.cells #[.int .i64 3, .int .i64 (v.size : Int), .string ⟨#[]⟩, .slice none 0 0] 37))
  have D6 := Lib.hid (s_get w0 bS bM v (v5.alloc (.cells #[.int .i64 3, .int .i64 (v.size : Int), .string ⟨#[]⟩, .slice none 0 0] 37)) M5.out (v5.heap.size + 1) (by simp))
  go_wp2_with (first | (go_at_call 11; (with_reducible refine (D6.out).mono ?_); rintro e v6 ⟨rfl, hL, hK⟩; have L6 := Lib.hid hL; have la_6 := Lib.hid (keep37 hK M5.out.sp lax_5.out); have lb_6 := Lib.hid (keep37 hK M5.out.sp lbx_5.out); have lc_6 := Lib.hid (keep37 hK M5.out.sp lcx_5.out); have ld_6 := Lib.hid (keep37 hK M5.out.sp ldx_5.out); have le_6 := Lib.hid (keep37 hK M5.out.sp le_5.out); clear hL hK; refine Hid.out ?_))
  refine Lib.hid ?_
  have M6 := Lib.hid (L6.out.old (alloc_old (o := .cells #[.int .i64 4, .int .i64 0, .string v, .slice none 0 0] 37)))
  have lax_6 := Lib.hid (blk_below la_6.out (alloc_old (o := .cells #[.int .i64 4, .int .i64 0, .string v, .slice none 0 0] 37)))
  have lbx_6 := Lib.hid (blk_below lb_6.out (alloc_old (o := .cells #[.int .i64 4, .int .i64 0, .string v, .slice none 0 0] 37)))
  have lcx_6 := Lib.hid (blk_below lc_6.out (alloc_old (o := .cells #[.int .i64 4, .int .i64 0, .string v, .slice none 0 0] 37)))
  have ldx_6 := Lib.hid (blk_below ld_6.out (alloc_old (o := .cells #[.int .i64 4, .int .i64 0, .string v, .slice none 0 0] 37)))
  have lex_6 := Lib.hid (blk_below le_6.out (alloc_old (o := .cells #[.int .i64 4, .int .i64 0, .string v, .slice none 0 0] 37)))
  have lf_6 := Lib.hid (heap_alloc_new v6 (.cells #[.int .i64 4, .int .i64 0, .string v, .slice none 0 0] 37))
  have D7 := Lib.hid (s_len w0 bS bM v (v.size : Int) rfl (v6.alloc (.cells #[.int .i64 4, .int .i64 0, .string v, .slice none 0 0] 37)) M6.out (v6.heap.size + 1) (by simp))
  go_wp2_with (first | (go_at_call 11; (with_reducible refine (D7.out).mono ?_); rintro e v7 ⟨rfl, hL, hK⟩; have L7 := Lib.hid hL; have la_7 := Lib.hid (keep37 hK M6.out.sp lax_6.out); have lb_7 := Lib.hid (keep37 hK M6.out.sp lbx_6.out); have lc_7 := Lib.hid (keep37 hK M6.out.sp lcx_6.out); have ld_7 := Lib.hid (keep37 hK M6.out.sp ldx_6.out); have le_7 := Lib.hid (keep37 hK M6.out.sp lex_6.out); have lf_7 := Lib.hid (keep37 hK M6.out.sp lf_6.out); clear hL hK; refine Hid.out ?_))
  refine Lib.hid ?_
  have M7 := Lib.hid (L7.out.old (alloc_old (o := .cells #[.int .i64 3, .int .i64 (v.size : Int), .string ⟨#[]⟩, .slice none 0 0] 37)))
  have lax_7 := Lib.hid (blk_below la_7.out (alloc_old (o := .cells #[.int .i64 3, .int .i64 (v.size : Int), .string ⟨#[]⟩, .slice none 0 0] 37)))
  have lbx_7 := Lib.hid (blk_below lb_7.out (alloc_old (o := .cells #[.int .i64 3, .int .i64 (v.size : Int), .string ⟨#[]⟩, .slice none 0 0] 37)))
  have lcx_7 := Lib.hid (blk_below lc_7.out (alloc_old (o := .cells #[.int .i64 3, .int .i64 (v.size : Int), .string ⟨#[]⟩, .slice none 0 0] 37)))
  have ldx_7 := Lib.hid (blk_below ld_7.out (alloc_old (o := .cells #[.int .i64 3, .int .i64 (v.size : Int), .string ⟨#[]⟩, .slice none 0 0] 37)))
  have lex_7 := Lib.hid (blk_below le_7.out (alloc_old (o := .cells #[.int .i64 3, .int .i64 (v.size : Int), .string ⟨#[]⟩, .slice none 0 0] 37)))
  have lfx_7 := Lib.hid (blk_below lf_7.out (alloc_old (o := .cells #[.int .i64 3, .int .i64 (v.size : Int), .string ⟨#[]⟩, .slice none 0 0] 37)))
  have lg_7 := Lib.hid (heap_alloc_new v7 (.cells #[.int .i64 3, .int .i64 (v.size : Int), .string ⟨#[]⟩, .slice none 0 0] 37))
  have U3 := Lib.hid (Number13 hT (p : Int) hI2 (v7.alloc (.cells #[.int .i64 3, .int .i64 (v.size : Int), .string ⟨#[]⟩, .slice none 0 0] 37)) M7.out.below)
  go_wp2_with (first | (go_at_call 13; (with_reducible refine (U3.out).mono ?_); rintro e u3 ⟨rfl, hb⟩; have K3 := Lib.hid (M7.out.old hb); have lan_3 := Lib.hid (blk_below lax_7.out hb); have lbn_3 := Lib.hid (blk_below lbx_7.out hb); have lcn_3 := Lib.hid (blk_below lcx_7.out hb); have ldn_3 := Lib.hid (blk_below ldx_7.out hb); have len_3 := Lib.hid (blk_below lex_7.out hb); have lfn_3 := Lib.hid (blk_below lfx_7.out hb); have lgn_3 := Lib.hid (blk_below lg_7.out hb); clear hb; refine Hid.out ?_))
  refine Lib.hid ?_
  have D8 := Lib.hid (s_overE w0 bS bM v p (by omega) (u3) K3.out (u3.heap.size) rfl)
  go_wp2_with (first | (go_at_call 11; (with_reducible refine (D8.out).mono ?_); rintro e v8 ⟨rfl, hL, hK⟩; have L8 := Lib.hid hL; have la_8 := Lib.hid (keep37 hK K3.out.sp lan_3.out); have lb_8 := Lib.hid (keep37 hK K3.out.sp lbn_3.out); have lc_8 := Lib.hid (keep37 hK K3.out.sp lcn_3.out); have ld_8 := Lib.hid (keep37 hK K3.out.sp ldn_3.out); have le_8 := Lib.hid (keep37 hK K3.out.sp len_3.out); have lf_8 := Lib.hid (keep37 hK K3.out.sp lfn_3.out); have lg_8 := Lib.hid (keep37 hK K3.out.sp lgn_3.out); clear hL hK; refine Hid.out ?_))
  refine Lib.hid ?_
  have M8 := Lib.hid (L8.out.old (alloc_old (o := .cells #[.int .i64 3, .int .i64 (v.size : Int), .string ⟨#[]⟩, .slice none 0 0] 37)))
  have lax_8 := Lib.hid (blk_below la_8.out (alloc_old (o := .cells #[.int .i64 3, .int .i64 (v.size : Int), .string ⟨#[]⟩, .slice none 0 0] 37)))
  have lbx_8 := Lib.hid (blk_below lb_8.out (alloc_old (o := .cells #[.int .i64 3, .int .i64 (v.size : Int), .string ⟨#[]⟩, .slice none 0 0] 37)))
  have lcx_8 := Lib.hid (blk_below lc_8.out (alloc_old (o := .cells #[.int .i64 3, .int .i64 (v.size : Int), .string ⟨#[]⟩, .slice none 0 0] 37)))
  have ldx_8 := Lib.hid (blk_below ld_8.out (alloc_old (o := .cells #[.int .i64 3, .int .i64 (v.size : Int), .string ⟨#[]⟩, .slice none 0 0] 37)))
  have lex_8 := Lib.hid (blk_below le_8.out (alloc_old (o := .cells #[.int .i64 3, .int .i64 (v.size : Int), .string ⟨#[]⟩, .slice none 0 0] 37)))
  have lfx_8 := Lib.hid (blk_below lf_8.out (alloc_old (o := .cells #[.int .i64 3, .int .i64 (v.size : Int), .string ⟨#[]⟩, .slice none 0 0] 37)))
  have lgx_8 := Lib.hid (blk_below lg_8.out (alloc_old (o := .cells #[.int .i64 3, .int .i64 (v.size : Int), .string ⟨#[]⟩, .slice none 0 0] 37)))
  have lh_8 := Lib.hid (heap_alloc_new v8 (.cells #[.int .i64 3, .int .i64 (v.size : Int), .string ⟨#[]⟩, .slice none 0 0] 37))
  have D9 := Lib.hid (s_get w0 bS bM v (v8.alloc (.cells #[.int .i64 3, .int .i64 (v.size : Int), .string ⟨#[]⟩, .slice none 0 0] 37)) M8.out (v8.heap.size + 1) (by simp))
  go_wp2_with (first | (go_at_call 11; (with_reducible refine (D9.out).mono ?_); rintro e v9 ⟨rfl, hL, hK⟩; have L9 := Lib.hid hL; have la_9 := Lib.hid (keep37 hK M8.out.sp lax_8.out); have lb_9 := Lib.hid (keep37 hK M8.out.sp lbx_8.out); have lc_9 := Lib.hid (keep37 hK M8.out.sp lcx_8.out); have ld_9 := Lib.hid (keep37 hK M8.out.sp ldx_8.out); have le_9 := Lib.hid (keep37 hK M8.out.sp lex_8.out); have lf_9 := Lib.hid (keep37 hK M8.out.sp lfx_8.out); have lg_9 := Lib.hid (keep37 hK M8.out.sp lgx_8.out); have lh_9 := Lib.hid (keep37 hK M8.out.sp lh_8.out); clear hL hK; refine Hid.out ?_))
  refine Lib.hid ?_
  have M9 := Lib.hid (L9.out.old (alloc_old (o := .cells #[.int .i64 4, .int .i64 0, .string v, .slice none 0 0] 37)))
  have lax_9 := Lib.hid (blk_below la_9.out (alloc_old (o := .cells #[.int .i64 4, .int .i64 0, .string v, .slice none 0 0] 37)))
  have lbx_9 := Lib.hid (blk_below lb_9.out (alloc_old (o := .cells #[.int .i64 4, .int .i64 0, .string v, .slice none 0 0] 37)))
  have lcx_9 := Lib.hid (blk_below lc_9.out (alloc_old (o := .cells #[.int .i64 4, .int .i64 0, .string v, .slice none 0 0] 37)))
  have ldx_9 := Lib.hid (blk_below ld_9.out (alloc_old (o := .cells #[.int .i64 4, .int .i64 0, .string v, .slice none 0 0] 37)))
  have lex_9 := Lib.hid (blk_below le_9.out (alloc_old (o := .cells #[.int .i64 4, .int .i64 0, .string v, .slice none 0 0] 37)))
  have lfx_9 := Lib.hid (blk_below lf_9.out (alloc_old (o := .cells #[.int .i64 4, .int .i64 0, .string v, .slice none 0 0] 37)))
  have lgx_9 := Lib.hid (blk_below lg_9.out (alloc_old (o := .cells #[.int .i64 4, .int .i64 0, .string v, .slice none 0 0] 37)))
  have lhx_9 := Lib.hid (blk_below lh_9.out (alloc_old (o := .cells #[.int .i64 4, .int .i64 0, .string v, .slice none 0 0] 37)))
  have li_9 := Lib.hid (heap_alloc_new v9 (.cells #[.int .i64 4, .int .i64 0, .string v, .slice none 0 0] 37))
  have D10 := Lib.hid (s_del w0 bS bM v (by omega) (v9.alloc (.cells #[.int .i64 4, .int .i64 0, .string v, .slice none 0 0] 37)) M9.out (v9.heap.size + 1) (by simp))
  go_wp2_with (first | (go_at_call 11; (with_reducible refine (D10.out).mono ?_); rintro e v10 ⟨rfl, hL, hK⟩; have L10 := Lib.hid hL; have la_10 := Lib.hid (keep37 hK M9.out.sp lax_9.out); have lb_10 := Lib.hid (keep37 hK M9.out.sp lbx_9.out); have lc_10 := Lib.hid (keep37 hK M9.out.sp lcx_9.out); have ld_10 := Lib.hid (keep37 hK M9.out.sp ldx_9.out); have le_10 := Lib.hid (keep37 hK M9.out.sp lex_9.out); have lf_10 := Lib.hid (keep37 hK M9.out.sp lfx_9.out); have lg_10 := Lib.hid (keep37 hK M9.out.sp lgx_9.out); have lh_10 := Lib.hid (keep37 hK M9.out.sp lhx_9.out); have li_10 := Lib.hid (keep37 hK M9.out.sp li_9.out); clear hL hK; refine Hid.out ?_))
  refine Lib.hid ?_
  have M10 := Lib.hid (L10.out.old (alloc_old (o := .cells #[.int .i64 4, .int .i64 0, .string v, .slice none 0 0] 37)))
  have lax_10 := Lib.hid (blk_below la_10.out (alloc_old (o := .cells #[.int .i64 4, .int .i64 0, .string v, .slice none 0 0] 37)))
  have lbx_10 := Lib.hid (blk_below lb_10.out (alloc_old (o := .cells #[.int .i64 4, .int .i64 0, .string v, .slice none 0 0] 37)))
  have lcx_10 := Lib.hid (blk_below lc_10.out (alloc_old (o := .cells #[.int .i64 4, .int .i64 0, .string v, .slice none 0 0] 37)))
  have ldx_10 := Lib.hid (blk_below ld_10.out (alloc_old (o := .cells #[.int .i64 4, .int .i64 0, .string v, .slice none 0 0] 37)))
  have lex_10 := Lib.hid (blk_below le_10.out (alloc_old (o := .cells #[.int .i64 4, .int .i64 0, .string v, .slice none 0 0] 37)))
  have lfx_10 := Lib.hid (blk_below lf_10.out (alloc_old (o := .cells #[.int .i64 4, .int .i64 0, .string v, .slice none 0 0] 37)))
  have lgx_10 := Lib.hid (blk_below lg_10.out (alloc_old (o := .cells #[.int .i64 4, .int .i64 0, .string v, .slice none 0 0] 37)))
  have lhx_10 := Lib.hid (blk_below lh_10.out (alloc_old (o := .cells #[.int .i64 4, .int .i64 0, .string v, .slice none 0 0] 37)))
  have lix_10 := Lib.hid (blk_below li_10.out (alloc_old (o := .cells #[.int .i64 4, .int .i64 0, .string v, .slice none 0 0] 37)))
  have lj_10 := Lib.hid (heap_alloc_new v10 (.cells #[.int .i64 4, .int .i64 0, .string v, .slice none 0 0] 37))
  have TO := Lib.hid (told8 (v10.alloc (.cells #[.int .i64 4, .int .i64 0, .string v, .slice none 0 0] 37)) (hT.at_ M10.out.below))
  go_wp2_with (first | (go_at_call 8; (with_reducible refine (TO.out).mono ?_); rintro e x1 ⟨rfl, hb⟩; have T1 := Lib.hid (M10.out.old hb); have laq := Lib.hid (blk_below lax_10.out hb); have lbq := Lib.hid (blk_below lbx_10.out hb); have lcq := Lib.hid (blk_below lcx_10.out hb); have ldq := Lib.hid (blk_below ldx_10.out hb); have leq := Lib.hid (blk_below lex_10.out hb); have lfq := Lib.hid (blk_below lfx_10.out hb); have lgq := Lib.hid (blk_below lgx_10.out hb); have lhq := Lib.hid (blk_below lhx_10.out hb); have liq := Lib.hid (blk_below lix_10.out hb); have ljq := Lib.hid (blk_below lj_10.out hb); obtain ⟨⟨la0, la1, la2, la3⟩, _⟩ := cells4 laq.out; obtain ⟨⟨lb0, lb1, lb2, lb3⟩, _⟩ := cells4 lbq.out; obtain ⟨⟨lc0, lc1, lc2, lc3⟩, _⟩ := cells4 lcq.out; obtain ⟨⟨ld0, ld1, ld2, ld3⟩, _⟩ := cells4 ldq.out; obtain ⟨⟨le0, le1, le2, le3⟩, _⟩ := cells4 leq.out; obtain ⟨⟨lf0, lf1, lf2, lf3⟩, _⟩ := cells4 lfq.out; obtain ⟨⟨lg0, lg1, lg2, lg3⟩, _⟩ := cells4 lgq.out; obtain ⟨⟨lh0, lh1, lh2, lh3⟩, _⟩ := cells4 lhq.out; obtain ⟨⟨li0, li1, li2, li3⟩, _⟩ := cells4 liq.out; obtain ⟨⟨lj0, lj1, lj2, lj3⟩, _⟩ := cells4 ljq.out; clear hb; have DG := Lib.hid (s_none w0 bS bM x1 T1.out _ rfl); refine Hid.out ?_))
  refine Lib.hid ?_
  have o3 : ¬ 9223372036854775807 < cL.size + d.size := by { have := HC.out; omega }
  go_wp2_with (first | (go_at_call 11; (with_reducible refine (DG.out).mono ?_); rintro e x2 ⟨rfl, hL, hK⟩; have T2 := Lib.hid hL; clear hL hK))
  go_ret
  exact ⟨by simp, T2.out.below⟩
set_option maxRecDepth 100000 in
set_option maxHeartbeats 16000000 in
theorem set_nwlt (v : ByteArray) (hv : v.size ≤ 300) (at_ : Int) (p : Nat) (hp : p ≤ v.size) (hk : wrap64 ((IntKind.u64.wrap at_).tmod ((v.size : Int) + 1)) = (p : Int)) (d : ByteArray) (hd : v.extract p v.size = d) (hds : d.size ≤ 300) (hz : ((p : Int) == 0) = false) (hp0 : 0 < p) (w t x1 y1 : ByteArray) (hw : w.size ≤ 300) (hw0 : 0 < w.size) (hwe : w.toList.isEmpty = false) (hvw : v ++ w = t) (htN : (t.size : Int) = (v.size : Int) + (w.size : Int)) (hy1 : x1 ++ w = y1) (hys : y1.size ≤ 1000) (hxs : x1.size ≤ 1000) (hsl1 : ∀ X, (Instr.slice 9 (.string t) none (some (.int .i64 (p : Int))) none).run Tryz.prog X = .ok (.string x1) X) (x2 T : ByteArray) (hx2 : x2.size ≤ 1000) (hlt : (y1.size : Int) < (v.size : Int) + (w.size : Int)) (hsl2 : ∀ X, (Instr.slice 9 (.string t) (some (.int .i64 (y1.size : Int))) none none).run Tryz.prog X = .ok (.string x2) X) (hy2 : y1 ++ x2 = T) (hT2 : ovT t w p = T) (hTs : T.size = t.size) (w0 : World) (hT : Tab w0) : Calls Tryz.prog 6 #[.string v, .string w, .int .i64 at_] w0 fun e w' => e = .returned (.bool true) ∧ Below w0.heap.size w0 w' := by
  have fK := field_K
  have fN := field_N
  have fS := field_S
  have g1 : ¬ (300 : Int) < (v.size : Int) := by omega
  have g2 : ¬ (300 : Int) < (w.size : Int) := by omega
  have wsum := n_sum hv hw
  have wn1 := n_one hv
  have wn2 := n_oneU hv
  have wk1 := n_back hv hp
  have hI1 := i_back hv hp
  have hI2 := i_at hv hp
  have HtN := Lib.hid htN
  have HTs := Lib.hid hTs
  have HT2 := Lib.hid hT2
  clear htN hTs hT2
  have o1 : ¬ 9223372036854775807 < x1.size + w.size := by omega
  have o2 : ¬ 9223372036854775807 < y1.size + x2.size := by omega
  have NW := Lib.hid (New9 w0)
  go_enter Tryz.func6, Tryz.ntmps6
  go_wp2_with (first | (go_at_call 9; (with_reducible refine (NW.out).mono ?_); rintro e v0 ⟨bS, bM, rfl, hS0, hbS, hbM, hB0⟩; have L0 := Lib.hid (LW.mk hS0 hB0 hbS hbM); clear hS0 hbS hbM hB0; refine Hid.out ?_))
  refine Lib.hid ?_
  have D1 := Lib.hid (s_set w0 bS bM v hv (v0) L0.out (v0.heap.size) rfl)
  go_wp2_with (first | (go_at_call 11; (with_reducible refine (D1.out).mono ?_); rintro e v1 ⟨rfl, hL, hK⟩; have L1 := Lib.hid hL; clear hL hK; refine Hid.out ?_))
  refine Lib.hid ?_
  have M1 := Lib.hid (L1.out.old (alloc_old (o := .cells #[.int .i64 1, .int .i64 0, .string ⟨#[79, 75]⟩, .slice none 0 0] 37)))
  have la_1 := Lib.hid (heap_alloc_new v1 (.cells #[.int .i64 1, .int .i64 0, .string ⟨#[79, 75]⟩, .slice none 0 0] 37))
  have D2 := Lib.hid (s_get w0 bS bM v (v1.alloc (.cells #[.int .i64 1, .int .i64 0, .string ⟨#[79, 75]⟩, .slice none 0 0] 37)) M1.out (v1.heap.size + 1) (by simp))
  go_wp2_with (first | (go_at_call 11; (with_reducible refine (D2.out).mono ?_); rintro e v2 ⟨rfl, hL, hK⟩; have L2 := Lib.hid hL; have la_2 := Lib.hid (keep37 hK M1.out.sp la_1.out); clear hL hK; refine Hid.out ?_))
  refine Lib.hid ?_
  have M2 := Lib.hid (L2.out.old (alloc_old (o := .cells #[.int .i64 4, .int .i64 0, .string v, .slice none 0 0] 37)))
  have lax_2 := Lib.hid (blk_below la_2.out (alloc_old (o := .cells #[.int .i64 4, .int .i64 0, .string v, .slice none 0 0] 37)))
  have lb_2 := Lib.hid (heap_alloc_new v2 (.cells #[.int .i64 4, .int .i64 0, .string v, .slice none 0 0] 37))
  have U1 := Lib.hid (Number13 hT ((p : Int) - 1) hI1 (v2.alloc (.cells #[.int .i64 4, .int .i64 0, .string v, .slice none 0 0] 37)) M2.out.below)
  go_wp2_with (first | (go_at_call 13; (with_reducible refine (U1.out).mono ?_); rintro e u1 ⟨rfl, hb⟩; have K1 := Lib.hid (M2.out.old hb); have lan_1 := Lib.hid (blk_below lax_2.out hb); have lbn_1 := Lib.hid (blk_below lb_2.out hb); clear hb; refine Hid.out ?_))
  refine Lib.hid ?_
  have D3 := Lib.hid (s_left w0 bS bM v hv p hp (u1) K1.out (u1.heap.size) rfl)
  go_wp2_with (first | (go_at_call 11; (with_reducible refine (D3.out).mono ?_); rintro e v3 ⟨cL, rfl, hcL, hcs, hL, hK⟩; have L3 := Lib.hid hL; have la_3 := Lib.hid (keep37 hK K1.out.sp lan_1.out); have lb_3 := Lib.hid (keep37 hK K1.out.sp lbn_1.out); have hj : cL ++ d = v := by { rw [hcL hp0, ← hd]; exact ext_join v p hp }; have HC := Lib.hid hcs; clear hcL hcs; clear hL hK; refine Hid.out ?_))
  refine Lib.hid ?_
  have M3 := Lib.hid (L3.out.old (alloc_old (o := .cells #[.int .i64 4, .int .i64 0, .string cL, .slice none 0 0] 37)))
  have lax_3 := Lib.hid (blk_below la_3.out (alloc_old (o := .cells #[.int .i64 4, .int .i64 0, .string cL, .slice none 0 0] 37)))
  have lbx_3 := Lib.hid (blk_below lb_3.out (alloc_old (o := .cells #[.int .i64 4, .int .i64 0, .string cL, .slice none 0 0] 37)))
  have lc_3 := Lib.hid (heap_alloc_new v3 (.cells #[.int .i64 4, .int .i64 0, .string cL, .slice none 0 0] 37))
  have U2 := Lib.hid (Number13 hT (p : Int) hI2 (v3.alloc (.cells #[.int .i64 4, .int .i64 0, .string cL, .slice none 0 0] 37)) M3.out.below)
  go_wp2_with (first | (go_at_call 13; (with_reducible refine (U2.out).mono ?_); rintro e u2 ⟨rfl, hb⟩; have K2 := Lib.hid (M3.out.old hb); have lan_2 := Lib.hid (blk_below lax_3.out hb); have lbn_2 := Lib.hid (blk_below lbx_3.out hb); have lcn_2 := Lib.hid (blk_below lc_3.out hb); clear hb; refine Hid.out ?_))
  refine Lib.hid ?_
  have D4 := Lib.hid (s_right w0 bS bM v d hv p hp hd (u2) K2.out (u2.heap.size) rfl)
  go_wp2_with (first | (go_at_call 11; (with_reducible refine (D4.out).mono ?_); rintro e v4 ⟨rfl, hL, hK⟩; have L4 := Lib.hid hL; have la_4 := Lib.hid (keep37 hK K2.out.sp lan_2.out); have lb_4 := Lib.hid (keep37 hK K2.out.sp lbn_2.out); have lc_4 := Lib.hid (keep37 hK K2.out.sp lcn_2.out); clear hL hK; refine Hid.out ?_))
  refine Lib.hid ?_
  have M4 := Lib.hid (L4.out.old (alloc_old (o := .cells #[.int .i64 4, .int .i64 0, .string d, .slice none 0 0] 37)))
  have lax_4 := Lib.hid (blk_below la_4.out (alloc_old (o := .cells #[.int .i64 4, .int .i64 0, .string d, .slice none 0 0] 37)))
  have lbx_4 := Lib.hid (blk_below lb_4.out (alloc_old (o := .cells #[.int .i64 4, .int .i64 0, .string d, .slice none 0 0] 37)))
  have lcx_4 := Lib.hid (blk_below lc_4.out (alloc_old (o := .cells #[.int .i64 4, .int .i64 0, .string d, .slice none 0 0] 37)))
  have ld_4 := Lib.hid (heap_alloc_new v4 (.cells #[.int .i64 4, .int .i64 0, .string d, .slice none 0 0] 37))
  obtain ⟨⟨la0, la1, la2, la3⟩, _⟩ := cells4 lax_4.out
  obtain ⟨⟨lb0, lb1, lb2, lb3⟩, _⟩ := cells4 lbx_4.out
  obtain ⟨⟨lc0, lc1, lc2, lc3⟩, _⟩ := cells4 lcx_4.out
  obtain ⟨⟨ld0, ld1, ld2, ld3⟩, _⟩ := cells4 ld_4.out
  have D5 := Lib.hid (s_app w0 bS bM v w t ((v.size : Int) + (w.size : Int)) rfl hvw hv hw (v4.alloc (.cells #[.int .i64 4, .int .i64 0, .string d, .slice none 0 0] 37)) M4.out (v4.heap.size + 1) (by simp))
  go_wp2_with (first | (go_at_call 11; (with_reducible refine (D5.out).mono ?_); rintro e v5 ⟨rfl, hL, hK⟩; have L5 := Lib.hid hL; have la_5 := Lib.hid (keep37 hK M4.out.sp lax_4.out); have lb_5 := Lib.hid (keep37 hK M4.out.sp lbx_4.out); have lc_5 := Lib.hid (keep37 hK M4.out.sp lcx_4.out); have ld_5 := Lib.hid (keep37 hK M4.out.sp ld_4.out); clear hL hK; refine Hid.out ?_))
  refine Lib.hid ?_
  have M5 := Lib.hid (L5.out.old (alloc_old (o := .cells #[.int .i64 3, .int .i64 ((v.size : Int) + (w.size : Int)), .string ⟨#[]⟩, .slice none 0 0] 37)))
  have lax_5 := Lib.hid (blk_below la_5.out (alloc_old (o := .cells #[.int .i64 3, .int .i64 ((v.size : Int) + (w.size : Int)), .string ⟨#[]⟩, .slice none 0 0] 37)))
  have lbx_5 := Lib.hid (blk_below lb_5.out (alloc_old (o := .cells #[.int .i64 3, .int .i64 ((v.size : Int) + (w.size : Int)), .string ⟨#[]⟩, .slice none 0 0] 37)))
  have lcx_5 := Lib.hid (blk_below lc_5.out (alloc_old (o := .cells #[.int .i64 3, .int .i64 ((v.size : Int) + (w.size : Int)), .string ⟨#[]⟩, .slice none 0 0] 37)))
  have ldx_5 := Lib.hid (blk_below ld_5.out (alloc_old (o := .cells #[.int .i64 3, .int .i64 ((v.size : Int) + (w.size : Int)), .string ⟨#[]⟩, .slice none 0 0] 37)))
  have le_5 := Lib.hid (heap_alloc_new v5 (.cells #[.int .i64 3, .int .i64 ((v.size : Int) + (w.size : Int)), .string ⟨#[]⟩, .slice none 0 0] 37))
  have D6 := Lib.hid (s_get w0 bS bM t (v5.alloc (.cells #[.int .i64 3, .int .i64 ((v.size : Int) + (w.size : Int)), .string ⟨#[]⟩, .slice none 0 0] 37)) M5.out (v5.heap.size + 1) (by simp))
  go_wp2_with (first | (go_at_call 11; (with_reducible refine (D6.out).mono ?_); rintro e v6 ⟨rfl, hL, hK⟩; have L6 := Lib.hid hL; have la_6 := Lib.hid (keep37 hK M5.out.sp lax_5.out); have lb_6 := Lib.hid (keep37 hK M5.out.sp lbx_5.out); have lc_6 := Lib.hid (keep37 hK M5.out.sp lcx_5.out); have ld_6 := Lib.hid (keep37 hK M5.out.sp ldx_5.out); have le_6 := Lib.hid (keep37 hK M5.out.sp le_5.out); clear hL hK; refine Hid.out ?_))
  refine Lib.hid ?_
  have M6 := Lib.hid (L6.out.old (alloc_old (o := .cells #[.int .i64 4, .int .i64 0, .string t, .slice none 0 0] 37)))
  have lax_6 := Lib.hid (blk_below la_6.out (alloc_old (o := .cells #[.int .i64 4, .int .i64 0, .string t, .slice none 0 0] 37)))
  have lbx_6 := Lib.hid (blk_below lb_6.out (alloc_old (o := .cells #[.int .i64 4, .int .i64 0, .string t, .slice none 0 0] 37)))
  have lcx_6 := Lib.hid (blk_below lc_6.out (alloc_old (o := .cells #[.int .i64 4, .int .i64 0, .string t, .slice none 0 0] 37)))
  have ldx_6 := Lib.hid (blk_below ld_6.out (alloc_old (o := .cells #[.int .i64 4, .int .i64 0, .string t, .slice none 0 0] 37)))
  have lex_6 := Lib.hid (blk_below le_6.out (alloc_old (o := .cells #[.int .i64 4, .int .i64 0, .string t, .slice none 0 0] 37)))
  have lf_6 := Lib.hid (heap_alloc_new v6 (.cells #[.int .i64 4, .int .i64 0, .string t, .slice none 0 0] 37))
  have D7 := Lib.hid (s_len w0 bS bM t ((v.size : Int) + (w.size : Int)) HtN.out (v6.alloc (.cells #[.int .i64 4, .int .i64 0, .string t, .slice none 0 0] 37)) M6.out (v6.heap.size + 1) (by simp))
  go_wp2_with (first | (go_at_call 11; (with_reducible refine (D7.out).mono ?_); rintro e v7 ⟨rfl, hL, hK⟩; have L7 := Lib.hid hL; have la_7 := Lib.hid (keep37 hK M6.out.sp lax_6.out); have lb_7 := Lib.hid (keep37 hK M6.out.sp lbx_6.out); have lc_7 := Lib.hid (keep37 hK M6.out.sp lcx_6.out); have ld_7 := Lib.hid (keep37 hK M6.out.sp ldx_6.out); have le_7 := Lib.hid (keep37 hK M6.out.sp lex_6.out); have lf_7 := Lib.hid (keep37 hK M6.out.sp lf_6.out); clear hL hK; refine Hid.out ?_))
  refine Lib.hid ?_
  have M7 := Lib.hid (L7.out.old (alloc_old (o := .cells #[.int .i64 3, .int .i64 ((v.size : Int) + (w.size : Int)), .string ⟨#[]⟩, .slice none 0 0] 37)))
  have lax_7 := Lib.hid (blk_below la_7.out (alloc_old (o := .cells #[.int .i64 3, .int .i64 ((v.size : Int) + (w.size : Int)), .string ⟨#[]⟩, .slice none 0 0] 37)))
  have lbx_7 := Lib.hid (blk_below lb_7.out (alloc_old (o := .cells #[.int .i64 3, .int .i64 ((v.size : Int) + (w.size : Int)), .string ⟨#[]⟩, .slice none 0 0] 37)))
  have lcx_7 := Lib.hid (blk_below lc_7.out (alloc_old (o := .cells #[.int .i64 3, .int .i64 ((v.size : Int) + (w.size : Int)), .string ⟨#[]⟩, .slice none 0 0] 37)))
  have ldx_7 := Lib.hid (blk_below ld_7.out (alloc_old (o := .cells #[.int .i64 3, .int .i64 ((v.size : Int) + (w.size : Int)), .string ⟨#[]⟩, .slice none 0 0] 37)))
  have lex_7 := Lib.hid (blk_below le_7.out (alloc_old (o := .cells #[.int .i64 3, .int .i64 ((v.size : Int) + (w.size : Int)), .string ⟨#[]⟩, .slice none 0 0] 37)))
  have lfx_7 := Lib.hid (blk_below lf_7.out (alloc_old (o := .cells #[.int .i64 3, .int .i64 ((v.size : Int) + (w.size : Int)), .string ⟨#[]⟩, .slice none 0 0] 37)))
  have lg_7 := Lib.hid (heap_alloc_new v7 (.cells #[.int .i64 3, .int .i64 ((v.size : Int) + (w.size : Int)), .string ⟨#[]⟩, .slice none 0 0] 37))
  have U3 := Lib.hid (Number13 hT (p : Int) hI2 (v7.alloc (.cells #[.int .i64 3, .int .i64 ((v.size : Int) + (w.size : Int)), .string ⟨#[]⟩, .slice none 0 0] 37)) M7.out.below)
  go_wp2_with (first | (go_at_call 13; (with_reducible refine (U3.out).mono ?_); rintro e u3 ⟨rfl, hb⟩; have K3 := Lib.hid (M7.out.old hb); have lan_3 := Lib.hid (blk_below lax_7.out hb); have lbn_3 := Lib.hid (blk_below lbx_7.out hb); have lcn_3 := Lib.hid (blk_below lcx_7.out hb); have ldn_3 := Lib.hid (blk_below ldx_7.out hb); have len_3 := Lib.hid (blk_below lex_7.out hb); have lfn_3 := Lib.hid (blk_below lfx_7.out hb); have lgn_3 := Lib.hid (blk_below lg_7.out hb); clear hb; refine Hid.out ?_))
  refine Lib.hid ?_
  have D8 := Lib.hid (s_over w0 bS bM t w T p (by have := HtN.out; omega) hw0 hw (by have := HtN.out; omega) HT2.out HTs.out (u3) K3.out (u3.heap.size) rfl)
  go_wp2_with (first | (go_at_call 11; (with_reducible refine (D8.out).mono ?_); rintro e v8 ⟨rfl, hL, hK⟩; have L8 := Lib.hid hL; have la_8 := Lib.hid (keep37 hK K3.out.sp lan_3.out); have lb_8 := Lib.hid (keep37 hK K3.out.sp lbn_3.out); have lc_8 := Lib.hid (keep37 hK K3.out.sp lcn_3.out); have ld_8 := Lib.hid (keep37 hK K3.out.sp ldn_3.out); have le_8 := Lib.hid (keep37 hK K3.out.sp len_3.out); have lf_8 := Lib.hid (keep37 hK K3.out.sp lfn_3.out); have lg_8 := Lib.hid (keep37 hK K3.out.sp lgn_3.out); clear hL hK; refine Hid.out ?_))
  refine Lib.hid ?_
  have M8 := Lib.hid (L8.out.old (alloc_old (o := .cells #[.int .i64 3, .int .i64 (T.size : Int), .string ⟨#[]⟩, .slice none 0 0] 37)))
  have lax_8 := Lib.hid (blk_below la_8.out (alloc_old (o := .cells #[.int .i64 3, .int .i64 (T.size : Int), .string ⟨#[]⟩, .slice none 0 0] 37)))
  have lbx_8 := Lib.hid (blk_below lb_8.out (alloc_old (o := .cells #[.int .i64 3, .int .i64 (T.size : Int), .string ⟨#[]⟩, .slice none 0 0] 37)))
  have lcx_8 := Lib.hid (blk_below lc_8.out (alloc_old (o := .cells #[.int .i64 3, .int .i64 (T.size : Int), .string ⟨#[]⟩, .slice none 0 0] 37)))
  have ldx_8 := Lib.hid (blk_below ld_8.out (alloc_old (o := .cells #[.int .i64 3, .int .i64 (T.size : Int), .string ⟨#[]⟩, .slice none 0 0] 37)))
  have lex_8 := Lib.hid (blk_below le_8.out (alloc_old (o := .cells #[.int .i64 3, .int .i64 (T.size : Int), .string ⟨#[]⟩, .slice none 0 0] 37)))
  have lfx_8 := Lib.hid (blk_below lf_8.out (alloc_old (o := .cells #[.int .i64 3, .int .i64 (T.size : Int), .string ⟨#[]⟩, .slice none 0 0] 37)))
  have lgx_8 := Lib.hid (blk_below lg_8.out (alloc_old (o := .cells #[.int .i64 3, .int .i64 (T.size : Int), .string ⟨#[]⟩, .slice none 0 0] 37)))
  have lh_8 := Lib.hid (heap_alloc_new v8 (.cells #[.int .i64 3, .int .i64 (T.size : Int), .string ⟨#[]⟩, .slice none 0 0] 37))
  have D9 := Lib.hid (s_get w0 bS bM T (v8.alloc (.cells #[.int .i64 3, .int .i64 (T.size : Int), .string ⟨#[]⟩, .slice none 0 0] 37)) M8.out (v8.heap.size + 1) (by simp))
  go_wp2_with (first | (go_at_call 11; (with_reducible refine (D9.out).mono ?_); rintro e v9 ⟨rfl, hL, hK⟩; have L9 := Lib.hid hL; have la_9 := Lib.hid (keep37 hK M8.out.sp lax_8.out); have lb_9 := Lib.hid (keep37 hK M8.out.sp lbx_8.out); have lc_9 := Lib.hid (keep37 hK M8.out.sp lcx_8.out); have ld_9 := Lib.hid (keep37 hK M8.out.sp ldx_8.out); have le_9 := Lib.hid (keep37 hK M8.out.sp lex_8.out); have lf_9 := Lib.hid (keep37 hK M8.out.sp lfx_8.out); have lg_9 := Lib.hid (keep37 hK M8.out.sp lgx_8.out); have lh_9 := Lib.hid (keep37 hK M8.out.sp lh_8.out); clear hL hK; refine Hid.out ?_))
  refine Lib.hid ?_
  have M9 := Lib.hid (L9.out.old (alloc_old (o := .cells #[.int .i64 4, .int .i64 0, .string T, .slice none 0 0] 37)))
  have lax_9 := Lib.hid (blk_below la_9.out (alloc_old (o := .cells #[.int .i64 4, .int .i64 0, .string T, .slice none 0 0] 37)))
  have lbx_9 := Lib.hid (blk_below lb_9.out (alloc_old (o := .cells #[.int .i64 4, .int .i64 0, .string T, .slice none 0 0] 37)))
  have lcx_9 := Lib.hid (blk_below lc_9.out (alloc_old (o := .cells #[.int .i64 4, .int .i64 0, .string T, .slice none 0 0] 37)))
  have ldx_9 := Lib.hid (blk_below ld_9.out (alloc_old (o := .cells #[.int .i64 4, .int .i64 0, .string T, .slice none 0 0] 37)))
  have lex_9 := Lib.hid (blk_below le_9.out (alloc_old (o := .cells #[.int .i64 4, .int .i64 0, .string T, .slice none 0 0] 37)))
  have lfx_9 := Lib.hid (blk_below lf_9.out (alloc_old (o := .cells #[.int .i64 4, .int .i64 0, .string T, .slice none 0 0] 37)))
  have lgx_9 := Lib.hid (blk_below lg_9.out (alloc_old (o := .cells #[.int .i64 4, .int .i64 0, .string T, .slice none 0 0] 37)))
  have lhx_9 := Lib.hid (blk_below lh_9.out (alloc_old (o := .cells #[.int .i64 4, .int .i64 0, .string T, .slice none 0 0] 37)))
  have li_9 := Lib.hid (heap_alloc_new v9 (.cells #[.int .i64 4, .int .i64 0, .string T, .slice none 0 0] 37))
  have D10 := Lib.hid (s_del w0 bS bM T (by have := HtN.out; have := HTs.out; omega) (v9.alloc (.cells #[.int .i64 4, .int .i64 0, .string T, .slice none 0 0] 37)) M9.out (v9.heap.size + 1) (by simp))
  go_wp2_with (first | (go_at_call 11; (with_reducible refine (D10.out).mono ?_); rintro e v10 ⟨rfl, hL, hK⟩; have L10 := Lib.hid hL; have la_10 := Lib.hid (keep37 hK M9.out.sp lax_9.out); have lb_10 := Lib.hid (keep37 hK M9.out.sp lbx_9.out); have lc_10 := Lib.hid (keep37 hK M9.out.sp lcx_9.out); have ld_10 := Lib.hid (keep37 hK M9.out.sp ldx_9.out); have le_10 := Lib.hid (keep37 hK M9.out.sp lex_9.out); have lf_10 := Lib.hid (keep37 hK M9.out.sp lfx_9.out); have lg_10 := Lib.hid (keep37 hK M9.out.sp lgx_9.out); have lh_10 := Lib.hid (keep37 hK M9.out.sp lhx_9.out); have li_10 := Lib.hid (keep37 hK M9.out.sp li_9.out); clear hL hK; refine Hid.out ?_))
  refine Lib.hid ?_
  have M10 := Lib.hid (L10.out.old (alloc_old (o := .cells #[.int .i64 4, .int .i64 0, .string T, .slice none 0 0] 37)))
  have lax_10 := Lib.hid (blk_below la_10.out (alloc_old (o := .cells #[.int .i64 4, .int .i64 0, .string T, .slice none 0 0] 37)))
  have lbx_10 := Lib.hid (blk_below lb_10.out (alloc_old (o := .cells #[.int .i64 4, .int .i64 0, .string T, .slice none 0 0] 37)))
  have lcx_10 := Lib.hid (blk_below lc_10.out (alloc_old (o := .cells #[.int .i64 4, .int .i64 0, .string T, .slice none 0 0] 37)))
  have ldx_10 := Lib.hid (blk_below ld_10.out (alloc_old (o := .cells #[.int .i64 4, .int .i64 0, .string T, .slice none 0 0] 37)))
  have lex_10 := Lib.hid (blk_below le_10.out (alloc_old (o := .cells #[.int .i64 4, .int .i64 0, .string T, .slice none 0 0] 37)))
  have lfx_10 := Lib.hid (blk_below lf_10.out (alloc_old (o := .cells #[.int .i64 4, .int .i64 0, .string T, .slice none 0 0] 37)))
  have lgx_10 := Lib.hid (blk_below lg_10.out (alloc_old (o := .cells #[.int .i64 4, .int .i64 0, .string T, .slice none 0 0] 37)))
  have lhx_10 := Lib.hid (blk_below lh_10.out (alloc_old (o := .cells #[.int .i64 4, .int .i64 0, .string T, .slice none 0 0] 37)))
  have lix_10 := Lib.hid (blk_below li_10.out (alloc_old (o := .cells #[.int .i64 4, .int .i64 0, .string T, .slice none 0 0] 37)))
  have lj_10 := Lib.hid (heap_alloc_new v10 (.cells #[.int .i64 4, .int .i64 0, .string T, .slice none 0 0] 37))
  have TO := Lib.hid (told8 (v10.alloc (.cells #[.int .i64 4, .int .i64 0, .string T, .slice none 0 0] 37)) (hT.at_ M10.out.below))
  go_wp2_with (first | (go_at_call 8; (with_reducible refine (TO.out).mono ?_); rintro e x1 ⟨rfl, hb⟩; have T1 := Lib.hid (M10.out.old hb); have laq := Lib.hid (blk_below lax_10.out hb); have lbq := Lib.hid (blk_below lbx_10.out hb); have lcq := Lib.hid (blk_below lcx_10.out hb); have ldq := Lib.hid (blk_below ldx_10.out hb); have leq := Lib.hid (blk_below lex_10.out hb); have lfq := Lib.hid (blk_below lfx_10.out hb); have lgq := Lib.hid (blk_below lgx_10.out hb); have lhq := Lib.hid (blk_below lhx_10.out hb); have liq := Lib.hid (blk_below lix_10.out hb); have ljq := Lib.hid (blk_below lj_10.out hb); obtain ⟨⟨la0, la1, la2, la3⟩, _⟩ := cells4 laq.out; obtain ⟨⟨lb0, lb1, lb2, lb3⟩, _⟩ := cells4 lbq.out; obtain ⟨⟨lc0, lc1, lc2, lc3⟩, _⟩ := cells4 lcq.out; obtain ⟨⟨ld0, ld1, ld2, ld3⟩, _⟩ := cells4 ldq.out; obtain ⟨⟨le0, le1, le2, le3⟩, _⟩ := cells4 leq.out; obtain ⟨⟨lf0, lf1, lf2, lf3⟩, _⟩ := cells4 lfq.out; obtain ⟨⟨lg0, lg1, lg2, lg3⟩, _⟩ := cells4 lgq.out; obtain ⟨⟨lh0, lh1, lh2, lh3⟩, _⟩ := cells4 lhq.out; obtain ⟨⟨li0, li1, li2, li3⟩, _⟩ := cells4 liq.out; obtain ⟨⟨lj0, lj1, lj2, lj3⟩, _⟩ := cells4 ljq.out; clear hb; have DG := Lib.hid (s_none w0 bS bM x1 T1.out _ rfl); refine Hid.out ?_))
  refine Lib.hid ?_
  have o3 : ¬ 9223372036854775807 < cL.size + d.size := by { have := HC.out; omega }
  go_wp2_with (first | (go_at_call 11; (with_reducible refine (DG.out).mono ?_); rintro e x2 ⟨rfl, hL, hK⟩; have T2 := Lib.hid hL; clear hL hK))
  go_ret
  exact ⟨by simp, T2.out.below⟩
set_option maxRecDepth 100000 in
set_option maxHeartbeats 16000000 in
theorem set_nweq (v : ByteArray) (hv : v.size ≤ 300) (at_ : Int) (p : Nat) (hp : p ≤ v.size) (hk : wrap64 ((IntKind.u64.wrap at_).tmod ((v.size : Int) + 1)) = (p : Int)) (d : ByteArray) (hd : v.extract p v.size = d) (hds : d.size ≤ 300) (hz : ((p : Int) == 0) = false) (hp0 : 0 < p) (w t x1 y1 : ByteArray) (hw : w.size ≤ 300) (hw0 : 0 < w.size) (hwe : w.toList.isEmpty = false) (hvw : v ++ w = t) (htN : (t.size : Int) = (v.size : Int) + (w.size : Int)) (hy1 : x1 ++ w = y1) (hys : y1.size ≤ 1000) (hxs : x1.size ≤ 1000) (hsl1 : ∀ X, (Instr.slice 9 (.string t) none (some (.int .i64 (p : Int))) none).run Tryz.prog X = .ok (.string x1) X) (hlt : ¬ (y1.size : Int) < (v.size : Int) + (w.size : Int)) (hT2 : ovT t w p = y1) (hTs : y1.size = t.size) (w0 : World) (hT : Tab w0) : Calls Tryz.prog 6 #[.string v, .string w, .int .i64 at_] w0 fun e w' => e = .returned (.bool true) ∧ Below w0.heap.size w0 w' := by
  have fK := field_K
  have fN := field_N
  have fS := field_S
  have g1 : ¬ (300 : Int) < (v.size : Int) := by omega
  have g2 : ¬ (300 : Int) < (w.size : Int) := by omega
  have wsum := n_sum hv hw
  have wn1 := n_one hv
  have wn2 := n_oneU hv
  have wk1 := n_back hv hp
  have hI1 := i_back hv hp
  have hI2 := i_at hv hp
  have HtN := Lib.hid htN
  have HTs := Lib.hid hTs
  have HT2 := Lib.hid hT2
  clear htN hTs hT2
  have o1 : ¬ 9223372036854775807 < x1.size + w.size := by omega
  have NW := Lib.hid (New9 w0)
  go_enter Tryz.func6, Tryz.ntmps6
  go_wp2_with (first | (go_at_call 9; (with_reducible refine (NW.out).mono ?_); rintro e v0 ⟨bS, bM, rfl, hS0, hbS, hbM, hB0⟩; have L0 := Lib.hid (LW.mk hS0 hB0 hbS hbM); clear hS0 hbS hbM hB0; refine Hid.out ?_))
  refine Lib.hid ?_
  have D1 := Lib.hid (s_set w0 bS bM v hv (v0) L0.out (v0.heap.size) rfl)
  go_wp2_with (first | (go_at_call 11; (with_reducible refine (D1.out).mono ?_); rintro e v1 ⟨rfl, hL, hK⟩; have L1 := Lib.hid hL; clear hL hK; refine Hid.out ?_))
  refine Lib.hid ?_
  have M1 := Lib.hid (L1.out.old (alloc_old (o := .cells #[.int .i64 1, .int .i64 0, .string ⟨#[79, 75]⟩, .slice none 0 0] 37)))
  have la_1 := Lib.hid (heap_alloc_new v1 (.cells #[.int .i64 1, .int .i64 0, .string ⟨#[79, 75]⟩, .slice none 0 0] 37))
  have D2 := Lib.hid (s_get w0 bS bM v (v1.alloc (.cells #[.int .i64 1, .int .i64 0, .string ⟨#[79, 75]⟩, .slice none 0 0] 37)) M1.out (v1.heap.size + 1) (by simp))
  go_wp2_with (first | (go_at_call 11; (with_reducible refine (D2.out).mono ?_); rintro e v2 ⟨rfl, hL, hK⟩; have L2 := Lib.hid hL; have la_2 := Lib.hid (keep37 hK M1.out.sp la_1.out); clear hL hK; refine Hid.out ?_))
  refine Lib.hid ?_
  have M2 := Lib.hid (L2.out.old (alloc_old (o := .cells #[.int .i64 4, .int .i64 0, .string v, .slice none 0 0] 37)))
  have lax_2 := Lib.hid (blk_below la_2.out (alloc_old (o := .cells #[.int .i64 4, .int .i64 0, .string v, .slice none 0 0] 37)))
  have lb_2 := Lib.hid (heap_alloc_new v2 (.cells #[.int .i64 4, .int .i64 0, .string v, .slice none 0 0] 37))
  have U1 := Lib.hid (Number13 hT ((p : Int) - 1) hI1 (v2.alloc (.cells #[.int .i64 4, .int .i64 0, .string v, .slice none 0 0] 37)) M2.out.below)
  go_wp2_with (first | (go_at_call 13; (with_reducible refine (U1.out).mono ?_); rintro e u1 ⟨rfl, hb⟩; have K1 := Lib.hid (M2.out.old hb); have lan_1 := Lib.hid (blk_below lax_2.out hb); have lbn_1 := Lib.hid (blk_below lb_2.out hb); clear hb; refine Hid.out ?_))
  refine Lib.hid ?_
  have D3 := Lib.hid (s_left w0 bS bM v hv p hp (u1) K1.out (u1.heap.size) rfl)
  go_wp2_with (first | (go_at_call 11; (with_reducible refine (D3.out).mono ?_); rintro e v3 ⟨cL, rfl, hcL, hcs, hL, hK⟩; have L3 := Lib.hid hL; have la_3 := Lib.hid (keep37 hK K1.out.sp lan_1.out); have lb_3 := Lib.hid (keep37 hK K1.out.sp lbn_1.out); have hj : cL ++ d = v := by { rw [hcL hp0, ← hd]; exact ext_join v p hp }; have HC := Lib.hid hcs; clear hcL hcs; clear hL hK; refine Hid.out ?_))
  refine Lib.hid ?_
  have M3 := Lib.hid (L3.out.old (alloc_old (o := .cells #[.int .i64 4, .int .i64 0, .string cL, .slice none 0 0] 37)))
  have lax_3 := Lib.hid (blk_below la_3.out (alloc_old (o := .cells #[.int .i64 4, .int .i64 0, .string cL, .slice none 0 0] 37)))
  have lbx_3 := Lib.hid (blk_below lb_3.out (alloc_old (o := .cells #[.int .i64 4, .int .i64 0, .string cL, .slice none 0 0] 37)))
  have lc_3 := Lib.hid (heap_alloc_new v3 (.cells #[.int .i64 4, .int .i64 0, .string cL, .slice none 0 0] 37))
  have U2 := Lib.hid (Number13 hT (p : Int) hI2 (v3.alloc (.cells #[.int .i64 4, .int .i64 0, .string cL, .slice none 0 0] 37)) M3.out.below)
  go_wp2_with (first | (go_at_call 13; (with_reducible refine (U2.out).mono ?_); rintro e u2 ⟨rfl, hb⟩; have K2 := Lib.hid (M3.out.old hb); have lan_2 := Lib.hid (blk_below lax_3.out hb); have lbn_2 := Lib.hid (blk_below lbx_3.out hb); have lcn_2 := Lib.hid (blk_below lc_3.out hb); clear hb; refine Hid.out ?_))
  refine Lib.hid ?_
  have D4 := Lib.hid (s_right w0 bS bM v d hv p hp hd (u2) K2.out (u2.heap.size) rfl)
  go_wp2_with (first | (go_at_call 11; (with_reducible refine (D4.out).mono ?_); rintro e v4 ⟨rfl, hL, hK⟩; have L4 := Lib.hid hL; have la_4 := Lib.hid (keep37 hK K2.out.sp lan_2.out); have lb_4 := Lib.hid (keep37 hK K2.out.sp lbn_2.out); have lc_4 := Lib.hid (keep37 hK K2.out.sp lcn_2.out); clear hL hK; refine Hid.out ?_))
  refine Lib.hid ?_
  have M4 := Lib.hid (L4.out.old (alloc_old (o := .cells #[.int .i64 4, .int .i64 0, .string d, .slice none 0 0] 37)))
  have lax_4 := Lib.hid (blk_below la_4.out (alloc_old (o := .cells #[.int .i64 4, .int .i64 0, .string d, .slice none 0 0] 37)))
  have lbx_4 := Lib.hid (blk_below lb_4.out (alloc_old (o := .cells #[.int .i64 4, .int .i64 0, .string d, .slice none 0 0] 37)))
  have lcx_4 := Lib.hid (blk_below lc_4.out (alloc_old (o := .cells #[.int .i64 4, .int .i64 0, .string d, .slice none 0 0] 37)))
  have ld_4 := Lib.hid (heap_alloc_new v4 (.cells #[.int .i64 4, .int .i64 0, .string d, .slice none 0 0] 37))
  obtain ⟨⟨la0, la1, la2, la3⟩, _⟩ := cells4 lax_4.out
  obtain ⟨⟨lb0, lb1, lb2, lb3⟩, _⟩ := cells4 lbx_4.out
  obtain ⟨⟨lc0, lc1, lc2, lc3⟩, _⟩ := cells4 lcx_4.out
  obtain ⟨⟨ld0, ld1, ld2, ld3⟩, _⟩ := cells4 ld_4.out
  have D5 := Lib.hid (s_app w0 bS bM v w t ((v.size : Int) + (w.size : Int)) rfl hvw hv hw (v4.alloc (.cells #[.int .i64 4, .int .i64 0, .string d, .slice none 0 0] 37)) M4.out (v4.heap.size + 1) (by simp))
  go_wp2_with (first | (go_at_call 11; (with_reducible refine (D5.out).mono ?_); rintro e v5 ⟨rfl, hL, hK⟩; have L5 := Lib.hid hL; have la_5 := Lib.hid (keep37 hK M4.out.sp lax_4.out); have lb_5 := Lib.hid (keep37 hK M4.out.sp lbx_4.out); have lc_5 := Lib.hid (keep37 hK M4.out.sp lcx_4.out); have ld_5 := Lib.hid (keep37 hK M4.out.sp ld_4.out); clear hL hK; refine Hid.out ?_))
  refine Lib.hid ?_
  have M5 := Lib.hid (L5.out.old (alloc_old (o := .cells #[.int .i64 3, .int .i64 ((v.size : Int) + (w.size : Int)), .string ⟨#[]⟩, .slice none 0 0] 37)))
  have lax_5 := Lib.hid (blk_below la_5.out (alloc_old (o := .cells #[.int .i64 3, .int .i64 ((v.size : Int) + (w.size : Int)), .string ⟨#[]⟩, .slice none 0 0] 37)))
  have lbx_5 := Lib.hid (blk_below lb_5.out (alloc_old (o := .cells #[.int .i64 3, .int .i64 ((v.size : Int) + (w.size : Int)), .string ⟨#[]⟩, .slice none 0 0] 37)))
  have lcx_5 := Lib.hid (blk_below lc_5.out (alloc_old (o := .cells #[.int .i64 3, .int .i64 ((v.size : Int) + (w.size : Int)), .string ⟨#[]⟩, .slice none 0 0] 37)))
  have ldx_5 := Lib.hid (blk_below ld_5.out (alloc_old (o := .cells #[.int .i64 3, .int .i64 ((v.size : Int) + (w.size : Int)), .string ⟨#[]⟩, .slice none 0 0] 37)))
  have le_5 := Lib.hid (heap_alloc_new v5 (.cells #[.int .i64 3, .int .i64 ((v.size : Int) + (w.size : Int)), .string ⟨#[]⟩, .slice none 0 0] 37))
  have D6 := Lib.hid (s_get w0 bS bM t (v5.alloc (.cells #[.int .i64 3, .int .i64 ((v.size : Int) + (w.size : Int)), .string ⟨#[]⟩, .slice none 0 0] 37)) M5.out (v5.heap.size + 1) (by simp))
  go_wp2_with (first | (go_at_call 11; (with_reducible refine (D6.out).mono ?_); rintro e v6 ⟨rfl, hL, hK⟩; have L6 := Lib.hid hL; have la_6 := Lib.hid (keep37 hK M5.out.sp lax_5.out); have lb_6 := Lib.hid (keep37 hK M5.out.sp lbx_5.out); have lc_6 := Lib.hid (keep37 hK M5.out.sp lcx_5.out); have ld_6 := Lib.hid (keep37 hK M5.out.sp ldx_5.out); have le_6 := Lib.hid (keep37 hK M5.out.sp le_5.out); clear hL hK; refine Hid.out ?_))
  refine Lib.hid ?_
  have M6 := Lib.hid (L6.out.old (alloc_old (o := .cells #[.int .i64 4, .int .i64 0, .string t, .slice none 0 0] 37)))
  have lax_6 := Lib.hid (blk_below la_6.out (alloc_old (o := .cells #[.int .i64 4, .int .i64 0, .string t, .slice none 0 0] 37)))
  have lbx_6 := Lib.hid (blk_below lb_6.out (alloc_old (o := .cells #[.int .i64 4, .int .i64 0, .string t, .slice none 0 0] 37)))
  have lcx_6 := Lib.hid (blk_below lc_6.out (alloc_old (o := .cells #[.int .i64 4, .int .i64 0, .string t, .slice none 0 0] 37)))
  have ldx_6 := Lib.hid (blk_below ld_6.out (alloc_old (o := .cells #[.int .i64 4, .int .i64 0, .string t, .slice none 0 0] 37)))
  have lex_6 := Lib.hid (blk_below le_6.out (alloc_old (o := .cells #[.int .i64 4, .int .i64 0, .string t, .slice none 0 0] 37)))
  have lf_6 := Lib.hid (heap_alloc_new v6 (.cells #[.int .i64 4, .int .i64 0, .string t, .slice none 0 0] 37))
  have D7 := Lib.hid (s_len w0 bS bM t ((v.size : Int) + (w.size : Int)) HtN.out (v6.alloc (.cells #[.int .i64 4, .int .i64 0, .string t, .slice none 0 0] 37)) M6.out (v6.heap.size + 1) (by simp))
  go_wp2_with (first | (go_at_call 11; (with_reducible refine (D7.out).mono ?_); rintro e v7 ⟨rfl, hL, hK⟩; have L7 := Lib.hid hL; have la_7 := Lib.hid (keep37 hK M6.out.sp lax_6.out); have lb_7 := Lib.hid (keep37 hK M6.out.sp lbx_6.out); have lc_7 := Lib.hid (keep37 hK M6.out.sp lcx_6.out); have ld_7 := Lib.hid (keep37 hK M6.out.sp ldx_6.out); have le_7 := Lib.hid (keep37 hK M6.out.sp lex_6.out); have lf_7 := Lib.hid (keep37 hK M6.out.sp lf_6.out); clear hL hK; refine Hid.out ?_))
  refine Lib.hid ?_
  have M7 := Lib.hid (L7.out.old (alloc_old (o := .cells #[.int .i64 3, .int .i64 ((v.size : Int) + (w.size : Int)), .string ⟨#[]⟩, .slice none 0 0] 37)))
  have lax_7 := Lib.hid (blk_below la_7.out (alloc_old (o := .cells #[.int .i64 3, .int .i64 ((v.size : Int) + (w.size : Int)), .string ⟨#[]⟩, .slice none 0 0] 37)))
  have lbx_7 := Lib.hid (blk_below lb_7.out (alloc_old (o := .cells #[.int .i64 3, .int .i64 ((v.size : Int) + (w.size : Int)), .string ⟨#[]⟩, .slice none 0 0] 37)))
  have lcx_7 := Lib.hid (blk_below lc_7.out (alloc_old (o := .cells #[.int .i64 3, .int .i64 ((v.size : Int) + (w.size : Int)), .string ⟨#[]⟩, .slice none 0 0] 37)))
  have ldx_7 := Lib.hid (blk_below ld_7.out (alloc_old (o := .cells #[.int .i64 3, .int .i64 ((v.size : Int) + (w.size : Int)), .string ⟨#[]⟩, .slice none 0 0] 37)))
  have lex_7 := Lib.hid (blk_below le_7.out (alloc_old (o := .cells #[.int .i64 3, .int .i64 ((v.size : Int) + (w.size : Int)), .string ⟨#[]⟩, .slice none 0 0] 37)))
  have lfx_7 := Lib.hid (blk_below lf_7.out (alloc_old (o := .cells #[.int .i64 3, .int .i64 ((v.size : Int) + (w.size : Int)), .string ⟨#[]⟩, .slice none 0 0] 37)))
  have lg_7 := Lib.hid (heap_alloc_new v7 (.cells #[.int .i64 3, .int .i64 ((v.size : Int) + (w.size : Int)), .string ⟨#[]⟩, .slice none 0 0] 37))
  have U3 := Lib.hid (Number13 hT (p : Int) hI2 (v7.alloc (.cells #[.int .i64 3, .int .i64 ((v.size : Int) + (w.size : Int)), .string ⟨#[]⟩, .slice none 0 0] 37)) M7.out.below)
  go_wp2_with (first | (go_at_call 13; (with_reducible refine (U3.out).mono ?_); rintro e u3 ⟨rfl, hb⟩; have K3 := Lib.hid (M7.out.old hb); have lan_3 := Lib.hid (blk_below lax_7.out hb); have lbn_3 := Lib.hid (blk_below lbx_7.out hb); have lcn_3 := Lib.hid (blk_below lcx_7.out hb); have ldn_3 := Lib.hid (blk_below ldx_7.out hb); have len_3 := Lib.hid (blk_below lex_7.out hb); have lfn_3 := Lib.hid (blk_below lfx_7.out hb); have lgn_3 := Lib.hid (blk_below lg_7.out hb); clear hb; refine Hid.out ?_))
  refine Lib.hid ?_
  have D8 := Lib.hid (s_over w0 bS bM t w y1 p (by have := HtN.out; omega) hw0 hw (by have := HtN.out; omega) HT2.out HTs.out (u3) K3.out (u3.heap.size) rfl)
  go_wp2_with (first | (go_at_call 11; (with_reducible refine (D8.out).mono ?_); rintro e v8 ⟨rfl, hL, hK⟩; have L8 := Lib.hid hL; have la_8 := Lib.hid (keep37 hK K3.out.sp lan_3.out); have lb_8 := Lib.hid (keep37 hK K3.out.sp lbn_3.out); have lc_8 := Lib.hid (keep37 hK K3.out.sp lcn_3.out); have ld_8 := Lib.hid (keep37 hK K3.out.sp ldn_3.out); have le_8 := Lib.hid (keep37 hK K3.out.sp len_3.out); have lf_8 := Lib.hid (keep37 hK K3.out.sp lfn_3.out); have lg_8 := Lib.hid (keep37 hK K3.out.sp lgn_3.out); clear hL hK; refine Hid.out ?_))
  refine Lib.hid ?_
  have M8 := Lib.hid (L8.out.old (alloc_old (o := .cells #[.int .i64 3, .int .i64 (y1.size : Int), .string ⟨#[]⟩, .slice none 0 0] 37)))
  have lax_8 := Lib.hid (blk_below la_8.out (alloc_old (o := .cells #[.int .i64 3, .int .i64 (y1.size : Int), .string ⟨#[]⟩, .slice none 0 0] 37)))
  have lbx_8 := Lib.hid (blk_below lb_8.out (alloc_old (o := .cells #[.int .i64 3, .int .i64 (y1.size : Int), .string ⟨#[]⟩, .slice none 0 0] 37)))
  have lcx_8 := Lib.hid (blk_below lc_8.out (alloc_old (o := .cells #[.int .i64 3, .int .i64 (y1.size : Int), .string ⟨#[]⟩, .slice none 0 0] 37)))
  have ldx_8 := Lib.hid (blk_below ld_8.out (alloc_old (o := .cells #[.int .i64 3, .int .i64 (y1.size : Int), .string ⟨#[]⟩, .slice none 0 0] 37)))
  have lex_8 := Lib.hid (blk_below le_8.out (alloc_old (o := .cells #[.int .i64 3, .int .i64 (y1.size : Int), .string ⟨#[]⟩, .slice none 0 0] 37)))
  have lfx_8 := Lib.hid (blk_below lf_8.out (alloc_old (o := .cells #[.int .i64 3, .int .i64 (y1.size : Int), .string ⟨#[]⟩, .slice none 0 0] 37)))
  have lgx_8 := Lib.hid (blk_below lg_8.out (alloc_old (o := .cells #[.int .i64 3, .int .i64 (y1.size : Int), .string ⟨#[]⟩, .slice none 0 0] 37)))
  have lh_8 := Lib.hid (heap_alloc_new v8 (.cells #[.int .i64 3, .int .i64 (y1.size : Int), .string ⟨#[]⟩, .slice none 0 0] 37))
  have D9 := Lib.hid (s_get w0 bS bM y1 (v8.alloc (.cells #[.int .i64 3, .int .i64 (y1.size : Int), .string ⟨#[]⟩, .slice none 0 0] 37)) M8.out (v8.heap.size + 1) (by simp))
  go_wp2_with (first | (go_at_call 11; (with_reducible refine (D9.out).mono ?_); rintro e v9 ⟨rfl, hL, hK⟩; have L9 := Lib.hid hL; have la_9 := Lib.hid (keep37 hK M8.out.sp lax_8.out); have lb_9 := Lib.hid (keep37 hK M8.out.sp lbx_8.out); have lc_9 := Lib.hid (keep37 hK M8.out.sp lcx_8.out); have ld_9 := Lib.hid (keep37 hK M8.out.sp ldx_8.out); have le_9 := Lib.hid (keep37 hK M8.out.sp lex_8.out); have lf_9 := Lib.hid (keep37 hK M8.out.sp lfx_8.out); have lg_9 := Lib.hid (keep37 hK M8.out.sp lgx_8.out); have lh_9 := Lib.hid (keep37 hK M8.out.sp lh_8.out); clear hL hK; refine Hid.out ?_))
  refine Lib.hid ?_
  have M9 := Lib.hid (L9.out.old (alloc_old (o := .cells #[.int .i64 4, .int .i64 0, .string y1, .slice none 0 0] 37)))
  have lax_9 := Lib.hid (blk_below la_9.out (alloc_old (o := .cells #[.int .i64 4, .int .i64 0, .string y1, .slice none 0 0] 37)))
  have lbx_9 := Lib.hid (blk_below lb_9.out (alloc_old (o := .cells #[.int .i64 4, .int .i64 0, .string y1, .slice none 0 0] 37)))
  have lcx_9 := Lib.hid (blk_below lc_9.out (alloc_old (o := .cells #[.int .i64 4, .int .i64 0, .string y1, .slice none 0 0] 37)))
  have ldx_9 := Lib.hid (blk_below ld_9.out (alloc_old (o := .cells #[.int .i64 4, .int .i64 0, .string y1, .slice none 0 0] 37)))
  have lex_9 := Lib.hid (blk_below le_9.out (alloc_old (o := .cells #[.int .i64 4, .int .i64 0, .string y1, .slice none 0 0] 37)))
  have lfx_9 := Lib.hid (blk_below lf_9.out (alloc_old (o := .cells #[.int .i64 4, .int .i64 0, .string y1, .slice none 0 0] 37)))
  have lgx_9 := Lib.hid (blk_below lg_9.out (alloc_old (o := .cells #[.int .i64 4, .int .i64 0, .string y1, .slice none 0 0] 37)))
  have lhx_9 := Lib.hid (blk_below lh_9.out (alloc_old (o := .cells #[.int .i64 4, .int .i64 0, .string y1, .slice none 0 0] 37)))
  have li_9 := Lib.hid (heap_alloc_new v9 (.cells #[.int .i64 4, .int .i64 0, .string y1, .slice none 0 0] 37))
  have D10 := Lib.hid (s_del w0 bS bM y1 (by have := HtN.out; have := HTs.out; omega) (v9.alloc (.cells #[.int .i64 4, .int .i64 0, .string y1, .slice none 0 0] 37)) M9.out (v9.heap.size + 1) (by simp))
  go_wp2_with (first | (go_at_call 11; (with_reducible refine (D10.out).mono ?_); rintro e v10 ⟨rfl, hL, hK⟩; have L10 := Lib.hid hL; have la_10 := Lib.hid (keep37 hK M9.out.sp lax_9.out); have lb_10 := Lib.hid (keep37 hK M9.out.sp lbx_9.out); have lc_10 := Lib.hid (keep37 hK M9.out.sp lcx_9.out); have ld_10 := Lib.hid (keep37 hK M9.out.sp ldx_9.out); have le_10 := Lib.hid (keep37 hK M9.out.sp lex_9.out); have lf_10 := Lib.hid (keep37 hK M9.out.sp lfx_9.out); have lg_10 := Lib.hid (keep37 hK M9.out.sp lgx_9.out); have lh_10 := Lib.hid (keep37 hK M9.out.sp lhx_9.out); have li_10 := Lib.hid (keep37 hK M9.out.sp li_9.out); clear hL hK; refine Hid.out ?_))
  refine Lib.hid ?_
  have M10 := Lib.hid (L10.out.old (alloc_old (o := .cells #[.int .i64 4, .int .i64 0, .string y1, .slice none 0 0] 37)))
  have lax_10 := Lib.hid (blk_below la_10.out (alloc_old (o := .cells #[.int .i64 4, .int .i64 0, .string y1, .slice none 0 0] 37)))
  have lbx_10 := Lib.hid (blk_below lb_10.out (alloc_old (o := .cells #[.int .i64 4, .int .i64 0, .string y1, .slice none 0 0] 37)))
  have lcx_10 := Lib.hid (blk_below lc_10.out (alloc_old (o := .cells #[.int .i64 4, .int .i64 0, .string y1, .slice none 0 0] 37)))
  have ldx_10 := Lib.hid (blk_below ld_10.out (alloc_old (o := .cells #[.int .i64 4, .int .i64 0, .string y1, .slice none 0 0] 37)))
  have lex_10 := Lib.hid (blk_below le_10.out (alloc_old (o := .cells #[.int .i64 4, .int .i64 0, .string y1, .slice none 0 0] 37)))
  have lfx_10 := Lib.hid (blk_below lf_10.out (alloc_old (o := .cells #[.int .i64 4, .int .i64 0, .string y1, .slice none 0 0] 37)))
  have lgx_10 := Lib.hid (blk_below lg_10.out (alloc_old (o := .cells #[.int .i64 4, .int .i64 0, .string y1, .slice none 0 0] 37)))
  have lhx_10 := Lib.hid (blk_below lh_10.out (alloc_old (o := .cells #[.int .i64 4, .int .i64 0, .string y1, .slice none 0 0] 37)))
  have lix_10 := Lib.hid (blk_below li_10.out (alloc_old (o := .cells #[.int .i64 4, .int .i64 0, .string y1, .slice none 0 0] 37)))
  have lj_10 := Lib.hid (heap_alloc_new v10 (.cells #[.int .i64 4, .int .i64 0, .string y1, .slice none 0 0] 37))
  have TO := Lib.hid (told8 (v10.alloc (.cells #[.int .i64 4, .int .i64 0, .string y1, .slice none 0 0] 37)) (hT.at_ M10.out.below))
  go_wp2_with (first | (go_at_call 8; (with_reducible refine (TO.out).mono ?_); rintro e x1 ⟨rfl, hb⟩; have T1 := Lib.hid (M10.out.old hb); have laq := Lib.hid (blk_below lax_10.out hb); have lbq := Lib.hid (blk_below lbx_10.out hb); have lcq := Lib.hid (blk_below lcx_10.out hb); have ldq := Lib.hid (blk_below ldx_10.out hb); have leq := Lib.hid (blk_below lex_10.out hb); have lfq := Lib.hid (blk_below lfx_10.out hb); have lgq := Lib.hid (blk_below lgx_10.out hb); have lhq := Lib.hid (blk_below lhx_10.out hb); have liq := Lib.hid (blk_below lix_10.out hb); have ljq := Lib.hid (blk_below lj_10.out hb); obtain ⟨⟨la0, la1, la2, la3⟩, _⟩ := cells4 laq.out; obtain ⟨⟨lb0, lb1, lb2, lb3⟩, _⟩ := cells4 lbq.out; obtain ⟨⟨lc0, lc1, lc2, lc3⟩, _⟩ := cells4 lcq.out; obtain ⟨⟨ld0, ld1, ld2, ld3⟩, _⟩ := cells4 ldq.out; obtain ⟨⟨le0, le1, le2, le3⟩, _⟩ := cells4 leq.out; obtain ⟨⟨lf0, lf1, lf2, lf3⟩, _⟩ := cells4 lfq.out; obtain ⟨⟨lg0, lg1, lg2, lg3⟩, _⟩ := cells4 lgq.out; obtain ⟨⟨lh0, lh1, lh2, lh3⟩, _⟩ := cells4 lhq.out; obtain ⟨⟨li0, li1, li2, li3⟩, _⟩ := cells4 liq.out; obtain ⟨⟨lj0, lj1, lj2, lj3⟩, _⟩ := cells4 ljq.out; clear hb; have DG := Lib.hid (s_none w0 bS bM x1 T1.out _ rfl); refine Hid.out ?_))
  refine Lib.hid ?_
  have o3 : ¬ 9223372036854775807 < cL.size + d.size := by { have := HC.out; omega }
  go_wp2_with (first | (go_at_call 11; (with_reducible refine (DG.out).mono ?_); rintro e x2 ⟨rfl, hL, hK⟩; have T2 := Lib.hid hL; clear hL hK))
  go_ret
  exact ⟨by simp, T2.out.below⟩
end Go.Proofs.YtaomiglmahklfaaGreatDoor
