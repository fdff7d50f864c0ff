/- Texts joined: SH -/
import Derived.Test.YtgkejkgailnbmaaGreatDoorQt37
set_option linter.unusedVariables false
set_option linter.unusedSimpArgs false
namespace TP
theorem wide_mono {M K : Nat} (h : M ≤ K) : ∀ t : T, wide M t → wide K t
 | .nil, _ => trivial
 | .cons a b, k => ⟨wide_mono h a k.1, wide_mono h b k.2.1, Nat.le_trans k.2.2 h⟩
 | .ex _ _ _ _ _ l f, k => ⟨wide_mono h l k.1, wide_mono h f k.2⟩
 | .fn _ b, k => ⟨Nat.le_trans k.1 h, wide_mono h b k.2⟩
 | .st _ _ _ l b, k => ⟨Nat.le_trans k.1 h, wide_mono h l k.2.1, wide_mono h b k.2.2⟩
theorem scr_wide {l : List UInt8} {t : T} (hl : l.length ≤ 1000) (h : scr l = some t) : wide 100000 t := by
 unfold scr at h
 cases hx : lex l with
 | none => rw [hx] at h; cases h
 | some ts =>
  rw [hx] at h
  simp only [Option.map_eq_some_iff] at h
  obtain ⟨u, hu, rfl⟩ := h
  have h1 := (lex_ok hx).1
  refine (wide_map _ _ _).2 (wide_mono ?_ _ (script_wide hu))
  rw [List.length_map]
  omega
end TP
namespace Go.Proofs.YtgkejkgailnbmaaGreatDoor
open Lib (hid)
open Go.ChangeShapes Go.WideShapes Go.ChangeAt Go.RowKit TP
set_option maxRecDepth 100000 in
set_option maxHeartbeats 16000000 in
theorem asks_is (x y : ByteArray) (w : World) : Calls Tryz.prog 3 #[.string x, .string y] w fun e w' => e = .returned (.bool true) ∧ Below w.heap.size w w' := by
 have TO := hid (fun X => told_is X)
 obtain ⟨N, hN⟩ : ∃ N, x.size = N := ⟨_, rfl⟩
 obtain ⟨M, hM⟩ : ∃ M, y.size = M := ⟨_, rfl⟩
 have zx : (x.size : Int) = (N : Int) := by rw [hN]
 have zy : (y.size : Int) = (M : Int) := by rw [hM]
 by_cases h1 : N > 600
 ·have g1 : (600 : Int) < (N : Int) := by omega
  clear hN hM
  go_enter Tryz.func3, Tryz.ntmps3
  go_wp2_with (first | (go_at_call 5; (with_reducible refine (TO.out _).mono ?_); rintro e w1 ⟨rfl, h1⟩; have B1 := hid h1; clear h1))
  exact bodyPost_ret (v := .bool true) (by simp [results, Tryz.results3, go_sem]) rfl ⟨rfl, B1.out⟩
 ·have g1 : ¬ (600 : Int) < (N : Int) := by omega
  by_cases h2 : M > 600
  ·have g2 : (600 : Int) < (M : Int) := by omega
   clear hN hM
   go_enter Tryz.func3, Tryz.ntmps3
   go_wp2_with (first | (go_at_call 5; (with_reducible refine (TO.out _).mono ?_); rintro e w1 ⟨rfl, h1⟩; have B1 := hid h1; clear h1))
   exact bodyPost_ret (v := .bool true) (by simp [results, Tryz.results3, go_sem]) rfl ⟨rfl, B1.out⟩
  ·have g2 : ¬ (600 : Int) < (M : Int) := by omega
   have HX := hid (show x.size ≤ 1000 by omega)
   have HY := hid (show y.size ≤ 1000 by omega)
   have SX := hid (Script_is x HX.out w)
   have SY := hid (fun X => Script_is y HY.out X)
   have WX := hid (fun t (h : scr x.data.toList = some t) => scr_wide (by have := HX.out; simpa using this) h)
   clear hN hM h1 h2
   go_enter Tryz.func3, Tryz.ntmps3
   go_wp2_with (first | (go_at_call 6; (with_reducible refine (SX.out).mono ?_); rintro e y1 ⟨v1, c1, a1, rfl, h1, h2, h3⟩; have C1 := hid h1; have R1 := hid (And.intro h2 h3); clear h1 h2 h3; refine Hid.out ?_))
   refine hid ?_
   go_wp2_with (first | (go_at_call 6; (with_reducible refine (SY.out _).mono ?_); rintro e y2 ⟨v2, c2, a2, rfl, h1, h2, h3⟩; have B2 := hid h1; have C2 := hid (C1.out.trans (h1.mono (Below.size C1.out))); have R2 := hid (And.intro h2 h3); clear h1 h2 h3; refine Hid.out ?_))
   cases ho1 : scr x.data.toList with
   | none =>
    have k1 : ¬ c1 = 0 := R1.out.1 ho1
    have k1b : (c1 == 0) = false := by simp [k1]
    refine hid ?_
    go_wp2_with (first | (go_at_call 5; (with_reducible refine (TO.out _).mono ?_); rintro e w1 ⟨rfl, h1⟩; have B1 := hid (C2.out.trans (h1.mono (Below.size C2.out))); clear h1))
    exact bodyPost_ret (v := .bool true) (by simp [results, Tryz.results3, go_sem]) rfl ⟨rfl, B1.out⟩
   | some ta =>
    obtain ⟨k1, s1⟩ := R1.out.2 _ ho1
    subst k1
    cases ho2 : scr y.data.toList with
    | none =>
     have k2 : ¬ c2 = 0 := R2.out.1 ho2
     have k2b : (c2 == 0) = false := by simp [k2]
     clear s1
     refine hid ?_
     go_wp2_with (first | (go_at_call 5; (with_reducible refine (TO.out _).mono ?_); rintro e w1 ⟨rfl, h1⟩; have B1 := hid (C2.out.trans (h1.mono (Below.size C2.out))); clear h1))
     exact bodyPost_ret (v := .bool true) (by simp [results, Tryz.results3, go_sem]) rfl ⟨rfl, B1.out⟩
    | some tb =>
     obtain ⟨k2, s2⟩ := R2.out.2 _ ho2
     subst k2
     have WA := hid (WX.out _ ho1)
     obtain ⟨A1, n1, c1, rfl, _⟩ := s1.view
     obtain ⟨A2, n2, c2, rfl, _⟩ := s2.view
     have TA0 := hid (s1.below B2.out)
     have TB0 := hid s2.wide
     have C0 := C2
     clear s1 s2 ho1 ho2 R1 R2 C1 C2 B2
     refine hid ?_
     go_wp2_with (first | (go_at_call 5; (with_reducible refine (TO.out _).mono ?_); rintro e y1 ⟨rfl, h1⟩; have C1 := hid (C0.out.trans (h1.mono (Below.size C0.out))); have TA1 := hid (TA0.out.below h1); have TB1 := hid (TB0.out.below h1); clear h1; refine Hid.out ?_))
     refine hid ?_
     go_wp2_with (first | (go_at_call 7; (with_reducible refine (Same_is ta tb _ _ _ TA1.out TB1.out).mono ?_); rintro e y2 ⟨rfl, h1⟩; have C2 := hid (C1.out.trans (h1.mono (Below.size C1.out))); have TA2 := hid (TA1.out.below h1); have TB2 := hid (TB1.out.below h1); clear h1; refine Hid.out ?_))
     refine hid ?_
     go_wp2_with (first | (go_at_call 8; (with_reducible refine (refSame_is ta tb _ _ _ TA2.out TB2.out).mono ?_); rintro e y3 ⟨rfl, h1⟩; have C3 := hid (C2.out.trans (h1.mono (Below.size C2.out))); have TA3 := hid (TA2.out.below h1); have TB3 := hid (TB2.out.below h1); clear h1; refine Hid.out ?_))
     refine hid ?_
     go_wp2_with (first | (go_at_call 7; (with_reducible refine (Same_is ta ta _ _ _ TA3.out TA3.out).mono ?_); rintro e y4 ⟨rfl, h1⟩; rw [eqb_refl]; have C4 := hid (C3.out.trans (h1.mono (Below.size C3.out))); have TA4 := hid (TA3.out.below h1); have TB4 := hid (TB3.out.below h1); clear h1; refine Hid.out ?_))
     refine hid ?_
     go_wp2_with (first | (go_at_call 9; (with_reducible refine (Bare_is ta WA.out _ _ TA4.out).mono ?_); rintro e y5 ⟨vx, rfl, h0, h1⟩; obtain ⟨Ax, nx, cx, rfl, _⟩ := h0.view; have TX5 := hid h0.wide; clear h0; have C5 := hid (C4.out.trans (h1.mono (Below.size C4.out))); have TA5 := hid (TA4.out.below h1); have TB5 := hid (TB4.out.below h1); clear h1; refine Hid.out ?_))
     refine hid ?_
     go_wp2_with (first | (go_at_call 10; (with_reducible refine (refBare_is ta WA.out _ _ TA5.out).mono ?_); rintro e y6 ⟨vy, rfl, h0, h1⟩; obtain ⟨Ay, ny, cy, rfl, _⟩ := h0.view; have TX6 := hid (TX5.out.below h1); have TY6 := hid h0; clear h0; have C6 := hid (C5.out.trans (h1.mono (Below.size C5.out))); have TA6 := hid (TA5.out.below h1); have TB6 := hid (TB5.out.below h1); clear h1; refine Hid.out ?_))
     refine hid ?_
     go_wp2_with (first | (go_at_call 8; (with_reducible refine (refSame_is (bare ta) (bare ta) _ _ _ TX6.out TY6.out).mono ?_); rintro e y7 ⟨rfl, h1⟩; rw [eqb_refl]; have C7 := hid (C6.out.trans (h1.mono (Below.size C6.out))); have TA7 := hid (TA6.out.below h1); have TB7 := hid (TB6.out.below h1); clear h1; refine Hid.out ?_))
     refine hid ?_
     go_wp2_with (first | (go_at_call 11; (with_reducible refine ((allc (ta.sz + 1)).b ta (Nat.lt_succ_self _) _ _ TA7.out).mono ?_); rintro e y8 ⟨rfl, h1⟩; have C8 := hid (C7.out.trans (h1.mono (Below.size C7.out))); have TA8 := hid (TA7.out.below h1); have TB8 := hid (TB7.out.below h1); clear h1; refine Hid.out ?_))
     refine hid ?_
     go_wp2_with (first | (go_at_call 12; (with_reducible refine ((allc (ta.sz + 1)).rb ta (Nat.lt_succ_self _) _ _ TA8.out).mono ?_); rintro e y9 ⟨rfl, h1⟩; have C9 := hid (C8.out.trans (h1.mono (Below.size C8.out))); have TA9 := hid (TA8.out.below h1); have TB9 := hid (TB8.out.below h1); clear h1; refine Hid.out ?_))
     refine hid ?_
     go_wp2_with (first | (go_at_call 13; (with_reducible refine ((allm (ta.sz + 1)).b ta (Nat.lt_succ_self _) _ _ TA9.out).mono ?_); rintro e y10 ⟨rfl, h1⟩; have C10 := hid (C9.out.trans (h1.mono (Below.size C9.out))); have TA10 := hid (TA9.out.below h1); have TB10 := hid (TB9.out.below h1); clear h1; refine Hid.out ?_))
     refine hid ?_
     go_wp2_with (first | (go_at_call 14; (with_reducible refine ((allm (ta.sz + 1)).rb ta (Nat.lt_succ_self _) _ _ TA10.out).mono ?_); rintro e y11 ⟨rfl, h1⟩; have C11 := hid (C10.out.trans (h1.mono (Below.size C10.out))); have TA11 := hid (TA10.out.below h1); have TB11 := hid (TB10.out.below h1); clear h1; refine Hid.out ?_))
     refine hid ?_
     go_wp2
     exact bodyPost_ret (v := .bool true) (by simp [results, Tryz.results3, go_sem]) rfl ⟨rfl, C11.out⟩
end Go.Proofs.YtgkejkgailnbmaaGreatDoor
