/- Texts joined: S1, SE, SF, SG -/
import Derived.Test.YtgkejkgailnbmaaGreatDoorQt36
import Derived.Test.YtgkejkgailnbmaaGreatDoorQt21
import Derived.Test.YtgkejkgailnbmaaGreatDoorQt30
import Derived.Test.YtgkejkgailnbmaaGreatDoorQt31
import Derived.Deep.RegionHeld3
set_option linter.unusedVariables false
set_option linter.unusedSimpArgs false
namespace TP
theorem lexL_len : ∀ (f : Nat) (l : List UInt8) (a : Nat) (ts : List (Tk × Nat)), lexL f l a = some ts → ts.length ≤ f + 1 ∧ ∃ t, ts[ts.length - 1]? = some t ∧ t.1.kind = 0
 | 0, _, _, _, h => by cases h; exact ⟨Nat.le_refl _, _, rfl, rfl⟩
 | f + 1, [], _, _, h => by cases h; exact ⟨by simp, _, rfl, rfl⟩
 | f + 1, c :: r, a, ts, h => by
  cases h1 : oneL (c :: r) with
  | none => rw [lexL_none h1] at h; cases h
  | some x =>
   rw [lexL_some h1, Option.map_eq_some_iff] at h
   obtain ⟨us, hu, rfl⟩ := h
   obtain ⟨h2, t, h3, h4⟩ := lexL_len f _ _ us hu
   refine ⟨by simp; omega, t, ?_, h4⟩
   have hne : us.length ≠ 0 := by
    intro e
    rw [List.length_eq_zero_iff.1 e] at h3
    simp at h3
   rw [List.length_cons, show us.length + 1 - 1 = (us.length - 1) + 1 by omega, List.getElem?_cons_succ]
   exact h3
theorem lex_ok {l : List UInt8} {ts : List (Tk × Nat)} (h : lex l = some ts) : ts.length ≤ l.length + 1 ∧ Ends (ts.map Prod.fst) := by
 obtain ⟨h1, t, h2, h3⟩ := lexL_len _ _ _ _ h
 refine ⟨h1, t.1, ?_, h3⟩
 rw [List.length_map, List.getElem?_map, h2]
 rfl
def glT (ts : List (Tk × Nat)) (i : Int) : Int := if i < 0 then 0 else (((ts.getD i.toNat (default, 0)).2 : Nat) : Int)
def scr (l : List UInt8) : Option T := match lex l with
 | none => none
 | some ts => (script (ts.map Prod.fst)).map (T.map (glT ts))
theorem scr_none {l : List UInt8} (h : lex l = none) : scr l = none := by unfold scr; rw [h]
theorem scr_some {l : List UInt8} {ts : List (Tk × Nat)} (h : lex l = some ts) : scr l = (script (ts.map Prod.fst)).map (T.map (glT ts)) := by unfold scr; rw [h]
end TP
namespace Go.Proofs.YtgkejkgailnbmaaGreatDoor
open Lib (hid)
open Go.ChangeShapes Go.WideShapes Go.ChangeAt Go.RowKit TP
def ScP (o : Option T) (w : World) (e : Ending) (w' : World) : Prop := ∃ v c a, e = .returned (.tuple #[v, .int .i64 c, .int .i64 a]) ∧ Below w.heap.size w w' ∧ (o = none → c ≠ 0) ∧ (∀ t, o = some t → c = 0 ∧ SL w' (fun i => w.heap.size ≤ i) 2 v t)
def envOf (p g cap : Nat) (ts : List (Tk × Nat)) : Env := ⟨p, g, cap, ts.map Prod.fst, fun j => (((ts.getD j (default, 0)).2 : Nat) : Int)⟩
theorem PS.start {w : World} {c g cap n : Nat} {ts : List (Tk × Nat)} (hn : ts.length = n) (h : TX w c (.slice (some ⟨g, 0, none⟩) n cap) ts) : PS (envOf w.heap.size g cap ts) (w.alloc (.cells #[.slice (some ⟨g, 0, none⟩) n cap, .int .i64 0, .int .i64 0, .int .i64 0] 45)) ⟨0, 0⟩ := by
 subst hn
 have hg := (row_own h g rfl).2
 refine ⟨⟨0, ?_⟩, ?_, ?_⟩
 ·show _ = some (Obj.cells #[.slice _ ((ts.map Prod.fst).length) _, _, _, _] 45)
  rw [List.length_map]
  exact heap_alloc_new w _
 ·show g < _
  rw [World.size_alloc]
  omega
 ·intro j t hj
  have hj' : (ts.map Prod.fst)[j]? = some t := hj
  rw [List.getElem?_map, Option.map_eq_some_iff] at hj'
  obtain ⟨x, hx, rfl⟩ := hj'
  have hc : ∀ k, k < 4 → ∀ u, (cellT x)[k]? = some u → (w.alloc (.cells #[.slice (some ⟨g, 0, none⟩) ts.length cap, .int .i64 0, .int .i64 0, .int .i64 0] 45)).cell? ⟨g, j * 4 + k, none⟩ = some u := fun k hk u hu =>
   (World.cell?_of_block (a := ⟨g, j * 4 + k, none⟩) (Below.heap_alloc _ _ _ hg)).trans (row_cell h _ u ((cellT_at ts j x hx k hk).trans hu))
  have hd : ts.getD j (default, 0) = x := by rw [List.getD_eq_getElem?_getD, hx]; rfl
  refine ⟨hc 0 (by decide) _ rfl, hc 1 (by decide) _ rfl, hc 2 (by decide) _ rfl, ?_⟩
  show _ = some (Value.int .i64 ((((ts.getD j (default, 0)).2 : Nat) : Int)))
  rw [hd]
  exact hc 3 (by decide) _ rfl
set_option maxRecDepth 100000 in
set_option maxHeartbeats 16000000 in
theorem Script_is (x : ByteArray) (hx : x.size ≤ 1000) (w : World) : Calls Tryz.prog 6 #[.string x] w (ScP (scr x.data.toList) w) := by
 have LX := hid (Lex_is x hx w)
 have HL : x.data.toList.length = x.size := by simp
 cases hlex : lex x.data.toList with
 | none =>
  rw [scr_none hlex]
  rw [hlex] at LX
  clear HL hlex
  go_enter Tryz.func6, Tryz.ntmps6
  go_wp2_with (first | (go_at_call 16; (with_reducible refine (LX.out).mono ?_); rintro e w1 ⟨h1, h2, h3⟩; obtain ⟨a, rfl⟩ := h1 rfl; have B1 := hid h3; clear h1 h2 h3))
  exact bodyPost_ret (v := .tuple #[.slice none 0 0, .int .i64 14, .int .i64 a]) (by simp [results, Tryz.results6, go_sem]) rfl ⟨_, _, _, rfl, B1.out, fun _ => by decide, fun t ht => by cases ht⟩
 | some ts =>
  rw [scr_some hlex]
  obtain ⟨hlen, hends⟩ := lex_ok hlex
  rw [hlex] at LX
  have hl1 : ts.length ≤ 1001 := by omega
  have HEN := hid hends
  clear HL hlex hlen hends
  obtain ⟨N, hN⟩ : ∃ N, ts.length = N := ⟨_, rfl⟩
  have HN := hid hN
  rw [hN] at hl1
  have hN0 : 0 < N := by
   obtain ⟨t, h1, _⟩ := HEN.out
   rw [List.length_map, hN] at h1
   rcases Nat.eq_zero_or_pos N with h | h
   ·exfalso
    subst h
    rw [List.length_eq_zero_iff.1 hN] at h1
    simp at h1
   ·exact h
  clear hN
  go_enter Tryz.func6, Tryz.ntmps6
  go_wp2_with (first | (go_at_call 16; (with_reducible refine (LX.out).mono ?_); rintro e w1 ⟨h1, h2, h3⟩; obtain ⟨v, rfl, h4⟩ := h2 _ rfl; have B1 := hid h3; have T1 := hid h4; clear h1 h2 h3 h4; refine Hid.out ?_))
  obtain ⟨g, cap, hv⟩ : ∃ g cap, v = .slice (some ⟨g, 0, none⟩) N cap := by
   have h := T1.out
   unfold TX World.ownsRow at h
   obtain ⟨_, ⟨_, hz⟩ | ⟨g, cap, cur, rfl, _⟩⟩ := h
   ·have := HN.out; omega
   ·exact ⟨g, cap, by rw [HN.out]⟩
  subst hv
  have P0 := hid (PS.start HN.out T1.out)
  obtain ⟨E, hE⟩ : ∃ E, envOf w1.heap.size g cap ts = E := ⟨_, rfl⟩
  have EP : E.p = w1.heap.size := by rw [← hE]; rfl
  have EG : E.g = g := by rw [← hE]; rfl
  have ECP : E.cap = cap := by rw [← hE]; rfl
  have EOK := hid (show E.Ok from by
   rw [← hE]
   exact ⟨HEN.out, by show (ts.map Prod.fst).length ≤ 20000; rw [List.length_map, HN.out]; omega, fun e => Nat.ne_of_lt (row_own T1.out g rfl).2 e⟩)
  have ETS := hid (show E.ts = ts.map Prod.fst from by rw [← hE]; rfl)
  have EGL := hid (show E.gl = glT ts from by rw [← hE]; rfl)
  have EL := hid (show E.ts.length = N from by rw [ETS.out, List.length_map, HN.out])
  rw [hE] at P0
  clear hE
  have BL := hid (show BlC E 17 #[.int .i64 0] (TP.pk E.ts 100).bl from (atD E EOK.out 100 (Nat.le_refl _)).2.1)
  obtain ⟨p, hp⟩ : ∃ p, w1.heap.size = p := ⟨_, rfl⟩
  have HP := hid hp
  have CB := hid (BL.out ⟨0, 0⟩ _ (by rw [EL.out]; exact hN0) P0.out)
  rw [EP] at CB
  have SG := hid ((good_pk EOK.out.ends 100).2.1 ⟨0, 0⟩ (by rw [EL.out]; exact hN0))
  have C2 := hid (show Calls Tryz.prog 17 #[.pointer (some ⟨w1.heap.size, 0, none⟩), .int .i64 0] (w1.alloc (.cells #[.slice (some ⟨g, 0, none⟩) N cap, .int .i64 0, .int .i64 0, .int .i64 0] 45)) _ from CB.out)
  clear CB BL hp
  obtain ⟨r, hr⟩ : ∃ r, (TP.pk E.ts 100).bl ⟨0, 0⟩ = r := ⟨_, rfl⟩
  rw [hr] at C2 SG
  have HSC := hid (show script (ts.map Prod.fst) = if r.2.c = 0 ∧ (tk E.ts r.2).kind = 0 then some r.1 else none from by
   unfold script
   rw [← ETS.out]
   simp only [hr])
  clear hr
  refine hid ?_
  go_wp2_with (first | (go_at_call 17; (with_reducible refine (C2.out).mono ?_); rintro e w2 ⟨v2, rfl, h1, h2, h3⟩; have V2 := hid h1; have P2 := hid h2; have K2 := hid h3; clear h1 h2 h3; refine Hid.out ?_))
  rw [HP.out]
  have EP2 : E.p = p := by rw [EP, HP.out]
  have KW := hid (show Below w.heap.size w w2 from B1.out.trans ((alloc_old.trans (show Below w1.heap.size _ w2 from K2.out.below (n := w1.heap.size) (fun k hk => ⟨by rw [World.size_alloc]; omega, by omega⟩))).mono (Below.size B1.out)))
  have V3 := hid (show SL w2 (fun i => w.heap.size ≤ i) 2 v2 (r.1.map (glT ts)) from by
   rw [← EGL.out]
   exact SL.keep (fun _ _ _ => rfl) (Nat.le_refl _) (fun i hi _ => by have := Below.size B1.out; rw [World.size_alloc] at hi; omega) _ _ _ V2.out)
  have hi2 := SG.out.2.1
  obtain ⟨ea, c0, c1, c2, c3, _⟩ := P2.out.cells
  have t0 := (P2.out.tok hi2).1
  have hiN : (r.2.i : Int) < (N : Int) := by rw [EL.out] at hi2; omega
  rw [EL.out] at c0
  rw [EP2] at c0 c1 c2 c3
  rw [EG, ECP] at c0
  rw [EG] at t0
  have hpw : w.heap.size ≤ p := by
   have := Below.size B1.out
   rw [HP.out] at this
   exact this
  clear T1 B1 P0 V2 EP EG ECP hi2
  by_cases h0 : r.2.c = 0
  ·rw [h0] at c2
   by_cases hk : (tk E.ts r.2).kind = 0
   ·rw [hk] at t0
    refine hid ?_
    go_wp2
    go_quiet (fail)
    have BX := hid (below_drewN KW.out nq)
    have VX := hid (show SL (w2.drewN nq) (fun i => w.heap.size ≤ i) 2 v2 (r.1.map (glT ts)) from SL.keep (fun i _ hl => (below_drewN (Below.refl _ _) nq).block i hl) (Below.size (below_drewN (Below.refl 0 _) nq)) (fun i hi _ => hi) _ _ _ V3.out)
    have d2 : (w2.drewN nq).cell? ⟨p, 2, none⟩ = some (.int .i64 0) := c2
    go_wp2
    exact bodyPost_ret (v := .tuple #[v2, .int .i64 0, .int .i64 0]) (by simp [results, Tryz.results6, go_sem]) rfl ⟨_, _, _, rfl, BX.out, fun hn => (by rw [HSC.out, if_pos ⟨h0, hk⟩] at hn; cases hn), fun t ht => (by rw [HSC.out, if_pos ⟨h0, hk⟩] at ht; cases ht; exact ⟨rfl, VX.out⟩)⟩
   ·have hkb : ((tk E.ts r.2).kind == 0) = false := by simp [hk]
    have HNO := hid (show script (ts.map Prod.fst) = none from by rw [HSC.out, if_neg (fun h => hk h.2)])
    have FA := hid (fun X hX => fail_is E EOK.out r.2 SG.out.2.1 14 X hX)
    rw [EP2, show TP.fail 14 r.2 = ⟨r.2.i, 14⟩ from if_pos h0] at FA
    have c2b : ∀ X, PS E X ⟨r.2.i, 14⟩ → ∃ ea, X.cell? ⟨p, 2, none⟩ = some (.int .i64 14) ∧ X.cell? ⟨p, 3, none⟩ = some (.int .i64 ea) := fun X hX => by
     obtain ⟨ea, _, _, h2, h3, _⟩ := hX.cells
     rw [EP2] at h2 h3
     exact ⟨ea, h2, h3⟩
    have HCB := hid c2b
    clear c2b
    refine hid ?_
    go_wp2
    go_quiet (fail)
    have BX := hid (below_drewN KW.out nq)
    have FB := hid (FA.out _ (P2.out.drewN nq))
    clear c0 c1 c2 c3 t0 P2 FA
    generalize w2.drewN nq = X at BX FB ⊢
    go_wp2_with (first | (go_at_call 18; (with_reducible refine (FB.out).mono ?_); rintro e w3 ⟨rfl, h1, h2⟩; obtain ⟨eb, d2, d3⟩ := HCB.out _ h1; have K3 := hid h2; clear h1 h2))
    have BY := hid (BX.out.trans (K3.out.below (n := w.heap.size) (fun k hk => ⟨Nat.lt_of_lt_of_le hk (Below.size BX.out), by rw [EP2]; omega⟩)))
    go_quiet (fail)
    have BZ := hid (below_drewN BY.out nq)
    go_wp2
    exact bodyPost_ret (v := .tuple #[.slice none 0 0, .int .i64 14, .int .i64 eb]) (by simp [results, Tryz.results6, go_sem]) rfl ⟨_, _, _, rfl, BZ.out, fun _ => by decide, fun t ht => by rw [HNO.out] at ht; cases ht⟩
  ·have h0b : (r.2.c == 0) = false := by simp [h0]
   have HNO := hid (show script (ts.map Prod.fst) = none from by rw [HSC.out, if_neg (fun h => h0 h.1)])
   refine hid ?_
   go_wp2
   go_quiet (fail)
   have BX := hid (below_drewN KW.out nq)
   have d2 : (w2.drewN nq).cell? ⟨p, 2, none⟩ = some (.int .i64 r.2.c) := c2
   have d3 : (w2.drewN nq).cell? ⟨p, 3, none⟩ = some (.int .i64 ea) := c3
   clear c0 c1 c2 c3 t0
   generalize w2.drewN nq = X at BX d2 d3 ⊢
   go_wp2
   go_quiet (fail)
   have BZ := hid (below_drewN BX.out nq)
   go_wp2
   exact bodyPost_ret (v := .tuple #[.slice none 0 0, .int .i64 r.2.c, .int .i64 ea]) (by simp [results, Tryz.results6, go_sem]) rfl ⟨_, _, _, rfl, BZ.out, fun _ => h0, fun t ht => by rw [HNO.out] at ht; cases ht⟩
end Go.Proofs.YtgkejkgailnbmaaGreatDoor
namespace Go.Proofs.YtgkejkgailnbmaaGreatDoor
open Lib (hid)
open Go.ChangeShapes Go.WideShapes Go.ChangeAt Go.RowKit TP
theorem i66 : (Tryz.prog.info? 66).map (·.size) = some 2 := by kernel_rfl
theorem lies66 : liesAt Tryz.prog Tryz.prog.depth 66 (2 / Tryz.prog.cellsOf 66) 0 66 1 = true := by kernel_rfl
theorem und63 : Tryz.prog.underlying 63 = some (.pointer 66) := by kernel_rfl
theorem und107 : Tryz.prog.underlying 107 = some .unsafePointer := by kernel_rfl
set_option maxRecDepth 100000 in
set_option maxHeartbeats 4000000 in
theorem cc_fresh (b : Nat) (w : World) (h0 : w.cell? ⟨b, 0, none⟩ = some (.pointer none)) (hsh : w.shape? b = some (66, 2)) (hfz : w.frozen? ⟨b, 0, none⟩ = false) : Calls Tryz.prog 58 #[.pointer (some ⟨b, 0, none⟩)] w fun e w' => e = .returned (.tuple #[]) ∧ w' = w.setCell ⟨b, 0, none⟩ (.pointer (some ⟨b, 0, none⟩)) := by
 obtain ⟨j, hj, hjs⟩ := Option.map_eq_some_iff.1 i66
 have a1 := fun w hs => Lib.run_to_unsafe (P := Tryz.prog) w ⟨b, 0, none⟩ und63 und107 hj (by rw [hjs]; decide) (e := 66) (cells := 2) hs (Nat.zero_lt_succ 1)
 go_enter Tryz.func58, Tryz.ntmps58
 go_wp2
 rw [run_callFunc_extern Tryz.func75 (by kernel_rfl) (by kernel_rfl) (by kernel_rfl) (e := Extern.AbiNoEscape.same) (by kernel_rfl)]
 rw [Lib.run_noEscape]
 simp only [Result.andThen]
 rw [Oper.upon_value]
 go_wp2
 rw [Lib.run_from_unsafe (P := Tryz.prog) w ⟨b, 0, none⟩ und107 und63 hj hsh lies66]
 simp only [Result.andThen]
 rw [Oper.upon_value]
 have hself := fun (w : World) => Lib.run_neq_ptr_same (P := Tryz.prog) w ⟨b, 0, none⟩ und63 hj
 go_wp2
 go_end0
 exact ⟨rfl, rfl⟩
set_option maxRecDepth 100000 in
set_option maxHeartbeats 4000000 in
theorem ws_fresh (b : Nat) (s : ByteArray) (w : World) (h : w.heap[b]? = some (.cells #[.pointer none, .slice none 0 0] 66)) (hs : s.size ≤ 100000) (B : Nat) (hB : B ≤ b) : Calls Tryz.prog 34 #[.pointer (some ⟨b, 0, none⟩), .string s] w fun e w' => (∃ v, e = .returned v) ∧ Lib.BuilderAt 66 5 B b (.pointer (some ⟨b, 0, none⟩)) (Lib.strCells s) w' ∧ Below B w w' := by
 have hlt := lt_blk h
 have h1 : (w.setCell ⟨b, 0, none⟩ (.pointer (some ⟨b, 0, none⟩))).heap[b]? = some (.cells #[.pointer (some ⟨b, 0, none⟩), .slice none 0 0] 66) := by simp [World.setCell, Array.getElem?_modify, h]
 obtain ⟨⟨c0, c1⟩, _⟩ := cells2 h
 obtain ⟨W, hW⟩ : ∃ W, w.setCell ⟨b, 0, none⟩ (.pointer (some ⟨b, 0, none⟩)) = W := ⟨_, rfl⟩
 rw [hW] at h1
 obtain ⟨⟨e0, e1⟩, ⟨g0, g1⟩⟩ := cells2 h1
 have H1 := hid h1
 have HW := hid (show Below B w W ∧ W.heap.size = w.heap.size from by rw [← hW]; exact ⟨(Below.refl B w).setCell (p := ⟨b, 0, none⟩) hB _, by simp [World.setCell]⟩)
 have CC := hid (show Calls Tryz.prog 58 #[.pointer (some ⟨b, 0, none⟩)] w fun e w' => e = .returned (.tuple #[]) ∧ w' = W from by rw [← hW]; exact cc_fresh b w c0 (by simp [World.shape?, h]) (by simp [World.frozen?, h]))
 obtain ⟨i0, hi0, hz0, hz1, hz2⟩ := info_parts i5n
 have HI := hid (And.intro hi0 (And.intro hz0 (And.intro hz1 hz2)))
 have HS := hid (show s.size ≤ 100000 ∧ B ≤ W.heap.size from ⟨hs, by rw [HW.out.2]; omega⟩)
 clear hi0 hz0 hz1 hz2 h h1 c0 c1 hs
 go_enter Tryz.func34, Tryz.ntmps34
 go_wp2_with (first | (go_at_call 58; (with_reducible refine (CC.out).mono ?_); rintro e w1 ⟨rfl, rfl⟩) | (at_builtin; refine Hid.out ?_))
 refine hid ?_
 refine Lib.wpList_append_own_string _ rfl _ _ 64 9 rfl B 5 i0 und64 Tryz.underlying9 HI.out.1 HI.out.2.1 HI.out.2.2.1 HI.out.2.2.2 (.slice none 0 0) 0 [] rfl (World.ownsRow_nil _ _ _ _) s rfl ?c3 ?c4 ?c5 ?_
 case c3 => have := HS.out.1; unfold maxLen; omega
 case c4 => have := HS.out.1; omega
 case c5 => exact HS.out.2
 intro v' w2 hown hgrow _
 have hb2 := (hgrow.block b (lt_blk H1.out) (fun e => by cases e)).trans H1.out
 obtain ⟨⟨d0, d1⟩, ⟨k0, k1⟩⟩ := cells2 hb2
 obtain ⟨ao, n', cap, rfl⟩ : ∃ ao n' cap, v' = .slice ao n' cap := by
  rcases hown.2 with ⟨hv, _⟩ | ⟨g, cap, cur, hv, _⟩
  ·exact ⟨_, _, _, hv⟩
  ·exact ⟨_, _, _, hv⟩
 have HR := hid (show Lib.BuilderAt 66 5 B b (.pointer (some ⟨b, 0, none⟩)) (Lib.strCells s) (w2.setCell ⟨b, 1, none⟩ (.slice ao n' cap)) ∧ Below B w (w2.setCell ⟨b, 1, none⟩ (.slice ao n' cap)) from by
  refine ⟨Lib.BuilderAt.put hB hb2 ?_ (by decide), ?_⟩
  ·rw [Lib.strCells_length]
   simpa using hown
  ·exact (HW.out.1.trans ⟨hgrow.os, hgrow.tape, hgrow.output, hgrow.size, fun i hi => hgrow.block i (Nat.lt_of_lt_of_le hi HS.out.2) (fun e => by cases e)⟩).setCell (p := ⟨b, 1, none⟩) hB _)
 clear hown hgrow hb2
 go_wp2
 go_ret2
 exact ⟨⟨_, rfl⟩, HR.out⟩
end Go.Proofs.YtgkejkgailnbmaaGreatDoor
namespace Go.Proofs.YtgkejkgailnbmaaGreatDoor
open Lib (hid)
open Go.ChangeShapes Go.WideShapes Go.ChangeAt Go.RowKit TP
abbrev e1 : Value := .agg #[.int .i64 4, .int .i64 10, .int .i64 1, .string ⟨#[]⟩, .int .i64 0, .slice none 0 0, .slice none 0 0]
def one1 : ByteArray := ⟨(Lib.decDigits 1).toArray⟩
theorem one1_size : one1.size ≤ 100 := of_decide_eq_true (by kernel_rfl)
set_option maxRecDepth 100000 in
set_option maxHeartbeats 4000000 in
theorem pr87 (w : World) : Calls Tryz.prog 87 #[e1] w fun e w' => e = .returned (.string one1) ∧ Below w.heap.size w w' := by
 have A := hid (alloc_old (w := w) (o := .cells #[.int .i64 4, .int .i64 10, .int .i64 1, .string ⟨#[]⟩, .int .i64 0, .slice none 0 0, .slice none 0 0] 38))
 have F := hid (fun X => show Calls Tryz.prog 102 #[.int .i64 1, .int .i64 10] X (fun e w' => e = .returned (.string one1) ∧ w' = X) from Tryz.internal_strconv_FormatInt_10_small 1 (by decide) X)
 have F2 := hid (fun X => show Calls Tryz.prog 88 #[.int .i64 1, .int .i64 10] X (fun e w' => e = .returned (.string one1) ∧ w' = X) from by
  go_enter Tryz.func88, Tryz.ntmps88
  go_wp2_with (first | (go_at_call 102; (with_reducible refine (F.out _).mono ?_); rintro e w1 ⟨rfl, rfl⟩))
  go_ret
  exact ⟨rfl, rfl⟩)
 generalize one1 = s1 at F F2 ⊢
 go_enter Tryz.func87, Tryz.ntmps87
 go_wp2_with (first | (go_at_call 88; (with_reducible refine (F2.out _).mono ?_); rintro e w1 ⟨rfl, rfl⟩))
 go_ret
 exact ⟨rfl, A.out⟩
theorem und110z : (zeroValue 92).run Tryz.prog = fun w => .ok .nilFunc w := by kernel_rfl
set_option maxRecDepth 100000 in
set_option maxHeartbeats 4000000 in
theorem exp_is (w : World) : Calls Tryz.prog 60 #[e1] w fun e w' => e = .returned (.string one1) ∧ Below w.heap.size w w' := by
 obtain ⟨W, hW⟩ : ∃ W, w.alloc (.cells #[.int .i64 4, .int .i64 10, .int .i64 1, .string ⟨#[]⟩, .int .i64 0, .slice none 0 0, .slice none 0 0] 38) = W := ⟨_, rfl⟩
 obtain ⟨z, hz⟩ : ∃ z, w.heap.size = z := ⟨_, rfl⟩
 have X := hid (show W.heap[z]? = some (.cells #[.int .i64 4, .int .i64 10, .int .i64 1, .string ⟨#[]⟩, .int .i64 0, .slice none 0 0, .slice none 0 0] 38) from by rw [← hW, ← hz]; exact heap_alloc_new _ _)
 have E := hid (show Below w.heap.size w W from by rw [← hW]; exact alloc_old)
 have PR := hid (printers_is W.drew)
 have P87 := hid (fun Y => pr87 Y)
 obtain ⟨⟨a0, a1, a2, a3, a4, a5, a6⟩, _⟩ := cells7 X.out
 have S0 := hid (show W.drew.cell? ⟨z, 0, none⟩ = some (.int .i64 4) from a0)
 generalize one1 = s1 at P87 ⊢
 go_enter Tryz.func60, Tryz.ntmps60
 go_wp2
 go_region_held3 (fun Y => Y.cell? ⟨z, 0, none⟩ = some (.int .i64 4)) (first | (with_reducible exact S0.out) | (with_reducible exact S1.out)) (first | (go_at_call 76; (with_reducible refine (PR.out).mono ?_); rintro e x1 ⟨b, l, rfl, hM, hf, hb⟩; have B1 := hid ((Below.refl W.heap.size W).drew.trans hb); have X1 := hid (blk_below X.out B1.out); obtain ⟨⟨b0, b1, b2, b3, b4, b5, b6⟩, _⟩ := cells7 X1.out; have S1 := hid b0; have hlk := MapI.run_lookup (P := Tryz.prog) (t := 110) (key := 3) (elem := 92) Tryz.underlying110 Tryz.underlying3 hM 4 true .nilFunc (by rw [und110z]); rw [hf] at hlk; simp only [Option.getD_some, Option.isSome_some, if_true] at hlk; clear hM hf hb))
 all_goals
  go_wp2_with (first | (go_at_call 87; (with_reducible refine (P87.out _).mono ?_); rintro e x3 ⟨rfl, hb⟩; have B3 := hid (E.out.trans ((B1.out.trans (hb.mono (Below.size B1.out))).mono (Below.size E.out))); clear hb))
  exact bodyPost_ret (v := .string s1) (by simp [results, Tryz.results60, go_sem]) rfl ⟨rfl, by first | exact B3.out | (rw [← hz]; exact B3.out)⟩
def l1T : T := .cons (.ex 4 10 1 ⟨#[]⟩ 0 .nil .nil) .nil
set_option maxRecDepth 100000 in
set_option maxHeartbeats 4000000 in
theorem list_is (g : Nat) (w : World) (h : w.heap[g]? = some (.cells #[.int .i64 4, .int .i64 10, .int .i64 1, .string ⟨#[]⟩, .int .i64 0, .slice none 0 0, .slice none 0 0] 38)) : Calls Tryz.prog 65 #[.slice (some ⟨g, 0, none⟩) 1 1] w fun e w' => (∃ s, e = .returned (.string s) ∧ s.size ≤ 1000) ∧ Below w.heap.size w w' := by
 have HG := hid h
 have EX := hid (fun Y => exp_is Y)
 obtain ⟨s1, hs1⟩ : ∃ s1, one1 = s1 := ⟨_, rfl⟩
 have HS := hid (show s1.size ≤ 100 from by rw [← hs1]; exact one1_size)
 rw [hs1] at EX
 clear h hs1
 go_enter Tryz.func65, Tryz.ntmps65
 go_wp2
 go_loopw [3, 8] (fun ov iv wr => ∃ (j : Nat), j ≤ 1 ∧ iv = .int .i64 j ∧ Hid (Below w.heap.size w wr ∧ NX wr w.heap.size ov (List.replicate j s1) ∧ (∃ A C, ov = .slice A j C))) (fun _ iv _ => 1 - (intOf iv).toNat)
 case atStart => exact ⟨0, by decide, rfl, hid ⟨Below.refl _ _, NX.nil _ _, none, 0, rfl⟩⟩
 case round =>
  obtain ⟨j, hj, rfl, HQ⟩ := hrel
  obtain ⟨A, C, ho⟩ := HQ.out.2.2
  subst ho
  rcases (show j = 0 ∨ j = 1 by omega) with rfl | rfl
  ·have X := hid (blk_below HG.out HQ.out.1)
   obtain ⟨⟨a0, a1, a2, a3, a4, a5, a6⟩, _⟩ := cells7 X.out
   have E := hid (alloc_old (w := wr) (o := .cells #[.int .i64 4, .int .i64 10, .int .i64 1, .string ⟨#[]⟩, .int .i64 0, .slice none 0 0, .slice none 0 0] 38))
   go_wp2_with (first | (go_at_call 60; (with_reducible refine (EX.out _).mono ?_); rintro e x3 ⟨rfl, hb⟩; have B3 := hid (E.out.trans (hb.mono (Below.size E.out))); have N3 := hid (HQ.out.2.1.keep (fun i hi hl => B3.out.block i hl)); clear hb) | (at_builtin; refine Hid.out ?_))
   refine hid ?_
   have A3 := hid (alloc_old (w := x3) (o := .cells #[.string s1] 9))
   have BW := hid (HQ.out.1.trans (B3.out.mono (Below.size HQ.out.1)))
   refine append_NX (x3.alloc (.cells #[.string s1] 9)) rfl _ _ rfl w.heap.size (.slice A 0 C) [] 0 rfl rfl (N3.out.keep (fun i hi hl => A3.out.block i hl)) s1 x3.heap.size rfl (heap_alloc_new x3 _) (by decide) (by have := Below.size BW.out; rw [World.size_alloc]; omega) ?_
   intro g' cap w4 h1 h2
   have N4 := hid h1
   have B4 := hid (show Below w.heap.size w w4 from (BW.out.trans (A3.out.mono (Below.size BW.out))).trans ⟨h2.os, h2.tape, h2.output, h2.size, fun i hi => h2.block i (by have := Below.size BW.out; rw [World.size_alloc]; omega) (fun e => by have := (row_own N3.out.2 i e.symm).1; omega)⟩)
   clear h1 h2
   go_wp2
   exact ⟨⟨1, by decide, by go_num, hid ⟨B4.out, N4.out, _, _, rfl⟩⟩, by simp [intOf]⟩
  ·obtain ⟨g2, c2, hA, hc⟩ : ∃ g2 c2, Value.slice A 1 C = .slice (some ⟨g2, 0, none⟩) 1 c2 ∧ (1 ≤ c2 ∧ g2 < wr.heap.size ∧ wr.cell? ⟨g2, 0, none⟩ = some (.string s1)) := by
    rcases HQ.out.2.1.nl with ⟨e, _⟩ | ⟨_, b, c, e, h1, _, _, h4, h5⟩
    ·cases e
    ·exact ⟨b, c, e, h1, h4, h5 0 s1 rfl⟩
   cases hA
   have JO := hid (Tryz.strings_Join g2 0 C [s1] ⟨#[44, 32]⟩ wr (fun j x hx => by
    cases j with
    | zero => cases hx; exact hc.2.2
    | succ j => cases hx) hc.2.1 (by show 1 ≤ _; decide) hc.1 (by
     have := HS.out
     rw [show [s1].map (fun x : ByteArray => x.data.toList) = [s1.data.toList] from rfl, Lib.join_one]
     have h9 : s1.data.toList.length = s1.size := by simp
     rw [h9]
     omega))
   rw [show [s1].map (fun x : ByteArray => x.data.toList) = [s1.data.toList] from rfl, Lib.join_one] at JO
   have JQ := hid (show Calls Tryz.prog 77 #[.slice (some ⟨g2, 0, none⟩) 1 C, .string ⟨#[44, 32]⟩] wr (fun e w' => e = .returned (.string ⟨s1.data.toList.toArray⟩) ∧ Below wr.heap.size wr w') from JO.out)
   obtain ⟨s2, hs2⟩ : ∃ s2 : ByteArray, (⟨s1.data.toList.toArray⟩ : ByteArray) = s2 := ⟨_, rfl⟩
   have HS2 := hid (show s2.size ≤ 1000 from by
    rw [← hs2]
    have h1 := HS.out
    have h2 : (⟨s1.data.toList.toArray⟩ : ByteArray) = s1 := by cases s1; simp
    rw [h2]
    omega)
   rw [hs2] at JQ
   clear JO hc hs2
   go_wp2_with (first | (go_at_call 77; (with_reducible refine (JQ.out).mono ?_); rintro e w1 ⟨rfl, hb⟩; have B1 := hid (HQ.out.1.trans (hb.mono (Below.size HQ.out.1))); clear hb))
   exact bodyPost_ret (v := .string s2) (by simp [results, Tryz.results65, go_sem]) rfl ⟨⟨_, rfl, HS2.out⟩, B1.out⟩
set_option maxRecDepth 100000 in
set_option maxHeartbeats 4000000 in
theorem stat_text (g : Nat) (w : World) (h : w.heap[g]? = some (.cells #[.int .i64 4, .int .i64 10, .int .i64 1, .string ⟨#[]⟩, .int .i64 0, .slice none 0 0, .slice none 0 0] 38)) : Calls Tryz.prog 35 #[.agg #[.int .i64 10, .int .i64 3, .slice none 0 0, .slice (some ⟨g, 0, none⟩) 1 1, .slice none 0 0]] w fun e w' => (∃ s, e = .returned (.string s) ∧ s.size ≤ 2000) ∧ Below w.heap.size w w' := by
 have A := hid (alloc_old (w := w) (o := .cells #[.int .i64 10, .int .i64 3, .slice none 0 0, .slice (some ⟨g, 0, none⟩) 1 1, .slice none 0 0] 34))
 have LI := hid (list_is g _ (blk_below h A.out))
 clear h
 go_enter Tryz.func35, Tryz.ntmps35
 go_wp2_with (first | (go_at_call 65; (with_reducible refine (LI.out).mono ?_); rintro e w1 ⟨⟨s, rfl, hs⟩, hb⟩; have HS := hid hs; have B1 := hid (A.out.trans (hb.mono (Below.size A.out))); clear hs hb; refine Hid.out ?_))
 have hsz : ¬ 9223372036854775807 < 7 + s.size := by have := HS.out; omega
 refine hid ?_
 go_wp2
 exact bodyPost_ret (v := .string ({ data := #[114, 101, 116, 117, 114, 110, 32] } ++ s)) (by simp [results, Tryz.results35, go_sem]) rfl ⟨⟨_, rfl, by have := HS.out; rw [ByteArray.size_append]; show 7 + _ ≤ _; omega⟩, B1.out⟩
set_option maxRecDepth 100000 in
set_option maxHeartbeats 4000000 in
theorem Text_is (g0 g : Nat) (w : World) (h0 : w.heap[g0]? = some (.cells #[.int .i64 10, .int .i64 3, .slice none 0 0, .slice (some ⟨g, 0, none⟩) 1 1, .slice none 0 0] 34)) (h : w.heap[g]? = some (.cells #[.int .i64 4, .int .i64 10, .int .i64 1, .string ⟨#[]⟩, .int .i64 0, .slice none 0 0, .slice none 0 0] 38)) : Calls Tryz.prog 15 #[.slice (some ⟨g0, 0, none⟩) 1 1] w fun e w' => (∃ s, e = .returned (.string s) ∧ 0 < s.size) ∧ Below w.heap.size w w' := by
 have A := hid (alloc_old (w := w) (o := .cells #[.pointer none, .slice none 0 0] 66))
 have HB := hid (heap_alloc_new w (.cells #[.pointer none, .slice none 0 0] 66))
 have H0 := hid (And.intro (blk_below h0 A.out) (blk_below h A.out))
 obtain ⟨b, hb⟩ : ∃ b, w.heap.size = b := ⟨_, rfl⟩
 have HBB := hid hb
 obtain ⟨W, hW⟩ : ∃ W, w.alloc (.cells #[.pointer none, .slice none 0 0] 66) = W := ⟨_, rfl⟩
 rw [hW] at A HB H0
 rw [hb] at HB
 have lW := hid (show W.heap.size = b + 1 from by rw [← hW, ← hb]; exact World.size_alloc _ _)
 clear h0 h
 go_enter Tryz.func15, Tryz.ntmps15
 go_wp2
 clear hW hb
 go_loopw [8] (fun iv wr => ∃ (j : Nat), j ≤ 1 ∧ iv = .int .i64 j ∧ Hid ((j = 0 ∧ wr = W) ∨ (j = 1 ∧ Below b W wr ∧ ∃ s : ByteArray, 0 < s.size ∧ Lib.BuilderAt 66 5 b b (.pointer (some ⟨b, 0, none⟩)) (Lib.strCells s) wr))) (fun iv _ => 1 - (intOf iv).toNat)
 case atStart => exact ⟨0, by decide, rfl, hid (.inl ⟨rfl, rfl⟩)⟩
 case round =>
  obtain ⟨j, hj, rfl, HQ⟩ := hrel
  rcases HQ.out with ⟨rfl, rfl⟩ | ⟨rfl, hbel, s, hs, hB⟩
  ·obtain ⟨⟨a0, a1, a2, a3, a4⟩, _⟩ := cells5 H0.out.1
   have E := hid (alloc_old (w := wr) (o := .cells #[.int .i64 10, .int .i64 3, .slice none 0 0, .slice (some ⟨g, 0, none⟩) 1 1, .slice none 0 0] 34))
   have ST := hid (stat_text g _ (blk_below H0.out.2 E.out))
   go_wp2_with (first | (go_at_call 35; (with_reducible refine (ST.out).mono ?_); rintro e x1 ⟨⟨s, rfl, hs⟩, hb⟩; have HS := hid hs; have B1 := hid (E.out.trans (hb.mono (Below.size E.out))); clear hs hb; refine Hid.out ?_))
   have hsz : ¬ 9223372036854775807 < s.size + 1 := by have := HS.out; omega
   have hb1 := blk_below HB.out B1.out
   have WS := hid (ws_fresh b (s ++ ⟨#[10]⟩) x1 hb1 (by have := HS.out; rw [ByteArray.size_append]; show _ + 1 ≤ _; omega) b (Nat.le_refl _))
   have HZ := hid (show 0 < (s ++ (⟨#[10]⟩ : ByteArray)).size from by rw [ByteArray.size_append]; show 0 < _ + 1; omega)
   clear hb1
   refine hid ?_
   go_wp2_with (first | (go_at_call 34; (with_reducible refine (WS.out).mono ?_); rintro e x2 ⟨⟨v, rfl⟩, h1, h2⟩; have V2 := hid h1; have B2 := hid ((B1.out.mono (by rw [lW.out]; omega)).trans h2); clear h1 h2))
   exact ⟨⟨1, by decide, by go_num, hid (.inr ⟨rfl, B2.out, _, HZ.out, V2.out⟩)⟩, by simp [intOf]⟩
  ·have SR := hid (Tryz.Builder_String_any b b s.data.toList wr (.inr (by rw [show Lib.byteCells s.data.toList = Lib.strCells s from rfl]; exact hB)) (by have := Below.size hbel; rw [lW.out] at this; omega))
   have HS := hid (And.intro hs hbel)
   clear hB hs hbel
   go_wp2_with (first | (go_at_call 36; (with_reducible refine (SR.out).mono ?_); rintro e x1 ⟨rfl, h1⟩; have B1 := hid (HS.out.2.trans h1); clear h1))
   exact bodyPost_ret (v := .string ⟨s.data.toList.toArray⟩) (by simp [results, Tryz.results15, go_sem]) rfl ⟨⟨_, rfl, by have := HS.out.1; cases s; simpa using this⟩, by rw [HBB.out]; exact (show Below b w W from by rw [← HBB.out]; exact A.out).trans B1.out⟩
end Go.Proofs.YtgkejkgailnbmaaGreatDoor
namespace Go.Proofs.YtgkejkgailnbmaaGreatDoor
open Lib (hid)
open Go.ChangeShapes Go.WideShapes Go.ChangeAt Go.RowKit TP
def lT : T := .cons (.st 10 3 [] l1T .nil) .nil
theorem lT_count : wrap64 (count lT) = 2 := by
 have : count lT = 2 := by decide
 rw [this]
 unfold wrap64
 omega
theorem lT_deep : deepB wrap64 lT = 2 := by
 have h : deepB wrap64 lT = wrap64 (max (max (max (wrap64 (max 0 0 + 1)) 0) 0) 0 + 1) := rfl
 rw [h]
 unfold wrap64
 omega
theorem lT_bare : eqb lT (bare lT) = false := by decide
theorem lT_wide : wide 100000 lT := by
 refine ⟨⟨by decide, ⟨⟨trivial, trivial⟩, trivial, by decide⟩, trivial⟩, trivial, by decide⟩
set_option maxRecDepth 100000 in
set_option maxHeartbeats 4000000 in
theorem told_is (w : World) : Calls Tryz.prog 5 #[] w fun e w' => e = .returned (.bool true) ∧ Below w.heap.size w w' := by
 obtain ⟨g, hg⟩ : ∃ g, w.heap.size = g := ⟨_, rfl⟩
 obtain ⟨W1, hW1⟩ : ∃ W1, w.alloc (.cells #[.int .i64 4, .int .i64 10, .int .i64 1, .string ⟨#[]⟩, .int .i64 0, .slice none 0 0, .slice none 0 0] 38) = W1 := ⟨_, rfl⟩
 obtain ⟨g0, hg0⟩ : ∃ g0, W1.heap.size = g0 := ⟨_, rfl⟩
 obtain ⟨W2, hW2⟩ : ∃ W2, W1.alloc (.cells #[.int .i64 10, .int .i64 3, .slice none 0 0, .slice (some ⟨g, 0, none⟩) 1 1, .slice none 0 0] 34) = W2 := ⟨_, rfl⟩
 have E1 := hid (show Below w.heap.size w W1 from by rw [← hW1]; exact alloc_old)
 have E2 := hid (show Below W1.heap.size W1 W2 from by rw [← hW2]; exact alloc_old)
 have X1 := hid (show W1.heap[g]? = some (.cells #[.int .i64 4, .int .i64 10, .int .i64 1, .string ⟨#[]⟩, .int .i64 0, .slice none 0 0, .slice none 0 0] 38) from by rw [← hW1, ← hg]; exact heap_alloc_new _ _)
 have X2 := hid (show W2.heap[g0]? = some (.cells #[.int .i64 10, .int .i64 3, .slice none 0 0, .slice (some ⟨g, 0, none⟩) 1 1, .slice none 0 0] 34) from by rw [← hW2, ← hg0]; exact heap_alloc_new _ _)
 have X1b := hid (blk_below X1.out E2.out)
 have BW := hid (E1.out.trans (E2.out.mono (Below.size E1.out)))
 have S1 := hid (show SL W2 FT 0 (.slice (some ⟨g, 0, none⟩) 1 1) l1T from SL.lit (by intro h; cases h) rfl (by decide) trivial X1b.out (EC_ex.2 ⟨_, _, [], rfl, .nil, .nil, EC_nil.2 rfl⟩))
 have S2 := hid (show SL W2 FT 2 (.slice (some ⟨g0, 0, none⟩) 1 1) lT from SL.lit (by intro h; cases h) rfl (by decide) trivial X2.out (EC_st.2 ⟨_, _, _, [], rfl, .inl ⟨rfl, rfl⟩, S1.out, .nil, EC_nil.2 rfl⟩))
 have CO := hid (fun X (hX : SL X FT 2 (.slice (some ⟨g0, 0, none⟩) 1 1) lT) => (allc (lT.sz + 1)).b lT (Nat.lt_succ_self _) X _ hX)
 rw [lT_count] at CO
 have DE := hid (fun X (hX : SL X FT 2 (.slice (some ⟨g0, 0, none⟩) 1 1) lT) => (allm (lT.sz + 1)).b lT (Nat.lt_succ_self _) X _ hX)
 rw [lT_deep] at DE
 have D0 := hid (fun X => show Calls Tryz.prog 13 #[.slice none 0 0] X (fun e w' => e = .returned (.int .i64 0) ∧ Below X.heap.size X w') from (allm 2).b .nil (by decide) X _ .nil)
 have SA := hid (fun X (hX : SL X FT 2 (.slice (some ⟨g0, 0, none⟩) 1 1) lT) => Same_is lT lT _ _ X hX hX)
 rw [eqb_refl] at SA
 have BA := hid (fun X (hX : SL X FT 2 (.slice (some ⟨g0, 0, none⟩) 1 1) lT) => Bare_is lT lT_wide _ X hX)
 have SB := hid (fun X v (hX : SL X FT 2 (.slice (some ⟨g0, 0, none⟩) 1 1) lT) (hv : SL X FT 2 v (bare lT)) => Same_is lT (bare lT) _ v X hX hv)
 rw [lT_bare] at SB
 clear S1
 go_enter Tryz.func5, Tryz.ntmps5
 go_wp2_with (first | (go_at_call 11; (with_reducible refine (CO.out _ S2.out).mono ?_); rintro e x1 ⟨rfl, h1⟩; have C1 := hid h1; have T1 := hid (S2.out.below h1); clear h1; refine Hid.out ?_))
 refine hid ?_
 go_wp2_with (first | (go_at_call 13; (with_reducible refine (DE.out _ T1.out).mono ?_); rintro e x2 ⟨rfl, h1⟩; have C2 := hid (C1.out.trans (h1.mono (Below.size C1.out))); have T2 := hid (T1.out.below h1); clear h1; refine Hid.out ?_))
 refine hid ?_
 go_wp2_with (first | (go_at_call 13; (with_reducible refine (D0.out _).mono ?_); rintro e x3 ⟨rfl, h1⟩; have C3 := hid (C2.out.trans (h1.mono (Below.size C2.out))); have T3 := hid (T2.out.below h1); clear h1; refine Hid.out ?_))
 refine hid ?_
 go_wp2_with (first | (go_at_call 7; (with_reducible refine (SA.out _ T3.out).mono ?_); rintro e x4 ⟨rfl, h1⟩; have C4 := hid (C3.out.trans (h1.mono (Below.size C3.out))); have T4 := hid (T3.out.below h1); clear h1; refine Hid.out ?_))
 refine hid ?_
 go_wp2_with (first | (go_at_call 9; (with_reducible refine (BA.out _ T4.out).mono ?_); rintro e x5 ⟨vb, rfl, h0, h1⟩; obtain ⟨Ab, nb, cb, rfl, _⟩ := h0.view; have C5 := hid (C4.out.trans (h1.mono (Below.size C4.out))); have T5 := hid (T4.out.below h1); have V5 := hid h0.wide; clear h0 h1; refine Hid.out ?_))
 refine hid ?_
 go_wp2_with (first | (go_at_call 7; (with_reducible refine (SB.out _ _ T5.out V5.out).mono ?_); rintro e x6 ⟨rfl, h1⟩; have C6 := hid (C5.out.trans (h1.mono (Below.size C5.out))); clear h1; refine Hid.out ?_))
 have TE := hid (Text_is g0 g x6 (blk_below X2.out C6.out) (blk_below X1b.out C6.out))
 refine hid ?_
 go_wp2_with (first | (go_at_call 15; (with_reducible refine (TE.out).mono ?_); rintro e x7 ⟨⟨s, rfl, hs⟩, h1⟩; have HS := hid hs; have C7 := hid (C6.out.trans (h1.mono (Below.size C6.out))); clear hs h1; refine Hid.out ?_))
 have hs1 : 0 < s.size := HS.out
 have hs0 : (0 : Int) < (s.size : Int) := by omega
 have BF := hid (BW.out.trans (C7.out.mono (Below.size BW.out)))
 refine hid ?_
 go_wp2
 exact bodyPost_ret (v := .bool true) (by simp [results, Tryz.results5, go_sem, hs1]) rfl ⟨rfl, by first | exact BF.out | (rw [← hg]; exact BF.out)⟩
end Go.Proofs.YtgkejkgailnbmaaGreatDoor
