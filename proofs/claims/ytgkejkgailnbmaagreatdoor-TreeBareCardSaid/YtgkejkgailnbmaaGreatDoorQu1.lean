/- Texts joined: TX, SI -/
import Derived.Test.YtgkejkgailnbmaaGreatDoorQt37
import Derived.Test.YtgkejkgailnbmaaGreatDoorQt21
set_option linter.unusedVariables false
set_option linter.unusedSimpArgs false
namespace TP
section
variable (ts : List Tk) (ex bl : St → R)
def IsSt (a : Int) : T → Prop
 | .st _ b _ _ _ => b = a
 | _ => False
theorem IsSt.form {a : Int} : ∀ {t : T}, IsSt a t → ∃ k ns l b, t = .st k a ns l b
 | .st k b ns l d, h => by cases h; exact ⟨k, ns, l, d, rfl⟩
 | .nil, h => h.elim
 | .cons _ _, h => h.elim
 | .ex _ _ _ _ _ _ _, h => h.elim
 | .fn _ _, h => h.elim
theorem stat_st (a : Nat) (s : St) : ∃ k ns l b, (stat ts ex bl a s).1 = .st k (a : Int) ns l b := by
 apply IsSt.form
 unfold stat
 dsimp only
 repeat' (first | exact rfl | split)
theorem blockLoop_head : ∀ (f : Nat) (x r : T) (s : St), ∃ r', (blockLoop ts ex bl f (.cons x r) s).1 = .cons x r'
 | 0, _, r, _ => ⟨r, rfl⟩
 | f + 1, x, r, s => by
  unfold blockLoop
  dsimp only
  split
  ·exact ⟨r, rfl⟩
  ·split
   ·exact ⟨_, rfl⟩
   ·exact blockLoop_head f x (r.snoc _) _
theorem block_head (s : St) : (block ts ex bl s).1 = .nil ∨ ∃ k ns l b r, (block ts ex bl s).1 = .cons (.st k (s.i : Int) ns l b) r := by
 unfold block blockLoop
 dsimp only
 split
 ·exact .inl rfl
 ·split
  ·exact .inr ⟨_, _, _, _, .nil, rfl⟩
  ·obtain ⟨k, ns, l, b, e⟩ := stat_st ts ex bl s.i s
   obtain ⟨r', e'⟩ := blockLoop_head ts ex bl ts.length (stat ts ex bl s.i s).1 .nil (optS ts (B [59]) (stat ts ex bl s.i s).2)
   refine .inr ⟨k, ns, l, b, r', ?_⟩
   rw [← e]
   exact e'
end
theorem script_head {ts : List Tk} {u : T} (h : script ts = some u) : u = .nil ∨ ∃ k ns l b r, u = .cons (.st k 0 ns l b) r := by
 unfold script at h
 dsimp only at h
 have e : (pk ts 100).bl = block ts (pk ts 99).ex (pk ts 99).bl := rfl
 rw [e] at h
 split at h
 ·injection h with h
  subst h
  exact block_head ts _ _ ⟨0, 0⟩
 ·cases h
theorem scr_front (k : Nat) (l : List UInt8) : (scr l = none → scr (List.replicate k 32 ++ l) = none) ∧ ∀ t, scr l = some t → ∃ t2, scr (List.replicate k 32 ++ l) = some t2 ∧ bare t2 = bare t ∧ t2.len = t.len ∧ eqb t t2 = decide (k = 0 ∨ t.len = 0) := by
 cases hx : lex l with
 | none =>
  have h2 : lex (List.replicate k 32 ++ l) = none := by rw [lex_front, hx]; rfl
  exact ⟨fun _ => scr_none h2, fun t h => by rw [scr_none hx] at h; cases h⟩
 | some ts =>
  have h2 : lex (List.replicate k 32 ++ l) = some (shift k ts) := by rw [lex_front, hx]; rfl
  have e : (shift k ts).map Prod.fst = ts.map Prod.fst := by simp [shift, List.map_map, Function.comp_def]
  rw [scr_some hx, scr_some h2, e]
  cases hs : script (ts.map Prod.fst) with
  | none => exact ⟨fun _ => rfl, fun t h => by cases h⟩
  | some u =>
   refine ⟨fun h => (by cases h), fun t h => ?_⟩
   simp only [Option.map_some, Option.some.injEq] at h
   subst h
   refine ⟨_, rfl, by rw [bare_map, bare_map], by rw [T.len_map, T.len_map], ?_⟩
   rcases script_head hs with rfl | ⟨kk, ns, a, b, r, rfl⟩
   ·simp [T.map, eqb, T.len]
   ·by_cases hk : k = 0
    ·subst hk
     have e0 : shift 0 ts = ts := by simp [shift]
     rw [e0, eqb_refl]
     simp
    ·rw [eqb_shift]
     ·simp [T.map, T.len, hk]
     ·obtain ⟨t, ht, _⟩ := (lex_ok hx).2
      cases ts with
      | nil => simp at ht
      | cons y ys =>
       simp [glT, shift]
       omega
end TP
namespace TP
theorem wide_mono2 {M K : Nat} (h : M ≤ K) : ∀ t : T, wide M t → wide K t
 | .nil, _ => trivial
 | .cons a b, k => ⟨wide_mono2 h a k.1, wide_mono2 h b k.2.1, Nat.le_trans k.2.2 h⟩
 | .ex _ _ _ _ _ l f, k => ⟨wide_mono2 h l k.1, wide_mono2 h f k.2⟩
 | .fn _ b, k => ⟨Nat.le_trans k.1 h, wide_mono2 h b k.2⟩
 | .st _ _ _ l b, k => ⟨Nat.le_trans k.1 h, wide_mono2 h l k.2.1, wide_mono2 h b k.2.2⟩
theorem scr_wide2 {l : List UInt8} {t : T} (hl : l.length ≤ 1000) (h : scr l = some t) : wide 100000 t := by
 cases hx : lex l with
 | none => rw [scr_none hx] at h; cases h
 | some ts =>
  rw [scr_some hx] at h
  simp only [Option.map_eq_some_iff] at h
  obtain ⟨u, hu, rfl⟩ := h
  have h1 := (lex_ok hx).1
  refine (wide_map _ _ _).2 (wide_mono2 ?_ _ (script_wide hu))
  rw [List.length_map]
  omega
end TP
namespace Go.Proofs.YtgkejkgailnbmaaGreatDoor
open Lib (hid)
open Go.ChangeShapes Go.WideShapes Go.ChangeAt Go.RowKit TP
theorem i64_and15 (n : Int) : bits .and .i64 n 15 = n % 16 := by
 have h127 : (BitVec.ofInt 64 15).toNat = 2 ^ 4 - 1 := by decide
 have key : (BitVec.ofInt 64 n &&& BitVec.ofInt 64 15).toNat = (n % ((2 ^ 64 : Nat) : Int)).toNat % 2 ^ 4 := by
  rw [BitVec.toNat_and, BitVec.toNat_ofInt, h127, Nat.and_two_pow_sub_one_eq_mod]
 show IntKind.i64.wrap ((BitVec.ofInt 64 n &&& BitVec.ofInt 64 15).toNat : Nat) = n % 16
 rw [key, IntKind.wrap_i64]
 omega
theorem and15_nat (n : Int) : ∃ K : Nat, bits .and .i64 n 15 = (K : Int) ∧ K ≤ 15 := by
 rw [i64_and15]
 exact ⟨(n % 16).toNat, by omega, by omega⟩
def fr (j : Nat) : ByteArray := ⟨(List.replicate j 32).toArray⟩
theorem fr_size (j : Nat) : (fr j).size = j := by simp [fr, ByteArray.size]
theorem fr_succ (j : Nat) : fr j ++ ⟨#[32]⟩ = fr (j + 1) := by
 apply ByteArray.ext
 simp [fr, Array.replicate_succ]
theorem fr_app (j : Nat) (x : ByteArray) : (fr j ++ x).data.toList = List.replicate j 32 ++ x.data.toList := by
 unfold fr
 rw [ByteArray.data_append, Array.toList_append]
theorem fr_len {j : Nat} {x : ByteArray} (hx : x.size ≤ 400) (hj : j ≤ 15) : (List.replicate j (32 : UInt8) ++ x.data.toList).length ≤ 1000 := by
 have h : x.data.toList.length = x.size := rfl
 rw [List.length_append, List.length_replicate, h]
 omega
theorem append_first {ops : Array Oper} {rest : List Oper} {o : Oper} {a : Act} {Q : Exit → Act → World → Prop} (w : World) (hg : o.guard = none) (s x : Operand) (kd : Nat) (e ty : TypeId) (bytes : Nat) (z : Value) (hop : o.op = Op.call { callee := Callee.builtin Builtin.append, args := #[s, x], argTypes := #[ty, ty] })
  (hu : Tryz.prog.underlying ty = some (.slice e)) (hi : (Tryz.prog.info? e).map (fun i => (i.zero, i.size, i.bytes)) = some (some z, wd kd, bytes)) (hzs : z.cells.size = wd kd) (hw : 0 < wd kd) (hby : bytes ≤ 200)
  (c : Nat) (F : Nat → Prop) (v : Value) (h1 : w.ownsRow c e (wd kd) v 0 []) (hs : a.eval s = v) (u : T) (M : Nat) (hM : 0 < M) (hN : u.len = M) (hFg : ∀ g, v.ownBlock = some g → F g) (ys : List Value) (b cp : Nat) (hx : a.eval x = .slice (some ⟨b, 0, none⟩) M cp) (hb : ∀ j y, ys[j]? = some y → w.cell? ((⟨b, 0, none⟩ : Addr).add j) = some y) (hy : EC w (fun i => F i ∧ v.ownBlock ≠ some i) u kd ys) (hl : M ≤ 100000) (hc : c ≤ w.heap.size) (hF : F w.heap.size)
  (k : ∀ g cap w', OF kd e w' c F (.slice (some ⟨g, 0, none⟩) M cap) u → w.grownBy w' v.ownBlock → (v.ownBlock = some g ∨ g = w.heap.size) → wpList Tryz.prog ops Q rest (a.put o.dst (.slice (some ⟨g, 0, none⟩) M cap)) w') : wpList Tryz.prog ops Q (o :: rest) a w := by
 obtain ⟨i0, hi0, hz0, hz1, hz2⟩ := info_parts hi
 have hyl : ys.length = M * wd kd := by have := hy.len; rwa [hN] at this
 refine wpList_append_lies w hg s x ty hop c e i0 z (wd kd) bytes hu hi0 hz0 hz1 hz2 hzs hw v 0 [] hs h1 ⟨b, 0, none⟩ M cp ys hx hyl hb hy.one hM (by unfold maxLen; omega) ?_ hc _ rfl ?_
 ·have : (0 + M) * bytes ≤ 100002 * 200 := Nat.mul_le_mul (by omega) hby
  omega
 ·intro g cap w' h3 h4 h5 _
  have := OF.grow (t := .nil) (N := 0) (M := M) hy (by rw [hN, Nat.zero_add]) hM h3 h4 h5 hFg hF
  rw [Nat.zero_add] at this ⊢
  exact k g cap w' this h4 h5
theorem len_below {w w' : World} {c : Nat} {e : TypeId} {m : Nat} {v : Value} {n : Nat} {xs : List Value} {wz : World} (h : w.ownsRow c e m v n xs) (hb : Below c wz w) (hc : c ≤ w.heap.size) (hg : w.grownBy w' v.ownBlock) : Below c wz w' :=
 hb.trans ⟨hg.os, hg.tape, hg.output, hg.size, fun i hi => hg.block i (by omega) (fun e => by have := (row_own h i e.symm).1; omega)⟩
theorem wrap_one (a : Int) : wrap64 (a + 1) = wrap64 (wrap64 a + 1) := by
 have := wrap_add a 1
 rw [show _root_.Go.RowKit.wrap64 1 = 1 from wrap_len (n := 1) (by unfold maxLen; omega)] at this
 exact this.symm
def brk : T := .st 9 0 [] .nil .nil
theorem brk_EC (w : World) (F : Nat → Prop) : EC w F (.cons brk .nil) 2 [.int .i64 9, .int .i64 0, .slice none 0 0, .slice none 0 0, .slice none 0 0] := EC_st.2 ⟨_, _, _, [], rfl, .inl ⟨rfl, rfl⟩, .nil, .nil, EC_nil.2 rfl⟩
theorem brk_count {t : T} (h : t.isList) : wrap64 (count (t.snoc brk)) = wrap64 (wrap64 (count t) + 1) := by
 rw [count_snoc _ h, show count brk = 1 from rfl, wrap_one]
theorem brk_ne {t : T} (h : t.isList) : eqb t (t.snoc brk) = false := eqb_ne_len h (isList_snoc _ h) (by rw [len_snoc _ h]; omega)
set_option maxRecDepth 100000 in
set_option maxHeartbeats 16000000 in
theorem bare4_is (x : ByteArray) (n : Int) (w : World) : Calls Tryz.prog 4 #[.string x, .int .i64 n] w fun e w' => e = .returned (.bool true) ∧ Below w.heap.size w w' := by
 have TO := hid (fun X => told_is X)
 obtain ⟨N, hN⟩ : ∃ N, x.size = N := ⟨_, rfl⟩
 have zx : (x.size : Int) = (N : Int) := by rw [hN]
 by_cases h1 : N > 400
 ·have g1 : (400 : Int) < (N : Int) := by omega
  clear hN
  go_enter Tryz.func4, Tryz.ntmps4
  go_wp2_with (first | (go_at_call 5; (with_reducible refine (TO.out _).mono ?_); rintro e w1 ⟨rfl, h1⟩; have B1 := hid h1; clear h1))
  exact bodyPost_ret (v := .bool true) (by simp [results, Tryz.results4, go_sem]) rfl ⟨rfl, B1.out⟩
 ·have g1 : ¬ (400 : Int) < (N : Int) := by omega
  have HX := hid (show x.size ≤ 400 by omega)
  have SX := hid (Script_is x (by have := HX.out; omega) w)
  have SY := hid (fun (j : Nat) (hj : j ≤ 15) X => Script_is (fr j ++ x) (by have := HX.out; rw [ByteArray.size_append, fr_size]; omega) X)
  have WX := hid (fun (j : Nat) (hj : j ≤ 15) t (h : scr (List.replicate j 32 ++ x.data.toList) = some t) => scr_wide2 (fr_len HX.out hj) h)
  obtain ⟨K, hK, hK15⟩ := and15_nat n
  have HK := hid hK15
  clear hN h1 hK15
  go_enter Tryz.func4, Tryz.ntmps4
  go_wp2_with (first | (go_at_call 6; (with_reducible refine (SX.out).mono ?_); rintro e y1 ⟨v1, c1, a1, rfl, h1, h2, h3⟩; have C1 := hid h1; have R1 := hid (And.intro h2 h3); clear h1 h2 h3; refine Hid.out ?_))
  cases ho1 : scr x.data.toList with
  | none =>
   have k1 : ¬ c1 = 0 := R1.out.1 ho1
   have k1b : (c1 == 0) = false := by simp [k1]
   refine hid ?_
   go_wp2_with (first | (go_at_call 5; (with_reducible refine (TO.out _).mono ?_); rintro e w1 ⟨rfl, h1⟩; have B1 := hid (C1.out.trans (h1.mono (Below.size C1.out))); clear h1))
   exact bodyPost_ret (v := .bool true) (by simp [results, Tryz.results4, go_sem]) rfl ⟨rfl, B1.out⟩
  | some ta =>
   obtain ⟨k1, s1⟩ := R1.out.2 _ ho1
   subst k1
   have WA := hid (WX.out 0 (Nat.zero_le _) _ (by simpa using ho1))
   have FL := hid ((scr_front K x.data.toList).2 _ ho1)
   have HL := hid s1.isList
   obtain ⟨A1, n1, d1, rfl, hl1, _⟩ := s1.view
   have TA0 := hid s1.wide
   have HN1 := hid hl1
   clear s1 hl1 ho1 R1 SX
   refine hid ?_
   go_wp2
   go_loopw [8, 9] (fun sv iv wr => ∃ j : Nat, j ≤ K ∧ sv = .string (fr j) ∧ iv = .int .i64 j ∧ wr = y1) (fun _ iv _ => K - (intOf iv).toNat)
   case atStart => exact ⟨0, Nat.zero_le _, rfl, rfl, rfl⟩
   case round =>
    obtain ⟨j, hj, rfl, rfl, rfl⟩ := hrel
    by_cases hlt : j < K
    ·have q0 : (j : Int) < (K : Int) := by omega
     have zs := hid (show ¬ 9223372036854775807 < (fr j).size + 1 by have := HK.out; rw [fr_size]; omega)
     have zs' := zs.out
     have hlo := (wrap_succ hlt (Nat.le_trans HK.out (by decide))).2
     go_wp2
     exact ⟨⟨j + 1, hlt, by rw [fr_succ], by rw [hlo], trivial⟩, dec_lt hlt hlo⟩
    ·obtain rfl : j = K := by omega
     have q0 : ¬ (j : Int) < (j : Int) := by omega
     have zs := hid (show ¬ 9223372036854775807 < (fr j).size + x.size by have := HX.out; have := HK.out; rw [fr_size]; omega)
     have zs' := zs.out
     go_wp2_with (first | (go_at_call 6; (with_reducible refine (SY.out j HK.out _).mono ?_); rintro e y2 ⟨v2, c2, a2, rfl, h1, h2, h3⟩; have B2 := hid h1; have C2 := hid (C1.out.trans (h1.mono (Below.size C1.out))); have TA2 := hid (TA0.out.below h1); obtain ⟨tb, ht2, e1, e2, e3⟩ := FL.out; rw [fr_app] at h2 h3; obtain ⟨k2, s2⟩ := h3 _ ht2; subst k2; have WB := hid (WX.out j HK.out _ ht2); have E1 := hid e1; have E3 := hid e3; obtain ⟨A2, n2, d2, rfl, _⟩ := s2.view; have TB2 := hid s2.wide; clear h1 h2 h3 s2 ht2 e1 e2 e3; refine Hid.out ?_))
     refine hid ?_
     go_wp2_with (first | (go_at_call 9; (with_reducible refine (Bare_is ta WA.out _ _ TA2.out).mono ?_); rintro e y3 ⟨vx, rfl, h0, h1⟩; obtain ⟨Ax, nx, cx, rfl, _⟩ := h0.view; have TX3 := hid h0.wide; clear h0; have C3 := hid (C2.out.trans (h1.mono (Below.size C2.out))); have TA3 := hid (TA2.out.below h1); have TB3 := hid (TB2.out.below h1); clear h1; refine Hid.out ?_))
     refine hid ?_
     go_wp2_with (first | (go_at_call 9; (with_reducible refine (Bare_is tb WB.out _ _ TB3.out).mono ?_); rintro e y4 ⟨vy, rfl, h0, h1⟩; rw [E1.out] at h0; obtain ⟨Ay, ny, cy, rfl, _⟩ := h0.view; have TY4 := hid h0.wide; clear h0; have C4 := hid (C3.out.trans (h1.mono (Below.size C3.out))); have TA4 := hid (TA3.out.below h1); have TB4 := hid (TB3.out.below h1); have TX4 := hid (TX3.out.below h1); clear h1; refine Hid.out ?_))
     refine hid ?_
     go_wp2_with (first | (go_at_call 7; (with_reducible refine (Same_is (bare ta) (bare ta) _ _ _ TX4.out TY4.out).mono ?_); rintro e y5 ⟨rfl, h1⟩; rw [eqb_refl]; have C5 := hid (C4.out.trans (h1.mono (Below.size C4.out))); have TA5 := hid (TA4.out.below h1); have TB5 := hid (TB4.out.below h1); clear h1; refine Hid.out ?_))
     clear TX4 TY4 TX3 TB3 TB4 TA3 TA4 TA2 TB2 C2 C3 C4 B2
     have HM := hid (show ta.len ≤ 100000 from wide_len WA.out HL.out)
     have CQ : (n1 = 0 ∧ ((n1 : Int) == 0) = true ∧ ((j : Int) == 0) = true ∧ eqb ta tb = true) ∨ (n1 = 0 ∧ ((n1 : Int) == 0) = true ∧ ((j : Int) == 0) = false ∧ eqb ta tb = true) ∨ (0 < n1 ∧ ((n1 : Int) == 0) = false ∧ ((j : Int) == 0) = true ∧ eqb ta tb = true) ∨ (0 < n1 ∧ ((n1 : Int) == 0) = false ∧ ((j : Int) == 0) = false ∧ eqb ta tb = false) := by
      rw [E3.out, HN1.out]
      have hn (h : 0 < n1) : ((n1 : Int) == 0) = false := beq_eq_false_iff_ne.2 (by omega)
      by_cases hj0 : j = 0
      ·rcases Nat.eq_zero_or_pos n1 with h | h
       ·exact .inl ⟨h, by simp [h], by simp [hj0], by simp [hj0]⟩
       ·exact .inr (.inr (.inl ⟨h, hn h, by simp [hj0], by simp [hj0]⟩))
      ·have hjb : ((j : Int) == 0) = false := beq_eq_false_iff_ne.2 (by omega)
       rcases Nat.eq_zero_or_pos n1 with h | h
       ·exact .inr (.inl ⟨h, by simp [h], hjb, by simp [h]⟩)
       ·exact .inr (.inr (.inr ⟨h, hn h, hjb, by simp [hj0]; omega⟩))
     rcases CQ with ⟨hn1, q2, q1, hq⟩ | ⟨hn1, q2, q1, hq⟩ | ⟨hn1, q2, q1, hq⟩ | ⟨hn1, q2, q1, hq⟩
     all_goals
      have hn0 := hid hn1
      clear hn1 E1 E3 HK FL SY WX WB
      refine hid ?_
      go_wp2_with (first | (go_at_call 7; (with_reducible refine (Same_is ta tb _ _ _ TA5.out TB5.out).mono ?_); rintro e y6 ⟨rfl, h1⟩; rw [hq]; have C6 := hid (C5.out.trans (h1.mono (Below.size C5.out))); have TA6 := hid (TA5.out.below h1); clear h1; refine Hid.out ?_))
      clear C5 TA5 TB5 zs zs'
      obtain ⟨W0, hW0⟩ : ∃ W, y6.alloc (.cells #[] 34) = W := ⟨_, rfl⟩
      have nz := hid (show W0.heap[y6.heap.size]? = some (.cells ([] : List Value).toArray 34) from by rw [← hW0]; exact heap_alloc_new y6 _)
      have O0 := hid (ownsRow_lit (n := 0) (m := 5) nz.out (Nat.le_refl _) rfl (Nat.zero_le _))
      have D0 := hid (show Below y6.heap.size y6 W0 from by rw [← hW0]; exact alloc_old)
      have S0 := hid (show y6.heap.size + 1 = W0.heap.size from by rw [← hW0, World.size_alloc])
      clear nz
     iterate 2
      focus
       have hn1 := hn0.out
       subst hn1
       have hnil : ta = .nil := by have h1 := HL.out; have h2 := HN1.out; cases ta <;> first | rfl | exact h1.elim | (simp [T.len] at h2)
       obtain ⟨rfl, rfl⟩ : A1 = none ∧ d1 = 0 := by rcases TA6.out with ⟨_, e⟩ | ⟨e, _⟩ <;> first | (cases e; exact ⟨rfl, rfl⟩) | exact absurd hnil e
       have zb := hid (Nat.le_trans (Below.size D0.out) (show W0.heap.size ≤ (W0.alloc (.cells #[.int .i64 9, .int .i64 0, .slice none 0 0, .slice none 0 0, .slice none 0 0] 34)).heap.size by rw [World.size_alloc]; omega))
       have nB := hid (heap_alloc_new W0 (.cells #[.int .i64 9, .int .i64 0, .slice none 0 0, .slice none 0 0, .slice none 0 0] 34))
       have OD := hid (row_below O0.out (alloc_old (w := W0) (o := .cells #[.int .i64 9, .int .i64 0, .slice none 0 0, .slice none 0 0, .slice none 0 0] 34)))
       have BD := hid (D0.out.trans ((alloc_old (w := W0) (o := .cells #[.int .i64 9, .int .i64 0, .slice none 0 0, .slice none 0 0, .slice none 0 0] 34)).mono (Below.size D0.out)))
       refine hid ?_
       go_wp2_with (first | (at_builtin; refine append_first _ rfl _ _ 2 34 23 88 _ rfl und23 i34n rfl (by decide) (by decide) y6.heap.size FT _ OD.out rfl (T.nil.snoc brk) 1 (by decide) rfl (fun _ _ => trivial) [.int .i64 9, .int .i64 0, .slice none 0 0, .slice none 0 0, .slice none 0 0] _ _ rfl (news_blk nB.out) (brk_EC _ _) (by decide) zb.out trivial ?_; intro g2 cp2 z0 h1 h2 h3; have BE := hid (len_below OD.out BD.out zb.out h2); have TC_0 := hid (show SL z0 FT 2 _ (ta.snoc brk) by rw [hnil]; exact (OF.sl h1).wide); have TA_0 := hid (TA6.out.below BE.out); have L0 := hid (C6.out.trans (BE.out.mono (Below.size C6.out))); clear h1 h2 h3 OD O0 D0 BD nB zb BE; refine Hid.out ?_))
      rotate_left
     iterate 2
      focus
       obtain ⟨b, xs, rfl, hcs, hxs⟩ := (show SL W0 (fun i => i < y6.heap.size) 2 (.slice A1 n1 d1) ta from SL.keep (fun i _ hl => D0.out.block i hl) (Below.size D0.out) (fun i _ hl => hl) _ _ _ TA6.out).row HN1.out hn0.out
       have HY := hid (show EC W0 (fun i => FT i ∧ (Value.slice (some ⟨y6.heap.size, 0, none⟩) 0 0).ownBlock ≠ some i) ta 2 xs from EC.keep (fun _ _ _ => rfl) (Nat.le_refl _) (fun i hi hl => ⟨trivial, by simp [Value.ownBlock]; omega⟩) _ _ _ hxs)
       have HC := hid (fun j u (h : xs[j]? = some u) => show W0.cell? ((⟨b, 0, none⟩ : Addr).add j) = some u from by rw [Addr.add_lit, Nat.zero_add]; exact hcs j u h)
       clear hcs hxs
       refine hid ?_
       go_wp2_with (first | (at_builtin; refine append_first W0 rfl _ _ 2 34 23 88 _ rfl und23 i34n rfl (by decide) (by decide) y6.heap.size FT _ O0.out rfl ta n1 hn0.out HN1.out (fun _ _ => trivial) xs b d1 rfl HC.out HY.out (by have := HM.out; have := HN1.out; omega) (by have := S0.out; omega) trivial ?_; intro g1 cp1 W1 h1 h2 h3; have OC := hid h1; have BC := hid (len_below O0.out D0.out (by have := S0.out; omega) h2); clear h1 h2 h3 HY HC O0 D0 S0; refine Hid.out ?_))
       have zb := hid (Nat.le_trans (Below.size BC.out) (show W1.heap.size ≤ (W1.alloc (.cells #[.int .i64 9, .int .i64 0, .slice none 0 0, .slice none 0 0, .slice none 0 0] 34)).heap.size by rw [World.size_alloc]; omega))
       have nB := hid (heap_alloc_new W1 (.cells #[.int .i64 9, .int .i64 0, .slice none 0 0, .slice none 0 0, .slice none 0 0] 34))
       have OD := hid (OC.out.bel (alloc_old (w := W1) (o := .cells #[.int .i64 9, .int .i64 0, .slice none 0 0, .slice none 0 0, .slice none 0 0] 34)))
       have BD := hid (BC.out.trans ((alloc_old (w := W1) (o := .cells #[.int .i64 9, .int .i64 0, .slice none 0 0, .slice none 0 0, .slice none 0 0] 34)).mono (Below.size BC.out)))
       refine hid ?_
       go_wp2_with (first | (at_builtin; refine append_OF _ rfl _ _ 2 34 23 88 _ rfl und23 i34n rfl (by decide) (by decide) y6.heap.size FT (.slice (some ⟨g1, 0, none⟩) n1 cp1) ta n1 HN1.out rfl OD.out brk [.int .i64 9, .int .i64 0, .slice none 0 0, .slice none 0 0, .slice none 0 0] _ rfl nB.out (brk_EC _ _) (by have := HM.out; have := HN1.out; omega) zb.out trivial ?_; intro g2 cp2 z0 h1 h2 h3; have BE := hid (OD.out.grownB BD.out zb.out h2); have TC_0 := hid (OF.sl h1).wide; have TA_0 := hid (TA6.out.below BE.out); have L0 := hid (C6.out.trans (BE.out.mono (Below.size C6.out))); clear h1 h2 h3 OC OD BC BD nB zb BE; refine Hid.out ?_))
      rotate_left
     all_goals
      have CN := hid (brk_count HL.out)
      have NE := hid (brk_ne HL.out)
      refine hid ?_
      go_wp2_with (first | (go_at_call 5; (with_reducible refine (TO.out _).mono ?_); rintro e z1 ⟨rfl, h1⟩; have L1 := hid (L0.out.trans (h1.mono (Below.size L0.out))); have TA_1 := hid (TA_0.out.below h1); have TC_1 := hid (TC_0.out.below h1); clear h1; refine Hid.out ?_))
      refine hid ?_
      go_wp2_with (first | (go_at_call 7; (with_reducible refine (Same_is ta (ta.snoc brk) _ _ _ TA_1.out TC_1.out).mono ?_); rintro e z2 ⟨rfl, h1⟩; rw [NE.out]; have L2 := hid (L1.out.trans (h1.mono (Below.size L1.out))); have TA_2 := hid (TA_1.out.below h1); have TC_2 := hid (TC_1.out.below h1); clear h1; refine Hid.out ?_))
      refine hid ?_
      go_wp2_with (first | (go_at_call 11; (with_reducible refine ((allc ((ta.snoc brk).sz + 1)).b (ta.snoc brk) (Nat.lt_succ_self _) _ _ TC_2.out).mono ?_); rintro e z3 ⟨rfl, h1⟩; rw [CN.out]; have L3 := hid (L2.out.trans (h1.mono (Below.size L2.out))); have TA_3 := hid (TA_2.out.below h1); clear h1; refine Hid.out ?_))
      refine hid ?_
      go_wp2_with (first | (go_at_call 11; (with_reducible refine ((allc (ta.sz + 1)).b ta (Nat.lt_succ_self _) _ _ TA_3.out).mono ?_); rintro e z4 ⟨rfl, h1⟩; have L4 := hid (L3.out.trans (h1.mono (Below.size L3.out))); have TA_4 := hid (TA_3.out.below h1); clear h1; refine Hid.out ?_))
      refine hid ?_
      go_wp2_with (first | (go_at_call 9; (with_reducible refine (Bare_is ta WA.out _ _ TA_4.out).mono ?_); rintro e z5 ⟨vx, rfl, h0, h1⟩; obtain ⟨Az, nz, cz, rfl, _⟩ := h0.view; have TX_5 := hid h0.wide; clear h0; have L5 := hid (L4.out.trans (h1.mono (Below.size L4.out))); have TA_5 := hid (TA_4.out.below h1); clear h1; refine Hid.out ?_))
      refine hid ?_
      go_wp2_with (first | (go_at_call 9; (with_reducible refine (Bare_is (bare ta) ((wide_bare _ _).2 WA.out) _ _ TX_5.out).mono ?_); rintro e z6 ⟨vy, rfl, h0, h1⟩; rw [bare_bare] at h0; obtain ⟨Ay2, ny2, cy2, rfl, _⟩ := h0.view; have TY_6 := hid h0.wide; clear h0; have L6 := hid (L5.out.trans (h1.mono (Below.size L5.out))); have TA_6 := hid (TA_5.out.below h1); clear h1; refine Hid.out ?_))
      refine hid ?_
      go_wp2_with (first | (go_at_call 9; (with_reducible refine (Bare_is ta WA.out _ _ TA_6.out).mono ?_); rintro e z7 ⟨vz, rfl, h0, h1⟩; obtain ⟨Az2, nz2, cz2, rfl, _⟩ := h0.view; have TZ_7 := hid h0.wide; clear h0; have L7 := hid (L6.out.trans (h1.mono (Below.size L6.out))); have TY_7 := hid (TY_6.out.below h1); clear h1; refine Hid.out ?_))
      refine hid ?_
      go_wp2_with (first | (go_at_call 7; (with_reducible refine (Same_is (bare ta) (bare ta) _ _ _ TY_7.out TZ_7.out).mono ?_); rintro e z8 ⟨rfl, h1⟩; rw [eqb_refl]; have L8 := hid (L7.out.trans (h1.mono (Below.size L7.out))); clear h1; refine Hid.out ?_))
      refine hid ?_
      go_wp2
      exact bodyPost_ret (v := .bool true) (by simp [results, Tryz.results4, go_sem]) rfl ⟨rfl, L8.out⟩
end Go.Proofs.YtgkejkgailnbmaaGreatDoor
