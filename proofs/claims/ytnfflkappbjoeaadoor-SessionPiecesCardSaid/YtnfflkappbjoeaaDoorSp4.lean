/- The walk of the law SessionPieces. -/
import Derived.Test.YtnfflkappbjoeaaDoorSp3
import Derived.Laws.BitsLemmas
namespace Go.Proofs.YtnfflkappbjoeaaDoor
open Go.ChangeShapes Go.WideShapes Go.ChangeAt Go.RowKit Go.Resp

theorem ISl.row {w : World} {A : Option Addr} {n c : Nat} {zs : List Int} (h : ISl w (.slice A n c) zs) : zs ≠ [] → ∃ blk off, A = some ⟨blk, off, none⟩ ∧ blk < w.heap.size ∧ ∀ i z, zs[i]? = some z → w.cell? ⟨blk, off + i, none⟩ = some (.int .i64 z) := by
  obtain ⟨A', c', h1, _, _, h4⟩ := h
  injection h1 with e1 _ _
  subst e1
  exact h4
theorem i64_and63 (n : Int) : bits .and .i64 n 63 = n % 64 := by
  have h127 : (BitVec.ofInt 64 63).toNat = 2 ^ 6 - 1 := by decide
  have key : (BitVec.ofInt 64 n &&& BitVec.ofInt 64 63).toNat = (n % ((2 ^ 64 : Nat) : Int)).toNat % 2 ^ 6 := by
    rw [BitVec.toNat_and, BitVec.toNat_ofInt, h127, Nat.and_two_pow_sub_one_eq_mod]
  show IntKind.i64.wrap ((BitVec.ofInt 64 n &&& BitVec.ofInt 64 63).toNat : Nat) = n % 64
  rw [key, IntKind.wrap_i64]
  omega
theorem piece_len (z : Int) (n p : Nat) (hp : p < n) (_hn : n ≤ 60000) : ∃ q : Nat, min (wrap64 (1 + bits BinOp.and IntKind.i64 z 63)) ((n : Int) - (p : Int)) = (q : Int) ∧ 1 ≤ q ∧ p + q ≤ n := by
  rw [i64_and63]
  have h1 := Int.emod_nonneg z (show (64 : Int) ≠ 0 by decide)
  have h2 := Int.emod_lt_of_pos z (show (0 : Int) < 64 by decide)
  rw [IntWalk.wrap64_in _ (by omega)]
  exact ⟨(min (1 + z % 64) ((n : Int) - (p : Int))).toNat, by omega, by omega, by omega⟩
theorem rest_nil {l : List UInt8} {ys : List (List (List UInt8))} {r : List UInt8} {b : Bool} (h : AllR l ys r b) (hb : b = true) : r = [] := by
  induction h with
  | more l h => cases hb
  | bad l h => rfl
  | one l xs p ys rest br h h0 hl hx hr ih => exact ih hb
def waits (br : Bool) (r q : List UInt8) : List UInt8 := if br then r else r ++ q
theorem step_pieces {L r q : List UInt8} {yb : List (List (List UInt8))} {br : Bool} (h : AllR L yb r br) : ∃ zs r2 c2, AllR (waits br r q) zs r2 c2 ∧ AllR (L ++ q) (yb ++ zs) r2 (br || c2) ∧ zs.length ≤ r.length + q.length := by
  cases br with
  | false =>
    obtain ⟨zs, r2, c2, g, _⟩ := AllR.some (r ++ q)
    have hc := count_of g
    rw [List.length_append] at hc
    exact ⟨zs, r2, c2, g, by rw [Bool.false_or]; exact h.join rfl g, by omega⟩
  | true =>
    obtain rfl := rest_nil h rfl
    exact ⟨[], [], false, AllR.more _ (by kernel_rfl), by rw [List.append_nil]; exact h.broken rfl, by simp⟩
theorem PushAny (b c : Nat) (hbc : b < c) (s : ByteArray) (l : List UInt8) (w : World) (vin vout : Value) (br : Bool) (mu sp q k2 k3 k4 : Value) (h : At b c w vin vout br mu sp q k2 k3 k4 l) (hc : c ≤ w.heap.size) (hfit : (l.length : Int) + (s.size : Int) ≤ 65536) :
    Calls Tryd.prog 8 #[.pointer (some ⟨b, 0, none⟩), .string s] w fun e w' => (∃ z, e = .returned (.int .i64 z)) ∧ (∃ vin', At b c w' vin' vout br mu sp q k2 k3 k4 (waits br l s.data.toList)) ∧ But b c w w' ∧ Far b w w' := by
  cases br with
  | false =>
    refine (Push_ok b c hbc s l w _ _ _ _ _ _ _ _ h.ses h.own hc hfit h.in5).mono ?_
    rintro e w' ⟨rfl, vin', h1, h2, h3, h4, h5⟩
    exact ⟨⟨_, rfl⟩, ⟨vin', h1, h2, h4⟩, h3, h5⟩
  | true =>
    refine (Push_broken b s w _ _ _ _ _ _ _ _ h.ses).mono ?_
    rintro e w' ⟨rfl, rfl⟩
    exact ⟨⟨_, rfl⟩, ⟨vin, h⟩, But.refl _ _ _, Far.refl _ _⟩
theorem RsO.but {c b : Nat} {w w' : World} {v : Value} {xss : List (List ByteArray)} {cs : Array Value} (h : RsO c w v xss) (hS : Ses w b cs) (hb : But b w.heap.size w w') : RsO c w' v xss := h.far hb.size hS (Far.but hb)
theorem append_R {ops : Array Oper} {rest : List Oper} {o : Oper} {a : Act} {Q : Exit → Act → World → Prop} (w : World) (hg : o.guard = none) (s x : Operand) (hop : o.op = Op.call { callee := Callee.builtin Builtin.append, args := #[s, x], argTypes := #[22, 22] })
    (B c2 : Nat) (xss yss : List (List ByteArray)) (v u : Value) (hs : a.eval s = v) (h : RsO B w v xss) (hx : a.eval x = u) (h2 : RsO c2 w u yss) (hu : yss = [] → u = .slice none 0 0) (hb : xss.length + yss.length ≤ 1000000) (hB : B ≤ w.heap.size)
    (k : ∀ v' w', RsO B w' v' (xss ++ yss) → Keep26 w w' → Below B w w' → wpList Tryd.prog ops Q rest (a.put o.dst v') w') : wpList Tryd.prog ops Q (o :: rest) a w := by
  obtain ⟨v', w', hrun, h1, h3, h4⟩ := run_append_R w o.type B c2 xss yss v u h h2 hu hb hB
  refine wpList_plain hg fun K hK' => ?_
  unfold Oper.wp
  simp [execOp, hop, resolve, invoke, builtin, hs, hx, hrun, Result.andThen]
  exact hK' _ _ (k _ _ h1 h3 h4)
set_option maxRecDepth 100000 in
set_option maxHeartbeats 8000000 in
theorem pieces_walk (w0 : World) (hT : Tab w0) (v1 v2 v3 v0 : Value) (xss : List (List ByteArray)) (zs cuts : List Int) (lb : List UInt8) (h0 : RSl w0 v0 xss) (h1 : ISl w0 v1 zs) (h2 : BSl w0 v2 lb) (h3 : ISl w0 v3 cuts) :
    Calls Tryd.prog 3 #[v0, v1, v2, v3] w0 fun e w' => e = .returned (.bool true) ∧ Below w0.heap.size w0 w' := by
  have IT := Lib.hid (ItoaOn.of hT)
  have T := Lib.hid told10
  have H1 := Lib.hid h1
  have H2 := Lib.hid h2
  have H3 := Lib.hid h3
  obtain ⟨A, cap, rfl, p1, p2, p3⟩ := h0
  obtain ⟨A1, cap1, rfl, q1, q2, _⟩ := id h1
  obtain ⟨A2, cap2, rfl, r1, r2, _⟩ := id h2
  obtain ⟨A3, cap3, rfl, s1, s2, _⟩ := id h3
  unfold maxLen at p2 q2 r2 s2
  have P3 := Lib.hid p3
  clear p3 h1 h2 h3 hT
  by_cases hl : (10 : Int) < (xss.length : Int)
  · go_enter Tryd.func3, Tryd.ntmps3
    go_wp2_with (first | (go_at_call 4; (with_reducible refine (T.out _).mono ?_); rintro e w1 ⟨rfl, hb1⟩))
    go_ret
    exact ⟨rfl, hb1⟩
  · go_enter Tryd.func3, Tryd.ntmps3
    go_wp2
    go_loopw [9, 10, 11] (fun t i z wr => ∃ (s : ByteArray) (k : Nat), t = .string s ∧ i = .int .i64 k ∧ k ≤ xss.length ∧ s.size ≤ 7000 * k ∧ Hid (Below w0.heap.size w0 wr)) (fun _ i _ _ => xss.length - (intOf i).toNat)
    case atStart => exact ⟨⟨#[]⟩, 0, rfl, rfl, Nat.zero_le _, Nat.le_refl _, Lib.hid (Below.refl _ _)⟩
    case round =>
      obtain ⟨s, k, rfl, rfl, hk, hs, HB⟩ := hrel
      by_cases hlt : k < xss.length
      · obtain ⟨blk, off, rfl, hblk, hc⟩ := P3.out (by intro e; rw [e] at hlt; simp at hlt)
        obtain ⟨xs, hxs⟩ : ∃ xs, xss[k]? = some xs := ⟨_, List.getElem?_eq_getElem hlt⟩
        obtain ⟨u, hu, hsu⟩ := hc k xs hxs
        have HSU := Lib.hid hsu
        obtain ⟨B, cb, rfl, b1, b2, b3⟩ := hsu
        unfold maxLen at b2
        have hcell := (HB.out.cell (p := ⟨blk, off + k, none⟩) hblk).trans hu
        have B3 := Lib.hid b3
        have hk1 : (k : Int) < (xss.length : Int) := by omega
        clear hc hxs hu b3
        by_cases hx : (10 : Int) < (xs.length : Int)
        · go_wp2_with (first | (go_at_call 4; (with_reducible refine (T.out _).mono ?_); rintro e w1 ⟨rfl, hb1⟩))
          go_ret
          exact ⟨rfl, HB.out.trans (hb1.mono (Below.size HB.out))⟩
        · go_wp2
          go_loop [11] (fun i => ∃ j : Nat, j ≤ xs.length ∧ Hid ((xs.take j).all (fun s => decide (s.size ≤ 200)) = true) ∧ i = .int .i64 j) (fun i => xs.length - (intOf i).toNat)
          case atStart => exact ⟨0, Nat.zero_le _, Lib.hid rfl, rfl⟩
          case round =>
            obtain ⟨j, hj, HA, rfl⟩ := hrel
            by_cases hjl : j < xs.length
            · obtain ⟨blk2, off2, rfl, hblk2, hc2⟩ := B3.out (by intro e; rw [e] at hjl; simp at hjl)
              obtain ⟨z, hz⟩ : ∃ z, xs[j]? = some z := ⟨_, List.getElem?_eq_getElem hjl⟩
              have hcell2 := (HB.out.cell (p := ⟨blk2, off2 + j, none⟩) hblk2).trans (hc2 j z hz)
              have HZ := Lib.hid hz
              have hj1 : (j : Int) < (xs.length : Int) := by omega
              clear hc2 hz
              by_cases hb : (200 : Int) < (z.size : Int)
              · go_wp2_with (first | (go_at_call 4; (with_reducible refine (T.out _).mono ?_); rintro e w1 ⟨rfl, hb1⟩))
                go_ret
                exact ⟨rfl, HB.out.trans (hb1.mono (Below.size HB.out))⟩
              · go_wp2
                go_round
                case rel =>
                  refine ⟨j + 1, by omega, Lib.hid ?_, by go_num⟩
                  have e : xs.take (j + 1) = xs.take j ++ [z] := by rw [List.take_add_one, HZ.out]; rfl
                  rw [e, List.all_append, HA.out]
                  simp; omega
                case measure => simp [intOf]; omega
            · obtain rfl : j = xs.length := by omega
              have hfew : fewB xs = true := by
                have := HA.out
                rw [List.take_length] at this
                unfold fewB
                rw [this, Bool.true_and, decide_eq_true_iff]
                omega
              have RF := Lib.hid (RefFrame16 w0 IT.out _ xs wr HB.out (HSU.out.below HB.out) hfew)
              have FL := Lib.hid (few_len xs hfew)
              go_wp2_with (first | (go_at_call 5; (with_reducible refine RF.out.mono ?_); rintro e w3 ⟨⟨t3, rfl, ht3⟩, hb3⟩; have hs3 : t3.size ≤ 7000 := (by (have e1 : t3.size = (frameL xs).length := (by (rw [← ht3]; simp))); (have e2 := FL.out); omega)))
              exact ⟨⟨_, k + 1, rfl, by go_num, by omega, by rw [ByteArray.size_append]; omega, Lib.hid (HB.out.trans (hb3.mono (Below.size HB.out)))⟩, by simp [intOf]; omega⟩
      · obtain rfl : k = xss.length := by omega
        have hs2 : s.size ≤ 100000 := by omega
        have TU := Lib.hid (Turned18 _ _ s hs2 zs lb wr (H1.out.below HB.out) (H2.out.below HB.out))
        have N := Lib.hid (fun w => New5 w)
        go_wp2_with (first | (go_at_call 6; (with_reducible refine TU.out.mono ?_); rintro e w1 ⟨t, rfl, ht, hb1⟩; have HB1 := Lib.hid (HB.out.trans (hb1.mono (Below.size HB.out))); clear hb1) | (go_at_call 7; (with_reducible refine (N.out _).mono ?_); rintro e w2 ⟨rfl, hw2⟩; refine Hid.out ?_))
        refine Lib.hid ?_
        obtain ⟨a, ha⟩ : ∃ a, w1.heap.size = a := ⟨_, rfl⟩
        have SA : Ses w2 a ses0 := by rw [← hw2, ← ha]; exact heap_alloc_new w1 _
        have b2 : Below a w1 w2 := by rw [← hw2]; exact (Below.refl _ _).alloc (by omega) _
        have hz2 : w2.heap.size = a + 1 := by rw [← hw2, ← ha]; simp
        rw [ha]
        go_wp2_with (first | (go_at_call 7; (with_reducible refine (N.out _).mono ?_); rintro e w3 ⟨rfl, hw3⟩; refine Hid.out ?_))
        refine Lib.hid ?_
        have SB : Ses w3 (a + 1) ses0 := by rw [← hw3, ← hz2]; exact heap_alloc_new w2 _
        have b3 : Below (a + 1) w2 w3 := by rw [← hw3, ← hz2]; exact (Below.refl _ _).alloc (Nat.le_refl _) _
        have SA3 : Ses w3 a ses0 := SA.far (b3.block a (by omega))
        have hz3 : w3.heap.size = a + 2 := by rw [← hw3]; simp [hz2]
        have z0 : w0.heap.size ≤ a := by rw [← ha]; exact Below.size HB1.out
        have B3 := Lib.hid (show Below w0.heap.size w0 w3 from (HB1.out.trans (b2.mono z0)).trans (b3.mono (by omega)))
        try rw [hz2]
        unfold ses0 at SB SA3
        have HSA := Lib.hid SA3
        have HSB := Lib.hid SB
        clear SA SB SA3 b2 b3 hw2 hw3
        by_cases hbig : (60000 : Int) < (t.size : Int)
        · go_wp2_with (first | (go_at_call 4; (with_reducible refine (T.out _).mono ?_); rintro e w4 ⟨rfl, hb4⟩))
          go_ret
          exact ⟨rfl, B3.out.trans (hb4.mono (by rw [hz3]; omega))⟩
        · obtain ⟨ys, rest, br, hall, _⟩ := AllR.some t.data.toList
          have hcnt := count_of hall
          have htl : t.data.toList.length = t.size := by simp
          have HALL := Lib.hid hall
          clear hall
          have PA := Lib.hid (Push_ok a (a + 2) (by omega) t [] w3 _ _ _ _ _ _ _ _ HSA.out (.inr ⟨rfl, rfl⟩) (by omega) (by simp; omega) (In5.nil _))
          go_wp2_with (first | (go_at_call 8; (with_reducible refine PA.out.mono ?_); rintro e w4 ⟨rfl, vin4, hs4, ho4, hb4, hi4, _⟩; refine Hid.out ?_))
          refine Lib.hid ?_
          rw [List.nil_append] at ho4
          have HA4 := Lib.hid (show At a (a + 2) w4 vin4 (.slice none 0 0) false (.bool false) (.bool false) (.slice none 0 0) (.slice none 0 0) (.slice none 0 0) (.slice none 0 0) t.data.toList from ⟨hs4, ho4, hi4⟩)
          have HSB4 := Lib.hid (HSB.out.far (hb4.block (a + 1) (by omega) (by omega)))
          have hz4 : a + 2 ≤ w4.heap.size := by have := hb4.size; omega
          have B4 := Lib.hid (show Below w0.heap.size w0 w4 from B3.out.trans ((hb4.below (by omega)).mono z0))
          clear hs4 ho4 hb4 hi4
          have AL := Lib.hid (all9 a (a + 2) (by omega) w4 _ _ _ _ _ _ _ _ _ _ ys rest br HA4.out HALL.out hz4 (by omega) rfl)
          go_wp2_with (first | (go_at_call 9; (with_reducible refine AL.out.mono ?_); rintro e w5 ⟨⟨vx, rfl, hrx, _⟩, _, hb5⟩; refine Hid.out ?_))
          refine Lib.hid ?_
          have HX := Lib.hid hrx
          have HSB5 := Lib.hid (HSB4.out.far (hb5.block (a + 1) (by omega) (by omega)))
          have hz5 : a + 2 ≤ w5.heap.size := Nat.le_trans hz4 hb5.size
          have B5 := Lib.hid (show Below w0.heap.size w0 w5 from B4.out.trans ((hb5.below (by omega)).mono z0))
          clear hrx hb5
          obtain ⟨Y0, hY0⟩ : ∃ Y0, w5.heap.size = Y0 := ⟨_, rfl⟩
          have hYz : a + 2 ≤ Y0 := by omega
          have HALL2 := Lib.hid (show AllR (t.data.toList.take 0) [] [] false from AllR.more _ (by kernel_rfl))
          go_wp2
          go_loopw [16, 17, 18, 19, 20, 21, 22] (fun y f at_ i m z g wr => ∃ (p I : Nat) (yb : List (List (List UInt8))) (rest' : List UInt8) (br' : Bool) (vin : Value), p ≤ t.size ∧ I ≤ p ∧ at_ = .int .i64 p ∧ i = .int .i64 I ∧ f = .int .i64 (codeB br') ∧ (∃ A c, y = .slice A yb.length c) ∧ Hid (AllR (t.data.toList.take p) yb rest' br' ∧ RsO Y0 wr y (yb.map bytesOf) ∧ At (a + 1) Y0 wr vin (.slice none 0 0) br' (.bool false) (.bool false) (.slice none 0 0) (.slice none 0 0) (.slice none 0 0) (.slice none 0 0) rest' ∧ But (a + 1) Y0 w5 wr)) (fun _ _ at_ _ _ _ _ _ => t.size - (intOf at_).toNat)
          case atStart => exact ⟨0, 0, [], [], false, _, Nat.zero_le _, Nat.le_refl _, rfl, rfl, rfl, ⟨none, 0, rfl⟩, Lib.hid ⟨HALL2.out, RsO.nil _ _, ⟨HSB5.out, .inr ⟨rfl, rfl⟩, In5.nil _⟩, But.refl _ _ _⟩⟩
          case round =>
            obtain ⟨p, I, yb, rest', br', vin, hp, hI, rfl, rfl, rfl, ⟨Ay, cy, rfl⟩, HR⟩ := hrel
            by_cases hpt : p < t.size
            · have i1 : (p : Int) < (t.size : Int) := by omega
              by_cases hic : I < cuts.length
              · obtain ⟨blk, off, rfl, hblk, hz⟩ := (H3.out.row) (by intro e; rw [e] at hic; simp at hic)
                obtain ⟨z0, hz0⟩ : ∃ z, cuts[I]? = some z := ⟨_, List.getElem?_eq_getElem hic⟩
                have hcz := ((B5.out.trans ((HR.out.2.2.2.below (by omega)).mono (by omega))).cell (p := ⟨blk, off + I, none⟩) hblk).trans (hz I z0 hz0)
                have i2 : (I : Int) < (cuts.length : Int) := by omega
                obtain ⟨q, hq, hq1, hq2⟩ := piece_len z0 t.size p hpt (by omega)
                have hrl : rest'.length ≤ p := by
                  have := count_of HR.out.1
                  rw [List.length_take] at this
                  omega
                have hyl : yb.length ≤ p := by
                  have := count_of HR.out.1
                  rw [List.length_take] at this
                  omega
                obtain ⟨zs2, r2, c2, g1, g2, g3⟩ := step_pieces (q := (t.data.toList.drop p).take q) HR.out.1
                have e9 : t.data.toList.take p ++ (t.data.toList.drop p).take q = t.data.toList.take (p + q) := by rw [List.take_add]
                rw [e9] at g2
                have g4 : ((t.data.toList.drop p).take q).length = q := by rw [List.length_take, List.length_drop]; omega
                rw [g4] at g3
                obtain ⟨ts, hts⟩ : ∃ ts : ByteArray, t.extract p (p + q) = ts := ⟨_, rfl⟩
                have e10 : ts.data.toList = (t.data.toList.drop p).take q := by rw [← hts, Lib.extract_data, Nat.add_sub_cancel_left]
                have hsz : ts.size = q := by rw [← g4, ← e10]; simp
                rw [← e10] at g1
                have hsl : ∀ wx, (Instr.slice 9 (.string t) (some (.int .i64 (p : Int))) (some (.int .i64 ((p : Int) + (q : Int)))) none).run Tryd.prog wx = .ok (.string ts) wx := fun wx => by
                  have := Go.run_slice_string (P := Tryd.prog) wx 9 t .i64 .i64 (p : Int) ((p : Int) + (q : Int)) Tryd.underlying9 (by omega) (by omega) (by omega)
                  rw [this, ← hts, show ((p : Int)).toNat = p by omega, show ((p : Int) + (q : Int)).toNat = p + q by omega]
                have G := Lib.hid (And.intro g1 g2)
                have hYw : Y0 ≤ wr.heap.size := by have := HR.out.2.2.2.size; omega
                have PU := Lib.hid (PushAny (a + 1) Y0 (by omega) ts rest' wr _ _ _ _ _ _ _ _ _ HR.out.2.2.1 hYw (by omega))
                clear g1 g2 e9 e10 hts
                go_wp2_with (first | (go_at_call 8; (with_reducible refine PU.out.mono ?_); rintro e w6 ⟨⟨zz, rfl⟩, ⟨vin6, hat6⟩, hb6, hf6⟩; refine Hid.out ?_))
                refine Lib.hid ?_
                have hz6 : Y0 ≤ w6.heap.size := Nat.le_trans hYw hb6.size
                have AB := Lib.hid (all9 (a + 1) Y0 (by omega) w6 _ _ _ _ _ _ _ _ _ _ zs2 r2 c2 hat6 G.out.1 hz6 (by omega) rfl)
                have HS6 := Lib.hid (And.intro hat6 (And.intro (HR.out.2.1.far hb6.size HR.out.2.2.1.ses hf6) (HR.out.2.2.2.trans hb6)))
                clear hat6 hb6 hf6
                go_wp2_with (first | (go_at_call 9; (with_reducible refine AB.out.mono ?_); rintro e w7 ⟨⟨vz, rfl, hrz, hzn⟩, ⟨vin7, hat7⟩, hb7⟩; refine Hid.out ?_))
                refine Lib.hid ?_
                have hz7 : Y0 ≤ w7.heap.size := Nat.le_trans hz6 hb7.size
                have HY7 := Lib.hid (HS6.out.2.1.but HS6.out.1.ses hb7)
                have HS7 := Lib.hid (And.intro hat7 (HS6.out.2.2.trans (hb7.mono hz6)))
                have HZ := Lib.hid (And.intro hrz hzn)
                obtain ⟨Az, cz, rfl, _, _⟩ := hrz.form
                have hzl : (zs2.map bytesOf).length = zs2.length := by simp
                have hln : (yb.map bytesOf).length + (zs2.map bytesOf).length ≤ 1000000 := by simp; omega
                have hzn2 := Lib.hid (show zs2.map bytesOf = [] → Value.slice Az (zs2.map bytesOf).length cz = .slice none 0 0 from fun e => hzn (by simpa using e))
                rw [hzl] at HZ hzn2
                rw [hzl]
                clear hat7 hb7 hrz hzn
                go_wp2_with (first | (at_builtin; refine append_R w7 rfl _ _ rfl Y0 _ (yb.map bytesOf) (zs2.map bytesOf) _ _ rfl HY7.out rfl HZ.out.1 hzn2.out hln hz7 ?_; intro v8 w8 h8 hk8 hb8; refine Hid.out ?_))
                refine Lib.hid ?_
                obtain ⟨A8, c8, rfl, _, _⟩ := h8.form
                have hl8 : (yb.map bytesOf ++ zs2.map bytesOf).length = (yb ++ zs2).length := by simp
                have H8 := Lib.hid (show RsO Y0 w8 (.slice A8 (yb.map bytesOf ++ zs2.map bytesOf).length c8) ((yb ++ zs2).map bytesOf) by rw [List.map_append]; exact h8)
                have HA8 := Lib.hid (And.intro (HS7.out.1.kept (Below.size hb8) hk8) (HS7.out.2.trans (But.of hb8)))
                rw [hl8] at H8
                rw [hl8]
                clear h8 hk8 hb8
                have hm1 : t.size - (p + q) < t.size - p := by omega
                cases br' with
                | false =>
                  go_wp2
                  refine ⟨⟨p + q, I + 1, yb ++ zs2, r2, c2, vin7, by omega, by omega, by go_num, by go_num, rfl, ⟨A8, c8, rfl⟩, Lib.hid ⟨G.out.2, H8.out, ?_, HA8.out.2⟩⟩, by simp [intOf]; omega⟩
                  have := HA8.out.1
                  rw [Bool.false_or] at this
                  exact this
                | true =>
                  go_wp2
                  refine ⟨⟨p + q, I + 1, yb ++ zs2, r2, true, vin7, by omega, by omega, by go_num, by go_num, rfl, ⟨A8, c8, rfl⟩, Lib.hid ⟨G.out.2, H8.out, ?_, HA8.out.2⟩⟩, by simp [intOf]; omega⟩
                  have := HA8.out.1
                  rw [Bool.true_or] at this
                  exact this
              · have i2 : ¬ ((I : Int) < (cuts.length : Int)) := by omega
                obtain ⟨q, hq, hq1, hq2⟩ : ∃ q : Nat, min (1 : Int) ((t.size : Int) - (p : Int)) = (q : Int) ∧ 1 ≤ q ∧ p + q ≤ t.size := ⟨1, by omega, by omega, by omega⟩
                have hrl : rest'.length ≤ p := by
                  have := count_of HR.out.1
                  rw [List.length_take] at this
                  omega
                have hyl : yb.length ≤ p := by
                  have := count_of HR.out.1
                  rw [List.length_take] at this
                  omega
                obtain ⟨zs2, r2, c2, g1, g2, g3⟩ := step_pieces (q := (t.data.toList.drop p).take q) HR.out.1
                have e9 : t.data.toList.take p ++ (t.data.toList.drop p).take q = t.data.toList.take (p + q) := by rw [List.take_add]
                rw [e9] at g2
                have g4 : ((t.data.toList.drop p).take q).length = q := by rw [List.length_take, List.length_drop]; omega
                rw [g4] at g3
                obtain ⟨ts, hts⟩ : ∃ ts : ByteArray, t.extract p (p + q) = ts := ⟨_, rfl⟩
                have e10 : ts.data.toList = (t.data.toList.drop p).take q := by rw [← hts, Lib.extract_data, Nat.add_sub_cancel_left]
                have hsz : ts.size = q := by rw [← g4, ← e10]; simp
                rw [← e10] at g1
                have hsl : ∀ wx, (Instr.slice 9 (.string t) (some (.int .i64 (p : Int))) (some (.int .i64 ((p : Int) + (q : Int)))) none).run Tryd.prog wx = .ok (.string ts) wx := fun wx => by
                  have := Go.run_slice_string (P := Tryd.prog) wx 9 t .i64 .i64 (p : Int) ((p : Int) + (q : Int)) Tryd.underlying9 (by omega) (by omega) (by omega)
                  rw [this, ← hts, show ((p : Int)).toNat = p by omega, show ((p : Int) + (q : Int)).toNat = p + q by omega]
                have G := Lib.hid (And.intro g1 g2)
                have hYw : Y0 ≤ wr.heap.size := by have := HR.out.2.2.2.size; omega
                have PU := Lib.hid (PushAny (a + 1) Y0 (by omega) ts rest' wr _ _ _ _ _ _ _ _ _ HR.out.2.2.1 hYw (by omega))
                clear g1 g2 e9 e10 hts
                go_wp2_with (first | (go_at_call 8; (with_reducible refine PU.out.mono ?_); rintro e w6 ⟨⟨zz, rfl⟩, ⟨vin6, hat6⟩, hb6, hf6⟩; refine Hid.out ?_))
                refine Lib.hid ?_
                have hz6 : Y0 ≤ w6.heap.size := Nat.le_trans hYw hb6.size
                have AB := Lib.hid (all9 (a + 1) Y0 (by omega) w6 _ _ _ _ _ _ _ _ _ _ zs2 r2 c2 hat6 G.out.1 hz6 (by omega) rfl)
                have HS6 := Lib.hid (And.intro hat6 (And.intro (HR.out.2.1.far hb6.size HR.out.2.2.1.ses hf6) (HR.out.2.2.2.trans hb6)))
                clear hat6 hb6 hf6
                go_wp2_with (first | (go_at_call 9; (with_reducible refine AB.out.mono ?_); rintro e w7 ⟨⟨vz, rfl, hrz, hzn⟩, ⟨vin7, hat7⟩, hb7⟩; refine Hid.out ?_))
                refine Lib.hid ?_
                have hz7 : Y0 ≤ w7.heap.size := Nat.le_trans hz6 hb7.size
                have HY7 := Lib.hid (HS6.out.2.1.but HS6.out.1.ses hb7)
                have HS7 := Lib.hid (And.intro hat7 (HS6.out.2.2.trans (hb7.mono hz6)))
                have HZ := Lib.hid (And.intro hrz hzn)
                obtain ⟨Az, cz, rfl, _, _⟩ := hrz.form
                have hzl : (zs2.map bytesOf).length = zs2.length := by simp
                have hln : (yb.map bytesOf).length + (zs2.map bytesOf).length ≤ 1000000 := by simp; omega
                have hzn2 := Lib.hid (show zs2.map bytesOf = [] → Value.slice Az (zs2.map bytesOf).length cz = .slice none 0 0 from fun e => hzn (by simpa using e))
                rw [hzl] at HZ hzn2
                rw [hzl]
                clear hat7 hb7 hrz hzn
                go_wp2_with (first | (at_builtin; refine append_R w7 rfl _ _ rfl Y0 _ (yb.map bytesOf) (zs2.map bytesOf) _ _ rfl HY7.out rfl HZ.out.1 hzn2.out hln hz7 ?_; intro v8 w8 h8 hk8 hb8; refine Hid.out ?_))
                refine Lib.hid ?_
                obtain ⟨A8, c8, rfl, _, _⟩ := h8.form
                have hl8 : (yb.map bytesOf ++ zs2.map bytesOf).length = (yb ++ zs2).length := by simp
                have H8 := Lib.hid (show RsO Y0 w8 (.slice A8 (yb.map bytesOf ++ zs2.map bytesOf).length c8) ((yb ++ zs2).map bytesOf) by rw [List.map_append]; exact h8)
                have HA8 := Lib.hid (And.intro (HS7.out.1.kept (Below.size hb8) hk8) (HS7.out.2.trans (But.of hb8)))
                rw [hl8] at H8
                rw [hl8]
                clear h8 hk8 hb8
                have hm1 : t.size - (p + q) < t.size - p := by omega
                cases br' with
                | false =>
                  go_wp2
                  refine ⟨⟨p + q, I + 1, yb ++ zs2, r2, c2, vin7, by omega, by omega, by go_num, by go_num, rfl, ⟨A8, c8, rfl⟩, Lib.hid ⟨G.out.2, H8.out, ?_, HA8.out.2⟩⟩, by simp [intOf]; omega⟩
                  have := HA8.out.1
                  rw [Bool.false_or] at this
                  exact this
                | true =>
                  go_wp2
                  refine ⟨⟨p + q, I + 1, yb ++ zs2, r2, true, vin7, by omega, by omega, by go_num, by go_num, rfl, ⟨A8, c8, rfl⟩, Lib.hid ⟨G.out.2, H8.out, ?_, HA8.out.2⟩⟩, by simp [intOf]; omega⟩
                  have := HA8.out.1
                  rw [Bool.true_or] at this
                  exact this
            · obtain rfl : p = t.size := by omega
              have hall := HR.out.1
              rw [← htl, List.take_length] at hall
              obtain ⟨rfl, _, rfl⟩ := hall.det HALL.out
              have LI := Lib.hid (fun X (h1 : RsO w4.heap.size X vx (yb.map bytesOf)) (h2 : RsO Y0 X (.slice Ay yb.length cy) (yb.map bytesOf)) => lists10 _ _ _ _ _ X h1 h2)
              have HB' := HR.out.2.2.2
              rw [← hY0] at HB'
              have HXr := Lib.hid (HX.out.but HSB5.out HB')
              have HYr := Lib.hid HR.out.2.1
              have BR := Lib.hid (show Below w0.heap.size w0 wr from B5.out.trans ((HR.out.2.2.2.below (by omega)).mono (by omega)))
              go_wp2_with (first | (go_at_call 4; (with_reducible refine (T.out _).mono ?_); rintro e w6 ⟨rfl, hb6⟩; have HX6 := Lib.hid (HXr.out.below hb6); have HY6 := Lib.hid (HYr.out.below hb6); have HB6 := Lib.hid (BR.out.trans (hb6.mono (Below.size BR.out))); clear hb6) | (go_at_call 10; (with_reducible refine (LI.out _ HX6.out HY6.out).mono ?_); rintro e w7 ⟨rfl, hb7⟩; have HB7 := Lib.hid (HB6.out.trans (hb7.mono (Below.size HB6.out))); clear hb7))
              go_ret
              exact ⟨by simp, HB7.out⟩
end Go.Proofs.YtnfflkappbjoeaaDoor
