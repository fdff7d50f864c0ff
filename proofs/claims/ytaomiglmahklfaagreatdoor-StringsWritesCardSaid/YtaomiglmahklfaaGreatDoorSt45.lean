/- The walk of StringsWrites. -/
import Derived.Test.YtaomiglmahklfaaGreatDoorSt44b
import Derived.StillTailTactics
import Derived.Deep.CutRange
namespace Go.Proofs.YtaomiglmahklfaaGreatDoor
open Go.ChangeShapes Go.WideShapes Go.ChangeAt Go.RowKit

def sLen : Value → Nat | .slice _ n _ => n | _ => 0
theorem some_at {α : Type} {l : List α} {k : Nat} (h : k < l.length) : ∃ x, l[k]? = some x := ⟨_, List.getElem?_eq_getElem h⟩
def iOf : Value → Int | .int _ n => n | _ => 0
theorem place61 (a : Int) : ∃ p : Nat, wrap64 ((IntKind.u64.wrap a).tmod 61) = (p : Int) ∧ p ≤ 60 := by
  have h0 : 0 ≤ IntKind.u64.wrap a := by rw [IntKind.wrap_u64]; omega
  have h1 : (IntKind.u64.wrap a).tmod 61 = (IntKind.u64.wrap a) % 61 := Int.tmod_eq_emod_of_nonneg h0
  have h2 : 0 ≤ (IntKind.u64.wrap a) % 61 := Int.emod_nonneg _ (by omega)
  have h3 : (IntKind.u64.wrap a) % 61 < 61 := Int.emod_lt_of_pos _ (by omega)
  refine ⟨((IntKind.u64.wrap a) % 61).toNat, ?_, by omega⟩
  rw [h1, IntWalk.wrap64_in _ (by omega)]
  omega
theorem lit4 (X : World) (q : Nat) (a b c d : ByteArray) (h : X.heap.size = q) : SSl (X.alloc (.cells #[.string a, .string b, .string c, .string d] 9)) (.slice (some ⟨q, 0, none⟩) 4 4) [a, b, c, d] := by
  subst h
  exact SSl.lit X [a, b, c, d] (by simp)
theorem heap_two {o : Obj} (X : World) (o2 : Obj) : ((X.alloc o).alloc o2).heap[X.heap.size + 1]? = some o2 := by
  have h := heap_alloc_new (X.alloc o) o2
  have e : (X.alloc o).heap.size = X.heap.size + 1 := by simp
  rw [e] at h
  exact h
theorem empty_is {s : ByteArray} (h : s.size = 0) : s.toList.isEmpty = true := by
  rw [empty_of s h, ByteArray.toList_eq]
  rfl
theorem sum_ps (p n : Nat) (hp : p ≤ 60) (hn : n ≤ 30) : IntKind.i64.wrap ((p : Int) + (n : Int)) = (p : Int) + (n : Int) := IntWalk.i64_in _ (by omega)
theorem nn_le {nn t p n : Nat} (h : nn ≤ max t (p + n)) (ht : t ≤ 90) (hp : p ≤ 60) (hn : ¬ 30 < n) : nn ≤ 1000 := by omega
theorem lt_ps {nn p n : Nat} (h : nn < p + n) : (nn : Int) < (p : Int) + (n : Int) := by omega
theorem ge_ps {nn p n : Nat} (h : ¬ nn < p + n) : ¬ (nn : Int) < (p : Int) + (n : Int) := by omega
theorem out_ps {nn t m p n cd t2 : Nat} (hnn : nn = t + m) (hle : nn ≤ max t (p + n)) (h : ¬ nn < p + n) (hn : 0 < n) (ht : t ≤ 90) (hp : p ≤ 60) (h30 : ¬ 30 < n) (hc : nn ≤ cd) (h2 : t2 = max t (p + n)) : m = p + n - t ∧ nn = t2 ∧ (p ≤ nn ∧ ¬ cd = p ∧ p + n ≤ nn) ∧ t2 ≤ 90 := by omega
theorem in_step {w X Y : World} {bS bM c b13 : Nat} {l : MapT.Ents} {v v2 : Value} {cn : Obj} (hS : bS < c) (hM : bM < c) (hsw : w.heap.size ≤ c) (hL : LW w X bS bM l) (hO : ∀ i, v.ownBlock = some i → c ≤ i) (hb : X.heap[b13]? = some cn) (hne : v.ownBlock ≠ some b13) (hc : c ≤ X.heap.size ∧ b13 < X.heap.size) (o : Obj)
    (hK : Kp (X.alloc o).heap.size (fun i => v.ownBlock ≠ some i) (X.alloc o) Y) (hv2 : v2.ownBlock = v.ownBlock ∨ ∃ g', v2.ownBlock = some g' ∧ (X.alloc o).heap.size ≤ g') : LW w Y bS bM l ∧ Y.heap[b13]? = some cn ∧ v2.ownBlock ≠ some b13 ∧ c ≤ Y.heap.size ∧ b13 < Y.heap.size := by
  have e1 : (X.alloc o).heap.size = X.heap.size + 1 := by simp
  have hs := hK.size
  refine ⟨(hL.old alloc_old).keptO hS hM hsw (by omega) (fun i hi e => by have := hO i e; omega) hK, (hK.block b13 (by omega) hne).trans (blk_below hb alloc_old), ?_, by omega, by omega⟩
  rcases hv2 with h | ⟨g', h, hg⟩
  · rw [h]; exact hne
  · rw [h]; intro e; cases e; omega
theorem tmod_b (i : Int) : -100 < i.tmod 100 ∧ i.tmod 100 < 100 := by
  have h1 := Int.tmod_lt_of_pos i (show (0 : Int) < 100 by decide)
  have h2 := Int.lt_tmod_of_pos i (show (0 : Int) < 100 by decide)
  exact ⟨h2, h1⟩
theorem sum_in (x : Int) (n : Nat) (h : -100 < x ∧ x < 100) (hn : n ≤ 90) : IntKind.i64.wrap (x + (n : Int)) = x + (n : Int) := IntWalk.i64_in _ (by omega)
theorem sum_less (n : Nat) (hn : n ≤ 90) : IntKind.i64.wrap ((n : Int) - 1) = (n : Int) - 1 := IntWalk.i64_in _ (by omega)
/-- The last place, as the law reckons it. -/
def toY (y n : Int) : Int := if y < 0 then y + n else y
theorem spa_neg {x n : Int} (h : x < 0) : max (x + n) 0 = spA x n := by unfold spA; rw [if_pos h]; omega
theorem spa_pos {x n : Int} (h : 0 ≤ x) : x = spA x n := by unfold spA; rw [if_neg (by omega)]
theorem toy_neg {y n : Int} (h : y < 0) : y + n = toY y n := by unfold toY; rw [if_pos h]
theorem toy_pos {y n : Int} (h : 0 ≤ y) : y = toY y n := by unfold toY; rw [if_neg (by omega)]
theorem spa_nat (x : Int) (n : Nat) : ∃ a : Nat, spA x (n : Int) = (a : Int) := by
  refine ⟨(spA x (n : Int)).toNat, ?_⟩
  unfold spA
  split <;> omega
theorem spc_yes {y : Int} {n e : Nat} (he : min (toY y (n : Int)) ((n : Int) - 1) = (e : Int)) : spC y (n : Int) = (e : Int) ∧ e < n := by
  unfold toY at he
  unfold spC
  split at he <;> rename_i h
  · rw [if_pos h]; omega
  · rw [if_neg h]; omega
theorem spc_no {y v : Int} {n a : Nat} (hv : min (toY y (n : Int)) ((n : Int) - 1) = v) (h : ¬ (a : Int) ≤ v) : ¬ (a : Int) ≤ spC y (n : Int) := by
  unfold toY at hv
  unfold spC
  split at hv <;> rename_i h1
  · rw [if_pos h1]; omega
  · rw [if_neg h1]; omega
theorem one_more (e n : Nat) (h : e < n) (hn : n ≤ 90) : IntKind.i64.wrap ((e : Int) + 1) = (e : Int) + 1 := IntWalk.i64_in _ (by omega)
theorem ext_list (T : ByteArray) (a e : Nat) : (⟨((T.data.toList.drop a).take (e + 1 - a)).toArray⟩ : ByteArray) = T.extract a (e + 1) := by
  apply bytes_inj
  rw [ByteArray.data_extract, Array.toList_extract]
theorem sl_facts {a e n cb : Nat} (h : (a : Int) ≤ (e : Int)) (he : e < n) (hc : n ≤ cb) : (a : Int) ≤ (e : Int) + 1 ∧ (e : Int) + 1 ≤ (cb : Int) ∧ ¬ cb = a ∧ (a : Int) ≤ (cb : Int) := by omega
theorem num_i (k : Nat) (h : k ≤ 8) : wrap64 ((k : Int) + 1) = (k : Int) + 1 := IntWalk.wrap64_in _ (by omega)
set_option maxRecDepth 100000 in
set_option maxHeartbeats 16000000 in
theorem writes_walk (xs : List ByteArray) (ns : List Int) (u0 u1 : Value) (i j : Int) (w : World) (hT : Tab w) (h0 : SSl w u0 xs) (h1 : ISl w u1 ns) (hx8 : xs.length ≤ 8) (hn : xs.length ≤ ns.length) : Calls Tryz.prog 5 #[u0, u1, .int .i64 i, .int .i64 j] w fun e w' => e = .returned (.bool true) ∧ Below w.heap.size w w' := by
  obtain ⟨A, cap, rfl, a1, a2, a3⟩ := h0
  obtain ⟨A2, cap2, rfl, c1, c2, c3⟩ := h1
  clear a1 a2 c1 c2
  have fK := field_K
  have fN := field_N
  have fS := field_S
  have g1 : ¬ (8 : Int) < (xs.length : Int) := by omega
  have g2 : ¬ (ns.length : Int) < (xs.length : Int) := by omega
  have HA := Lib.hid a3
  have HC := Lib.hid c3
  clear a3 c3
  have NW := Lib.hid (New9 w)
  go_enter Tryz.func5, Tryz.ntmps5
  go_wp2_with (first | (go_at_call 9; (with_reducible refine (NW.out).mono ?_); rintro e v0 ⟨bS, bM, rfl, hS0, hbS, hbM, hB0⟩; have L0 := Lib.hid (LW.mk hS0 hB0 hbS hbM); clear hS0 hbS hbM hB0; refine Hid.out ?_))
  refine Lib.hid ?_
  have hSP := L0.out.sp.lt
  have hSP1 := hSP.1
  have hSP2 := hSP.2
  clear hSP
  have hsw : w.heap.size ≤ v0.heap.size := Below.size L0.out.below
  go_wp2
  go_loopw [10, 11] (fun b i wr => ∃ (k : Nat) (T : ByteArray) (B : Option Addr) (cb : Nat), k ≤ xs.length ∧ i = .int .i64 k ∧ b = .slice B T.size cb ∧ T.size ≤ 90 ∧ Hid (OwnG v0.heap.size wr (.slice B T.size cb) T.data.toList ∧ LW w wr bS bM (lst T) ∧ v0.heap.size ≤ wr.heap.size)) (fun _ i _ => xs.length - (iOf i).toNat)
  case atStart => exact ⟨0, ⟨#[]⟩, none, 0, Nat.zero_le _, rfl, rfl, by decide, Lib.hid ⟨.inr ⟨rfl, rfl⟩, L0.out, Nat.le_refl _⟩⟩
  case round =>
    obtain ⟨k, T, B, cb, hk, rfl, rfl, hT90, HR⟩ := hrel
    by_cases hlt : k < xs.length
    · have q0 : (k : Int) < (xs.length : Int) := by omega
      have q1 : (k : Int) < (ns.length : Int) := by omega
      obtain ⟨blk, off, rfl, hblt, hcx⟩ := HA.out (by intro e; rw [e] at hlt; simp at hlt)
      obtain ⟨blk2, off2, rfl, hblt2, hcn⟩ := HC.out (by intro e; rw [e] at q1; simp at q1; omega)
      obtain ⟨s, hs0⟩ := some_at hlt
      obtain ⟨z, hz0⟩ := some_at (Nat.lt_of_lt_of_le hlt hn)
      have hs := hcx k s hs0
      have hz := hcn k z hz0
      have CX := Lib.hid (show ∀ Y, Below w.heap.size w Y → Y.cell? ⟨blk, off + k, none⟩ = some (.string s) from fun Y hb => (hb.cell (p := ⟨blk, off + k, none⟩) hblt).trans hs)
      have CZ := Lib.hid (show ∀ Y, Below w.heap.size w Y → Y.cell? ⟨blk2, off2 + k, none⟩ = some (.int .i64 z) from fun Y hb => (hb.cell (p := ⟨blk2, off2 + k, none⟩) hblt2).trans hz)
      clear hs hz hcx hcn
      have x1 := CX.out wr HR.out.2.1.below
      have x2 := CZ.out wr HR.out.2.1.below
      by_cases hs30 : 30 < s.size
      · have q3 : (30 : Int) < (s.size : Int) := by omega
        have TO := Lib.hid (told8 wr (hT.at_ HR.out.2.1.below))
        go_wp2_with (first | (go_at_call 8; (with_reducible refine (TO.out).mono ?_); rintro e y1 ⟨rfl, hb⟩; have T1 := Lib.hid (HR.out.2.1.below.trans (hb.mono (Below.size HR.out.2.1.below))); clear hb))
        go_ret
        exact ⟨rfl, T1.out⟩
      · have q3 : ¬ (30 : Int) < (s.size : Int) := by omega
        obtain ⟨p, q4, hp60⟩ := place61 z
        have NU := Lib.hid (fun X (hX : Below w.heap.size w X) => Number13 hT (p : Int) ⟨by omega, by omega⟩ X hX)
        generalize hT2 : wrT T s p = T2
        have DO := Lib.hid (fun Y v hL hv => wr_setG w bS bM T s p (by omega) (by omega) hp60 T2 hT2 Y v hL hv)
        have B0 := Lib.hid HR.out.2.1.below
        have LA := Lib.hid (HR.out.2.1.old (Below.refl wr.heap.size wr).drew)
        have LA2 := Lib.hid (HR.out.2.1.old ((alloc_old (w := wr) (o := .cells #[.int .i64 0, .int .i64 0, .string ⟨#[]⟩, .slice none 0 0] 37)).drew))
        have SA := Lib.hid (show ∀ Y o, Below w.heap.size w Y → (Y.alloc o).cell? ⟨blk, off + k, none⟩ = some (.string s) from fun Y o hb => CX.out _ (hb.trans (alloc_old.mono (Below.size hb))))
        have SA2 := Lib.hid (show ∀ Y o o2, Below w.heap.size w Y → ((Y.alloc o).alloc o2).cell? ⟨blk, off + k, none⟩ = some (.string s) from fun Y o o2 hb => CX.out _ ((hb.trans (alloc_old.mono (Below.size hb))).trans (alloc_old.mono (Nat.le_trans (Below.size hb) (by simp)))))
        have SB := Lib.hid (show ∀ Y b v0 v1 v2 v3, Below w.heap.size w Y → w.heap.size ≤ b → ((((Y.setCell ⟨b, 0, none⟩ v0).setCell ⟨b, 1, none⟩ v1).setCell ⟨b, 2, none⟩ v2).setCell ⟨b, 3, none⟩ v3).cell? ⟨blk, off + k, none⟩ = some (.string s) from fun Y b v0 v1 v2 v3 hb hw => CX.out _ ((((hb.setCell (p := ⟨b, 0, none⟩) hw v0).setCell (p := ⟨b, 1, none⟩) hw v1).setCell (p := ⟨b, 2, none⟩) hw v2).setCell (p := ⟨b, 3, none⟩) hw v3))
        have y1 := CX.out _ LA.out.below
        have y2 := CX.out _ LA2.out.below
        have CA2 := Lib.hid (show (wr.alloc (.cells #[.int .i64 0, .int .i64 0, .string ⟨#[]⟩, .slice none 0 0] 37)).drew.heap[wr.heap.size]? = some (.cells #[.int .i64 0, .int .i64 0, .string ⟨#[]⟩, .slice none 0 0] 37) from heap_alloc_new wr (.cells #[.int .i64 0, .int .i64 0, .string ⟨#[]⟩, .slice none 0 0] 37))
        have PA := Lib.hid (show Kp wr.heap.size (fun i => i ≠ bS ∧ i ≠ bM) wr wr.drew from (Kp.refl _ _ wr).drew)
        have PA2 := Lib.hid (show Kp wr.heap.size (fun i => i ≠ bS ∧ i ≠ bM) wr (wr.alloc (.cells #[.int .i64 0, .int .i64 0, .string ⟨#[]⟩, .slice none 0 0] 37)).drew from ((Kp.refl _ _ wr).alloc (Nat.le_refl _) _).drew)
        have hww := Below.size HR.out.2.1.below
        go_wp2_with fail
        clear q4
        go_cut [13] from 34 to 98 (fun r wx => ∃ b, r = .pointer (some ⟨b, 0, none⟩) ∧ Hid (wx.heap[b]? = some (.cells #[.int .i64 3, .int .i64 (T2.size : Int), .string ⟨#[]⟩, .slice none 0 0] 37) ∧ LW w wx bS bM (lst T2) ∧ Kp wr.heap.size (fun i => i ≠ bS ∧ i ≠ bM) wr wx ∧ wr.heap.size ≤ b))
        case first =>
          go_region_held3 (fun X => X.cell? ⟨blk, off + k, none⟩ = some (.string s)) (first | assumption | (with_reducible refine SA.out _ _ ?_; assumption) | (with_reducible refine SA2.out _ _ _ ?_; assumption) | (with_reducible refine SB.out _ _ _ _ _ _ ?_ ?_ <;> assumption) | (with_reducible refine CX.out _ ?_; assumption)) (first | (go_at_call 13; (first | (with_reducible refine (NU.out _ LA.out.below).mono ?_); rintro e wa ⟨rfl, hb⟩; have K1 := Lib.hid (LA.out.old hb); have P1 := Lib.hid (PA.out.below_after hb PA.out.size); have B1 := K1.out.below; have Z1 := Nat.le_trans hww P1.out.size; have Z2 := Nat.le_succ_of_le Z1; clear hb | (with_reducible refine (NU.out _ LA2.out.below).mono ?_); rintro e wa ⟨rfl, hb⟩; have K1 := Lib.hid (LA2.out.old hb); have P1 := Lib.hid (PA2.out.below_after hb PA2.out.size); have C1 := Lib.hid (blk_below CA2.out hb); have B1 := K1.out.below; have Z1 := Nat.le_trans hww P1.out.size; have Z2 := Nat.le_succ_of_le Z1; clear hb)) | (go_at_call 11; (first | (with_reducible refine (DO.out _ _ (K1.out.old alloc_old) (lit4 _ _ _ _ _ _ rfl)).mono ?_); rintro e wb ⟨rfl, hL, hK⟩; have P2 := Lib.hid ((P1.out.alloc P1.out.size _).trans (hK.mono (P1.out.alloc P1.out.size _).size (fun _ h => h))); (first | have C2 := Lib.hid (keep37 hK (K1.out.old alloc_old).sp (blk_below C1.out alloc_old)); obtain ⟨⟨d0, d1, d2, d3⟩, ⟨f0, f1, f2, f3⟩⟩ := cells4 C2.out | skip); have L2 := Lib.hid hL; have B2 := hL.below; clear hL hK | (with_reducible refine (DO.out _ _ ((K1.out.old alloc_old).old alloc_old) ((lit4 _ _ _ _ _ _ rfl).below alloc_old)).mono ?_); rintro e wb ⟨rfl, hL, hK⟩; have P2 := Lib.hid (((P1.out.alloc P1.out.size _).alloc (P1.out.alloc P1.out.size _).size _).trans (hK.mono ((P1.out.alloc P1.out.size _).alloc (P1.out.alloc P1.out.size _).size _).size (fun _ h => h))); have C2 := Lib.hid (keep37 hK ((K1.out.old alloc_old).old alloc_old).sp (heap_two wa (.cells #[.int .i64 0, .int .i64 0, .string ⟨#[]⟩, .slice none 0 0] 37))); obtain ⟨⟨d0, d1, d2, d3⟩, ⟨f0, f1, f2, f3⟩⟩ := cells4 C2.out; have L2 := Lib.hid hL; have B2 := hL.below; clear hL hK | (with_reducible refine (DO.out _ _ ((K1.out.old alloc_old).old alloc_old) (lit4 _ _ _ _ _ _ (by simp))).mono ?_); rintro e wb ⟨rfl, hL, hK⟩; have P2 := Lib.hid (((P1.out.alloc P1.out.size _).alloc (P1.out.alloc P1.out.size _).size _).trans (hK.mono ((P1.out.alloc P1.out.size _).alloc (P1.out.alloc P1.out.size _).size _).size (fun _ h => h))); have C2 := Lib.hid (keep37 hK ((K1.out.old alloc_old).old alloc_old).sp (blk_below (heap_alloc_new wa (.cells #[.int .i64 0, .int .i64 0, .string ⟨#[]⟩, .slice none 0 0] 37)) alloc_old)); obtain ⟨⟨d0, d1, d2, d3⟩, ⟨f0, f1, f2, f3⟩⟩ := cells4 C2.out; have L2 := Lib.hid hL; have B2 := hL.below; clear hL hK)))
          all_goals (go_wp2_with fail)
          all_goals go_meet
          all_goals (first | exact ⟨_, rfl, Lib.hid (fin4 L2.out C2.out P2.out (Nat.le_refl _) hww _ _ _ _)⟩ | exact ⟨_, rfl, Lib.hid (fin4 L2.out C2.out P2.out P1.out.size hww _ _ _ _)⟩ | exact ⟨_, rfl, Lib.hid (fin4 L2.out C2.out P2.out (Nat.le_succ_of_le P1.out.size) hww _ _ _ _)⟩ | exact ⟨_, rfl, Lib.hid (fin1 L2.out P2.out _)⟩)
        case rest =>
          obtain ⟨b13, rfl, HX⟩ := hcut
          have HX1 := Lib.hid HX.out.1
          have HX2 := Lib.hid HX.out.2.1
          have HX3 := Lib.hid (HR.out.1.keptK hSP1 hSP2 HX.out.2.2.1)
          have z1 := CX.out wc HX2.out.below
          have hb13 := HX.out.2.2.2
          have hvr := HR.out.2.2
          have hszc := HX.out.2.2.1.size
          by_cases hse : s.size = 0
          · rw [wrT_no hse] at hT2
            obtain rfl := empty_of s hse
            subst hT2
            obtain ⟨⟨d0, d1, d2, d3⟩, ⟨f0, f1, f2, f3⟩⟩ := cells4 HX1.out
            clear hse
            go_wp2_with fail
            exact ⟨⟨k + 1, T, B, cb, hlt, by go_num, rfl, hT90, Lib.hid ⟨HX3.out, HX2.out, Nat.le_trans hvr hszc⟩⟩, by simp [iOf]; omega⟩
          · have hsp : 0 < s.size := by omega
            have se := ne_empty hsp
            rw [wrT_yes hsp] at hT2
            have hsz := ovT_size T s p
            rw [hT2] at hsz
            have HT2 := Lib.hid hT2
            have HSZ := Lib.hid hsz
            clear hT2 hsz hse
            have htl : T.data.toList.length = T.size := by simp
            have HTL := Lib.hid htl
            clear htl
            have q5 := sum_ps p s.size hp60 (by omega)
            have HOX := Lib.hid (show OwnG v0.heap.size wc (.slice B T.size cb) (T.data.toList ++ List.replicate 0 0) from by rw [List.replicate_zero, List.append_nil]; exact HX3.out)
            have HOW := Lib.hid (show (Value.slice B T.size cb).ownBlock ≠ some b13 from fun e => by have := (HR.out.1.own_ge e).2; omega)
            go_wp2_with fail
            go_loopw [10] (fun b wi => ∃ (m nn : Nat) (D : Option Addr) (cd : Nat), nn = T.size + m ∧ b = .slice D nn cd ∧ nn ≤ max T.size (p + s.size) ∧ Hid (OwnG v0.heap.size wi (.slice D nn cd) (T.data.toList ++ List.replicate m 0) ∧ LW w wi bS bM (lst T2) ∧ wi.heap[b13]? = some (.cells #[.int .i64 3, .int .i64 (T2.size : Int), .string ⟨#[]⟩, .slice none 0 0] 37) ∧ (Value.slice D nn cd).ownBlock ≠ some b13 ∧ v0.heap.size ≤ wi.heap.size ∧ b13 < wi.heap.size)) (fun b _ => (p + s.size) - sLen b)
            case atStart => exact ⟨0, T.size, B, cb, rfl, rfl, Nat.le_max_left _ _, Lib.hid ⟨HOX.out, HX2.out, HX1.out, HOW.out, Nat.le_trans hvr hszc, lt_blk HX1.out⟩⟩
            case round =>
              obtain ⟨m, nn, D, cd, hnn, rfl, hle, HI⟩ := hrel
              have hnn9 : nn ≤ 1000 := nn_le hle hT90 hp60 hs30
              have z2 := CX.out _ HI.out.2.1.below
              by_cases hlt2 : nn < p + s.size
              · have q6 : (nn : Int) < (p : Int) + (s.size : Int) := lt_ps hlt2
                have HS2 := Lib.hid (Src.ofSlice (P := Tryz.prog) (size := 1) (wr.alloc (.cells #[.int .u8 0] 5)) Tryz.underlying34 ⟨wr.heap.size, 0, none⟩ 1 1 [.int .u8 0] rfl (cell_one_new _ _ _) (fun x hx => by simp at hx; subst hx; rfl))
                have HN := Lib.hid hnn
                have HL := Lib.hid hle
                have hl9 : (T.data.toList ++ List.replicate m (0 : UInt8)).length = nn := by rw [List.length_append, List.length_replicate, HTL.out]; exact hnn.symm
                have hl8 : (T.data.toList ++ List.replicate m (0 : UInt8)).length + [(0 : UInt8)].length ≤ 140737488355328 := by rw [hl9]; exact Nat.le_trans (Nat.add_le_add_right hnn9 1) (by decide)
                have HL8 := Lib.hid hl8
                have HL9 := Lib.hid hl9
                have hcs : v0.heap.size ≤ (wr.alloc (.cells #[.int .u8 0] 5)).heap.size := Nat.le_trans HI.out.2.2.2.2.1 (by simp)
                have HCS := Lib.hid hcs
                clear hnn hle hl8 hl9 hcs
                go_wp2_with (first | (at_builtin; refine append_H _ rfl _ _ 34 rfl v0.heap.size (T.data.toList ++ List.replicate m 0) [0] _ _ rfl (HI.out.1.below alloc_old) rfl HS2.out HL8.out HCS.out ?_; intro v2 w2x hO2 hK2 hW2; have HO2 := Lib.hid hO2; have HK2 := Lib.hid hK2; have HW2 := Lib.hid hW2; clear hO2 hK2 hW2))
                have hO3 := HO2.out
                rw [List.append_assoc, show (List.replicate m (0 : UInt8) ++ [0]) = List.replicate (m + 1) 0 from (List.replicate_succ' (n := m) (a := (0 : UInt8))).symm] at hO3
                obtain ⟨A3, c3, hv3⟩ := OwnG.shape hO3
                have hl3 : (T.data.toList ++ List.replicate (m + 1) (0 : UInt8)).length = nn + 1 := by rw [List.length_append, List.length_replicate, HTL.out, HN.out]; rfl
                rw [hl3] at hv3
                subst hv3
                refine ⟨⟨m + 1, nn + 1, A3, c3, by rw [HN.out]; rfl, rfl, Nat.le_trans hlt2 (Nat.le_max_right _ _), Lib.hid ⟨hO3, in_step hSP1 hSP2 hsw HI.out.2.1 (fun i e => (HI.out.1.own_ge e).1) HI.out.2.2.1 HI.out.2.2.2.1 HI.out.2.2.2.2 _ HK2.out HW2.out⟩⟩, by simp [sLen]; omega⟩
              · have q6 : ¬ (nn : Int) < (p : Int) + (s.size : Int) := ge_ps hlt2
                obtain ⟨g, off2, rfl, hcl⟩ := OwnG.some HI.out.1 (by rw [List.length_append, List.length_replicate, HTL.out, ← hnn]; exact Nat.lt_of_lt_of_le hsp (Nat.le_trans (Nat.le_add_left _ _) (Nat.le_of_not_lt hlt2)))
                obtain ⟨hm, e2, r1, r2⟩ := out_ps hnn hle hlt2 hsp hT90 hp60 hs30 hcl HSZ.out
                subst e2
                have q7 : (p : Int) ≤ (T2.size : Int) := Int.ofNat_le.2 r1.1
                have q8 : (T2.size : Int) ≤ (cd : Int) := Int.ofNat_le.2 hcl
                have q9 : ¬ cd = p := r1.2.1
                have q10 := r1.2.2
                subst hm
                have HI1 := Lib.hid (HI.out.1.below (Below.refl wr.heap.size wr).drew)
                have HI3 := Lib.hid (show wr.drew.heap[b13]? = some (.cells #[.int .i64 3, .int .i64 (T2.size : Int), .string ⟨#[]⟩, .slice none 0 0] 37) from HI.out.2.2.1)
                have hcg : v0.heap.size ≤ g := (HI.out.1.own_ge rfl).1
                have hbg : b13 ≠ g := fun e => HI.out.2.2.2.1 (congrArg some e.symm)
                have HL2 := Lib.hid (HI.out.2.1.old (Below.refl wr.heap.size wr).drew)
                have z3 := CX.out wr.drew HL2.out.below
                have z4 := CX.out wr HI.out.2.1.below
                clear hnn hle hlt2
                go_wp2_with fail
                go_still_tail 7, (by kernel_rfl)
                repeat still_step
                change wpList _ _ _ _ _ wr.drew
                have hcd : v0.heap.size ≤ wr.drew.heap.size := HI.out.2.2.2.2.1
                generalize wr.drew = wd at HI1 HI3 HL2 z3 hcd ⊢
                have e5 : ovL (T.data.toList ++ List.replicate (p + s.size - T.size) 0) s.data.toList p = T2.data.toList := by rw [← HT2.out]; rfl
                have E5 := Lib.hid e5
                have RB := Lib.hid (And.intro r2 r1.1)
                clear e5 r1 r2
                go_wp2_with (first | (refine wpList_copy_H (o := ⟨some 88, _, _, _, _, _⟩) wd rfl _ _ rfl v0.heap.size g off2 T2.size cd p (T.data.toList ++ List.replicate (p + s.size - T.size) 0) s rfl HI1.out rfl q10 ?_; intro w5 hO5 hK5; have O5 := Lib.hid hO5; have L5 := Lib.hid (HL2.out.keptO hSP1 hSP2 hsw hcd (fun i hi => by omega) hK5); have C5 := Lib.hid ((hK5.block b13 (lt_blk HI3.out) hbg).trans HI3.out); have Z5 := Lib.hid hK5.size; clear hO5 hK5; obtain ⟨⟨d0, d1, d2, d3⟩, ⟨f0, f1, f2, f3⟩⟩ := cells4 C5.out))
                have hO6 := O5.out
                rw [E5.out] at hO6
                exact ⟨⟨k + 1, T2, _, cd, hlt, by go_num, rfl, RB.out.1, Lib.hid ⟨hO6, L5.out, Nat.le_trans hcd Z5.out⟩⟩, by simp [iOf]; omega⟩
    · have q0 : ¬ (k : Int) < (xs.length : Int) := fun h => hlt (Int.ofNat_lt.1 h)
      have HLW := Lib.hid HR.out.2.1
      have HO := Lib.hid HR.out.1
      have hwr := HR.out.2.1.below
      clear hlt HA HC
      go_upto_if 106 with fail
      have bx := tmod_b i
      have by_ := tmod_b j
      generalize i.tmod 100 = x at bx ⊢
      generalize j.tmod 100 = y at by_ ⊢
      have w5 := sum_in x T.size (by omega) hT90
      have w6 := sum_in y T.size (by omega) hT90
      have w7 := sum_less T.size hT90
      go_cut [16] from 99 (fun f wx => f = .int .i64 (spA x (T.size : Int)) ∧ wr = wx)
      case first =>
        by_cases hx0 : x < 0
        · go_wp2_with fail
          go_meet
          exact ⟨congrArg (Value.int .i64) (spa_neg hx0), rfl⟩
        · go_wp2_with fail
          go_meet
          exact ⟨congrArg (Value.int .i64) (spa_pos hx0), rfl⟩
      case rest =>
        obtain ⟨rfl, rfl⟩ := hcut
        go_upto_if 113 with fail
        go_cut [17] from 99 (fun f wx => f = .int .i64 (toY y (T.size : Int)) ∧ wr = wx)
        case first =>
          by_cases hy0 : y < 0
          · go_wp2_with fail
            go_meet
            exact ⟨congrArg (Value.int .i64) (toy_neg hy0), rfl⟩
          · go_wp2_with fail
            go_meet
            exact ⟨congrArg (Value.int .i64) (toy_pos hy0), rfl⟩
        case rest =>
          obtain ⟨rfl, rfl⟩ := hcut
          obtain ⟨a, ha⟩ := spa_nat x T.size
          have HAx := Lib.hid ha
          rw [ha]
          clear ha w5 w6
          go_upto_if 125 with fail
          generalize hbv : min (toY y (T.size : Int)) ((T.size : Int) - 1) = bv
          by_cases hab : (a : Int) ≤ bv
          · obtain ⟨e, rfl⟩ := Int.eq_ofNat_of_zero_le (Int.le_trans (Int.natCast_nonneg a) hab)
            obtain ⟨hC, hen⟩ := spc_yes hbv
            have HCx := Lib.hid hC
            have w8 := one_more e T.size hen hT90
            obtain ⟨g, off2, rfl, hcl⟩ := OwnG.some HO.out (by rw [show T.data.toList.length = T.size by simp]; exact Nat.lt_of_le_of_lt (Nat.zero_le _) hen)
            obtain ⟨l1, l2, l3, l4⟩ := sl_facts hab hen hcl
            have cv := show (convert 34 9 (.slice (some ⟨g, off2 + a, none⟩) (e + 1 - a) (cb - a))).run Tryz.prog wr = .ok (.string (T.extract a (e + 1))) wr from by rw [← ext_list]; exact HO.out.back_part (by omega) (by omega) _
            have hc : (if spA x (T.size : Int) ≤ spC y (T.size : Int) then T.extract (spA x (T.size : Int)).toNat (spC y (T.size : Int) + 1).toNat else ⟨#[]⟩) = T.extract a (e + 1) := by rw [HAx.out, hC, if_pos hab]; rfl
            clear hC hbv w7
            have NX := Lib.hid (Number13 hT x ⟨by omega, by omega⟩ wr hwr)
            have HC := Lib.hid hc
            clear hc
            go_wp2_with (first | (go_at_call 13; (with_reducible refine (NX.out).mono ?_); rintro e9 wa ⟨rfl, hb⟩; have K1 := Lib.hid (HLW.out.old hb); clear hb; refine Hid.out ?_))
            refine Lib.hid ?_
            have NY := Lib.hid (Number13 hT y ⟨by omega, by omega⟩ wa K1.out.below)
            go_wp2_with (first | (go_at_call 13; (with_reducible refine (NY.out).mono ?_); rintro e9 wb ⟨rfl, hb⟩; have K2 := Lib.hid (K1.out.old hb); clear hb; refine Hid.out ?_))
            refine Lib.hid ?_
            have DG := Lib.hid (wr_get w bS bM T (T.extract a (e + 1)) x y (Nat.le_trans hT90 (by decide)) (by omega) (by omega) HC.out wb K2.out wb.heap.size rfl)
            go_wp2_with (first | (go_at_call 11; (with_reducible refine (DG.out).mono ?_); rintro e9 wd ⟨rfl, hL, hK⟩; have L3 := Lib.hid hL; clear hL hK; refine Hid.out ?_))
            refine Lib.hid ?_
            have M3 := Lib.hid (L3.out.old (alloc_old (o := .cells #[.int .i64 4, .int .i64 0, .string (T.extract a (e + 1)), .slice none 0 0] 37)))
            have r3 := Lib.hid (heap_alloc_new wd (.cells #[.int .i64 4, .int .i64 0, .string (T.extract a (e + 1)), .slice none 0 0] 37))
            have TO := Lib.hid (told8 (wd.alloc (.cells #[.int .i64 4, .int .i64 0, .string (T.extract a (e + 1)), .slice none 0 0] 37)) (hT.at_ M3.out.below))
            go_wp2_with (first | (go_at_call 8; (with_reducible refine (TO.out).mono ?_); rintro e9 x1 ⟨rfl, hb⟩; have T1 := Lib.hid (M3.out.old hb); have rq := Lib.hid (blk_below r3.out hb); obtain ⟨⟨d0, d1, d2, d3⟩, ⟨f0, f1, f2, f3⟩⟩ := cells4 rq.out; clear hb; have DL := Lib.hid (wr_len w bS bM T x1 T1.out _ rfl); refine Hid.out ?_))
            refine Lib.hid ?_
            go_wp2_with (first | (go_at_call 11; (with_reducible refine (DL.out).mono ?_); rintro e9 x2 ⟨rfl, hL, hK⟩; have T5 := Lib.hid hL; clear hL hK))
            go_ret
            exact ⟨by simp, T5.out.below⟩
          · have hN := spc_no hbv hab
            have hc : (if spA x (T.size : Int) ≤ spC y (T.size : Int) then T.extract (spA x (T.size : Int)).toNat (spC y (T.size : Int) + 1).toNat else ⟨#[]⟩) = (⟨#[]⟩ : ByteArray) := by rw [HAx.out, if_neg hN]
            have hab2 : bv < (a : Int) := by omega
            clear hbv w7 hN
            have NX := Lib.hid (Number13 hT x ⟨by omega, by omega⟩ wr hwr)
            have HC := Lib.hid hc
            clear hc
            go_wp2_with (first | (go_at_call 13; (with_reducible refine (NX.out).mono ?_); rintro e9 wa ⟨rfl, hb⟩; have K1 := Lib.hid (HLW.out.old hb); clear hb; refine Hid.out ?_))
            refine Lib.hid ?_
            have NY := Lib.hid (Number13 hT y ⟨by omega, by omega⟩ wa K1.out.below)
            go_wp2_with (first | (go_at_call 13; (with_reducible refine (NY.out).mono ?_); rintro e9 wb ⟨rfl, hb⟩; have K2 := Lib.hid (K1.out.old hb); clear hb; refine Hid.out ?_))
            refine Lib.hid ?_
            have DG := Lib.hid (wr_get w bS bM T ⟨#[]⟩ x y (Nat.le_trans hT90 (by decide)) (by omega) (by omega) HC.out wb K2.out wb.heap.size rfl)
            go_wp2_with (first | (go_at_call 11; (with_reducible refine (DG.out).mono ?_); rintro e9 wd ⟨rfl, hL, hK⟩; have L3 := Lib.hid hL; clear hL hK; refine Hid.out ?_))
            refine Lib.hid ?_
            have M3 := Lib.hid (L3.out.old (alloc_old (o := .cells #[.int .i64 4, .int .i64 0, .string ⟨#[]⟩, .slice none 0 0] 37)))
            have r3 := Lib.hid (heap_alloc_new wd (.cells #[.int .i64 4, .int .i64 0, .string ⟨#[]⟩, .slice none 0 0] 37))
            have TO := Lib.hid (told8 (wd.alloc (.cells #[.int .i64 4, .int .i64 0, .string ⟨#[]⟩, .slice none 0 0] 37)) (hT.at_ M3.out.below))
            go_wp2_with (first | (go_at_call 8; (with_reducible refine (TO.out).mono ?_); rintro e9 x1 ⟨rfl, hb⟩; have T1 := Lib.hid (M3.out.old hb); have rq := Lib.hid (blk_below r3.out hb); obtain ⟨⟨d0, d1, d2, d3⟩, ⟨f0, f1, f2, f3⟩⟩ := cells4 rq.out; clear hb; have DL := Lib.hid (wr_len w bS bM T x1 T1.out _ rfl); refine Hid.out ?_))
            refine Lib.hid ?_
            go_wp2_with (first | (go_at_call 11; (with_reducible refine (DL.out).mono ?_); rintro e9 x2 ⟨rfl, hL, hK⟩; have T5 := Lib.hid hL; clear hL hK))
            go_ret
            exact ⟨by simp, T5.out.below⟩
end Go.Proofs.YtaomiglmahklfaaGreatDoor
