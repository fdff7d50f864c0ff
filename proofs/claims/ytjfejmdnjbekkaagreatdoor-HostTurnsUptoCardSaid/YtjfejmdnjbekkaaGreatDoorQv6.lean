/- Texts joined: TL, TM, TN, TX -/
import Derived.Test.YtjfejmdnjbekkaaGreatDoorQv3
import Derived.Test.YtjfejmdnjbekkaaGreatDoorQv4
import Derived.Test.YtjfejmdnjbekkaaGreatDoorQv5
import Derived.Test.YtjfejmdnjbekkaaGreatDoorQb16
import Derived.Test.YtjfejmdnjbekkaaGreatDoorQv1
import Derived.Test.YtjfejmdnjbekkaaGreatDoorCards
import Derived.Deep.MidRow
import Derived.Deep.Slices
import Derived.Lib.SmallJoins
import Derived.OpenShut
import Derived.WalkKit
import Derived.ProofKit
import Derived.Deep.DeepHandedRow
import Derived.Lib.LaidTab
import Derived.Stop.LaidErr
set_option linter.unusedVariables false
set_option linter.unusedSimpArgs false

/- The law HostTurns: its walk. -/
namespace Go.Proofs.YtjfejmdnjbekkaaGreatDoor
open Go.ChangeShapes Go.WideShapes Go.ChangeAt Go.RowKit
open Fo

set_option maxRecDepth 100000 in
set_option maxHeartbeats 8000000 in
theorem turns_main (w : World) (hT : Tab w) (F : Nat → Prop) (A1 A2 : Option Addr) (C1 C2 m1 m2 : Nat) (k1 n1 k2 n2 : Int) (s1 s2 : ByteArray) (l1 l2 : Fo) (hm1 : l1.len = m1) (hm2 : l2.len = m2) (hn1 : I64 n1) (hl1 : m1 ≤ 1048576) (ho1 : okF l1) (hl2 : m2 ≤ 1048576) (ho2 : okF l2) (h1 : SL w F A1 C1 l1) (h2 : SL w F A2 C2 l2) : Calls Tryz.prog 3 #[.agg #[.int .i64 k1, .int .i64 n1, .string s1, .slice A1 m1 C1], .agg #[.int .i64 k2, .int .i64 n2, .string s2, .slice A2 m2 C2]] w fun e w' => e = .returned (.bool true) ∧ Below w.heap.size w w' := by
  have TD := Lib.hid (fun X (hX : Below w.heap.size w X) => told33 w hT X hX)
  have SZ := Lib.hid (show ∀ X, Below w.heap.size w X → Calls Tryz.prog 5 #[.agg #[.int .i64 k1, .int .i64 n1, .string s1, .slice A1 m1 C1]] X fun e w' => (∃ z d, e = .returned (.tuple #[.int .i64 z, .int .i64 d])) ∧ Below X.heap.size X w' from fun X hX => by
    subst hm1
    exact size_any F _ (k1, n1, s1, l1) (Nat.lt_succ_self _) A1 C1 X (h1.on hX))
  have PN := Lib.hid (show ∀ X, Below w.heap.size w X → Calls Tryz.prog 6 #[.agg #[.int .i64 k2, .int .i64 n2, .string s2, .slice A2 m2 C2], .int .i64 0] X fun e w' => IsB e ∧ Below X.heap.size X w' from fun X hX => by
    subst hm2
    exact plain_any F _ (k2, n2, s2, l2) (Nat.lt_succ_self _) hl2 ho2 A2 C2 0 X (h2.on hX))
  obtain ⟨⟨vk, vn, vs, vl⟩, hv⟩ : ∃ y, plN (k1, n1, s1, l1) = y := ⟨_, rfl⟩
  obtain ⟨⟨uk, un, us, ul⟩, hu⟩ : ∃ y, rpN (k2, n2, s2, l2) = y := ⟨_, rfl⟩
  obtain ⟨vm, hvm⟩ : ∃ z, vl.len = z := ⟨_, rfl⟩
  obtain ⟨um, hum⟩ : ∃ z, ul.len = z := ⟨_, rfl⟩
  obtain ⟨fb, hfb⟩ : ∃ b, (k1 == 2) = b := ⟨_, rfl⟩
  have PH := Lib.hid (show ∀ X, Below w.heap.size w X → Calls Tryz.prog 8 #[.agg #[.int .i64 k1, .int .i64 n1, .string s1, .slice A1 m1 C1]] X fun e w' => ∃ A' C', e = .returned (.tuple #[.agg #[.int .i64 vk, .int .i64 vn, .string vs, .slice A' vm C'], .bool fb]) ∧ SL w' (fun i => X.heap.size ≤ i) A' C' vl ∧ Below X.heap.size X w' from fun X hX => by
    have := hPl_any hT F _ (k1, n1, s1, l1) (Nat.lt_succ_self _) hn1 (by rw [hm1]; exact hl1) ho1 A1 C1 X hX (h1.on hX)
    unfold PLR at this
    simp only [hv, hvm, hfb, hm1] at this
    exact this)
  have PF := Lib.hid (show ∀ X, Below w.heap.size w X → Calls Tryz.prog 9 #[.agg #[.int .i64 k1, .int .i64 n1, .string s1, .slice A1 m1 C1]] X fun e w' => ∃ A' C', e = .returned (.tuple #[.agg #[.int .i64 vk, .int .i64 vn, .string vs, .slice A' vm C'], .bool fb]) ∧ SL w' (fun i => X.heap.size ≤ i) A' C' vl ∧ Below X.heap.size X w' from fun X hX => by
    have := rPl_any hT F _ (k1, n1, s1, l1) (Nat.lt_succ_self _) hn1 (by rw [hm1]; exact hl1) ho1 A1 C1 X hX (h1.on hX)
    unfold PLR at this
    simp only [hv, hvm, hfb, hm1] at this
    exact this)
  have RH := Lib.hid (show ∀ X, Below w.heap.size w X → Calls Tryz.prog 12 #[.agg #[.int .i64 k2, .int .i64 n2, .string s2, .slice A2 m2 C2]] X fun e w' => ∃ A' C', e = .returned (.agg #[.int .i64 uk, .int .i64 un, .string us, .slice A' um C']) ∧ SL w' (fun i => X.heap.size ≤ i) A' C' ul ∧ Below X.heap.size X w' from fun X hX => by
    have := hRe_any (W0 := w) F _ (k2, n2, s2, l2) (Nat.lt_succ_self _) (by rw [hm2]; exact hl2) ho2 A2 C2 X hX (h2.on hX)
    unfold RPR at this
    simp only [hu, hum, hm2] at this
    exact this)
  have RF := Lib.hid (show ∀ X, Below w.heap.size w X → Calls Tryz.prog 13 #[.agg #[.int .i64 k2, .int .i64 n2, .string s2, .slice A2 m2 C2]] X fun e w' => ∃ A' C', e = .returned (.agg #[.int .i64 uk, .int .i64 un, .string us, .slice A' um C']) ∧ SL w' (fun i => X.heap.size ≤ i) A' C' ul ∧ Below X.heap.size X w' from fun X hX => by
    have := rRe_any (W0 := w) F _ (k2, n2, s2, l2) (Nat.lt_succ_self _) (by rw [hm2]; exact hl2) ho2 A2 C2 X hX (h2.on hX)
    unfold RPR at this
    simp only [hu, hum, hm2] at this
    exact this)
  have PL := Lib.hid (show ∀ (F1 F2 : Nat → Prop) A A' c c' X, SL X F1 A c vl → SL X F2 A' c' vl → Calls Tryz.prog 10 #[.agg #[.int .i64 vk, .int .i64 vn, .string vs, .slice A vm c], .agg #[.int .i64 vk, .int .i64 vn, .string vs, .slice A' vm c']] X fun e w' => e = .returned (.bool true) ∧ Below X.heap.size X w' from fun F1 F2 A A' c c' X g1 g2 => by
    have := rPlains_any F1 F2 _ (vk, vn, vs, vl) (Nat.lt_succ_self _) A A' c c' X g1 g2
    unfold SMR at this
    simp only [hvm] at this
    exact this)
  have SM := Lib.hid (show ∀ (F1 F2 : Nat → Prop) A A' c c' X, SL X F1 A c ul → SL X F2 A' c' ul → Calls Tryz.prog 11 #[.agg #[.int .i64 uk, .int .i64 un, .string us, .slice A um c], .agg #[.int .i64 uk, .int .i64 un, .string us, .slice A' um c']] X fun e w' => e = .returned (.bool true) ∧ Below X.heap.size X w' from fun F1 F2 A A' c c' X g1 g2 => by
    have := rSame_any F1 F2 _ (uk, un, us, ul) (Nat.lt_succ_self _) A A' c c' X g1 g2
    unfold SMR at this
    simp only [hum] at this
    exact this)
  clear hv hu hvm hum hfb hn1 ho1 ho2 h1 h2 hm1 hm2 hl1 hl2 hT
  have K := Lib.hid (al2h w (.cells #[.int .i64 k1, .int .i64 n1, .string s1, .slice A1 m1 C1] 24) (.cells #[.int .i64 k2, .int .i64 n2, .string s2, .slice A2 m2 C2] 27))
  obtain ⟨⟨a0, a1, a2, a3⟩, _⟩ := cells4 K.out.1
  obtain ⟨⟨b0, b1, b2, b3⟩, _⟩ := cells4 K.out.2.1
  go_enter Tryz.func3, Tryz.ntmps3
  go_wp2_with (first | (go_at_call 5; (with_reducible refine (SZ.out _ K.out.2.2).mono ?_); rintro e w1 ⟨⟨z, d, rfl⟩, g1⟩; have D1 := Lib.hid g1; clear g1; refine Hid.out ?_))
  refine Lib.hid ?_
  clear a0 a1 a2 a3 b0 b1 b2 b3
  have K1 := Lib.hid (show w1.heap[w.heap.size]? = some (.cells #[.int .i64 k1, .int .i64 n1, .string s1, .slice A1 m1 C1] 24) ∧ w1.heap[w.heap.size + 1]? = some (.cells #[.int .i64 k2, .int .i64 n2, .string s2, .slice A2 m2 C2] 27) ∧ Below w.heap.size w w1 from ⟨blk_below K.out.1 D1.out, blk_below K.out.2.1 D1.out, K.out.2.2.trans (D1.out.mono (Below.size K.out.2.2))⟩)
  clear K D1
  obtain ⟨⟨a0, a1, a2, a3⟩, _⟩ := cells4 K1.out.1
  obtain ⟨⟨b0, b1, b2, b3⟩, _⟩ := cells4 K1.out.2.1
  by_cases c1 : 2000 < z
  · go_wp2_with (first | (go_at_call 7; (with_reducible refine (TD.out _ K1.out.2.2).mono ?_); rintro e x1 ⟨rfl, h1⟩))
    go_ret
    exact ⟨by simp, K1.out.2.2.trans (h1.mono (Below.size K1.out.2.2))⟩
  by_cases c2 : 5 < d
  · go_wp2_with (first | (go_at_call 7; (with_reducible refine (TD.out _ K1.out.2.2).mono ?_); rintro e x1 ⟨rfl, h1⟩))
    go_ret
    exact ⟨by simp, K1.out.2.2.trans (h1.mono (Below.size K1.out.2.2))⟩
  go_wp2_with (first | (go_at_call 6; (with_reducible refine (PN.out _ K1.out.2.2).mono ?_); rintro e w2 ⟨⟨b, rfl⟩, g1⟩; have D1 := Lib.hid g1; clear g1; refine Hid.out ?_))
  refine Lib.hid ?_
  clear a0 a1 a2 a3 b0 b1 b2 b3 c1 c2
  have K2 := Lib.hid (show w2.heap[w.heap.size]? = some (.cells #[.int .i64 k1, .int .i64 n1, .string s1, .slice A1 m1 C1] 24) ∧ w2.heap[w.heap.size + 1]? = some (.cells #[.int .i64 k2, .int .i64 n2, .string s2, .slice A2 m2 C2] 27) ∧ Below w.heap.size w w2 from ⟨blk_below K1.out.1 D1.out, blk_below K1.out.2.1 D1.out, K1.out.2.2.trans (D1.out.mono (Below.size K1.out.2.2))⟩)
  clear K1 D1
  obtain ⟨⟨a0, a1, a2, a3⟩, _⟩ := cells4 K2.out.1
  cases b with
  | false =>
    go_wp2_with (first | (go_at_call 7; (with_reducible refine (TD.out _ K2.out.2.2).mono ?_); rintro e x1 ⟨rfl, h1⟩))
    go_ret
    exact ⟨by simp, K2.out.2.2.trans (h1.mono (Below.size K2.out.2.2))⟩
  | true =>
    go_wp2_with (first | (go_at_call 8; (with_reducible refine (PH.out _ K2.out.2.2).mono ?_); rintro e w3 ⟨A3, C3, rfl, g0, g1⟩; have D1 := Lib.hid g1; have S3 := Lib.hid g0; clear g1 g0; refine Hid.out ?_))
    refine Lib.hid ?_
    clear a0 a1 a2 a3
    have AL := Lib.hid (alloc_old (w := w3) (o := .cells #[.int .i64 vk, .int .i64 vn, .string vs, .slice A3 vm C3] 27))
    have D2 := Lib.hid (D1.out.trans (AL.out.mono (Below.size D1.out)))
    have K3 := Lib.hid (show (w3.alloc (.cells #[.int .i64 vk, .int .i64 vn, .string vs, .slice A3 vm C3] 27)).heap[w.heap.size]? = some (.cells #[.int .i64 k1, .int .i64 n1, .string s1, .slice A1 m1 C1] 24) ∧ (w3.alloc (.cells #[.int .i64 vk, .int .i64 vn, .string vs, .slice A3 vm C3] 27)).heap[w.heap.size + 1]? = some (.cells #[.int .i64 k2, .int .i64 n2, .string s2, .slice A2 m2 C2] 27) ∧ Below w.heap.size w (w3.alloc (.cells #[.int .i64 vk, .int .i64 vn, .string vs, .slice A3 vm C3] 27)) from ⟨blk_below K2.out.1 D2.out, blk_below K2.out.2.1 D2.out, K2.out.2.2.trans (D2.out.mono (Below.size K2.out.2.2))⟩)
    have V3 := Lib.hid (heap_alloc_new w3 (.cells #[.int .i64 vk, .int .i64 vn, .string vs, .slice A3 vm C3] 27))
    have S3' := Lib.hid (S3.out.on AL.out)
    obtain ⟨⟨a0, a1, a2, a3⟩, _⟩ := cells4 K3.out.1
    go_wp2_with (first | (go_at_call 9; (with_reducible refine (PF.out _ K3.out.2.2).mono ?_); rintro e w4 ⟨A4, C4, rfl, g0, g1⟩; have E1 := Lib.hid g1; have S4 := Lib.hid g0; clear g1 g0; refine Hid.out ?_))
    refine Lib.hid ?_
    clear a0 a1 a2 a3
    have AM := Lib.hid (alloc_old (w := w4) (o := .cells #[.int .i64 vk, .int .i64 vn, .string vs, .slice A4 vm C4] 27))
    have E2 := Lib.hid (E1.out.trans (AM.out.mono (Below.size E1.out)))
    have V4 := Lib.hid (heap_alloc_new w4 (.cells #[.int .i64 vk, .int .i64 vn, .string vs, .slice A4 vm C4] 27))
    have S4' := Lib.hid (S4.out.on AM.out)
    have S3'' := Lib.hid (S3'.out.on E2.out)
    have V3' := Lib.hid (blk_below V3.out E2.out)
    have P4 := Lib.hid (blk_below K3.out.2.1 E2.out)
    have B4 := Lib.hid (K3.out.2.2.trans (E2.out.mono (Below.size K3.out.2.2)))
    go_wp2
    generalize w4.alloc (.cells #[.int .i64 vk, .int .i64 vn, .string vs, .slice A4 vm C4] 27) = yb at S4' S3'' V4 V3' P4 B4 ⊢
    have SX := Lib.hid (show ∀ X, Below yb.heap.size yb X → (X.cell? ⟨w3.heap.size, 0, none⟩ = some (.int .i64 vk) ∧ X.cell? ⟨w3.heap.size, 1, none⟩ = some (.int .i64 vn) ∧ X.cell? ⟨w3.heap.size, 2, none⟩ = some (.string vs) ∧ X.cell? ⟨w3.heap.size, 3, none⟩ = some (.slice A3 vm C3) ∧ X.cell? ⟨w4.heap.size, 0, none⟩ = some (.int .i64 vk) ∧ X.cell? ⟨w4.heap.size, 1, none⟩ = some (.int .i64 vn) ∧ X.cell? ⟨w4.heap.size, 2, none⟩ = some (.string vs) ∧ X.cell? ⟨w4.heap.size, 3, none⟩ = some (.slice A4 vm C4) ∧ X.cell? ⟨w.heap.size + 1, 0, none⟩ = some (.int .i64 k2) ∧ X.cell? ⟨w.heap.size + 1, 1, none⟩ = some (.int .i64 n2) ∧ X.cell? ⟨w.heap.size + 1, 2, none⟩ = some (.string s2) ∧ X.cell? ⟨w.heap.size + 1, 3, none⟩ = some (.slice A2 m2 C2)) from fun X hX => by
      obtain ⟨⟨p0, p1, p2, p3⟩, _⟩ := cells4 (blk_below V3'.out hX)
      obtain ⟨⟨q0, q1, q2, q3⟩, _⟩ := cells4 (blk_below V4.out hX)
      obtain ⟨⟨r0, r1, r2, r3⟩, _⟩ := cells4 (blk_below P4.out hX)
      exact ⟨p0, p1, p2, p3, q0, q1, q2, q3, r0, r1, r2, r3⟩)
    have Bd := Lib.hid (show Below yb.heap.size yb yb.drew from (Below.refl _ _).drew)
    have S0 := SX.out yb.drew Bd.out
    have BW := Lib.hid (show ∀ X, Below yb.heap.size yb X → Below w.heap.size w X from fun X hX => B4.out.trans (hX.mono (Below.size B4.out)))
    have SA := Lib.hid (show ∀ X, Below yb.heap.size yb X → SL X (fun i => w2.heap.size ≤ i) A3 C3 vl from fun X hX => S3''.out.on hX)
    have SB := Lib.hid (show ∀ X, Below yb.heap.size yb X → SL X (fun i => (w3.alloc (.cells #[.int .i64 vk, .int .i64 vn, .string vs, .slice A3 vm C3] 27)).heap.size ≤ i) A4 C4 vl from fun X hX => S4'.out.on hX)
    clear V3 V3' V4 P4 S3 S3' S3'' S4 S4' AL AM D1 D2 E1 E2 K2 K3 SZ PN PH PF B4
    rcases fb with _ | _
    all_goals (
      go_region_held3 (fun X => X.cell? ⟨w3.heap.size, 0, none⟩ = some (.int .i64 vk) ∧ X.cell? ⟨w3.heap.size, 1, none⟩ = some (.int .i64 vn) ∧ X.cell? ⟨w3.heap.size, 2, none⟩ = some (.string vs) ∧ X.cell? ⟨w3.heap.size, 3, none⟩ = some (.slice A3 vm C3) ∧ X.cell? ⟨w4.heap.size, 0, none⟩ = some (.int .i64 vk) ∧ X.cell? ⟨w4.heap.size, 1, none⟩ = some (.int .i64 vn) ∧ X.cell? ⟨w4.heap.size, 2, none⟩ = some (.string vs) ∧ X.cell? ⟨w4.heap.size, 3, none⟩ = some (.slice A4 vm C4) ∧ X.cell? ⟨w.heap.size + 1, 0, none⟩ = some (.int .i64 k2) ∧ X.cell? ⟨w.heap.size + 1, 1, none⟩ = some (.int .i64 n2) ∧ X.cell? ⟨w.heap.size + 1, 2, none⟩ = some (.string s2) ∧ X.cell? ⟨w.heap.size + 1, 3, none⟩ = some (.slice A2 m2 C2)) (first | (with_reducible exact S0) | (with_reducible exact Sa.out) | (with_reducible exact Sb.out) | (with_reducible exact Sc.out) | (with_reducible exact Sd.out) | (with_reducible exact Se.out))
        (first
          | (go_at_call 7; (with_reducible refine (TD.out _ (BW.out _ Bd.out)).mono ?_); rintro ee x1 ⟨rfl, h1⟩; have B1 := Lib.hid (Bd.out.trans (h1.mono (Below.size Bd.out))); have Sa := Lib.hid (SX.out x1 B1.out); clear h1)
          | (go_at_call 10; (with_reducible refine (PL.out _ _ _ _ _ _ _ (SA.out _ B1.out) (SB.out _ B1.out)).mono ?_); rintro ee x2 ⟨rfl, h1⟩; have B2 := Lib.hid (B1.out.trans (h1.mono (Below.size B1.out))); have Sb := Lib.hid (SX.out x2 B2.out); clear h1)
          | (go_at_call 12; (with_reducible refine (RH.out _ (BW.out _ B2.out)).mono ?_); rintro ee x3 ⟨A5, C5, rfl, g5, h1⟩; have B3 := Lib.hid (B2.out.trans (h1.mono (Below.size B2.out))); have Sc := Lib.hid (SX.out x3 B3.out); have G5 := Lib.hid g5; clear h1 g5)
          | (go_at_call 13; (with_reducible refine (RF.out _ (BW.out _ B3.out)).mono ?_); rintro ee x4 ⟨A6, C6, rfl, g6, h1⟩; have B5 := Lib.hid (B3.out.trans (h1.mono (Below.size B3.out))); have Sd := Lib.hid (SX.out x4 B5.out); have G6 := Lib.hid g6; have G7 := Lib.hid (G5.out.on h1); clear h1 g6)
          | (go_at_call 11; (with_reducible refine (SM.out _ _ _ _ _ _ _ G7.out G6.out).mono ?_); rintro ee x5 ⟨rfl, h1⟩; have B6 := Lib.hid (B5.out.trans (h1.mono (Below.size B5.out))); have Se := Lib.hid (SX.out x5 B6.out); clear h1))
      all_goals (
        go_wp2
        go_ret
        exact ⟨by simp, BW.out _ B6.out⟩))
end Go.Proofs.YtjfejmdnjbekkaaGreatDoor

/- Replies and values that come in, as trees. -/
namespace Go.Proofs.YtjfejmdnjbekkaaGreatDoor
open Go.ChangeShapes Go.WideShapes Go.ChangeAt Go.RowKit Go.Joins Go.Deep
open Fo

/-- A row out of a function. -/
def mkF (Q : Nat → Nd) : Nat → Nat → Fo
  | _, 0 => .nil
  | a, n + 1 => cn (Q a) (mkF Q (a + 1) n)
def mkC (Q : Nat → Nd) (A : Nat → Option Addr) (C : Nat → Nat) : Nat → Nat → List Value
  | _, 0 => []
  | a, n + 1 => .int .i64 (Q a).1 :: .int .i64 (Q a).2.1 :: .string (Q a).2.2.1 :: .slice (A a) (Q a).2.2.2.len (C a) :: mkC Q A C (a + 1) n
theorem mkF_len (Q : Nat → Nd) : ∀ n a, (mkF Q a n).len = n
  | 0, _ => rfl
  | n + 1, a => by show (mkF Q (a + 1) n).len + 1 = n + 1; rw [mkF_len Q n (a + 1)]
theorem mkF_ok (Q : Nat → Nd) : ∀ n a, (∀ i, a ≤ i → i < a + n → I64 (Q i).2.1 ∧ (Q i).2.2.2.len ≤ 1048576 ∧ okF (Q i).2.2.2) → okF (mkF Q a n)
  | 0, _, _ => trivial
  | n + 1, a, h => by
    obtain ⟨h1, h2, h3⟩ := h a (Nat.le_refl _) (by omega)
    exact ⟨h1, h2, h3, mkF_ok Q n (a + 1) (fun i hi hl => h i (by omega) (by omega))⟩
theorem mkF_ec {w : World} {F : Nat → Prop} (Q : Nat → Nd) (A : Nat → Option Addr) (C : Nat → Nat) : ∀ n a, (∀ i, a ≤ i → i < a + n → SL w F (A i) (C i) (Q i).2.2.2) → EC w F (mkF Q a n) (mkC Q A C a n)
  | 0, _, _ => EC_nil.2 rfl
  | n + 1, a, h => EC_cons.2 ⟨A a, C a, _, rfl, h a (Nat.le_refl _) (by omega), mkF_ec Q A C n (a + 1) (fun i hi hl => h i (by omega) (by omega))⟩
theorem mkC_at {w : World} {b off : Nat} (Q : Nat → Nd) (A : Nat → Option Addr) (C : Nat → Nat) : ∀ n a, (∀ i, a ≤ i → i < a + n → w.cell? ⟨b, off + i * 4, none⟩ = some (.int .i64 (Q i).1) ∧ w.cell? ⟨b, off + i * 4 + 1, none⟩ = some (.int .i64 (Q i).2.1) ∧ w.cell? ⟨b, off + i * 4 + 2, none⟩ = some (.string (Q i).2.2.1) ∧ w.cell? ⟨b, off + i * 4 + 3, none⟩ = some (.slice (A i) (Q i).2.2.2.len (C i))) →
    ∀ j u, (mkC Q A C a n)[j]? = some u → w.cell? ⟨b, off + a * 4 + j, none⟩ = some u
  | 0, _, _, j, u, hj => by simp [mkC] at hj
  | n + 1, a, h, j, u, hj => by
    obtain ⟨h0, h1, h2, h3⟩ := h a (Nat.le_refl _) (by omega)
    match j, hj with
    | 0, hj => cases hj; exact h0
    | 1, hj => cases hj; exact h1
    | 2, hj => cases hj; exact h2
    | 3, hj => cases hj; exact h3
    | j + 4, hj =>
      have := mkC_at Q A C n (a + 1) (fun i hi hl => h i (by omega) (by omega)) j u hj
      rw [show off + a * 4 + (j + 4) = off + (a + 1) * 4 + j by omega]
      exact this
theorem le_sumT (bs : Nat → Nat) (m i : Nat) (hi : i < m) : bs i ≤ ((List.range m).map bs).sum := by
  induction m with
  | zero => omega
  | succ m ih =>
    rw [List.range_succ, List.map_append, List.sum_append]
    simp only [List.map_cons, List.map_nil, List.sum_cons, List.sum_nil]
    by_cases h : i = m
    · subst h; omega
    · have := ih (by omega); omega
theorem sum_geT (bs : Nat → Nat) (m : Nat) (h : ∀ i, i < m → 1 ≤ bs i) : m ≤ ((List.range m).map bs).sum := by
  induction m with
  | zero => simp
  | succ m ih =>
    have h1 := ih (fun i hi => h i (by omega))
    have h2 := h m (by omega)
    rw [List.range_succ, List.map_append, List.sum_append]
    simp
    omega
theorem at_ofT {W : World} {a : Addr} {n : Nat} {f : Nat → Value} (h : ∀ i, i < n → W.cell? (a.add i) = some (f i)) (hp : 0 < n) :
    ∃ b off, a = ⟨b, off, none⟩ ∧ b < W.heap.size := by
  obtain ⟨b, off, spot⟩ := a
  have hspot : spot = none := by simpa [Addr.add] using World.cell?_spot (h 0 hp)
  subst hspot
  refine ⟨b, off, rfl, ?_⟩
  have h0 := h 0 hp
  rw [Go.WideShapes.add_plain] at h0
  rcases Nat.lt_or_ge b W.heap.size with hb | hb
  · exact hb
  · unfold World.cell? at h0
    simp only [Array.getElem?_eq_none hb] at h0
    cases h0
theorem I64.of_wfT {n : Int} (h : (Lit.int .i64 n).wf = true) : I64 n := by
  have h1 : (IntKind.i64.min ≤ n) ∧ n ≤ IntKind.i64.max := by simpa [Lit.wf] using h
  exact ⟨h1.1, h1.2⟩
section
variable {H : Type} {enc : TypeId × Value → H} {W : World}
theorem bulk_posT (d : DataW H) : 1 ≤ Rows.uptoBulk d := by
  cases d with
  | lit l => cases l <;> simp [Rows.uptoBulk]
  | _ => simp [Rows.uptoBulk]
theorem bulk_rangeT (D : Nat → DataW H) (n : Nat) : Rows.uptoBulkAll ((List.range n).map D) = ((List.range n).map fun i => Rows.uptoBulk (D i)).sum := by
  generalize List.range n = l
  induction l with
  | nil => rfl
  | cons x r ih => simp [Rows.uptoBulkAll, ih]
theorem cells_int : Tryz.prog.cellsOf 3 = 1 := by kernel_rfl
theorem cells_i64 : Tryz.prog.cellsOf 2 = 1 := by kernel_rfl
theorem cells_str : Tryz.prog.cellsOf 9 = 1 := by kernel_rfl
theorem cells_Rep : Tryz.prog.cellsOf 24 = 4 := by kernel_rfl
theorem cells_Reps : Tryz.prog.cellsOf 22 = 1 := by kernel_rfl
set_option maxRecDepth 100000 in
theorem Rep_of_trod : ∀ (B fuel : Nat) (cs : List Value) (d : DataW H) (ps : List MemPlace), Rows.uptoBulk d ≤ B → B ≤ 1048576 → DataW.trod enc Tryz.prog W 0 (fun _ => true) true fuel 24 cs = some (d, ps) →
    ∃ (x : Nd) (A : Option Addr) (c : Nat), cs = [.int .i64 x.1, .int .i64 x.2.1, .string x.2.2.1, .slice A x.2.2.2.len c] ∧ SL W (fun i => i < W.heap.size) A c x.2.2.2 ∧ I64 x.2.1 ∧ x.2.2.2.len ≤ Rows.uptoBulk d ∧ okF x.2.2.2 := by
  intro B
  induction B with
  | zero => intro fuel cs d ps hB; have := bulk_posT d; omega
  | succ B ih =>
    intro fuel cs d ps hB hBM h
    obtain ⟨y0, y1, y2, y3, n', hx, hcl, h0, h1, h2, h3⟩ := trod_struct4 Tryz.underlying24 h
    rw [cells_Rep] at hcl
    match cs, hcl with
    | [c0, c1, c2, c3], _ =>
      simp only [cells_int, cells_i64, cells_str, cells_Reps, List.drop_zero, List.drop_succ_cons, List.take_succ_cons, List.take_zero] at h0 h1 h2 h3
      obtain ⟨k, hk, rfl, wk⟩ := DataW.trod_int Tryz.underlying3 h0
      obtain ⟨n, hn, rfl, wn⟩ := DataW.trod_int Tryz.underlying2 h1
      obtain ⟨s, hs, rfl, ws⟩ := DataW.trod_string Tryz.underlying9 h2
      injection hk with hk _; subst hk
      injection hn with hn _; subst hn
      injection hs with hs _; subst hs
      injection hx with hx1 hx2; subst hx1
      rcases open_slice Tryz.underlying22 h3 with ⟨hcs, rfl⟩ | ⟨a, len, cap, m, n2, D, Pl, hcs, _, hl, hc, hm, rfl, hrow⟩
      · injection hcs with hcs _; subst hcs
        exact ⟨(k, n, s, .nil), none, 0, rfl, SL.none0, I64.of_wfT wn, Nat.zero_le _, trivial⟩
      · injection hcs with hcs _; subst hcs
        simp only [if_true] at hm
        subst hm
        dsimp only at hB ⊢
        rw [cells_Rep] at hrow
        have hbulk : 1 + ((List.range len).map fun i => Rows.uptoBulk (D i)).sum ≤ Rows.uptoBulk (DataW.agg [DataW.lit (Lit.int .i64 k), DataW.lit (Lit.int .i64 n), DataW.lit (Lit.string s.data.toList), DataW.slice ((List.range len).map D) ((List.range (m - len)).map fun j => D (len + j))] : DataW H) := by
          simp only [Rows.uptoBulk, Rows.uptoBulkAll, bulk_rangeT]
          omega
        have hch : ∀ i, i < len → ∃ q : Nd × Option Addr × Nat, ∃ cs', W.cells? 0 (a.add (i * 4)) 4 = some cs' ∧ cs' = [.int .i64 q.1.1, .int .i64 q.1.2.1, .string q.1.2.2.1, .slice q.2.1 q.1.2.2.2.len q.2.2] ∧ SL W (fun i => i < W.heap.size) q.2.1 q.2.2 q.1.2.2.2 ∧ I64 q.1.2.1 ∧ q.1.2.2.2.len ≤ Rows.uptoBulk (D i) ∧ okF q.1.2.2.2 := by
          intro i hi
          obtain ⟨cs', hc1, hc2⟩ := hrow i (by omega)
          have hDi := le_sumT (fun i => Rows.uptoBulk (D i)) len i hi
          obtain ⟨x, A', c', e1, e2, e3, e4, e5⟩ := ih n2 cs' (D i) (Pl i) (by omega) (by omega) hc2
          exact ⟨(x, A', c'), cs', hc1, e1, e2, e3, e4, e5⟩
        obtain ⟨Q, hQ⟩ : ∃ Q : Nat → Nd × Option Addr × Nat, ∀ i, i < len → ∃ cs', W.cells? 0 (a.add (i * 4)) 4 = some cs' ∧ cs' = [.int .i64 (Q i).1.1, .int .i64 (Q i).1.2.1, .string (Q i).1.2.2.1, .slice (Q i).2.1 (Q i).1.2.2.2.len (Q i).2.2] ∧ SL W (fun i => i < W.heap.size) (Q i).2.1 (Q i).2.2 (Q i).1.2.2.2 ∧ I64 (Q i).1.2.1 ∧ (Q i).1.2.2.2.len ≤ Rows.uptoBulk (D i) ∧ okF (Q i).1.2.2.2 := by
          refine ⟨fun i => if h : i < len then (hch i h).choose else ((0, 0, ⟨#[]⟩, .nil), none, 0), fun i hi => ?_⟩
          have := (hch i hi).choose_spec
          simp only [dif_pos hi]
          exact this
        have hat : ∀ i, i < len → ∀ j, j < 4 → W.cell? ((a.add (i * 4)).add j) = ([.int .i64 (Q i).1.1, .int .i64 (Q i).1.2.1, .string (Q i).1.2.2.1, .slice (Q i).2.1 (Q i).1.2.2.2.len (Q i).2.2] : List Value)[j]? := by
          intro i hi j hj
          obtain ⟨cs', hc1, hc2, _⟩ := hQ i hi
          obtain ⟨_, _, h3⟩ := World.cells?_some hc1
          rw [h3 j hj, hc2]
        have hlen9 : len ≤ ((List.range len).map fun i => Rows.uptoBulk (D i)).sum := sum_geT _ len (fun i _ => bulk_posT (D i))
        refine ⟨(k, n, s, mkF (fun i => (Q i).1) 0 len), some a, m, by simp only [mkF_len], ⟨by rw [mkF_len]; exact hl, hc, fun hne => ?_⟩, I64.of_wfT wn, by simp only [mkF_len]; omega, mkF_ok _ _ _ (fun i _ hi => ?_)⟩
        · have hlen : 0 < len := by
            rcases Nat.eq_zero_or_pos len with e | e
            · subst e; exact absurd rfl hne
            · exact e
          obtain ⟨b, off, rfl, hb⟩ := at_ofT (W := W) (a := a) (n := 1) (f := fun _ => .int .i64 (Q 0).1.1) (fun i hi => by
            have := hat 0 hlen 0 (by decide)
            have e : (a.add (0 * 4)).add 0 = a.add 0 := by simp [Addr.add]
            rw [e] at this
            obtain rfl : i = 0 := by omega
            exact this) (by decide)
          refine ⟨b, off, mkC (fun i => (Q i).1) (fun i => (Q i).2.1) (fun i => (Q i).2.2) 0 len, rfl, hb, hb, fun j u hj => ?_, mkF_ec _ _ _ _ _ (fun i _ hi => ?_)⟩
          · have := mkC_at (w := W) (b := b) (off := off) (fun i => (Q i).1) (fun i => (Q i).2.1) (fun i => (Q i).2.2) len 0 (fun i _ hi => ?_) j u hj
            · rw [show off + 0 * 4 + j = off + j by omega] at this
              exact this
            · have g := hat i (by omega)
              have g0 := g 0 (by decide)
              have g1 := g 1 (by decide)
              have g2 := g 2 (by decide)
              have g3 := g 3 (by decide)
              rw [Addr.add_mid, Addr.add_mid] at g0 g1 g2 g3
              exact ⟨g0, g1, g2, g3⟩
          · obtain ⟨_, _, _, h, _⟩ := hQ i (by omega)
            exact h
        · obtain ⟨_, _, _, _, h4, h5, h6⟩ := hQ i (by omega)
          have hDi := le_sumT (fun i => Rows.uptoBulk (D i)) len i (by omega)
          exact ⟨h4, by omega, h6⟩
theorem cells_Pln : Tryz.prog.cellsOf 27 = 4 := by kernel_rfl
theorem cells_Plns : Tryz.prog.cellsOf 25 = 1 := by kernel_rfl
set_option maxRecDepth 100000 in
theorem Pln_of_trod : ∀ (B fuel : Nat) (cs : List Value) (d : DataW H) (ps : List MemPlace), Rows.uptoBulk d ≤ B → B ≤ 1048576 → DataW.trod enc Tryz.prog W 0 (fun _ => true) true fuel 27 cs = some (d, ps) →
    ∃ (x : Nd) (A : Option Addr) (c : Nat), cs = [.int .i64 x.1, .int .i64 x.2.1, .string x.2.2.1, .slice A x.2.2.2.len c] ∧ SL W (fun i => i < W.heap.size) A c x.2.2.2 ∧ I64 x.2.1 ∧ x.2.2.2.len ≤ Rows.uptoBulk d ∧ okF x.2.2.2 := by
  intro B
  induction B with
  | zero => intro fuel cs d ps hB; have := bulk_posT d; omega
  | succ B ih =>
    intro fuel cs d ps hB hBM h
    obtain ⟨y0, y1, y2, y3, n', hx, hcl, h0, h1, h2, h3⟩ := trod_struct4 Tryz.underlying27 h
    rw [cells_Pln] at hcl
    match cs, hcl with
    | [c0, c1, c2, c3], _ =>
      simp only [cells_int, cells_i64, cells_str, cells_Plns, List.drop_zero, List.drop_succ_cons, List.take_succ_cons, List.take_zero] at h0 h1 h2 h3
      obtain ⟨k, hk, rfl, wk⟩ := DataW.trod_int Tryz.underlying3 h0
      obtain ⟨n, hn, rfl, wn⟩ := DataW.trod_int Tryz.underlying2 h1
      obtain ⟨s, hs, rfl, ws⟩ := DataW.trod_string Tryz.underlying9 h2
      injection hk with hk _; subst hk
      injection hn with hn _; subst hn
      injection hs with hs _; subst hs
      injection hx with hx1 hx2; subst hx1
      rcases open_slice Tryz.underlying25 h3 with ⟨hcs, rfl⟩ | ⟨a, len, cap, m, n2, D, Pl, hcs, _, hl, hc, hm, rfl, hrow⟩
      · injection hcs with hcs _; subst hcs
        exact ⟨(k, n, s, .nil), none, 0, rfl, SL.none0, I64.of_wfT wn, Nat.zero_le _, trivial⟩
      · injection hcs with hcs _; subst hcs
        simp only [if_true] at hm
        subst hm
        dsimp only at hB ⊢
        rw [cells_Pln] at hrow
        have hbulk : 1 + ((List.range len).map fun i => Rows.uptoBulk (D i)).sum ≤ Rows.uptoBulk (DataW.agg [DataW.lit (Lit.int .i64 k), DataW.lit (Lit.int .i64 n), DataW.lit (Lit.string s.data.toList), DataW.slice ((List.range len).map D) ((List.range (m - len)).map fun j => D (len + j))] : DataW H) := by
          simp only [Rows.uptoBulk, Rows.uptoBulkAll, bulk_rangeT]
          omega
        have hch : ∀ i, i < len → ∃ q : Nd × Option Addr × Nat, ∃ cs', W.cells? 0 (a.add (i * 4)) 4 = some cs' ∧ cs' = [.int .i64 q.1.1, .int .i64 q.1.2.1, .string q.1.2.2.1, .slice q.2.1 q.1.2.2.2.len q.2.2] ∧ SL W (fun i => i < W.heap.size) q.2.1 q.2.2 q.1.2.2.2 ∧ I64 q.1.2.1 ∧ q.1.2.2.2.len ≤ Rows.uptoBulk (D i) ∧ okF q.1.2.2.2 := by
          intro i hi
          obtain ⟨cs', hc1, hc2⟩ := hrow i (by omega)
          have hDi := le_sumT (fun i => Rows.uptoBulk (D i)) len i hi
          obtain ⟨x, A', c', e1, e2, e3, e4, e5⟩ := ih n2 cs' (D i) (Pl i) (by omega) (by omega) hc2
          exact ⟨(x, A', c'), cs', hc1, e1, e2, e3, e4, e5⟩
        obtain ⟨Q, hQ⟩ : ∃ Q : Nat → Nd × Option Addr × Nat, ∀ i, i < len → ∃ cs', W.cells? 0 (a.add (i * 4)) 4 = some cs' ∧ cs' = [.int .i64 (Q i).1.1, .int .i64 (Q i).1.2.1, .string (Q i).1.2.2.1, .slice (Q i).2.1 (Q i).1.2.2.2.len (Q i).2.2] ∧ SL W (fun i => i < W.heap.size) (Q i).2.1 (Q i).2.2 (Q i).1.2.2.2 ∧ I64 (Q i).1.2.1 ∧ (Q i).1.2.2.2.len ≤ Rows.uptoBulk (D i) ∧ okF (Q i).1.2.2.2 := by
          refine ⟨fun i => if h : i < len then (hch i h).choose else ((0, 0, ⟨#[]⟩, .nil), none, 0), fun i hi => ?_⟩
          have := (hch i hi).choose_spec
          simp only [dif_pos hi]
          exact this
        have hat : ∀ i, i < len → ∀ j, j < 4 → W.cell? ((a.add (i * 4)).add j) = ([.int .i64 (Q i).1.1, .int .i64 (Q i).1.2.1, .string (Q i).1.2.2.1, .slice (Q i).2.1 (Q i).1.2.2.2.len (Q i).2.2] : List Value)[j]? := by
          intro i hi j hj
          obtain ⟨cs', hc1, hc2, _⟩ := hQ i hi
          obtain ⟨_, _, h3⟩ := World.cells?_some hc1
          rw [h3 j hj, hc2]
        have hlen9 : len ≤ ((List.range len).map fun i => Rows.uptoBulk (D i)).sum := sum_geT _ len (fun i _ => bulk_posT (D i))
        refine ⟨(k, n, s, mkF (fun i => (Q i).1) 0 len), some a, m, by simp only [mkF_len], ⟨by rw [mkF_len]; exact hl, hc, fun hne => ?_⟩, I64.of_wfT wn, by simp only [mkF_len]; omega, mkF_ok _ _ _ (fun i _ hi => ?_)⟩
        · have hlen : 0 < len := by
            rcases Nat.eq_zero_or_pos len with e | e
            · subst e; exact absurd rfl hne
            · exact e
          obtain ⟨b, off, rfl, hb⟩ := at_ofT (W := W) (a := a) (n := 1) (f := fun _ => .int .i64 (Q 0).1.1) (fun i hi => by
            have := hat 0 hlen 0 (by decide)
            have e : (a.add (0 * 4)).add 0 = a.add 0 := by simp [Addr.add]
            rw [e] at this
            obtain rfl : i = 0 := by omega
            exact this) (by decide)
          refine ⟨b, off, mkC (fun i => (Q i).1) (fun i => (Q i).2.1) (fun i => (Q i).2.2) 0 len, rfl, hb, hb, fun j u hj => ?_, mkF_ec _ _ _ _ _ (fun i _ hi => ?_)⟩
          · have := mkC_at (w := W) (b := b) (off := off) (fun i => (Q i).1) (fun i => (Q i).2.1) (fun i => (Q i).2.2) len 0 (fun i _ hi => ?_) j u hj
            · rw [show off + 0 * 4 + j = off + j by omega] at this
              exact this
            · have g := hat i (by omega)
              have g0 := g 0 (by decide)
              have g1 := g 1 (by decide)
              have g2 := g 2 (by decide)
              have g3 := g 3 (by decide)
              rw [Addr.add_mid, Addr.add_mid] at g0 g1 g2 g3
              exact ⟨g0, g1, g2, g3⟩
          · obtain ⟨_, _, _, h, _⟩ := hQ i (by omega)
            exact h
        · obtain ⟨_, _, _, _, h4, h5, h6⟩ := hQ i (by omega)
          have hDi := le_sumT (fun i => Rows.uptoBulk (D i)) len i (by omega)
          exact ⟨h4, by omega, h6⟩
end
end Go.Proofs.YtjfejmdnjbekkaaGreatDoor

/- The law HostTurns, whole. -/
namespace Go.Proofs.YtjfejmdnjbekkaaGreatDoor
open Go.ChangeShapes Go.WideShapes Go.ChangeAt Go.RowKit Go.Joins Go.Deep
open Fo

theorem gPowU : Tryz.prog.globalNamed "internal/strconv.uint64pow10" = some 0 := by kernel_rfl
theorem gPowTypeU : (Tryz.prog.globals[0]?).map (·.type) = some 127 := by kernel_rfl
theorem cellsTbU : Tryz.prog.cellsOf 127 = 20 := by kernel_rfl
theorem cellsEU : Tryz.prog.cellsOf 107 = 1 := by kernel_rfl
set_option maxRecDepth 100000 in
theorem tab_turns {W : World} (h : laidMetH Tryz.prog Rows.hostTurnsRow.laid W) : Tab W :=
  Lib.tabIs_of_head (rest := []) (zs := Lib.pow10Tab) gPowU gPowTypeU (by kernel_rfl) (by kernel_rfl) cellsEU cellsTbU (laidMet.tail (laidMet.tail h))
set_option maxRecDepth 100000 in
theorem turns_law {H : Type} {enc : TypeId × Value → H} {W : World} {base : Nat} {v0 v1 : Value} {d0 d1 : DataW H} {p0 p1 : List MemPlace} (hT : Tab W) (hv0 : Value.okWide Tryz.prog W .any base 24 v0) (hv1 : Value.okWide Tryz.prog W .any base 27 v1)
    (h0 : DataW.Trod enc Tryz.prog W 0 (fun _ => true) true 24 v0 d0 p0) (h1 : DataW.Trod enc Tryz.prog W 0 (fun _ => true) true 27 v1 d1 p1) (hb : Rows.uptoBulk d0 + Rows.uptoBulk d1 ≤ 1048576) : Calls Tryz.prog 3 #[v0, v1] W fun e w' => e = .returned (.bool true) ∧ Below W.heap.size W w' := by
  obtain ⟨cs0, rfl, hsz0⟩ := okWide_struct Tryz.underlying24 hv0
  obtain ⟨cs1, rfl, hsz1⟩ := okWide_struct Tryz.underlying27 hv1
  obtain ⟨fuel0, hf0⟩ := h0
  obtain ⟨fuel1, hf1⟩ := h1
  obtain ⟨⟨k1, n1, s1, l1⟩, A1, C1, e1, g1, i1, b1, o1⟩ := Rep_of_trod (W := W) _ fuel0 _ d0 p0 (Nat.le_refl _) (by omega) hf0
  obtain ⟨⟨k2, n2, s2, l2⟩, A2, C2, e2, g2, i2, b2, o2⟩ := Pln_of_trod (W := W) _ fuel1 _ d1 p1 (Nat.le_refl _) (by omega) hf1
  simp only at e1 e2 g1 g2 i1 b1 b2 o1 o2
  have q1 : cs0 = #[.int .i64 k1, .int .i64 n1, .string s1, .slice A1 l1.len C1] := by
    apply Array.toList_inj.1
    rw [show cs0.toList = [.int .i64 k1, .int .i64 n1, .string s1, .slice A1 l1.len C1] from e1]
  have q2 : cs1 = #[.int .i64 k2, .int .i64 n2, .string s2, .slice A2 l2.len C2] := by
    apply Array.toList_inj.1
    rw [show cs1.toList = [.int .i64 k2, .int .i64 n2, .string s2, .slice A2 l2.len C2] from e2]
  subst q1 q2
  exact turns_main W hT (fun i => i < W.heap.size) A1 A2 C1 C2 _ _ k1 n1 k2 n2 s1 s2 l1 l2 rfl rfl i1 (by omega) o1 (by omega) o2 g1 g2
end Go.Proofs.YtjfejmdnjbekkaaGreatDoor

/- The closed facts of HostTurns' row, one by one. -/
namespace Go.Proofs.YtjfejmdnjbekkaaGreatDoor
open Go.ChangeShapes Go.WideShapes Go.ChangeAt Go.RowKit

theorem turns_k10 : (Rows.hostTurnsUptoRow.inPlace == Tryz.pinned.checked.prog.inPlace 3) = true := by kernel_rfl
theorem turns_k11 : (Rows.hostTurnsUptoRow.unfollowed == Tryz.pinned.checked.prog.unfollowed 3) = true := by kernel_rfl
theorem turns_k12 : (Rows.hostTurnsUptoRow.recurses == Tryz.pinned.checked.prog.recurses 3) = true := by kernel_rfl
theorem turns_k13 : (Rows.hostTurnsUptoRow.named == Tryz.pinned.checked.prog.varsNamed 3) = true := by kernel_rfl
theorem turns_closed : joinedFacts Tryz.pinned.checked.prog 3 Tryz.f3 (Rows.OpenSpec.upto Rows.hostTurnsSpec).bare Rows.hostTurnsUptoRow = true := by
  unfold joinedFacts
  rw [turns_k10, turns_k11, turns_k12, turns_k13]
  kernel_rfl
end Go.Proofs.YtjfejmdnjbekkaaGreatDoor
