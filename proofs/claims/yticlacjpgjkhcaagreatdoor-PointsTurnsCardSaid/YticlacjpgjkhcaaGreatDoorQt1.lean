/- Texts joined: P9, PR -/
import Derived.Test.YticlacjpgjkhcaaGreatDoorQn29
import Derived.Test.YticlacjpgjkhcaaGreatDoorQn30
set_option linter.unusedVariables false
set_option linter.unusedSimpArgs false

/- The reference's Same of two replies that tell the same texts. -/
namespace Go.Proofs.YticlacjpgjkhcaaGreatDoor
open Go.ChangeShapes Go.WideShapes Go.ChangeAt Go.RowKit

set_option maxRecDepth 100000 in
set_option maxHeartbeats 4000000 in
theorem same_leaf (k n : Int) (s : ByteArray) (w : World) : Calls Tryz.prog 15 #[.agg #[.int .i64 k, .int .i64 n, .string s, .slice none 0 0], .agg #[.int .i64 k, .int .i64 n, .string s, .slice none 0 0]] w fun e w' => e = .returned (.bool true) ∧ Below w.heap.size w w' := by
  have B := Lib.hid (show Below w.heap.size w ((w.alloc (.cells #[.int .i64 k, .int .i64 n, .string s, .slice none 0 0] 29)).alloc (.cells #[.int .i64 k, .int .i64 n, .string s, .slice none 0 0] 29)) from alloc_old.trans (alloc_old.mono (by simp)))
  obtain ⟨⟨a0, a1, a2, a3⟩, _⟩ := cells4 (show ((w.alloc (.cells #[.int .i64 k, .int .i64 n, .string s, .slice none 0 0] 29)).alloc (.cells #[.int .i64 k, .int .i64 n, .string s, .slice none 0 0] 29)).heap[w.heap.size]? = _ from blk_below (heap_alloc_new w _) alloc_old)
  obtain ⟨⟨b0, b1, b2, b3⟩, _⟩ := cells4 (show ((w.alloc (.cells #[.int .i64 k, .int .i64 n, .string s, .slice none 0 0] 29)).alloc (.cells #[.int .i64 k, .int .i64 n, .string s, .slice none 0 0] 29)).heap[w.heap.size + 1]? = _ from heap2L w _)
  have e1 : (k != k) = false := by simp
  have e2 : (n != n) = false := by simp
  have e3 : (s.toList != s.toList) = false := by simp
  go_enter Tryz.func15, Tryz.ntmps15
  go_wp2_with fail
  refine wp_loop_once ?_
  go_wp2
  go_ret
  exact ⟨rfl, B.out⟩
/-- A row of texts in a reply, at a place. -/
theorem RO.at4 {zs : List ByteArray} {c g n C : Nat} {w : World} (h : RO (zs.map some) c w (.slice (some ⟨g, 0, none⟩) n C)) (hn : zs.length = n) (i : Nat) (s : ByteArray) (hs : zs[i]? = some s) : w.cell? ⟨g, i * 4, none⟩ = some (.int .i64 4) ∧ w.cell? ⟨g, i * 4 + 1, none⟩ = some (.int .i64 0) ∧ w.cell? ⟨g, i * 4 + 2, none⟩ = some (.string s) ∧ w.cell? ⟨g, i * 4 + 3, none⟩ = some (.slice none 0 0) := by
  subst hn
  unfold RO at h
  rw [List.length_map] at h
  have h2 := fun j v hj => row_cell h (i * 4 + j) v (repC_at _ i j (some s) v (by rw [List.getElem?_map, hs]; rfl) hj)
  exact ⟨h2 0 _ rfl, h2 1 _ rfl, h2 2 _ rfl, h2 3 _ rfl⟩
set_option maxRecDepth 100000 in
set_option maxHeartbeats 8000000 in
theorem same_rows (zs : List ByteArray) (n : Nat) (hn : zs.length = n) (h1 : 1 ≤ n) (hm : n ≤ 1000) (c1 c2 g1 g2 C D : Nat) (w : World) (ha : RO (zs.map some) c1 w (.slice (some ⟨g1, 0, none⟩) n C)) (hb : RO (zs.map some) c2 w (.slice (some ⟨g2, 0, none⟩) n D)) : Calls Tryz.prog 15 #[.agg #[.int .i64 6, .int .i64 0, .string ⟨#[]⟩, .slice (some ⟨g1, 0, none⟩) n C], .agg #[.int .i64 6, .int .i64 0, .string ⟨#[]⟩, .slice (some ⟨g2, 0, none⟩) n D]] w fun e w' => e = .returned (.bool true) ∧ Below w.heap.size w w' := by
  have B := Lib.hid (show Below w.heap.size w ((w.alloc (.cells #[.int .i64 6, .int .i64 0, .string ⟨#[]⟩, .slice (some ⟨g1, 0, none⟩) n C] 29)).alloc (.cells #[.int .i64 6, .int .i64 0, .string ⟨#[]⟩, .slice (some ⟨g2, 0, none⟩) n D] 29)) from alloc_old.trans (alloc_old.mono (by simp)))
  have h5 : ((w.alloc (.cells #[.int .i64 6, .int .i64 0, .string ⟨#[]⟩, .slice (some ⟨g1, 0, none⟩) n C] 29)).alloc (.cells #[.int .i64 6, .int .i64 0, .string ⟨#[]⟩, .slice (some ⟨g2, 0, none⟩) n D] 29)).heap[w.heap.size]? = _ := blk_below (heap_alloc_new w _) alloc_old
  have h6 : ((w.alloc (.cells #[.int .i64 6, .int .i64 0, .string ⟨#[]⟩, .slice (some ⟨g1, 0, none⟩) n C] 29)).alloc (.cells #[.int .i64 6, .int .i64 0, .string ⟨#[]⟩, .slice (some ⟨g2, 0, none⟩) n D] 29)).heap[w.heap.size + 1]? = _ := heap2L w _
  obtain ⟨⟨a0, a1, a2, a3⟩, _⟩ := cells4 h5
  obtain ⟨⟨b0, b1, b2, b3⟩, _⟩ := cells4 h6
  have H5 := Lib.hid h5
  have H6 := Lib.hid h6
  have HA := Lib.hid (RO.below ha B.out)
  have HB := Lib.hid (RO.below hb B.out)
  have HN := Lib.hid hn
  have SL := Lib.hid (fun s X => same_leaf 4 0 s X)
  clear ha hb hn h5 h6
  go_enter Tryz.func15, Tryz.ntmps15
  go_wp2_with fail
  generalize ((w.alloc (.cells #[.int .i64 6, .int .i64 0, .string ⟨#[]⟩, .slice (some ⟨g1, 0, none⟩) n C] 29)).alloc (.cells #[.int .i64 6, .int .i64 0, .string ⟨#[]⟩, .slice (some ⟨g2, 0, none⟩) n D] 29)) = W2 at B HA HB H5 H6 ⊢
  clear a0 a1 a2 a3 b0 b1 b2 b3
  go_loopw [5] (fun iv wr => ∃ i : Nat, i ≤ n ∧ iv = .int .i64 i ∧ Hid (Below W2.heap.size W2 wr)) (fun iv _ => n - (intOf iv).toNat)
  case atStart => exact ⟨0, Nat.zero_le _, rfl, Lib.hid (Below.refl _ _)⟩
  case round =>
    obtain ⟨i, hi, rfl, HQ⟩ := hrel
    have SA := Lib.hid (fun X (hX : Below wr.heap.size wr X) => (cells4 (blk_below (blk_below H5.out HQ.out) hX)).1.2.2.2)
    have SB := Lib.hid (fun X (hX : Below wr.heap.size wr X) => (cells4 (blk_below (blk_below H6.out HQ.out) hX)).1.2.2.2)
    have a3 := SA.out wr (Below.refl _ _)
    by_cases hlt : i < n
    · have i0 : (i : Int) < (n : Int) := by omega
      obtain ⟨s, hs⟩ : ∃ s, zs[i]? = some s := ⟨_, List.getElem?_eq_getElem (by rw [HN.out]; exact hlt)⟩
      have SR := Lib.hid (fun X (hX : Below wr.heap.size wr X) => RO.at4 (RO.below (RO.below HA.out HQ.out) hX) HN.out i s hs)
      have SS := Lib.hid (fun X (hX : Below wr.heap.size wr X) => RO.at4 (RO.below (RO.below HB.out HQ.out) hX) HN.out i s hs)
      have SX := Lib.hid (show ∀ X, Below wr.heap.size wr X → ((X.cell? ⟨w.heap.size, 3, none⟩ = some (.slice (some ⟨g1, 0, none⟩) n C)) ∧ (X.cell? ⟨w.heap.size + 1, 3, none⟩ = some (.slice (some ⟨g2, 0, none⟩) n D)) ∧ (X.cell? ⟨g1, i * 4, none⟩ = some (.int .i64 4) ∧ X.cell? ⟨g1, i * 4 + 1, none⟩ = some (.int .i64 0) ∧ X.cell? ⟨g1, i * 4 + 2, none⟩ = some (.string s) ∧ X.cell? ⟨g1, i * 4 + 3, none⟩ = some (.slice none 0 0)) ∧ (X.cell? ⟨g2, i * 4, none⟩ = some (.int .i64 4) ∧ X.cell? ⟨g2, i * 4 + 1, none⟩ = some (.int .i64 0) ∧ X.cell? ⟨g2, i * 4 + 2, none⟩ = some (.string s) ∧ X.cell? ⟨g2, i * 4 + 3, none⟩ = some (.slice none 0 0))) from fun X hX => ⟨SA.out X hX, SB.out X hX, SR.out X hX, SS.out X hX⟩)
      have S0 := SX.out wr.drew (Below.refl _ _).drew
      clear hs
      go_wp2_with fail
      go_region_held3 (fun X => (X.cell? ⟨w.heap.size, 3, none⟩ = some (.slice (some ⟨g1, 0, none⟩) n C)) ∧ (X.cell? ⟨w.heap.size + 1, 3, none⟩ = some (.slice (some ⟨g2, 0, none⟩) n D)) ∧ (X.cell? ⟨g1, i * 4, none⟩ = some (.int .i64 4) ∧ X.cell? ⟨g1, i * 4 + 1, none⟩ = some (.int .i64 0) ∧ X.cell? ⟨g1, i * 4 + 2, none⟩ = some (.string s) ∧ X.cell? ⟨g1, i * 4 + 3, none⟩ = some (.slice none 0 0)) ∧ (X.cell? ⟨g2, i * 4, none⟩ = some (.int .i64 4) ∧ X.cell? ⟨g2, i * 4 + 1, none⟩ = some (.int .i64 0) ∧ X.cell? ⟨g2, i * 4 + 2, none⟩ = some (.string s) ∧ X.cell? ⟨g2, i * 4 + 3, none⟩ = some (.slice none 0 0))) (first | (with_reducible exact S0) | (with_reducible exact S1.out))
        (first | (go_at_call 15; (with_reducible refine (SL.out s _).mono ?_); rintro e w5 ⟨rfl, h1⟩; have B1 := Lib.hid ((Below.refl wr.heap.size wr).drew.trans h1); have S1 := Lib.hid (SX.out _ B1.out); clear h1))
      clear S0 S1
      go_wp2
      exact ⟨⟨i + 1, by omega, by go_num, Lib.hid (HQ.out.trans (B1.out.mono (Below.size HQ.out)))⟩, by simp [intOf]; omega⟩
    · obtain rfl : i = n := by omega
      have i0 : ¬ (i : Int) < (i : Int) := by omega
      go_wp2
      go_ret
      exact ⟨rfl, B.out.trans (HQ.out.mono (Below.size B.out))⟩
end Go.Proofs.YticlacjpgjkhcaaGreatDoor

/- The law PointsTurns: plain facts; its commands with written arguments. -/
namespace Go.Proofs.YticlacjpgjkhcaaGreatDoor
open Go.ChangeShapes Go.WideShapes Go.ChangeAt Go.RowKit Go.Fl

theorem mapP_mapP (f g : Int → Int → Int × Int) (F : List (ByteArray × Int × Int)) : mapP g (mapP f F) = mapP (fun x y => g (f x y).1 (f x y).2) F := by
  simp [mapP, List.map_map, Function.comp_def]
theorem mapP_id (f : Int → Int → Int × Int) (F : List (ByteArray × Int × Int)) (h : ∀ x y, f x y = (x, y)) : mapP f F = F := by
  unfold mapP
  have : (fun p : ByteArray × Int × Int => (p.1, f p.2.1 p.2.2)) = id := by
    funext p
    rw [h]
    rfl
  rw [this, List.map_id]
theorem rot_back (x y : Int) : ∀ k, k < 4 → rot ((4 - k) % 4) (rot k x y).1 (rot k x y).2 = (x, y)
  | 0, _ => by simp [rot]
  | 1, _ => by simp [rot]
  | 2, _ => by simp [rot]
  | 3, _ => by simp [rot]
  | k + 4, h => by omega
/-- Turned there and back. -/
theorem turn_back (t : Int) (F : List (ByteArray × Int × Int)) : mapP (trn ((-t) % 4)) (mapP (trn (t % 4)) F) = F := by
  rw [mapP_mapP]
  refine mapP_id _ F fun x y => ?_
  unfold trn
  obtain ⟨k, hk⟩ : ∃ k, (t % 4 % 4).toNat = k := ⟨_, rfl⟩
  have hk4 : k < 4 := by omega
  have h2 : ((-t) % 4 % 4).toNat = (4 - k) % 4 := by omega
  rw [hk, h2]
  exact rot_back x y k hk4
/-- Moved there and back. -/
theorem move_back (a b : Int) (F : List (ByteArray × Int × Int)) : mapP (mvP (-a) (-b)) (mapP (mvP a b) F) = F := by
  rw [mapP_mapP]
  refine mapP_id _ F fun x y => ?_
  unfold mvP
  simp only
  rw [show x + a + -a = x by omega, show y + b + -b = y by omega]
theorem sX_cons (p : ByteArray × Int × Int) (F : List (ByteArray × Int × Int)) : sX (p :: F) = p.2.1 + sX F := by simp [sX]
theorem sY_cons (p : ByteArray × Int × Int) (F : List (ByteArray × Int × Int)) : sY (p :: F) = p.2.2 + sY F := by simp [sY]
/-- Scaled by a whole number. -/
theorem scale_sum (f : Int) : ∀ F : List (ByteArray × Int × Int), sX (mapP (mlP f 0) F) = f * sX F ∧ sY (mapP (mlP f 0) F) = f * sY F
  | [] => by simp [sX, sY, mapP]
  | p :: r => by
    have ih := scale_sum f r
    have e : mapP (mlP f 0) (p :: r) = (p.1, mlP f 0 p.2.1 p.2.2) :: mapP (mlP f 0) r := rfl
    rw [e, sX_cons, sY_cons, sX_cons, sY_cons, ih.1, ih.2]
    unfold mlP
    simp only [Int.mul_zero, Int.sub_zero, Int.zero_add]
    rw [Int.mul_add, Int.mul_add, Int.mul_comm f p.2.1, Int.mul_comm f p.2.2]
    exact ⟨rfl, rfl⟩
/-- Scaled by the other unit. -/
theorem unit_sum : ∀ F : List (ByteArray × Int × Int), sX (mapP (mlP 0 1) F) = -sY F ∧ sY (mapP (mlP 0 1) F) = sX F
  | [] => by simp [sX, sY, mapP]
  | p :: r => by
    have ih := unit_sum r
    have e : mapP (mlP 0 1) (p :: r) = (p.1, mlP 0 1 p.2.1 p.2.2) :: mapP (mlP 0 1) r := rfl
    rw [e, sX_cons, sY_cons, sX_cons, sY_cons, ih.1, ih.2]
    unfold mlP
    simp only [Int.mul_zero, Int.mul_one, Int.zero_sub, Int.add_zero]
    exact ⟨by omega, trivial⟩
theorem sX_fP (X Y : Nat → Int) (i : Nat) : sX (fP X Y (i + 1)) = sX (fP X Y i) + X i ∧ sY (fP X Y (i + 1)) = sY (fP X Y i) + Y i := by
  rw [fP_succ]
  simp [sX, sY]
theorem trn_bd (k : Int) (B : Int) (x y : Int) (hx : -B ≤ x ∧ x ≤ B) (hy : -B ≤ y ∧ y ≤ B) : (-B ≤ (trn k x y).1 ∧ (trn k x y).1 ≤ B) ∧ (-B ≤ (trn k x y).2 ∧ (trn k x y).2 ≤ B) := by
  unfold trn
  have h : (k % 4).toNat < 4 := by omega
  generalize (k % 4).toNat = r at h
  match r, h with
  | 0, _ => exact ⟨hx, hy⟩
  | 1, _ => simp only [rot]; omega
  | 2, _ => simp only [rot]; omega
  | 3, _ => simp only [rot]; omega
theorem l_pall (W0 : World) (bS bM : Nat) (hT : Tab W0) (F : List (ByteArray × Int × Int)) (B : Int) (hB0 : 0 ≤ B) (hB : B ≤ 1048576) (hb : PBd F B) (hne : F ≠ []) (X : World) (hL : LDP W0 X bS bM (dP F)) (q : Nat) (hq : X.heap.size = q) : Calls Tryz.prog 14 #[.pointer (some ⟨bS, 0, none⟩), .slice (some ⟨q, 0, none⟩) 2 2] (X.alloc (.cells #[.string ⟨#[80, 65, 76, 76]⟩, .string ⟨#[107]⟩] 9)) fun e w' => ∃ A m c, e = .returned (.agg #[.int .i64 6, .int .i64 0, .string ⟨#[]⟩, .slice A m c]) ∧ (RO ((allP F).map some)) X.heap.size w' (.slice A m c) ∧ LDP W0 w' bS bM (dP F) ∧ Kp X.heap.size (fun i => i ≠ bS ∧ i ≠ bM) X w' := by
  subst hq
  exact litR (RO.keep _) X hL [⟨#[80, 65, 76, 76]⟩, ⟨#[107]⟩] (by simp) (fun vA w h hA => d_PALL W0 bS bM F hT B hB0 hB hb hne vA w h hA) rfl rfl rfl
theorem l_psum (W0 : World) (bS bM : Nat) (hT : Tab W0) (F : List (ByteArray × Int × Int)) (B : Int) (hB0 : 0 ≤ B) (hB : B ≤ 1048576) (hb : PBd F B) (hne : F ≠ []) (hB2 : B ≤ 100000) (X : World) (hL : LDP W0 X bS bM (dP F)) (q : Nat) (hq : X.heap.size = q) : Calls Tryz.prog 14 #[.pointer (some ⟨bS, 0, none⟩), .slice (some ⟨q, 0, none⟩) 2 2] (X.alloc (.cells #[.string ⟨#[80, 83, 85, 77]⟩, .string ⟨#[107]⟩] 9)) fun e w' => ∃ A m c, e = .returned (.agg #[.int .i64 6, .int .i64 0, .string ⟨#[]⟩, .slice A m c]) ∧ (RO [some (numT (sX F)), some (numT (sY F))]) X.heap.size w' (.slice A m c) ∧ LDP W0 w' bS bM (dP F) ∧ Kp X.heap.size (fun i => i ≠ bS ∧ i ≠ bM) X w' := by
  subst hq
  exact litR (RO.keep _) X hL [⟨#[80, 83, 85, 77]⟩, ⟨#[107]⟩] (by simp) (fun vA w h hA => d_PSUM W0 bS bM F hT B hB0 hB hb hne hB2 vA w h hA) rfl rfl rfl
theorem l_pturn (W0 : World) (bS bM : Nat) (F : List (ByteArray × Int × Int)) (B : Int) (hB0 : 0 ≤ B) (hB : B ≤ 1048576) (hb : PBd F B) (hne : F ≠ []) (x : Int) (hx : I64 x) (C : Int) (hC : C ≤ 1048576) (hc : PBd (mapP (trn (x % 4)) F) C) (n : Nat) (hn : F.length = n) (X : World) (hL : LDP W0 X bS bM (dP F)) (q : Nat) (hq : X.heap.size = q) : Calls Tryz.prog 14 #[.pointer (some ⟨bS, 0, none⟩), .slice (some ⟨q, 0, none⟩) 3 3] (X.alloc (.cells #[.string ⟨#[80, 84, 85, 82, 78]⟩, .string ⟨#[107]⟩, .string (numT x)] 9)) fun e w' => e = .returned (.agg #[.int .i64 3, .int .i64 (n : Nat), .string ⟨#[]⟩, .slice none 0 0]) ∧ LDP W0 w' bS bM (dP (mapP (trn (x % 4)) F)) ∧ Kp X.heap.size (fun i => i ≠ bS ∧ i ≠ bM) X w' := by
  subst hq
  exact lit0 X hL [⟨#[80, 84, 85, 82, 78]⟩, ⟨#[107]⟩, numT x] (by simp) (fun vA w h hA => d_PTURN W0 bS bM F _ x (Nat.le_trans (numT_size _ (hx)) (by decide)) (parse_numT _ hx) B hB0 hB hb hne C hC hc vA w h hA) rfl (by rw [hn]) rfl
theorem l_pscale (W0 : World) (bS bM : Nat) (F : List (ByteArray × Int × Int)) (B : Int) (hB0 : 0 ≤ B) (hB : B ≤ 1048576) (hb : PBd F B) (hne : F ≠ []) (a : Int) (ha : okI a = true) (C : Int) (hC : C ≤ 1048576) (hc : PBd (mapP (mlP a 0) F) C) (n : Nat) (hn : F.length = n) (X : World) (hL : LDP W0 X bS bM (dP F)) (q : Nat) (hq : X.heap.size = q) : Calls Tryz.prog 14 #[.pointer (some ⟨bS, 0, none⟩), .slice (some ⟨q, 0, none⟩) 4 4] (X.alloc (.cells #[.string ⟨#[80, 83, 67, 65, 76, 69]⟩, .string ⟨#[107]⟩, .string (numT a), .string ⟨#[48]⟩] 9)) fun e w' => e = .returned (.agg #[.int .i64 3, .int .i64 (n : Nat), .string ⟨#[]⟩, .slice none 0 0]) ∧ LDP W0 w' bS bM (dP (mapP (mlP a 0) F)) ∧ Kp X.heap.size (fun i => i ≠ bS ∧ i ≠ bM) X w' := by
  subst hq
  exact lit0 X hL [⟨#[80, 83, 67, 65, 76, 69]⟩, ⟨#[107]⟩, numT a, ⟨#[48]⟩] (by simp) (fun vA w h hA => d_PSCALE W0 bS bM F _ _ (Nat.le_trans (numT_size _ (I64.okI ha)) (by decide)) (by decide) a 0 ha (by decide) (parse_numT _ (I64.okI ha)) (by kernel_rfl) B hB0 hB hb hne C hC hc vA w h hA) rfl (by rw [hn]) rfl
theorem l_punit (W0 : World) (bS bM : Nat) (F : List (ByteArray × Int × Int)) (B : Int) (hB0 : 0 ≤ B) (hB : B ≤ 1048576) (hb : PBd F B) (hne : F ≠ []) (C : Int) (hC : C ≤ 1048576) (hc : PBd (mapP (mlP 0 1) F) C) (n : Nat) (hn : F.length = n) (X : World) (hL : LDP W0 X bS bM (dP F)) (q : Nat) (hq : X.heap.size = q) : Calls Tryz.prog 14 #[.pointer (some ⟨bS, 0, none⟩), .slice (some ⟨q, 0, none⟩) 4 4] (X.alloc (.cells #[.string ⟨#[80, 83, 67, 65, 76, 69]⟩, .string ⟨#[107]⟩, .string ⟨#[48]⟩, .string ⟨#[49]⟩] 9)) fun e w' => e = .returned (.agg #[.int .i64 3, .int .i64 (n : Nat), .string ⟨#[]⟩, .slice none 0 0]) ∧ LDP W0 w' bS bM (dP (mapP (mlP 0 1) F)) ∧ Kp X.heap.size (fun i => i ≠ bS ∧ i ≠ bM) X w' := by
  subst hq
  exact lit0 X hL [⟨#[80, 83, 67, 65, 76, 69]⟩, ⟨#[107]⟩, ⟨#[48]⟩, ⟨#[49]⟩] (by simp) (fun vA w h hA => d_PSCALE W0 bS bM F _ _ (by decide) (by decide) 0 1 (by decide) (by decide) (by kernel_rfl) (by kernel_rfl) B hB0 hB hb hne C hC hc vA w h hA) rfl (by rw [hn]) rfl
end Go.Proofs.YticlacjpgjkhcaaGreatDoor
