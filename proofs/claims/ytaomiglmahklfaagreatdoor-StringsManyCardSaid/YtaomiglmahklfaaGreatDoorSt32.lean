/- INCRBY, DECRBY, INCR. -/
import Derived.Test.YtaomiglmahklfaaGreatDoorSt30
import Derived.Test.YtaomiglmahklfaaGreatDoorSt31
namespace Go.Proofs.YtaomiglmahklfaaGreatDoor
open Go.ChangeShapes Go.WideShapes Go.ChangeAt Go.RowKit

theorem Parse_yes (t : ByteArray) (n : Int) (ht : t.size ≤ 100000) (hp : parseI t.data.toList = some n) (w : World) : Calls Tryz.prog 78 #[.string t] w fun e w' => e = .returned (.tuple #[.int .i64 n, .bool true]) ∧ Below w.heap.size w w' := by
  refine (Parse9 t (by omega) w).mono ?_
  rintro e w' ⟨rfl, m, rfl⟩
  rw [hp]
  exact ⟨rfl, below_drewN (Below.refl _ _) m⟩
theorem Parse_no (t : ByteArray) (ht : t.size ≤ 100000) (hp : parseI t.data.toList = none) (w : World) : Calls Tryz.prog 78 #[.string t] w fun e w' => e = .returned (.tuple #[.int .i64 0, .bool false]) ∧ Below w.heap.size w w' := by
  refine (Parse9 t (by omega) w).mono ?_
  rintro e w' ⟨rfl, m, rfl⟩
  rw [hp]
  exact ⟨rfl, below_drewN (Below.refl _ _) m⟩
theorem Add_yes (a b : Int) (ha : I64 a) (hb : I64 b) (hr : rng (a + b) = true) (w : World) : Calls Tryz.prog 36 #[.int .i64 a, .int .i64 b] w fun e w' => e = .returned (.tuple #[.int .i64 (a + b), .bool true]) ∧ Below w.heap.size w w' := by
  refine (N13 a b ha.1 ha.2 hb.1 hb.2 w).mono ?_
  rintro e w' ⟨rfl, rfl⟩
  rw [hr]
  exact ⟨rfl, Below.refl _ _⟩
theorem Add_no (a b : Int) (ha : I64 a) (hb : I64 b) (hr : rng (a + b) = false) (w : World) : Calls Tryz.prog 36 #[.int .i64 a, .int .i64 b] w fun e w' => e = .returned (.tuple #[.int .i64 0, .bool false]) ∧ Below w.heap.size w w' := by
  refine (N13 a b ha.1 ha.2 hb.1 hb.2 w).mono ?_
  rintro e w' ⟨rfl, rfl⟩
  rw [hr]
  exact ⟨rfl, Below.refl _ _⟩
theorem Sub_yes (a b : Int) (ha : I64 a) (hb : I64 b) (hr : rng (a - b) = true) (w : World) : Calls Tryz.prog 38 #[.int .i64 a, .int .i64 b] w fun e w' => e = .returned (.tuple #[.int .i64 (a - b), .bool true]) ∧ Below w.heap.size w w' := by
  refine (N15 a b ha.1 ha.2 hb.1 hb.2 w).mono ?_
  rintro e w' ⟨rfl, rfl⟩
  rw [hr]
  exact ⟨rfl, Below.refl _ _⟩
theorem Sub_no (a b : Int) (ha : I64 a) (hb : I64 b) (hr : rng (a - b) = false) (w : World) : Calls Tryz.prog 38 #[.int .i64 a, .int .i64 b] w fun e w' => e = .returned (.tuple #[.int .i64 0, .bool false]) ∧ Below w.heap.size w w' := by
  refine (N15 a b ha.1 ha.2 hb.1 hb.2 w).mono ?_
  rintro e w' ⟨rfl, rfl⟩
  rw [hr]
  exact ⟨rfl, Below.refl _ _⟩
set_option maxRecDepth 100000 in
set_option maxHeartbeats 8000000 in
theorem incr_diff_raw {W0 : World} (hT : Tab W0) (bS bM : Nat) (l : MapT.Ents) (now : Int) (c k s t : ByteArray) (n m u : Int) (ht : t.size ≤ 100000) (hs : s.size ≤ 100000) (hn : I64 n) (hm : I64 m) (hp : parseI t.data.toList = some n) (hq : parseI s.data.toList = some m) (hr : rng (n + m) = true) (hne : t ≠ (numT (n + m))) (hk1 : 1 ≤ k.size) (hk : k.size ≤ 512) (hu0 : 0 ≤ u) (hu1 : u ≤ 1125899906842624) (hf : MapT.find k l = some (.agg #[.string k, .int .i64 1, .string t, .slice none 0 0, .slice none 0 0, .slice none 0 0, .slice none 0 0, .int .i64 u])) (hv : Lives u now) (w : World) (j : Nat) (vA : Value) (hI : Below W0.heap.size W0 w) (hS : SP w bS bM l) (hj : JB w j bS now vA (.slice none 0 0)) (hA : SSl w vA [c, k, s]) : Calls Tryz.prog 35 #[.pointer (some ⟨j, 0, none⟩), .func (.func 36) #[] #[], .bool true] w fun e w' => ∃ A m' c', e = .returned (.agg #[.int .i64 3, .int .i64 (n + m), .string ⟨#[]⟩, .slice A m' c']) ∧ R0 w.heap.size w' (.slice A m' c') ∧ (∃ A' n' c', JB w' j bS now vA (.slice A' n' c') ∧ EF w' w.heap.size (.slice A' n' c') [⟨k, 1, (numT (n + m)), u⟩]) ∧ Kp w.heap.size (fun i => i ≠ j) w w' := by
  have A1 := Lib.hid (alloc_old (w := w) (o := .cells #[.int .i64 0, .int .i64 0, .string ⟨#[]⟩, .slice none 0 0] 37))
  have hr0 := Lib.hid (heap_alloc_new w (.cells #[.int .i64 0, .int .i64 0, .string ⟨#[]⟩, .slice none 0 0] 37))
  obtain ⟨aA, cap, hv, p1, p2, p3⟩ := hA
  replace hv : vA = .slice aA 3 cap := hv
  subst hv
  replace p1 : 3 ≤ cap := p1
  obtain ⟨blk, off, rfl, hblt, hc⟩ := p3 (by simp)
  have ca1 := Lib.hid (show ∀ Y, Below w.heap.size w Y → Y.cell? ⟨blk, off + 1, none⟩ = some (.string k) from fun Y hb => (hb.cell (p := ⟨blk, off + 1, none⟩) hblt).trans (hc 1 _ rfl))
  have ca2 := Lib.hid (show ∀ Y, Below w.heap.size w Y → Y.cell? ⟨blk, off + 2, none⟩ = some (.string s) from fun Y hb => (hb.cell (p := ⟨blk, off + 2, none⟩) hblt).trans (hc 2 _ rfl))
  have cj := Lib.hid (show ∀ Y, Below w.heap.size w Y → Y.cell? ⟨j, 2, none⟩ = some (.slice (some ⟨blk, off, none⟩) 3 cap) ∧ Y.cell? ⟨j, 1, none⟩ = some (.int .i64 now) from fun Y hb => ⟨(hj.below hb).cells.2.2.1, (hj.below hb).cells.2.1⟩)
  have nj := Lib.hid (ne_job_str hj (hc 1 _ rfl))
  have HJ := Lib.hid hj
  have hA0 : SSl w (.slice (some ⟨blk, off, none⟩) 3 cap) [c, k, s] := ⟨_, _, rfl, p1, p2, fun _ => ⟨blk, off, rfl, hblt, hc⟩⟩
  have i1 : (1 : Int) < 3 := by decide
  have G := Lib.hid (Of_yes bS bM j l k now _ _ 1 t u hf hv _ (hS.below A1.out) (hj.below A1.out))
  have JI := Lib.hid (fun X (hX : Below w.heap.size w X) => show Calls Tryz.prog 71 #[.pointer (some ⟨j, 0, none⟩), .int .i64 2] X (fun e w' => e = .returned (.int .i64 m) ∧ Below X.heap.size X w') from JInt_ok j bS now _ _ [c, k, s] 2 s m hs hq rfl X (hj.below hX) (hA0.below hX))
  have PA := Lib.hid (fun X (_ : Below w.heap.size w X) => Parse_yes t n ht hp X)
  have AD := Lib.hid (fun X (_ : Below w.heap.size w X) => Add_yes n m hn hm hr X)
  have hr2 : I64 (n + m) := rng_of hr
  have PR := Lib.hid (fun X (hX : Below w.heap.size w X) => Print79 hT (n + m) hr2 X (hI.trans (hX.mono (Below.size hI))))
  have TX := Lib.hid (fun X (_ : Below w.heap.size w X) => text73 (numT (n + m)) X)
  have hsz := numT_size (n + m) hr2
  have TU := Lib.hid (fun X (hX : Below w.heap.size w X) => Turn_diff j bS bM l now (.slice (some ⟨blk, off, none⟩) 3 cap) none 0 0 [] X.heap.size X (hS.below hX) (hj.below hX) (EF.nil _ _) (Nat.le_refl _) (by simp) k (numT (n + m)) hk1 hk (by omega) u hu0 hu1 t hne hf hv)
  have hI2 := Lib.hid hI
  clear hS hj hc p3 hf hA0 hp hq hr hne hsz hT hI
  have y2 := (cj.out _ A1.out).1
  have z1 := ca1.out _ A1.out
  go_enter Tryz.func35, Tryz.ntmps35
  go_wp2_with (first | (go_at_call 65; (with_reducible refine (G.out).mono ?_); rintro e w1 ⟨rfl, h1⟩; have B1 := Lib.hid (A1.out.trans (h1.mono (Below.size A1.out))); have R1 := Lib.hid (blk_below hr0.out h1); clear h1; refine Hid.out ?_))
  refine Lib.hid ?_
  clear y2 z1
  have BX := Lib.hid (show Below w.heap.size w (w1.alloc (.cells #[.string k, .int .i64 1, .string t, .slice none 0 0, .slice none 0 0, .slice none 0 0, .slice none 0 0, .int .i64 u] 33)) from B1.out.trans (alloc_old.mono (Below.size B1.out)))
  have oX := Lib.hid (heap_alloc_new w1 (.cells #[.string k, .int .i64 1, .string t, .slice none 0 0, .slice none 0 0, .slice none 0 0, .slice none 0 0, .int .i64 u] 33))
  have RX := Lib.hid (blk_below R1.out (alloc_old (o := .cells #[.string k, .int .i64 1, .string t, .slice none 0 0, .slice none 0 0, .slice none 0 0, .slice none 0 0, .int .i64 u] 33)))
  have hs1 := Below.size B1.out
  have hs2 := lt_blk R1.out
  have y2 := (cj.out _ BX.out).1
  obtain ⟨⟨g0, g1, g2, g3, g4, g5, g6, g7⟩, ⟨k0, k1, k2, k3, k4, k5, k6, k7⟩, gz⟩ := cells8 oX.out
  go_wp2_with (first | (go_at_call 71; (with_reducible refine (JI.out _ BX.out).mono ?_); rintro e w3 ⟨rfl, hh⟩; have oX := Lib.hid (blk_below oX.out hh); have RX := Lib.hid (blk_below RX.out hh); have BX := Lib.hid (BX.out.trans (hh.mono (Below.size BX.out))); clear hh; obtain ⟨⟨g0, g1, g2, g3, g4, g5, g6, g7⟩, ⟨k0, k1, k2, k3, k4, k5, k6, k7⟩, gz⟩ := cells8 oX.out; have y2 := (cj.out _ BX.out).1) | (go_at_call 78; (with_reducible refine (PA.out _ BX.out).mono ?_); rintro e w4 ⟨rfl, hh⟩; have oX := Lib.hid (blk_below oX.out hh); have RX := Lib.hid (blk_below RX.out hh); have BX := Lib.hid (BX.out.trans (hh.mono (Below.size BX.out))); clear hh; obtain ⟨⟨g0, g1, g2, g3, g4, g5, g6, g7⟩, ⟨k0, k1, k2, k3, k4, k5, k6, k7⟩, gz⟩ := cells8 oX.out; have y2 := (cj.out _ BX.out).1) | (go_at_call 36; (with_reducible refine (AD.out _ BX.out).mono ?_); rintro e w5 ⟨rfl, hh⟩; have oX := Lib.hid (blk_below oX.out hh); have RX := Lib.hid (blk_below RX.out hh); have BX := Lib.hid (BX.out.trans (hh.mono (Below.size BX.out))); clear hh; obtain ⟨⟨g0, g1, g2, g3, g4, g5, g6, g7⟩, ⟨k0, k1, k2, k3, k4, k5, k6, k7⟩, gz⟩ := cells8 oX.out; have y2 := (cj.out _ BX.out).1) | (go_at_call 79; (with_reducible refine (PR.out _ BX.out).mono ?_); rintro e w6 ⟨rfl, hh⟩; have oX := Lib.hid (blk_below oX.out hh); have RX := Lib.hid (blk_below RX.out hh); have BX := Lib.hid (BX.out.trans (hh.mono (Below.size BX.out))); clear hh; obtain ⟨⟨g0, g1, g2, g3, g4, g5, g6, g7⟩, ⟨k0, k1, k2, k3, k4, k5, k6, k7⟩, gz⟩ := cells8 oX.out; have y2 := (cj.out _ BX.out).1) | (go_at_call 73; (with_reducible refine (TX.out _ BX.out).mono ?_); rintro e w7 ⟨rfl, hh⟩; have oX := Lib.hid (blk_below oX.out hh); have RX := Lib.hid (blk_below RX.out hh); have BX := Lib.hid (BX.out.trans (hh.mono (Below.size BX.out))); clear hh; obtain ⟨⟨g0, g1, g2, g3, g4, g5, g6, g7⟩, ⟨k0, k1, k2, k3, k4, k5, k6, k7⟩, gz⟩ := cells8 oX.out; have y2 := (cj.out _ BX.out).1; refine Hid.out ?_))
  refine Lib.hid ?_
  have B4 := Lib.hid (bel6 BX.out (show w.heap.size ≤ w1.heap.size by omega) (.int .i64 1) (.string (numT (n + m))) (.slice none 0 0) (.slice none 0 0) (.slice none 0 0) (.slice none 0 0))
  have o4 := Lib.hid (set6of8 oX.out (.int .i64 1) (.string (numT (n + m))) (.slice none 0 0) (.slice none 0 0) (.slice none 0 0) (.slice none 0 0))
  have R4 := Lib.hid ((far6 (X := w7) (b := w1.heap.size) (.int .i64 1) (.string (numT (n + m))) (.slice none 0 0) (.slice none 0 0) (.slice none 0 0) (.slice none 0 0) (show w.heap.size ≠ w1.heap.size by omega)).trans RX.out)
  have T4 := Lib.hid (TU.out ((((((w7.setCell ⟨w1.heap.size, 1, none⟩ (.int .i64 1)).setCell ⟨w1.heap.size, 2, none⟩ (.string (numT (n + m)))).setCell ⟨w1.heap.size, 3, none⟩ (.slice none 0 0)).setCell ⟨w1.heap.size, 4, none⟩ (.slice none 0 0)).setCell ⟨w1.heap.size, 5, none⟩ (.slice none 0 0)).setCell ⟨w1.heap.size, 6, none⟩ (.slice none 0 0)) B4.out)
  have hjw := lt_blk HJ.out
  go_wp2_with (first | (go_at_call 77; (with_reducible refine (T4.out).mono ?_); rintro e w8 ⟨rfl, ⟨A', n', c', hJ5, hE5⟩, hK5⟩; have HJ5 := Lib.hid hJ5; have HE5 := Lib.hid hE5; have HK5 := Lib.hid hK5; have R5 := Lib.hid ((hK5.block w.heap.size (lt_blk R4.out) (by omega)).trans R4.out); clear hJ5 hE5 hK5; obtain ⟨⟨c0, c1, c2, c3⟩, ⟨f0, f1, f2, f3⟩⟩ := cells4 R5.out))
  exact bodyPost_ret (v := .agg #[.int .i64 3, .int .i64 (n + m), .string ⟨#[]⟩, .slice none 0 0]) (by simp [results, Tryz.results35, go_sem, c0, c1, c2, c3]) rfl (eff_end hjw (Nat.le_refl _) (lt_blk R4.out) B4.out HJ5.out HE5.out HK5.out _ _ _ _)
set_option maxRecDepth 100000 in
set_option maxHeartbeats 8000000 in
theorem incr_same_raw {W0 : World} (hT : Tab W0) (bS bM : Nat) (l : MapT.Ents) (now : Int) (c k s t : ByteArray) (n m u : Int) (ht : t.size ≤ 100000) (hs : s.size ≤ 100000) (hn : I64 n) (hm : I64 m) (hp : parseI t.data.toList = some n) (hq : parseI s.data.toList = some m) (hr : rng (n + m) = true) (hne : t = (numT (n + m))) (hf : MapT.find k l = some (.agg #[.string k, .int .i64 1, .string t, .slice none 0 0, .slice none 0 0, .slice none 0 0, .slice none 0 0, .int .i64 u])) (hv : Lives u now) (w : World) (j : Nat) (vA : Value) (hI : Below W0.heap.size W0 w) (hS : SP w bS bM l) (hj : JB w j bS now vA (.slice none 0 0)) (hA : SSl w vA [c, k, s]) : Calls Tryz.prog 35 #[.pointer (some ⟨j, 0, none⟩), .func (.func 36) #[] #[], .bool true] w fun e w' => ∃ A m' c', e = .returned (.agg #[.int .i64 3, .int .i64 (n + m), .string ⟨#[]⟩, .slice A m' c']) ∧ R0 w.heap.size w' (.slice A m' c') ∧ (∃ A' n' c', JB w' j bS now vA (.slice A' n' c') ∧ EF w' w.heap.size (.slice A' n' c') []) ∧ Kp w.heap.size (fun i => i ≠ j) w w' := by
  have A1 := Lib.hid (alloc_old (w := w) (o := .cells #[.int .i64 0, .int .i64 0, .string ⟨#[]⟩, .slice none 0 0] 37))
  have hr0 := Lib.hid (heap_alloc_new w (.cells #[.int .i64 0, .int .i64 0, .string ⟨#[]⟩, .slice none 0 0] 37))
  obtain ⟨aA, cap, hv, p1, p2, p3⟩ := hA
  replace hv : vA = .slice aA 3 cap := hv
  subst hv
  replace p1 : 3 ≤ cap := p1
  obtain ⟨blk, off, rfl, hblt, hc⟩ := p3 (by simp)
  have ca1 := Lib.hid (show ∀ Y, Below w.heap.size w Y → Y.cell? ⟨blk, off + 1, none⟩ = some (.string k) from fun Y hb => (hb.cell (p := ⟨blk, off + 1, none⟩) hblt).trans (hc 1 _ rfl))
  have ca2 := Lib.hid (show ∀ Y, Below w.heap.size w Y → Y.cell? ⟨blk, off + 2, none⟩ = some (.string s) from fun Y hb => (hb.cell (p := ⟨blk, off + 2, none⟩) hblt).trans (hc 2 _ rfl))
  have cj := Lib.hid (show ∀ Y, Below w.heap.size w Y → Y.cell? ⟨j, 2, none⟩ = some (.slice (some ⟨blk, off, none⟩) 3 cap) ∧ Y.cell? ⟨j, 1, none⟩ = some (.int .i64 now) from fun Y hb => ⟨(hj.below hb).cells.2.2.1, (hj.below hb).cells.2.1⟩)
  have nj := Lib.hid (ne_job_str hj (hc 1 _ rfl))
  have HJ := Lib.hid hj
  have hA0 : SSl w (.slice (some ⟨blk, off, none⟩) 3 cap) [c, k, s] := ⟨_, _, rfl, p1, p2, fun _ => ⟨blk, off, rfl, hblt, hc⟩⟩
  have i1 : (1 : Int) < 3 := by decide
  have G := Lib.hid (Of_yes bS bM j l k now _ _ 1 t u hf hv _ (hS.below A1.out) (hj.below A1.out))
  have JI := Lib.hid (fun X (hX : Below w.heap.size w X) => show Calls Tryz.prog 71 #[.pointer (some ⟨j, 0, none⟩), .int .i64 2] X (fun e w' => e = .returned (.int .i64 m) ∧ Below X.heap.size X w') from JInt_ok j bS now _ _ [c, k, s] 2 s m hs hq rfl X (hj.below hX) (hA0.below hX))
  have PA := Lib.hid (fun X (_ : Below w.heap.size w X) => Parse_yes t n ht hp X)
  have AD := Lib.hid (fun X (_ : Below w.heap.size w X) => Add_yes n m hn hm hr X)
  have hr2 : I64 (n + m) := rng_of hr
  have PR := Lib.hid (fun X (hX : Below w.heap.size w X) => Print79 hT (n + m) hr2 X (hI.trans (hX.mono (Below.size hI))))
  have TX := Lib.hid (fun X (_ : Below w.heap.size w X) => text73 (numT (n + m)) X)
  have hf2 : MapT.find k l = some (.agg #[.string k, .int .i64 1, .string (numT (n + m)), .slice none 0 0, .slice none 0 0, .slice none 0 0, .slice none 0 0, .int .i64 u]) := by rw [← hne]; exact hf
  have TU := Lib.hid (fun X (hX : Below w.heap.size w X) => Turn_same j bS bM l now (.slice (some ⟨blk, off, none⟩) 3 cap) none 0 0 X (hS.below hX) (hj.below hX) k (numT (n + m)) u hf2 hv)
  have hneX := Lib.hid hne
  have hI2 := Lib.hid hI
  clear hS hj hc p3 hf hA0 hp hq hr hne hf2 hT hI
  have y2 := (cj.out _ A1.out).1
  have z1 := ca1.out _ A1.out
  go_enter Tryz.func35, Tryz.ntmps35
  go_wp2_with (first | (go_at_call 65; (with_reducible refine (G.out).mono ?_); rintro e w1 ⟨rfl, h1⟩; have B1 := Lib.hid (A1.out.trans (h1.mono (Below.size A1.out))); have R1 := Lib.hid (blk_below hr0.out h1); clear h1; refine Hid.out ?_))
  refine Lib.hid ?_
  clear y2 z1
  have BX := Lib.hid (show Below w.heap.size w (w1.alloc (.cells #[.string k, .int .i64 1, .string t, .slice none 0 0, .slice none 0 0, .slice none 0 0, .slice none 0 0, .int .i64 u] 33)) from B1.out.trans (alloc_old.mono (Below.size B1.out)))
  have oX := Lib.hid (heap_alloc_new w1 (.cells #[.string k, .int .i64 1, .string t, .slice none 0 0, .slice none 0 0, .slice none 0 0, .slice none 0 0, .int .i64 u] 33))
  have RX := Lib.hid (blk_below R1.out (alloc_old (o := .cells #[.string k, .int .i64 1, .string t, .slice none 0 0, .slice none 0 0, .slice none 0 0, .slice none 0 0, .int .i64 u] 33)))
  have hs1 := Below.size B1.out
  have hs2 := lt_blk R1.out
  have y2 := (cj.out _ BX.out).1
  obtain ⟨⟨g0, g1, g2, g3, g4, g5, g6, g7⟩, ⟨k0, k1, k2, k3, k4, k5, k6, k7⟩, gz⟩ := cells8 oX.out
  go_wp2_with (first | (go_at_call 71; (with_reducible refine (JI.out _ BX.out).mono ?_); rintro e w3 ⟨rfl, hh⟩; have oX := Lib.hid (blk_below oX.out hh); have RX := Lib.hid (blk_below RX.out hh); have BX := Lib.hid (BX.out.trans (hh.mono (Below.size BX.out))); clear hh; obtain ⟨⟨g0, g1, g2, g3, g4, g5, g6, g7⟩, ⟨k0, k1, k2, k3, k4, k5, k6, k7⟩, gz⟩ := cells8 oX.out; have y2 := (cj.out _ BX.out).1) | (go_at_call 78; (with_reducible refine (PA.out _ BX.out).mono ?_); rintro e w4 ⟨rfl, hh⟩; have oX := Lib.hid (blk_below oX.out hh); have RX := Lib.hid (blk_below RX.out hh); have BX := Lib.hid (BX.out.trans (hh.mono (Below.size BX.out))); clear hh; obtain ⟨⟨g0, g1, g2, g3, g4, g5, g6, g7⟩, ⟨k0, k1, k2, k3, k4, k5, k6, k7⟩, gz⟩ := cells8 oX.out; have y2 := (cj.out _ BX.out).1) | (go_at_call 36; (with_reducible refine (AD.out _ BX.out).mono ?_); rintro e w5 ⟨rfl, hh⟩; have oX := Lib.hid (blk_below oX.out hh); have RX := Lib.hid (blk_below RX.out hh); have BX := Lib.hid (BX.out.trans (hh.mono (Below.size BX.out))); clear hh; obtain ⟨⟨g0, g1, g2, g3, g4, g5, g6, g7⟩, ⟨k0, k1, k2, k3, k4, k5, k6, k7⟩, gz⟩ := cells8 oX.out; have y2 := (cj.out _ BX.out).1) | (go_at_call 79; (with_reducible refine (PR.out _ BX.out).mono ?_); rintro e w6 ⟨rfl, hh⟩; have oX := Lib.hid (blk_below oX.out hh); have RX := Lib.hid (blk_below RX.out hh); have BX := Lib.hid (BX.out.trans (hh.mono (Below.size BX.out))); clear hh; obtain ⟨⟨g0, g1, g2, g3, g4, g5, g6, g7⟩, ⟨k0, k1, k2, k3, k4, k5, k6, k7⟩, gz⟩ := cells8 oX.out; have y2 := (cj.out _ BX.out).1) | (go_at_call 73; (with_reducible refine (TX.out _ BX.out).mono ?_); rintro e w7 ⟨rfl, hh⟩; have oX := Lib.hid (blk_below oX.out hh); have RX := Lib.hid (blk_below RX.out hh); have BX := Lib.hid (BX.out.trans (hh.mono (Below.size BX.out))); clear hh; obtain ⟨⟨g0, g1, g2, g3, g4, g5, g6, g7⟩, ⟨k0, k1, k2, k3, k4, k5, k6, k7⟩, gz⟩ := cells8 oX.out; have y2 := (cj.out _ BX.out).1; refine Hid.out ?_))
  refine Lib.hid ?_
  have B4 := Lib.hid (bel6 BX.out (show w.heap.size ≤ w1.heap.size by omega) (.int .i64 1) (.string (numT (n + m))) (.slice none 0 0) (.slice none 0 0) (.slice none 0 0) (.slice none 0 0))
  have o4 := Lib.hid (set6of8 oX.out (.int .i64 1) (.string (numT (n + m))) (.slice none 0 0) (.slice none 0 0) (.slice none 0 0) (.slice none 0 0))
  have R4 := Lib.hid ((far6 (X := w7) (b := w1.heap.size) (.int .i64 1) (.string (numT (n + m))) (.slice none 0 0) (.slice none 0 0) (.slice none 0 0) (.slice none 0 0) (show w.heap.size ≠ w1.heap.size by omega)).trans RX.out)
  have T4 := Lib.hid (TU.out ((((((w7.setCell ⟨w1.heap.size, 1, none⟩ (.int .i64 1)).setCell ⟨w1.heap.size, 2, none⟩ (.string (numT (n + m)))).setCell ⟨w1.heap.size, 3, none⟩ (.slice none 0 0)).setCell ⟨w1.heap.size, 4, none⟩ (.slice none 0 0)).setCell ⟨w1.heap.size, 5, none⟩ (.slice none 0 0)).setCell ⟨w1.heap.size, 6, none⟩ (.slice none 0 0)) B4.out)
  have hjw := lt_blk HJ.out
  go_wp2_with (first | (go_at_call 77; (with_reducible refine (T4.out).mono ?_); rintro e w8 ⟨rfl, h5⟩; have B5 := Lib.hid (B4.out.trans (h5.mono (Below.size B4.out))); have R5 := Lib.hid (blk_below R4.out h5); clear h5; obtain ⟨⟨c0, c1, c2, c3⟩, ⟨f0, f1, f2, f3⟩⟩ := cells4 R5.out))
  exact bodyPost_ret (v := .agg #[.int .i64 3, .int .i64 (n + m), .string ⟨#[]⟩, .slice none 0 0]) (by simp [results, Tryz.results35, go_sem, c0, c1, c2, c3]) rfl (read_end HJ.out ((((B5.out.setCell (Nat.le_refl _) _).setCell (Nat.le_refl _) _).setCell (Nat.le_refl _) _).setCell (Nat.le_refl _) _))
set_option maxRecDepth 100000 in
set_option maxHeartbeats 8000000 in
theorem incr_fail_raw (bS bM : Nat) (l : MapT.Ents) (now : Int) (c k s t : ByteArray) (n m u : Int) (ht : t.size ≤ 100000) (hs : s.size ≤ 100000) (hn : I64 n) (hm : I64 m) (hp : parseI t.data.toList = some n) (hq : parseI s.data.toList = some m) (hr : rng (n + m) = false) (hf : MapT.find k l = some (.agg #[.string k, .int .i64 1, .string t, .slice none 0 0, .slice none 0 0, .slice none 0 0, .slice none 0 0, .int .i64 u])) (hv : Lives u now) (w : World) (j : Nat) (vA : Value) (hS : SP w bS bM l) (hj : JB w j bS now vA (.slice none 0 0)) (hA : SSl w vA [c, k, s]) : Calls Tryz.prog 35 #[.pointer (some ⟨j, 0, none⟩), .func (.func 36) #[] #[], .bool true] w fun e w' => e = .panicked [{ v := failV 4, recovered := false }] ∧ Kp w.heap.size (fun i => i ≠ j) w w' := by
  have A1 := Lib.hid (alloc_old (w := w) (o := .cells #[.int .i64 0, .int .i64 0, .string ⟨#[]⟩, .slice none 0 0] 37))
  have hr0 := Lib.hid (heap_alloc_new w (.cells #[.int .i64 0, .int .i64 0, .string ⟨#[]⟩, .slice none 0 0] 37))
  obtain ⟨aA, cap, hv, p1, p2, p3⟩ := hA
  replace hv : vA = .slice aA 3 cap := hv
  subst hv
  replace p1 : 3 ≤ cap := p1
  obtain ⟨blk, off, rfl, hblt, hc⟩ := p3 (by simp)
  have ca1 := Lib.hid (show ∀ Y, Below w.heap.size w Y → Y.cell? ⟨blk, off + 1, none⟩ = some (.string k) from fun Y hb => (hb.cell (p := ⟨blk, off + 1, none⟩) hblt).trans (hc 1 _ rfl))
  have ca2 := Lib.hid (show ∀ Y, Below w.heap.size w Y → Y.cell? ⟨blk, off + 2, none⟩ = some (.string s) from fun Y hb => (hb.cell (p := ⟨blk, off + 2, none⟩) hblt).trans (hc 2 _ rfl))
  have cj := Lib.hid (show ∀ Y, Below w.heap.size w Y → Y.cell? ⟨j, 2, none⟩ = some (.slice (some ⟨blk, off, none⟩) 3 cap) ∧ Y.cell? ⟨j, 1, none⟩ = some (.int .i64 now) from fun Y hb => ⟨(hj.below hb).cells.2.2.1, (hj.below hb).cells.2.1⟩)
  have nj := Lib.hid (ne_job_str hj (hc 1 _ rfl))
  have HJ := Lib.hid hj
  have hA0 : SSl w (.slice (some ⟨blk, off, none⟩) 3 cap) [c, k, s] := ⟨_, _, rfl, p1, p2, fun _ => ⟨blk, off, rfl, hblt, hc⟩⟩
  have i1 : (1 : Int) < 3 := by decide
  have G := Lib.hid (Of_yes bS bM j l k now _ _ 1 t u hf hv _ (hS.below A1.out) (hj.below A1.out))
  have JI := Lib.hid (fun X (hX : Below w.heap.size w X) => show Calls Tryz.prog 71 #[.pointer (some ⟨j, 0, none⟩), .int .i64 2] X (fun e w' => e = .returned (.int .i64 m) ∧ Below X.heap.size X w') from JInt_ok j bS now _ _ [c, k, s] 2 s m hs hq rfl X (hj.below hX) (hA0.below hX))
  have PA := Lib.hid (fun X (_ : Below w.heap.size w X) => Parse_yes t n ht hp X)
  have AD := Lib.hid (fun X (_ : Below w.heap.size w X) => Add_no n m hn hm hr X)
  have FA := Lib.hid (fun X (_ : Below w.heap.size w X) => Fail69 4 X)
  clear hS hj hc p3 hf hA0 hp hq hr
  have y2 := (cj.out _ A1.out).1
  have z1 := ca1.out _ A1.out
  go_enter Tryz.func35, Tryz.ntmps35
  go_wp2_with (first | (go_at_call 65; (with_reducible refine (G.out).mono ?_); rintro e w1 ⟨rfl, h1⟩; have B1 := Lib.hid (A1.out.trans (h1.mono (Below.size A1.out))); have R1 := Lib.hid (blk_below hr0.out h1); clear h1; refine Hid.out ?_))
  refine Lib.hid ?_
  clear y2 z1
  have BX := Lib.hid (show Below w.heap.size w (w1.alloc (.cells #[.string k, .int .i64 1, .string t, .slice none 0 0, .slice none 0 0, .slice none 0 0, .slice none 0 0, .int .i64 u] 33)) from B1.out.trans (alloc_old.mono (Below.size B1.out)))
  have oX := Lib.hid (heap_alloc_new w1 (.cells #[.string k, .int .i64 1, .string t, .slice none 0 0, .slice none 0 0, .slice none 0 0, .slice none 0 0, .int .i64 u] 33))
  have RX := Lib.hid (blk_below R1.out (alloc_old (o := .cells #[.string k, .int .i64 1, .string t, .slice none 0 0, .slice none 0 0, .slice none 0 0, .slice none 0 0, .int .i64 u] 33)))
  have hs1 := Below.size B1.out
  have hs2 := lt_blk R1.out
  have y2 := (cj.out _ BX.out).1
  obtain ⟨⟨g0, g1, g2, g3, g4, g5, g6, g7⟩, ⟨k0, k1, k2, k3, k4, k5, k6, k7⟩, gz⟩ := cells8 oX.out
  go_wp2_with (first | (go_at_call 71; (with_reducible refine (JI.out _ BX.out).mono ?_); rintro e w3 ⟨rfl, hh⟩; have oX := Lib.hid (blk_below oX.out hh); have RX := Lib.hid (blk_below RX.out hh); have BX := Lib.hid (BX.out.trans (hh.mono (Below.size BX.out))); clear hh; obtain ⟨⟨g0, g1, g2, g3, g4, g5, g6, g7⟩, ⟨k0, k1, k2, k3, k4, k5, k6, k7⟩, gz⟩ := cells8 oX.out; have y2 := (cj.out _ BX.out).1) | (go_at_call 78; (with_reducible refine (PA.out _ BX.out).mono ?_); rintro e w4 ⟨rfl, hh⟩; have oX := Lib.hid (blk_below oX.out hh); have RX := Lib.hid (blk_below RX.out hh); have BX := Lib.hid (BX.out.trans (hh.mono (Below.size BX.out))); clear hh; obtain ⟨⟨g0, g1, g2, g3, g4, g5, g6, g7⟩, ⟨k0, k1, k2, k3, k4, k5, k6, k7⟩, gz⟩ := cells8 oX.out; have y2 := (cj.out _ BX.out).1) | (go_at_call 36; (with_reducible refine (AD.out _ BX.out).mono ?_); rintro e w5 ⟨rfl, hh⟩; have oX := Lib.hid (blk_below oX.out hh); have RX := Lib.hid (blk_below RX.out hh); have BX := Lib.hid (BX.out.trans (hh.mono (Below.size BX.out))); clear hh; obtain ⟨⟨g0, g1, g2, g3, g4, g5, g6, g7⟩, ⟨k0, k1, k2, k3, k4, k5, k6, k7⟩, gz⟩ := cells8 oX.out; have y2 := (cj.out _ BX.out).1) | (go_at_call 69; (with_reducible refine (FA.out _ BX.out).mono ?_); rintro e w6 ⟨rfl, hh⟩; have BX := Lib.hid (BX.out.trans (hh.mono (Below.size BX.out))); clear hh))
  exact ⟨rfl, rfl, .of BX.out⟩
set_option maxRecDepth 100000 in
set_option maxHeartbeats 8000000 in
theorem decr_diff_raw {W0 : World} (hT : Tab W0) (bS bM : Nat) (l : MapT.Ents) (now : Int) (c k s t : ByteArray) (n m u : Int) (ht : t.size ≤ 100000) (hs : s.size ≤ 100000) (hn : I64 n) (hm : I64 m) (hp : parseI t.data.toList = some n) (hq : parseI s.data.toList = some m) (hr : rng (n - m) = true) (hne : t ≠ (numT (n - m))) (hk1 : 1 ≤ k.size) (hk : k.size ≤ 512) (hu0 : 0 ≤ u) (hu1 : u ≤ 1125899906842624) (hf : MapT.find k l = some (.agg #[.string k, .int .i64 1, .string t, .slice none 0 0, .slice none 0 0, .slice none 0 0, .slice none 0 0, .int .i64 u])) (hv : Lives u now) (w : World) (j : Nat) (vA : Value) (hI : Below W0.heap.size W0 w) (hS : SP w bS bM l) (hj : JB w j bS now vA (.slice none 0 0)) (hA : SSl w vA [c, k, s]) : Calls Tryz.prog 35 #[.pointer (some ⟨j, 0, none⟩), .func (.func 38) #[] #[], .bool true] w fun e w' => ∃ A m' c', e = .returned (.agg #[.int .i64 3, .int .i64 (n - m), .string ⟨#[]⟩, .slice A m' c']) ∧ R0 w.heap.size w' (.slice A m' c') ∧ (∃ A' n' c', JB w' j bS now vA (.slice A' n' c') ∧ EF w' w.heap.size (.slice A' n' c') [⟨k, 1, (numT (n - m)), u⟩]) ∧ Kp w.heap.size (fun i => i ≠ j) w w' := by
  have A1 := Lib.hid (alloc_old (w := w) (o := .cells #[.int .i64 0, .int .i64 0, .string ⟨#[]⟩, .slice none 0 0] 37))
  have hr0 := Lib.hid (heap_alloc_new w (.cells #[.int .i64 0, .int .i64 0, .string ⟨#[]⟩, .slice none 0 0] 37))
  obtain ⟨aA, cap, hv, p1, p2, p3⟩ := hA
  replace hv : vA = .slice aA 3 cap := hv
  subst hv
  replace p1 : 3 ≤ cap := p1
  obtain ⟨blk, off, rfl, hblt, hc⟩ := p3 (by simp)
  have ca1 := Lib.hid (show ∀ Y, Below w.heap.size w Y → Y.cell? ⟨blk, off + 1, none⟩ = some (.string k) from fun Y hb => (hb.cell (p := ⟨blk, off + 1, none⟩) hblt).trans (hc 1 _ rfl))
  have ca2 := Lib.hid (show ∀ Y, Below w.heap.size w Y → Y.cell? ⟨blk, off + 2, none⟩ = some (.string s) from fun Y hb => (hb.cell (p := ⟨blk, off + 2, none⟩) hblt).trans (hc 2 _ rfl))
  have cj := Lib.hid (show ∀ Y, Below w.heap.size w Y → Y.cell? ⟨j, 2, none⟩ = some (.slice (some ⟨blk, off, none⟩) 3 cap) ∧ Y.cell? ⟨j, 1, none⟩ = some (.int .i64 now) from fun Y hb => ⟨(hj.below hb).cells.2.2.1, (hj.below hb).cells.2.1⟩)
  have nj := Lib.hid (ne_job_str hj (hc 1 _ rfl))
  have HJ := Lib.hid hj
  have hA0 : SSl w (.slice (some ⟨blk, off, none⟩) 3 cap) [c, k, s] := ⟨_, _, rfl, p1, p2, fun _ => ⟨blk, off, rfl, hblt, hc⟩⟩
  have i1 : (1 : Int) < 3 := by decide
  have G := Lib.hid (Of_yes bS bM j l k now _ _ 1 t u hf hv _ (hS.below A1.out) (hj.below A1.out))
  have JI := Lib.hid (fun X (hX : Below w.heap.size w X) => show Calls Tryz.prog 71 #[.pointer (some ⟨j, 0, none⟩), .int .i64 2] X (fun e w' => e = .returned (.int .i64 m) ∧ Below X.heap.size X w') from JInt_ok j bS now _ _ [c, k, s] 2 s m hs hq rfl X (hj.below hX) (hA0.below hX))
  have PA := Lib.hid (fun X (_ : Below w.heap.size w X) => Parse_yes t n ht hp X)
  have AD := Lib.hid (fun X (_ : Below w.heap.size w X) => Sub_yes n m hn hm hr X)
  have hr2 : I64 (n - m) := rng_of hr
  have PR := Lib.hid (fun X (hX : Below w.heap.size w X) => Print79 hT (n - m) hr2 X (hI.trans (hX.mono (Below.size hI))))
  have TX := Lib.hid (fun X (_ : Below w.heap.size w X) => text73 (numT (n - m)) X)
  have hsz := numT_size (n - m) hr2
  have TU := Lib.hid (fun X (hX : Below w.heap.size w X) => Turn_diff j bS bM l now (.slice (some ⟨blk, off, none⟩) 3 cap) none 0 0 [] X.heap.size X (hS.below hX) (hj.below hX) (EF.nil _ _) (Nat.le_refl _) (by simp) k (numT (n - m)) hk1 hk (by omega) u hu0 hu1 t hne hf hv)
  have hI2 := Lib.hid hI
  clear hS hj hc p3 hf hA0 hp hq hr hne hsz hT hI
  have y2 := (cj.out _ A1.out).1
  have z1 := ca1.out _ A1.out
  go_enter Tryz.func35, Tryz.ntmps35
  go_wp2_with (first | (go_at_call 65; (with_reducible refine (G.out).mono ?_); rintro e w1 ⟨rfl, h1⟩; have B1 := Lib.hid (A1.out.trans (h1.mono (Below.size A1.out))); have R1 := Lib.hid (blk_below hr0.out h1); clear h1; refine Hid.out ?_))
  refine Lib.hid ?_
  clear y2 z1
  have BX := Lib.hid (show Below w.heap.size w (w1.alloc (.cells #[.string k, .int .i64 1, .string t, .slice none 0 0, .slice none 0 0, .slice none 0 0, .slice none 0 0, .int .i64 u] 33)) from B1.out.trans (alloc_old.mono (Below.size B1.out)))
  have oX := Lib.hid (heap_alloc_new w1 (.cells #[.string k, .int .i64 1, .string t, .slice none 0 0, .slice none 0 0, .slice none 0 0, .slice none 0 0, .int .i64 u] 33))
  have RX := Lib.hid (blk_below R1.out (alloc_old (o := .cells #[.string k, .int .i64 1, .string t, .slice none 0 0, .slice none 0 0, .slice none 0 0, .slice none 0 0, .int .i64 u] 33)))
  have hs1 := Below.size B1.out
  have hs2 := lt_blk R1.out
  have y2 := (cj.out _ BX.out).1
  obtain ⟨⟨g0, g1, g2, g3, g4, g5, g6, g7⟩, ⟨k0, k1, k2, k3, k4, k5, k6, k7⟩, gz⟩ := cells8 oX.out
  go_wp2_with (first | (go_at_call 71; (with_reducible refine (JI.out _ BX.out).mono ?_); rintro e w3 ⟨rfl, hh⟩; have oX := Lib.hid (blk_below oX.out hh); have RX := Lib.hid (blk_below RX.out hh); have BX := Lib.hid (BX.out.trans (hh.mono (Below.size BX.out))); clear hh; obtain ⟨⟨g0, g1, g2, g3, g4, g5, g6, g7⟩, ⟨k0, k1, k2, k3, k4, k5, k6, k7⟩, gz⟩ := cells8 oX.out; have y2 := (cj.out _ BX.out).1) | (go_at_call 78; (with_reducible refine (PA.out _ BX.out).mono ?_); rintro e w4 ⟨rfl, hh⟩; have oX := Lib.hid (blk_below oX.out hh); have RX := Lib.hid (blk_below RX.out hh); have BX := Lib.hid (BX.out.trans (hh.mono (Below.size BX.out))); clear hh; obtain ⟨⟨g0, g1, g2, g3, g4, g5, g6, g7⟩, ⟨k0, k1, k2, k3, k4, k5, k6, k7⟩, gz⟩ := cells8 oX.out; have y2 := (cj.out _ BX.out).1) | (go_at_call 38; (with_reducible refine (AD.out _ BX.out).mono ?_); rintro e w5 ⟨rfl, hh⟩; have oX := Lib.hid (blk_below oX.out hh); have RX := Lib.hid (blk_below RX.out hh); have BX := Lib.hid (BX.out.trans (hh.mono (Below.size BX.out))); clear hh; obtain ⟨⟨g0, g1, g2, g3, g4, g5, g6, g7⟩, ⟨k0, k1, k2, k3, k4, k5, k6, k7⟩, gz⟩ := cells8 oX.out; have y2 := (cj.out _ BX.out).1) | (go_at_call 79; (with_reducible refine (PR.out _ BX.out).mono ?_); rintro e w6 ⟨rfl, hh⟩; have oX := Lib.hid (blk_below oX.out hh); have RX := Lib.hid (blk_below RX.out hh); have BX := Lib.hid (BX.out.trans (hh.mono (Below.size BX.out))); clear hh; obtain ⟨⟨g0, g1, g2, g3, g4, g5, g6, g7⟩, ⟨k0, k1, k2, k3, k4, k5, k6, k7⟩, gz⟩ := cells8 oX.out; have y2 := (cj.out _ BX.out).1) | (go_at_call 73; (with_reducible refine (TX.out _ BX.out).mono ?_); rintro e w7 ⟨rfl, hh⟩; have oX := Lib.hid (blk_below oX.out hh); have RX := Lib.hid (blk_below RX.out hh); have BX := Lib.hid (BX.out.trans (hh.mono (Below.size BX.out))); clear hh; obtain ⟨⟨g0, g1, g2, g3, g4, g5, g6, g7⟩, ⟨k0, k1, k2, k3, k4, k5, k6, k7⟩, gz⟩ := cells8 oX.out; have y2 := (cj.out _ BX.out).1; refine Hid.out ?_))
  refine Lib.hid ?_
  have B4 := Lib.hid (bel6 BX.out (show w.heap.size ≤ w1.heap.size by omega) (.int .i64 1) (.string (numT (n - m))) (.slice none 0 0) (.slice none 0 0) (.slice none 0 0) (.slice none 0 0))
  have o4 := Lib.hid (set6of8 oX.out (.int .i64 1) (.string (numT (n - m))) (.slice none 0 0) (.slice none 0 0) (.slice none 0 0) (.slice none 0 0))
  have R4 := Lib.hid ((far6 (X := w7) (b := w1.heap.size) (.int .i64 1) (.string (numT (n - m))) (.slice none 0 0) (.slice none 0 0) (.slice none 0 0) (.slice none 0 0) (show w.heap.size ≠ w1.heap.size by omega)).trans RX.out)
  have T4 := Lib.hid (TU.out ((((((w7.setCell ⟨w1.heap.size, 1, none⟩ (.int .i64 1)).setCell ⟨w1.heap.size, 2, none⟩ (.string (numT (n - m)))).setCell ⟨w1.heap.size, 3, none⟩ (.slice none 0 0)).setCell ⟨w1.heap.size, 4, none⟩ (.slice none 0 0)).setCell ⟨w1.heap.size, 5, none⟩ (.slice none 0 0)).setCell ⟨w1.heap.size, 6, none⟩ (.slice none 0 0)) B4.out)
  have hjw := lt_blk HJ.out
  go_wp2_with (first | (go_at_call 77; (with_reducible refine (T4.out).mono ?_); rintro e w8 ⟨rfl, ⟨A', n', c', hJ5, hE5⟩, hK5⟩; have HJ5 := Lib.hid hJ5; have HE5 := Lib.hid hE5; have HK5 := Lib.hid hK5; have R5 := Lib.hid ((hK5.block w.heap.size (lt_blk R4.out) (by omega)).trans R4.out); clear hJ5 hE5 hK5; obtain ⟨⟨c0, c1, c2, c3⟩, ⟨f0, f1, f2, f3⟩⟩ := cells4 R5.out))
  exact bodyPost_ret (v := .agg #[.int .i64 3, .int .i64 (n - m), .string ⟨#[]⟩, .slice none 0 0]) (by simp [results, Tryz.results35, go_sem, c0, c1, c2, c3]) rfl (eff_end hjw (Nat.le_refl _) (lt_blk R4.out) B4.out HJ5.out HE5.out HK5.out _ _ _ _)
set_option maxRecDepth 100000 in
set_option maxHeartbeats 8000000 in
theorem decr_same_raw {W0 : World} (hT : Tab W0) (bS bM : Nat) (l : MapT.Ents) (now : Int) (c k s t : ByteArray) (n m u : Int) (ht : t.size ≤ 100000) (hs : s.size ≤ 100000) (hn : I64 n) (hm : I64 m) (hp : parseI t.data.toList = some n) (hq : parseI s.data.toList = some m) (hr : rng (n - m) = true) (hne : t = (numT (n - m))) (hf : MapT.find k l = some (.agg #[.string k, .int .i64 1, .string t, .slice none 0 0, .slice none 0 0, .slice none 0 0, .slice none 0 0, .int .i64 u])) (hv : Lives u now) (w : World) (j : Nat) (vA : Value) (hI : Below W0.heap.size W0 w) (hS : SP w bS bM l) (hj : JB w j bS now vA (.slice none 0 0)) (hA : SSl w vA [c, k, s]) : Calls Tryz.prog 35 #[.pointer (some ⟨j, 0, none⟩), .func (.func 38) #[] #[], .bool true] w fun e w' => ∃ A m' c', e = .returned (.agg #[.int .i64 3, .int .i64 (n - m), .string ⟨#[]⟩, .slice A m' c']) ∧ R0 w.heap.size w' (.slice A m' c') ∧ (∃ A' n' c', JB w' j bS now vA (.slice A' n' c') ∧ EF w' w.heap.size (.slice A' n' c') []) ∧ Kp w.heap.size (fun i => i ≠ j) w w' := by
  have A1 := Lib.hid (alloc_old (w := w) (o := .cells #[.int .i64 0, .int .i64 0, .string ⟨#[]⟩, .slice none 0 0] 37))
  have hr0 := Lib.hid (heap_alloc_new w (.cells #[.int .i64 0, .int .i64 0, .string ⟨#[]⟩, .slice none 0 0] 37))
  obtain ⟨aA, cap, hv, p1, p2, p3⟩ := hA
  replace hv : vA = .slice aA 3 cap := hv
  subst hv
  replace p1 : 3 ≤ cap := p1
  obtain ⟨blk, off, rfl, hblt, hc⟩ := p3 (by simp)
  have ca1 := Lib.hid (show ∀ Y, Below w.heap.size w Y → Y.cell? ⟨blk, off + 1, none⟩ = some (.string k) from fun Y hb => (hb.cell (p := ⟨blk, off + 1, none⟩) hblt).trans (hc 1 _ rfl))
  have ca2 := Lib.hid (show ∀ Y, Below w.heap.size w Y → Y.cell? ⟨blk, off + 2, none⟩ = some (.string s) from fun Y hb => (hb.cell (p := ⟨blk, off + 2, none⟩) hblt).trans (hc 2 _ rfl))
  have cj := Lib.hid (show ∀ Y, Below w.heap.size w Y → Y.cell? ⟨j, 2, none⟩ = some (.slice (some ⟨blk, off, none⟩) 3 cap) ∧ Y.cell? ⟨j, 1, none⟩ = some (.int .i64 now) from fun Y hb => ⟨(hj.below hb).cells.2.2.1, (hj.below hb).cells.2.1⟩)
  have nj := Lib.hid (ne_job_str hj (hc 1 _ rfl))
  have HJ := Lib.hid hj
  have hA0 : SSl w (.slice (some ⟨blk, off, none⟩) 3 cap) [c, k, s] := ⟨_, _, rfl, p1, p2, fun _ => ⟨blk, off, rfl, hblt, hc⟩⟩
  have i1 : (1 : Int) < 3 := by decide
  have G := Lib.hid (Of_yes bS bM j l k now _ _ 1 t u hf hv _ (hS.below A1.out) (hj.below A1.out))
  have JI := Lib.hid (fun X (hX : Below w.heap.size w X) => show Calls Tryz.prog 71 #[.pointer (some ⟨j, 0, none⟩), .int .i64 2] X (fun e w' => e = .returned (.int .i64 m) ∧ Below X.heap.size X w') from JInt_ok j bS now _ _ [c, k, s] 2 s m hs hq rfl X (hj.below hX) (hA0.below hX))
  have PA := Lib.hid (fun X (_ : Below w.heap.size w X) => Parse_yes t n ht hp X)
  have AD := Lib.hid (fun X (_ : Below w.heap.size w X) => Sub_yes n m hn hm hr X)
  have hr2 : I64 (n - m) := rng_of hr
  have PR := Lib.hid (fun X (hX : Below w.heap.size w X) => Print79 hT (n - m) hr2 X (hI.trans (hX.mono (Below.size hI))))
  have TX := Lib.hid (fun X (_ : Below w.heap.size w X) => text73 (numT (n - m)) X)
  have hf2 : MapT.find k l = some (.agg #[.string k, .int .i64 1, .string (numT (n - m)), .slice none 0 0, .slice none 0 0, .slice none 0 0, .slice none 0 0, .int .i64 u]) := by rw [← hne]; exact hf
  have TU := Lib.hid (fun X (hX : Below w.heap.size w X) => Turn_same j bS bM l now (.slice (some ⟨blk, off, none⟩) 3 cap) none 0 0 X (hS.below hX) (hj.below hX) k (numT (n - m)) u hf2 hv)
  have hneX := Lib.hid hne
  have hI2 := Lib.hid hI
  clear hS hj hc p3 hf hA0 hp hq hr hne hf2 hT hI
  have y2 := (cj.out _ A1.out).1
  have z1 := ca1.out _ A1.out
  go_enter Tryz.func35, Tryz.ntmps35
  go_wp2_with (first | (go_at_call 65; (with_reducible refine (G.out).mono ?_); rintro e w1 ⟨rfl, h1⟩; have B1 := Lib.hid (A1.out.trans (h1.mono (Below.size A1.out))); have R1 := Lib.hid (blk_below hr0.out h1); clear h1; refine Hid.out ?_))
  refine Lib.hid ?_
  clear y2 z1
  have BX := Lib.hid (show Below w.heap.size w (w1.alloc (.cells #[.string k, .int .i64 1, .string t, .slice none 0 0, .slice none 0 0, .slice none 0 0, .slice none 0 0, .int .i64 u] 33)) from B1.out.trans (alloc_old.mono (Below.size B1.out)))
  have oX := Lib.hid (heap_alloc_new w1 (.cells #[.string k, .int .i64 1, .string t, .slice none 0 0, .slice none 0 0, .slice none 0 0, .slice none 0 0, .int .i64 u] 33))
  have RX := Lib.hid (blk_below R1.out (alloc_old (o := .cells #[.string k, .int .i64 1, .string t, .slice none 0 0, .slice none 0 0, .slice none 0 0, .slice none 0 0, .int .i64 u] 33)))
  have hs1 := Below.size B1.out
  have hs2 := lt_blk R1.out
  have y2 := (cj.out _ BX.out).1
  obtain ⟨⟨g0, g1, g2, g3, g4, g5, g6, g7⟩, ⟨k0, k1, k2, k3, k4, k5, k6, k7⟩, gz⟩ := cells8 oX.out
  go_wp2_with (first | (go_at_call 71; (with_reducible refine (JI.out _ BX.out).mono ?_); rintro e w3 ⟨rfl, hh⟩; have oX := Lib.hid (blk_below oX.out hh); have RX := Lib.hid (blk_below RX.out hh); have BX := Lib.hid (BX.out.trans (hh.mono (Below.size BX.out))); clear hh; obtain ⟨⟨g0, g1, g2, g3, g4, g5, g6, g7⟩, ⟨k0, k1, k2, k3, k4, k5, k6, k7⟩, gz⟩ := cells8 oX.out; have y2 := (cj.out _ BX.out).1) | (go_at_call 78; (with_reducible refine (PA.out _ BX.out).mono ?_); rintro e w4 ⟨rfl, hh⟩; have oX := Lib.hid (blk_below oX.out hh); have RX := Lib.hid (blk_below RX.out hh); have BX := Lib.hid (BX.out.trans (hh.mono (Below.size BX.out))); clear hh; obtain ⟨⟨g0, g1, g2, g3, g4, g5, g6, g7⟩, ⟨k0, k1, k2, k3, k4, k5, k6, k7⟩, gz⟩ := cells8 oX.out; have y2 := (cj.out _ BX.out).1) | (go_at_call 38; (with_reducible refine (AD.out _ BX.out).mono ?_); rintro e w5 ⟨rfl, hh⟩; have oX := Lib.hid (blk_below oX.out hh); have RX := Lib.hid (blk_below RX.out hh); have BX := Lib.hid (BX.out.trans (hh.mono (Below.size BX.out))); clear hh; obtain ⟨⟨g0, g1, g2, g3, g4, g5, g6, g7⟩, ⟨k0, k1, k2, k3, k4, k5, k6, k7⟩, gz⟩ := cells8 oX.out; have y2 := (cj.out _ BX.out).1) | (go_at_call 79; (with_reducible refine (PR.out _ BX.out).mono ?_); rintro e w6 ⟨rfl, hh⟩; have oX := Lib.hid (blk_below oX.out hh); have RX := Lib.hid (blk_below RX.out hh); have BX := Lib.hid (BX.out.trans (hh.mono (Below.size BX.out))); clear hh; obtain ⟨⟨g0, g1, g2, g3, g4, g5, g6, g7⟩, ⟨k0, k1, k2, k3, k4, k5, k6, k7⟩, gz⟩ := cells8 oX.out; have y2 := (cj.out _ BX.out).1) | (go_at_call 73; (with_reducible refine (TX.out _ BX.out).mono ?_); rintro e w7 ⟨rfl, hh⟩; have oX := Lib.hid (blk_below oX.out hh); have RX := Lib.hid (blk_below RX.out hh); have BX := Lib.hid (BX.out.trans (hh.mono (Below.size BX.out))); clear hh; obtain ⟨⟨g0, g1, g2, g3, g4, g5, g6, g7⟩, ⟨k0, k1, k2, k3, k4, k5, k6, k7⟩, gz⟩ := cells8 oX.out; have y2 := (cj.out _ BX.out).1; refine Hid.out ?_))
  refine Lib.hid ?_
  have B4 := Lib.hid (bel6 BX.out (show w.heap.size ≤ w1.heap.size by omega) (.int .i64 1) (.string (numT (n - m))) (.slice none 0 0) (.slice none 0 0) (.slice none 0 0) (.slice none 0 0))
  have o4 := Lib.hid (set6of8 oX.out (.int .i64 1) (.string (numT (n - m))) (.slice none 0 0) (.slice none 0 0) (.slice none 0 0) (.slice none 0 0))
  have R4 := Lib.hid ((far6 (X := w7) (b := w1.heap.size) (.int .i64 1) (.string (numT (n - m))) (.slice none 0 0) (.slice none 0 0) (.slice none 0 0) (.slice none 0 0) (show w.heap.size ≠ w1.heap.size by omega)).trans RX.out)
  have T4 := Lib.hid (TU.out ((((((w7.setCell ⟨w1.heap.size, 1, none⟩ (.int .i64 1)).setCell ⟨w1.heap.size, 2, none⟩ (.string (numT (n - m)))).setCell ⟨w1.heap.size, 3, none⟩ (.slice none 0 0)).setCell ⟨w1.heap.size, 4, none⟩ (.slice none 0 0)).setCell ⟨w1.heap.size, 5, none⟩ (.slice none 0 0)).setCell ⟨w1.heap.size, 6, none⟩ (.slice none 0 0)) B4.out)
  have hjw := lt_blk HJ.out
  go_wp2_with (first | (go_at_call 77; (with_reducible refine (T4.out).mono ?_); rintro e w8 ⟨rfl, h5⟩; have B5 := Lib.hid (B4.out.trans (h5.mono (Below.size B4.out))); have R5 := Lib.hid (blk_below R4.out h5); clear h5; obtain ⟨⟨c0, c1, c2, c3⟩, ⟨f0, f1, f2, f3⟩⟩ := cells4 R5.out))
  exact bodyPost_ret (v := .agg #[.int .i64 3, .int .i64 (n - m), .string ⟨#[]⟩, .slice none 0 0]) (by simp [results, Tryz.results35, go_sem, c0, c1, c2, c3]) rfl (read_end HJ.out ((((B5.out.setCell (Nat.le_refl _) _).setCell (Nat.le_refl _) _).setCell (Nat.le_refl _) _).setCell (Nat.le_refl _) _))
set_option maxRecDepth 100000 in
set_option maxHeartbeats 8000000 in
theorem decr_fail_raw (bS bM : Nat) (l : MapT.Ents) (now : Int) (c k s t : ByteArray) (n m u : Int) (ht : t.size ≤ 100000) (hs : s.size ≤ 100000) (hn : I64 n) (hm : I64 m) (hp : parseI t.data.toList = some n) (hq : parseI s.data.toList = some m) (hr : rng (n - m) = false) (hf : MapT.find k l = some (.agg #[.string k, .int .i64 1, .string t, .slice none 0 0, .slice none 0 0, .slice none 0 0, .slice none 0 0, .int .i64 u])) (hv : Lives u now) (w : World) (j : Nat) (vA : Value) (hS : SP w bS bM l) (hj : JB w j bS now vA (.slice none 0 0)) (hA : SSl w vA [c, k, s]) : Calls Tryz.prog 35 #[.pointer (some ⟨j, 0, none⟩), .func (.func 38) #[] #[], .bool true] w fun e w' => e = .panicked [{ v := failV 4, recovered := false }] ∧ Kp w.heap.size (fun i => i ≠ j) w w' := by
  have A1 := Lib.hid (alloc_old (w := w) (o := .cells #[.int .i64 0, .int .i64 0, .string ⟨#[]⟩, .slice none 0 0] 37))
  have hr0 := Lib.hid (heap_alloc_new w (.cells #[.int .i64 0, .int .i64 0, .string ⟨#[]⟩, .slice none 0 0] 37))
  obtain ⟨aA, cap, hv, p1, p2, p3⟩ := hA
  replace hv : vA = .slice aA 3 cap := hv
  subst hv
  replace p1 : 3 ≤ cap := p1
  obtain ⟨blk, off, rfl, hblt, hc⟩ := p3 (by simp)
  have ca1 := Lib.hid (show ∀ Y, Below w.heap.size w Y → Y.cell? ⟨blk, off + 1, none⟩ = some (.string k) from fun Y hb => (hb.cell (p := ⟨blk, off + 1, none⟩) hblt).trans (hc 1 _ rfl))
  have ca2 := Lib.hid (show ∀ Y, Below w.heap.size w Y → Y.cell? ⟨blk, off + 2, none⟩ = some (.string s) from fun Y hb => (hb.cell (p := ⟨blk, off + 2, none⟩) hblt).trans (hc 2 _ rfl))
  have cj := Lib.hid (show ∀ Y, Below w.heap.size w Y → Y.cell? ⟨j, 2, none⟩ = some (.slice (some ⟨blk, off, none⟩) 3 cap) ∧ Y.cell? ⟨j, 1, none⟩ = some (.int .i64 now) from fun Y hb => ⟨(hj.below hb).cells.2.2.1, (hj.below hb).cells.2.1⟩)
  have nj := Lib.hid (ne_job_str hj (hc 1 _ rfl))
  have HJ := Lib.hid hj
  have hA0 : SSl w (.slice (some ⟨blk, off, none⟩) 3 cap) [c, k, s] := ⟨_, _, rfl, p1, p2, fun _ => ⟨blk, off, rfl, hblt, hc⟩⟩
  have i1 : (1 : Int) < 3 := by decide
  have G := Lib.hid (Of_yes bS bM j l k now _ _ 1 t u hf hv _ (hS.below A1.out) (hj.below A1.out))
  have JI := Lib.hid (fun X (hX : Below w.heap.size w X) => show Calls Tryz.prog 71 #[.pointer (some ⟨j, 0, none⟩), .int .i64 2] X (fun e w' => e = .returned (.int .i64 m) ∧ Below X.heap.size X w') from JInt_ok j bS now _ _ [c, k, s] 2 s m hs hq rfl X (hj.below hX) (hA0.below hX))
  have PA := Lib.hid (fun X (_ : Below w.heap.size w X) => Parse_yes t n ht hp X)
  have AD := Lib.hid (fun X (_ : Below w.heap.size w X) => Sub_no n m hn hm hr X)
  have FA := Lib.hid (fun X (_ : Below w.heap.size w X) => Fail69 4 X)
  clear hS hj hc p3 hf hA0 hp hq hr
  have y2 := (cj.out _ A1.out).1
  have z1 := ca1.out _ A1.out
  go_enter Tryz.func35, Tryz.ntmps35
  go_wp2_with (first | (go_at_call 65; (with_reducible refine (G.out).mono ?_); rintro e w1 ⟨rfl, h1⟩; have B1 := Lib.hid (A1.out.trans (h1.mono (Below.size A1.out))); have R1 := Lib.hid (blk_below hr0.out h1); clear h1; refine Hid.out ?_))
  refine Lib.hid ?_
  clear y2 z1
  have BX := Lib.hid (show Below w.heap.size w (w1.alloc (.cells #[.string k, .int .i64 1, .string t, .slice none 0 0, .slice none 0 0, .slice none 0 0, .slice none 0 0, .int .i64 u] 33)) from B1.out.trans (alloc_old.mono (Below.size B1.out)))
  have oX := Lib.hid (heap_alloc_new w1 (.cells #[.string k, .int .i64 1, .string t, .slice none 0 0, .slice none 0 0, .slice none 0 0, .slice none 0 0, .int .i64 u] 33))
  have RX := Lib.hid (blk_below R1.out (alloc_old (o := .cells #[.string k, .int .i64 1, .string t, .slice none 0 0, .slice none 0 0, .slice none 0 0, .slice none 0 0, .int .i64 u] 33)))
  have hs1 := Below.size B1.out
  have hs2 := lt_blk R1.out
  have y2 := (cj.out _ BX.out).1
  obtain ⟨⟨g0, g1, g2, g3, g4, g5, g6, g7⟩, ⟨k0, k1, k2, k3, k4, k5, k6, k7⟩, gz⟩ := cells8 oX.out
  go_wp2_with (first | (go_at_call 71; (with_reducible refine (JI.out _ BX.out).mono ?_); rintro e w3 ⟨rfl, hh⟩; have oX := Lib.hid (blk_below oX.out hh); have RX := Lib.hid (blk_below RX.out hh); have BX := Lib.hid (BX.out.trans (hh.mono (Below.size BX.out))); clear hh; obtain ⟨⟨g0, g1, g2, g3, g4, g5, g6, g7⟩, ⟨k0, k1, k2, k3, k4, k5, k6, k7⟩, gz⟩ := cells8 oX.out; have y2 := (cj.out _ BX.out).1) | (go_at_call 78; (with_reducible refine (PA.out _ BX.out).mono ?_); rintro e w4 ⟨rfl, hh⟩; have oX := Lib.hid (blk_below oX.out hh); have RX := Lib.hid (blk_below RX.out hh); have BX := Lib.hid (BX.out.trans (hh.mono (Below.size BX.out))); clear hh; obtain ⟨⟨g0, g1, g2, g3, g4, g5, g6, g7⟩, ⟨k0, k1, k2, k3, k4, k5, k6, k7⟩, gz⟩ := cells8 oX.out; have y2 := (cj.out _ BX.out).1) | (go_at_call 38; (with_reducible refine (AD.out _ BX.out).mono ?_); rintro e w5 ⟨rfl, hh⟩; have oX := Lib.hid (blk_below oX.out hh); have RX := Lib.hid (blk_below RX.out hh); have BX := Lib.hid (BX.out.trans (hh.mono (Below.size BX.out))); clear hh; obtain ⟨⟨g0, g1, g2, g3, g4, g5, g6, g7⟩, ⟨k0, k1, k2, k3, k4, k5, k6, k7⟩, gz⟩ := cells8 oX.out; have y2 := (cj.out _ BX.out).1) | (go_at_call 69; (with_reducible refine (FA.out _ BX.out).mono ?_); rintro e w6 ⟨rfl, hh⟩; have BX := Lib.hid (BX.out.trans (hh.mono (Below.size BX.out))); clear hh))
  exact ⟨rfl, rfl, .of BX.out⟩
end Go.Proofs.YtaomiglmahklfaaGreatDoor
