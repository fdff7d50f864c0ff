/- EXPIRE, PEXPIRE. -/
import Derived.Test.YtllaeocclpaiaaaGreatDoorKt1
import Derived.Deep.RegionHeld3
namespace Go.Proofs.YtllaeocclpaiaaaGreatDoor
set_option linter.unusedVariables false
open Go.ChangeShapes Go.WideShapes Go.ChangeAt Go.RowKit

theorem ne_job_str {w : World} {j bS : Nat} {now : Int} {A A' : Option Addr} {m c m' c' : Nat} (h : JB w j bS now (.slice A m c) (.slice A' m' c')) {b i : Nat} {s : ByteArray} (hc : w.cell? ⟨b, i, none⟩ = some (.string s)) : b ≠ j := by
  intro e
  subst e
  unfold JB at h
  rw [show w.cell? ⟨b, i, none⟩ = _ from cell_of_row w b i _ 60 (0, 0) h] at hc
  match i with
  | 0 => simp at hc
  | 1 => simp at hc
  | 2 => simp at hc
  | 3 => simp at hc
  | n + 4 => simp at hc
theorem eff_after {w2 w3 w4 : World} {j bS : Nat} {now : Int} {vA : Value} {es : List Ent} {A : Option Addr} {m c : Nat} (hJ : JB w3 j bS now vA (.slice A m c)) (hE : EF w3 w2.heap.size (.slice A m c) es) (hK : Kp w2.heap.size (fun i => i ≠ j) w2 w3) (hb : Below w3.heap.size w3 w4) :
    JB w4 j bS now vA (.slice A m c) ∧ EF w4 w2.heap.size (.slice A m c) es ∧ Kp w2.heap.size (fun i => i ≠ j) w2 w4 :=
  ⟨hJ.below hb, hE.below hb, hK.trans (.of (hb.mono hK.size))⟩
set_option maxRecDepth 100000 in
set_option maxHeartbeats 8000000 in
theorem expire_raw (bS bM : Nat) (l : MapT.Ents) (now : Int) (xs : List ByteArray) (k s t : ByteArray) (hx1 : xs[1]? = some k) (hx2 : xs[2]? = some s) (n times m : Int) (hs : s.size ≤ 100000) (hp : parseI s.data.toList = some n) (hn1 : -9223372036854775808 ≤ n) (hn2 : n ≤ 9223372036854775807) (ht1 : 1 ≤ times) (ht2 : times ≤ 1000) (hm1 : -9223372036854775808 ≤ n * times) (hm2 : n * times ≤ 9223372036854775807) (hnow : 0 ≤ now) (hm : n * times + now = m) (hm3 : now < m) (hm4 : m ≤ 1125899906842624) (hk1 : 1 ≤ k.size) (hk : k.size ≤ 512) (ht : t.size ≤ 4096) (hf : MapT.find k l = some (.agg #[.string k, .int .i64 1, .string t, .slice none 0 0, .slice none 0 0, .slice none 0 0, .slice none 0 0, .int .i64 0])) (w : World) (j : Nat) (vA : Value) (hS : SP w bS bM l) (hj : JB w j bS now vA (.slice none 0 0)) (hA : SSl w vA xs) : Calls Tryz.prog 22 #[.pointer (some ⟨j, 0, none⟩), .int .i64 times, .bool true] w fun e w' => e = .returned (.agg #[.int .i64 3, .int .i64 1, .string ⟨#[]⟩, .slice none 0 0]) ∧ (∃ A' n' c', JB w' j bS now vA (.slice A' n' c') ∧ EF w' w.heap.size (.slice A' n' c') [⟨k, 1, t, m⟩]) ∧ Kp w.heap.size (fun i => i ≠ j) w w' := by
  have A1 := Lib.hid (alloc_old (w := w) (o := .cells #[.int .i64 0, .int .i64 0, .string ⟨#[]⟩, .slice none 0 0] 36))
  have hr := Lib.hid (heap_alloc_new w (.cells #[.int .i64 0, .int .i64 0, .string ⟨#[]⟩, .slice none 0 0] 36))
  obtain ⟨aA, cap, rfl, p1, p2, p3⟩ := hA
  have hlen : xs.length ≤ 9223372036854775807 := by unfold maxLen at p2; omega
  have hpos := (List.getElem?_eq_some_iff.1 hx2).1
  have i1 : (1 : Int) < (xs.length : Int) := by omega
  have i2 : (2 : Int) < (xs.length : Int) := by omega
  obtain ⟨blk, off, rfl, hblt, hc⟩ := p3 (by intro e; rw [e] at hpos; simp at hpos)
  have ca1 := Lib.hid (show ∀ Y, Below w.heap.size w Y → Y.cell? ⟨blk, off + 1, none⟩ = some (.string k) from fun Y hb => (hb.cell (p := ⟨blk, off + 1, none⟩) hblt).trans (hc 1 k hx1))
  have ca2 := Lib.hid (show ∀ Y, Below w.heap.size w Y → Y.cell? ⟨blk, off + 2, none⟩ = some (.string s) from fun Y hb => (hb.cell (p := ⟨blk, off + 2, none⟩) hblt).trans (hc 2 s hx2))
  have cj := Lib.hid (show ∀ Y, Below w.heap.size w Y → Y.cell? ⟨j, 2, none⟩ = some (.slice (some ⟨blk, off, none⟩) xs.length cap) ∧ Y.cell? ⟨j, 1, none⟩ = some (.int .i64 now) from fun Y hb => ⟨(hj.below hb).cells.2.2.1, (hj.below hb).cells.2.1⟩)
  have HJ := Lib.hid hj
  have HS := Lib.hid hS
  have hA0 : SSl w (.slice (some ⟨blk, off, none⟩) xs.length cap) xs := ⟨_, _, rfl, p1, p2, fun _ => ⟨blk, off, rfl, hblt, hc⟩⟩
  have JI := Lib.hid (show Calls Tryz.prog 51 #[.pointer (some ⟨j, 0, none⟩), .int .i64 2] (w.alloc (.cells #[.int .i64 0, .int .i64 0, .string ⟨#[]⟩, .slice none 0 0] 36)) (fun e w' => e = .returned (.int .i64 n) ∧ Below (w.alloc (.cells #[.int .i64 0, .int .i64 0, .string ⟨#[]⟩, .slice none 0 0] 36)).heap.size (w.alloc (.cells #[.int .i64 0, .int .i64 0, .string ⟨#[]⟩, .slice none 0 0] 36)) w') from JInt_ok j bS now _ _ xs 2 s n hs hp hx2 _ (hj.below A1.out) (hA0.below A1.out))
  have MU := Lib.hid (fun w => show Calls Tryz.prog 52 #[.int .i64 n, .int .i64 times] w (fun e w' => e = .returned (.tuple #[.int .i64 (n * times), .bool true]) ∧ w = w') from by have := N17 n times (by omega) (by omega) (by omega) (by omega) w; rw [resV_yes (rng_yes hm1 hm2)] at this; exact this)
  have AD := Lib.hid (fun w => show Calls Tryz.prog 53 #[.int .i64 (n * times), .int .i64 now] w (fun e w' => e = .returned (.tuple #[.int .i64 m, .bool true]) ∧ w = w') from by have := N13 (n * times) now (by omega) (by omega) (by omega) (by omega) w; rw [hm, resV_yes (rng_yes (by omega) (by omega))] at this; exact this)
  have GX := Lib.hid (fun X (hX : Below w.heap.size w X) => JGet_yes bS bM j l k now _ _ t 0 1 hf (.inl rfl) X (hS.below hX) (hj.below hX))
  have TU := Lib.hid (fun X (hX : Below w.heap.size w X) => Turn_until j bS bM l now (.slice (some ⟨blk, off, none⟩) xs.length cap) none 0 0 [] X.heap.size X (hS.below hX) (hj.below hX) (EF.nil _ _) (Nat.le_refl _) (by simp) k t hk1 hk ht m (by omega) (by omega) 0 (by omega) hf (.inl rfl))
  have IN := Lib.hid (fun w => Int75 1 w)
  have y1 := ca1.out _ A1.out
  have y2 := (cj.out _ A1.out).1
  have g1 : ¬ (1125899906842624 : Int) < m := by omega
  have g2 : ¬ m ≤ now := by omega
  clear hS hj hc p3 hf hA0 hp hs hx2 hm hm1 hm2
  go_enter Tryz.func22, Tryz.ntmps22
  go_wp2_with (first | (go_at_call 51; (with_reducible refine (JI.out).mono ?_); rintro e w1 ⟨rfl, h1⟩; have B1 := Lib.hid (A1.out.trans (h1.mono (Below.size A1.out))); have R1 := Lib.hid (blk_below hr.out h1); clear h1; have y1 := ca1.out _ B1.out; have y2 := (cj.out _ B1.out).1; have G1 := Lib.hid (GX.out _ B1.out)) | (go_at_call 43; (with_reducible refine (G1.out).mono ?_); rintro e w2 ⟨rfl, h2⟩; have B2 := Lib.hid (B1.out.trans (h2.mono (Below.size B1.out))); have R2 := Lib.hid (blk_below R1.out h2); clear h2; refine Hid.out ?_))
  refine Lib.hid ?_
  have B3 := Lib.hid (show Below w.heap.size w (w2.alloc (.cells #[.string k, .int .i64 1, .string t, .slice none 0 0, .slice none 0 0, .slice none 0 0, .slice none 0 0, .int .i64 0] 33)) from B2.out.trans (alloc_old.mono (Below.size B2.out)))
  have y3 := (cj.out _ B3.out).2
  have B4 := Lib.hid (show Below w.heap.size w (w2.alloc (.cells #[.string k, .int .i64 1, .string t, .slice none 0 0, .slice none 0 0, .slice none 0 0, .slice none 0 0, .int .i64 m] 33)) from B2.out.trans (alloc_old.mono (Below.size B2.out)))
  have R4 := Lib.hid (blk_below R2.out (alloc_old (o := .cells #[.string k, .int .i64 1, .string t, .slice none 0 0, .slice none 0 0, .slice none 0 0, .slice none 0 0, .int .i64 m] 33)))
  have T4 := Lib.hid (TU.out _ B4.out)
  go_wp2_with (first | (go_at_call 52; (with_reducible refine (MU.out _).mono ?_); rintro e w3 ⟨rfl, rfl⟩) | (go_at_call 53; (with_reducible refine (AD.out _).mono ?_); rintro e w3 ⟨rfl, rfl⟩) | (go_at_call 54; (with_reducible refine (T4.out).mono ?_); rintro e w5 ⟨rfl, hR5, hK5⟩; have HR5 := Lib.hid hR5; have HK5 := Lib.hid hK5; clear hR5 hK5; refine Hid.out ?_))
  refine Lib.hid ?_
  have hjw := lt_blk HJ.out
  have R5 := Lib.hid ((HK5.out.block w.heap.size (lt_blk R4.out) (by omega)).trans R4.out)
  go_wp2_with (first | (go_at_call 33; (with_reducible refine (IN.out _).mono ?_); rintro e w7 ⟨rfl, h7⟩; have B7 := Lib.hid h7; clear h7; obtain ⟨⟨c0, c1, c2, c3⟩, ⟨f0, f1, f2, f3⟩⟩ := cells4 (blk_below R5.out B7.out)))
  obtain ⟨A', n', c', hJ6, hE6⟩ := HR5.out
  obtain ⟨hJ7, hE7, hK7⟩ := eff_after hJ6 hE6 HK5.out B7.out
  obtain ⟨_, _, _, _, _, hQ, hK⟩ := eff_end (k := 3) (n := 1) (s := ⟨#[]⟩) hjw (Nat.le_refl _) (lt_blk R4.out) B4.out hJ7 hE7 hK7 (.int .i64 3) (.int .i64 1) (.string ⟨#[]⟩) (.slice none 0 0)
  exact bodyPost_ret (v := .agg #[.int .i64 3, .int .i64 1, .string ⟨#[]⟩, .slice none 0 0]) (by simp [results, Tryz.results22, go_sem, c0, c1, c2, c3]) rfl ⟨rfl, hQ, hK⟩
set_option maxRecDepth 100000 in
set_option maxHeartbeats 8000000 in
theorem expire_ok (W0 : World) (bS bM : Nat) (l : MapT.Ents) (now : Int) (xs : List ByteArray) (es : List Ent) (hL : ∀ (w : World) (j : Nat) (vA : Value), SP w bS bM l → JB w j bS now vA (.slice none 0 0) → SSl w vA xs → Calls Tryz.prog 22 #[.pointer (some ⟨j, 0, none⟩), .int .i64 1000, .bool true] w fun e w' => e = .returned (.agg #[.int .i64 3, .int .i64 1, .string ⟨#[]⟩, .slice none 0 0]) ∧ (∃ A' n' c', JB w' j bS now vA (.slice A' n' c') ∧ EF w' w.heap.size (.slice A' n' c') es) ∧ Kp w.heap.size (fun i => i ≠ j) w w') : CmdOk W0 21 bS bM l now xs 3 1 ⟨#[]⟩ R0 es := by
  intro w j vA _ hS hj hA
  have A1 := Lib.hid (alloc_old (w := w) (o := .cells #[.int .i64 0, .int .i64 0, .string ⟨#[]⟩, .slice none 0 0] 36))
  have hr := Lib.hid (heap_alloc_new w (.cells #[.int .i64 0, .int .i64 0, .string ⟨#[]⟩, .slice none 0 0] 36))
  have C := Lib.hid (hL _ j vA (hS.below A1.out) (hj.below A1.out) (hA.below A1.out))
  have hjw := lt_blk hj
  have HJ := Lib.hid hj
  clear hS hj hA hL
  go_enter Tryz.func21, Tryz.ntmps21
  go_wp2_with (first | (go_at_call 22; (with_reducible refine (C.out).mono ?_); rintro e w2 ⟨rfl, hR2, hK2⟩; have HR2 := Lib.hid hR2; have HK2 := Lib.hid hK2; clear hR2 hK2; obtain ⟨⟨c0, c1, c2, c3⟩, ⟨f0, f1, f2, f3⟩⟩ := cells4 ((HK2.out.block w.heap.size (lt_blk hr.out) (by omega)).trans hr.out)))
  obtain ⟨A', n', c', hJ6, hE6⟩ := HR2.out
  exact bodyPost_ret (v := .agg #[.int .i64 3, .int .i64 1, .string ⟨#[]⟩, .slice none 0 0]) (by simp [results, Tryz.results21, go_sem, c0, c1, c2, c3]) rfl (eff_end hjw (Nat.le_refl _) (lt_blk hr.out) A1.out hJ6 hE6 HK2.out _ _ _ _)
set_option maxRecDepth 100000 in
set_option maxHeartbeats 8000000 in
theorem pexpire_ok (W0 : World) (bS bM : Nat) (l : MapT.Ents) (now : Int) (xs : List ByteArray) (es : List Ent) (hL : ∀ (w : World) (j : Nat) (vA : Value), SP w bS bM l → JB w j bS now vA (.slice none 0 0) → SSl w vA xs → Calls Tryz.prog 22 #[.pointer (some ⟨j, 0, none⟩), .int .i64 1, .bool true] w fun e w' => e = .returned (.agg #[.int .i64 3, .int .i64 1, .string ⟨#[]⟩, .slice none 0 0]) ∧ (∃ A' n' c', JB w' j bS now vA (.slice A' n' c') ∧ EF w' w.heap.size (.slice A' n' c') es) ∧ Kp w.heap.size (fun i => i ≠ j) w w') : CmdOk W0 23 bS bM l now xs 3 1 ⟨#[]⟩ R0 es := by
  intro w j vA _ hS hj hA
  have A1 := Lib.hid (alloc_old (w := w) (o := .cells #[.int .i64 0, .int .i64 0, .string ⟨#[]⟩, .slice none 0 0] 36))
  have hr := Lib.hid (heap_alloc_new w (.cells #[.int .i64 0, .int .i64 0, .string ⟨#[]⟩, .slice none 0 0] 36))
  have C := Lib.hid (hL _ j vA (hS.below A1.out) (hj.below A1.out) (hA.below A1.out))
  have hjw := lt_blk hj
  have HJ := Lib.hid hj
  clear hS hj hA hL
  go_enter Tryz.func23, Tryz.ntmps23
  go_wp2_with (first | (go_at_call 22; (with_reducible refine (C.out).mono ?_); rintro e w2 ⟨rfl, hR2, hK2⟩; have HR2 := Lib.hid hR2; have HK2 := Lib.hid hK2; clear hR2 hK2; obtain ⟨⟨c0, c1, c2, c3⟩, ⟨f0, f1, f2, f3⟩⟩ := cells4 ((HK2.out.block w.heap.size (lt_blk hr.out) (by omega)).trans hr.out)))
  obtain ⟨A', n', c', hJ6, hE6⟩ := HR2.out
  exact bodyPost_ret (v := .agg #[.int .i64 3, .int .i64 1, .string ⟨#[]⟩, .slice none 0 0]) (by simp [results, Tryz.results23, go_sem, c0, c1, c2, c3]) rfl (eff_end hjw (Nat.le_refl _) (lt_blk hr.out) A1.out hJ6 hE6 HK2.out _ _ _ _)
end Go.Proofs.YtllaeocclpaiaaaGreatDoor
