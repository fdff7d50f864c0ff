/- SETRANGE. -/
import Derived.Test.YtaomiglmahklfaaGreatDoorSt30
import Derived.Test.YtaomiglmahklfaaGreatDoorSt35
namespace Go.Proofs.YtaomiglmahklfaaGreatDoor
open Go.ChangeShapes Go.WideShapes Go.ChangeAt Go.RowKit

def lenOf : Value → Nat | .slice _ n _ => n | _ => 0
theorem ne_empty {s : ByteArray} (h : 0 < s.size) : s.toList.isEmpty = false := by
  rw [ByteArray.toList_eq, List.isEmpty_eq_false_iff]
  intro e
  have h1 : s.data.toList.length = s.size := by simp
  rw [e] at h1
  simp at h1
  omega
theorem OwnG.some {c n cap : Nat} {w : World} {A : Option Addr} {l : List UInt8} (h : OwnG c w (.slice A n cap) l) (hp : 0 < l.length) : ∃ g off, A = Option.some ⟨g, off, none⟩ ∧ n ≤ cap := by
  rcases h with ⟨g, off, cap', h1, _, _, h4, _⟩ | ⟨rfl, _⟩
  · cases h1
    exact ⟨g, off, rfl, h4⟩
  · simp at hp
theorem OwnG.shape {c : Nat} {w : World} {v : Value} {l : List UInt8} (h : OwnG c w v l) : ∃ A cap, v = .slice A l.length cap := by
  rcases h with ⟨g, off, cap, rfl, _⟩ | ⟨rfl, rfl⟩
  · exact ⟨_, _, rfl⟩
  · exact ⟨_, _, rfl⟩
def ovT (t s : ByteArray) (p : Nat) : ByteArray := ⟨(ovL (t.data.toList ++ List.replicate (p + s.size - t.size) 0) s.data.toList p).toArray⟩
theorem ovT_size (t s : ByteArray) (p : Nat) : (ovT t s p).size = max t.size (p + s.size) := by
  have hs : s.data.toList.length = s.size := by simp
  have ht : t.data.toList.length = t.size := by simp
  have := ovL_len (t.data.toList ++ List.replicate (p + s.size - t.size) 0) s.data.toList p (by rw [List.length_append, List.length_replicate, hs, ht]; omega)
  rw [List.length_append, List.length_replicate, ht] at this
  show (ovL _ _ _).toArray.size = _
  rw [List.size_toArray, this]
  omega
set_option maxRecDepth 100000 in
set_option maxHeartbeats 8000000 in
theorem over_ey (W0 : World) (bS bM : Nat) (l : MapT.Ents) (now : Int) (k a : ByteArray) (p : Nat) (hpm : p ≤ 4096) (haz : a.size ≤ 100000) (hap : parseI a.data.toList = some (p : Int)) (t : ByteArray) (u : Int) (hf : MapT.find k l = some (.agg #[.string k, .int .i64 1, .string t, .slice none 0 0, .slice none 0 0, .slice none 0 0, .slice none 0 0, .int .i64 u])) (hv : Lives u now) : CmdOk W0 42 bS bM l now [⟨#[83, 69, 84, 82, 65, 78, 71, 69]⟩, k, a, ⟨#[]⟩] 3 (t.size : Int) ⟨#[]⟩ R0 [] := by
  intro w j vA _ hS hj hA
  have A1 := Lib.hid (alloc_old (w := w) (o := .cells #[.int .i64 0, .int .i64 0, .string ⟨#[]⟩, .slice none 0 0] 37))
  have hr := Lib.hid (heap_alloc_new w (.cells #[.int .i64 0, .int .i64 0, .string ⟨#[]⟩, .slice none 0 0] 37))
  obtain ⟨aA, cap, hv, p1, p2, p3⟩ := hA
  replace hv : vA = .slice aA 4 cap := hv
  subst hv
  replace p1 : 4 ≤ cap := p1
  obtain ⟨blk, off, rfl, hblt, hc⟩ := p3 (by simp)
  have ca1 := Lib.hid (show ∀ Y, Below w.heap.size w Y → Y.cell? ⟨blk, off + 1, none⟩ = some (.string k) from fun Y hb => (hb.cell (p := ⟨blk, off + 1, none⟩) hblt).trans (hc 1 _ rfl))
  have ca3 := Lib.hid (show ∀ Y, Below w.heap.size w Y → Y.cell? ⟨blk, off + 3, none⟩ = some (.string ⟨#[]⟩) from fun Y hb => (hb.cell (p := ⟨blk, off + 3, none⟩) hblt).trans (hc 3 _ rfl))
  have cj := Lib.hid (show ∀ Y, Below w.heap.size w Y → Y.cell? ⟨j, 2, none⟩ = some (.slice (some ⟨blk, off, none⟩) 4 cap) ∧ Y.cell? ⟨j, 1, none⟩ = some (.int .i64 now) from fun Y hb => ⟨(hj.below hb).cells.2.2.1, (hj.below hb).cells.2.1⟩)
  have HJ := Lib.hid hj
  have hA0 : SSl w (.slice (some ⟨blk, off, none⟩) 4 cap) [⟨#[83, 69, 84, 82, 65, 78, 71, 69]⟩, k, a, ⟨#[]⟩] := ⟨_, _, rfl, p1, p2, fun _ => ⟨blk, off, rfl, hblt, hc⟩⟩
  have hcv := conv_sb
  have i1 : (1 : Int) < 4 := by decide
  have i3 : (3 : Int) < 4 := by decide
  have G := Lib.hid (Of_yes bS bM j l k now _ _ 1 t u hf hv _ (hS.below A1.out) (hj.below A1.out))
  have JI := Lib.hid (fun X (hX : Below w.heap.size w X) => show Calls Tryz.prog 71 #[.pointer (some ⟨j, 0, none⟩), .int .i64 2] X (fun e w' => e = .returned (.int .i64 (p : Int)) ∧ Below X.heap.size X w') from JInt_ok j bS now _ _ [⟨#[83, 69, 84, 82, 65, 78, 71, 69]⟩, k, a, ⟨#[]⟩] 2 a (p : Int) haz hap rfl X (hj.below hX) (hA0.below hX))
  have IN := Lib.hid (fun X => Int75 (t.size : Int) X)
  have y2 := (cj.out _ A1.out).1
  have z1 := ca1.out _ A1.out
  have hp1 : ¬ (p : Int) < 0 := by omega
  have hp2 : ¬ (4096 : Int) < (p : Int) := by omega
  clear hS hj hc p3 hf hA0 hap
  go_enter Tryz.func42, Tryz.ntmps42
  go_wp2_with (first | (go_at_call 65; (with_reducible refine (G.out).mono ?_); rintro e w1 ⟨rfl, h1⟩; have B1 := Lib.hid (A1.out.trans (h1.mono (Below.size A1.out))); have R1 := Lib.hid (blk_below hr.out h1); clear h1; refine Hid.out ?_))
  refine Lib.hid ?_
  clear y2 z1
  have B2 := Lib.hid (show Below w.heap.size w (w1.alloc (.cells #[.string k, .int .i64 1, .string t, .slice none 0 0, .slice none 0 0, .slice none 0 0, .slice none 0 0, .int .i64 u] 33)) from B1.out.trans (alloc_old.mono (Below.size B1.out)))
  have o2 := Lib.hid (heap_alloc_new w1 (.cells #[.string k, .int .i64 1, .string t, .slice none 0 0, .slice none 0 0, .slice none 0 0, .slice none 0 0, .int .i64 u] 33))
  have R2 := Lib.hid (blk_below R1.out (alloc_old (o := .cells #[.string k, .int .i64 1, .string t, .slice none 0 0, .slice none 0 0, .slice none 0 0, .slice none 0 0, .int .i64 u] 33)))
  have hs1 := Below.size B1.out
  have hs2 := lt_blk R1.out
  go_wp2
  generalize w1.alloc (.cells #[.string k, .int .i64 1, .string t, .slice none 0 0, .slice none 0 0, .slice none 0 0, .slice none 0 0, .int .i64 u] 33) = w2 at B2 o2 R2 ⊢
  have KQ := Lib.hid (show ∀ X, Below w.heap.size w X → (X.cell? ⟨j, 2, none⟩ = some (.slice (some ⟨blk, off, none⟩) 4 cap) ∧ X.cell? ⟨blk, off + 3, none⟩ = some (.string ⟨#[]⟩)) from fun X hb => ⟨(cj.out X hb).1, ca3.out X hb⟩)
  have K0 := Lib.hid (KQ.out w2.drew B2.out.drew)
  have J2 := Lib.hid (JI.out w2.drew B2.out.drew)
  go_region_held3 (fun X => X.cell? ⟨j, 2, none⟩ = some (.slice (some ⟨blk, off, none⟩) 4 cap) ∧ X.cell? ⟨blk, off + 3, none⟩ = some (.string ⟨#[]⟩)) (first | assumption | (with_reducible exact K0.out) | (with_reducible exact KQ.out _ (by assumption))) (first | (go_at_call 71; (with_reducible refine (J2.out).mono ?_); rintro e w3 ⟨rfl, h3⟩; have B3 : Below w.heap.size w w3 := B2.out.trans ((belT (Below.refl w2.heap.size w2).drew h3).mono (Below.size B2.out)); have o3 := Lib.hid (blk_below o2.out (belT (Below.refl w2.heap.size w2).drew h3)); have R3 := Lib.hid (blk_below R2.out (belT (Below.refl w2.heap.size w2).drew h3)); clear h3))
  have B3h := Lib.hid B3
  clear B3 KQ K0 J2
  obtain ⟨⟨g0, g1, g2, g3, g4, g5, g6, g7⟩, _, gz⟩ := cells8 o3.out
  have HW := Lib.hid (Lib.bytesWorld_below w3 5 t)
  go_wp2_with (first | (go_at_call 75; (with_reducible refine (IN.out _).mono ?_); rintro e w6 ⟨rfl, h6⟩; have BX := Lib.hid (B3h.out.trans ((belT HW.out h6).mono (Below.size B3h.out))); obtain ⟨⟨c0, c1, c2, c3⟩, ⟨f0, f1, f2, f3⟩⟩ := cells4 (blk_below R3.out (belT HW.out h6)); clear h6))
  exact bodyPost_ret (v := .agg #[.int .i64 3, .int .i64 (t.size : Int), .string ⟨#[]⟩, .slice none 0 0]) (by simp [results, Tryz.results42, go_sem, c0, c1, c2, c3]) rfl (read_end HJ.out ((((BX.out.setCell (Nat.le_refl _) _).setCell (Nat.le_refl _) _).setCell (Nat.le_refl _) _).setCell (Nat.le_refl _) _))
set_option maxRecDepth 100000 in
set_option maxHeartbeats 8000000 in
theorem over_en (W0 : World) (bS bM : Nat) (l : MapT.Ents) (now : Int) (k a : ByteArray) (p : Nat) (hpm : p ≤ 4096) (haz : a.size ≤ 100000) (hap : parseI a.data.toList = some (p : Int)) (hf : MapT.find k l = none) : CmdOk W0 42 bS bM l now [⟨#[83, 69, 84, 82, 65, 78, 71, 69]⟩, k, a, ⟨#[]⟩] 3 0 ⟨#[]⟩ R0 [] := by
  intro w j vA _ hS hj hA
  have A1 := Lib.hid (alloc_old (w := w) (o := .cells #[.int .i64 0, .int .i64 0, .string ⟨#[]⟩, .slice none 0 0] 37))
  have hr := Lib.hid (heap_alloc_new w (.cells #[.int .i64 0, .int .i64 0, .string ⟨#[]⟩, .slice none 0 0] 37))
  obtain ⟨aA, cap, hv, p1, p2, p3⟩ := hA
  replace hv : vA = .slice aA 4 cap := hv
  subst hv
  replace p1 : 4 ≤ cap := p1
  obtain ⟨blk, off, rfl, hblt, hc⟩ := p3 (by simp)
  have ca1 := Lib.hid (show ∀ Y, Below w.heap.size w Y → Y.cell? ⟨blk, off + 1, none⟩ = some (.string k) from fun Y hb => (hb.cell (p := ⟨blk, off + 1, none⟩) hblt).trans (hc 1 _ rfl))
  have ca3 := Lib.hid (show ∀ Y, Below w.heap.size w Y → Y.cell? ⟨blk, off + 3, none⟩ = some (.string ⟨#[]⟩) from fun Y hb => (hb.cell (p := ⟨blk, off + 3, none⟩) hblt).trans (hc 3 _ rfl))
  have cj := Lib.hid (show ∀ Y, Below w.heap.size w Y → Y.cell? ⟨j, 2, none⟩ = some (.slice (some ⟨blk, off, none⟩) 4 cap) ∧ Y.cell? ⟨j, 1, none⟩ = some (.int .i64 now) from fun Y hb => ⟨(hj.below hb).cells.2.2.1, (hj.below hb).cells.2.1⟩)
  have HJ := Lib.hid hj
  have hA0 : SSl w (.slice (some ⟨blk, off, none⟩) 4 cap) [⟨#[83, 69, 84, 82, 65, 78, 71, 69]⟩, k, a, ⟨#[]⟩] := ⟨_, _, rfl, p1, p2, fun _ => ⟨blk, off, rfl, hblt, hc⟩⟩
  have hcv := conv_sb
  have i1 : (1 : Int) < 4 := by decide
  have i3 : (3 : Int) < 4 := by decide
  have G := Lib.hid (Of_no bS bM j l k now _ _ 1 hf _ (hS.below A1.out) (hj.below A1.out))
  have JI := Lib.hid (fun X (hX : Below w.heap.size w X) => show Calls Tryz.prog 71 #[.pointer (some ⟨j, 0, none⟩), .int .i64 2] X (fun e w' => e = .returned (.int .i64 (p : Int)) ∧ Below X.heap.size X w') from JInt_ok j bS now _ _ [⟨#[83, 69, 84, 82, 65, 78, 71, 69]⟩, k, a, ⟨#[]⟩] 2 a (p : Int) haz hap rfl X (hj.below hX) (hA0.below hX))
  have IN := Lib.hid (fun X => Int75 0 X)
  have y2 := (cj.out _ A1.out).1
  have z1 := ca1.out _ A1.out
  have hp1 : ¬ (p : Int) < 0 := by omega
  have hp2 : ¬ (4096 : Int) < (p : Int) := by omega
  clear hS hj hc p3 hf hA0 hap
  go_enter Tryz.func42, Tryz.ntmps42
  go_wp2_with (first | (go_at_call 65; (with_reducible refine (G.out).mono ?_); rintro e w1 ⟨rfl, h1⟩; have B1 := Lib.hid (A1.out.trans (h1.mono (Below.size A1.out))); have R1 := Lib.hid (blk_below hr.out h1); clear h1; refine Hid.out ?_))
  refine Lib.hid ?_
  clear y2 z1
  have B2 := Lib.hid (show Below w.heap.size w (w1.alloc (.cells #[.string k, .int .i64 1, .string ⟨#[]⟩, .slice none 0 0, .slice none 0 0, .slice none 0 0, .slice none 0 0, .int .i64 0] 33)) from B1.out.trans (alloc_old.mono (Below.size B1.out)))
  have o2 := Lib.hid (heap_alloc_new w1 (.cells #[.string k, .int .i64 1, .string ⟨#[]⟩, .slice none 0 0, .slice none 0 0, .slice none 0 0, .slice none 0 0, .int .i64 0] 33))
  have R2 := Lib.hid (blk_below R1.out (alloc_old (o := .cells #[.string k, .int .i64 1, .string ⟨#[]⟩, .slice none 0 0, .slice none 0 0, .slice none 0 0, .slice none 0 0, .int .i64 0] 33)))
  have hs1 := Below.size B1.out
  have hs2 := lt_blk R1.out
  go_wp2
  generalize w1.alloc (.cells #[.string k, .int .i64 1, .string ⟨#[]⟩, .slice none 0 0, .slice none 0 0, .slice none 0 0, .slice none 0 0, .int .i64 0] 33) = w2 at B2 o2 R2 ⊢
  have KQ := Lib.hid (show ∀ X, Below w.heap.size w X → (X.cell? ⟨j, 2, none⟩ = some (.slice (some ⟨blk, off, none⟩) 4 cap) ∧ X.cell? ⟨blk, off + 3, none⟩ = some (.string ⟨#[]⟩)) from fun X hb => ⟨(cj.out X hb).1, ca3.out X hb⟩)
  have K0 := Lib.hid (KQ.out w2.drew B2.out.drew)
  have J2 := Lib.hid (JI.out w2.drew B2.out.drew)
  go_region_held3 (fun X => X.cell? ⟨j, 2, none⟩ = some (.slice (some ⟨blk, off, none⟩) 4 cap) ∧ X.cell? ⟨blk, off + 3, none⟩ = some (.string ⟨#[]⟩)) (first | assumption | (with_reducible exact K0.out) | (with_reducible exact KQ.out _ (by assumption))) (first | (go_at_call 71; (with_reducible refine (J2.out).mono ?_); rintro e w3 ⟨rfl, h3⟩; have B3 : Below w.heap.size w w3 := B2.out.trans ((belT (Below.refl w2.heap.size w2).drew h3).mono (Below.size B2.out)); have o3 := Lib.hid (blk_below o2.out (belT (Below.refl w2.heap.size w2).drew h3)); have R3 := Lib.hid (blk_below R2.out (belT (Below.refl w2.heap.size w2).drew h3)); clear h3))
  have B3h := Lib.hid B3
  clear B3 KQ K0 J2
  obtain ⟨⟨g0, g1, g2, g3, g4, g5, g6, g7⟩, _, gz⟩ := cells8 o3.out
  have HW := Lib.hid (Lib.bytesWorld_below w3 5 ⟨#[]⟩)
  go_wp2_with (first | (go_at_call 75; (with_reducible refine (IN.out _).mono ?_); rintro e w6 ⟨rfl, h6⟩; have BX := Lib.hid (B3h.out.trans ((belT HW.out h6).mono (Below.size B3h.out))); obtain ⟨⟨c0, c1, c2, c3⟩, ⟨f0, f1, f2, f3⟩⟩ := cells4 (blk_below R3.out (belT HW.out h6)); clear h6))
  exact bodyPost_ret (v := .agg #[.int .i64 3, .int .i64 0, .string ⟨#[]⟩, .slice none 0 0]) (by simp [results, Tryz.results42, go_sem, c0, c1, c2, c3]) rfl (read_end HJ.out ((((BX.out.setCell (Nat.le_refl _) _).setCell (Nat.le_refl _) _).setCell (Nat.le_refl _) _).setCell (Nat.le_refl _) _))
set_option maxRecDepth 100000 in
set_option maxHeartbeats 8000000 in
theorem over_new (W0 : World) (bS bM : Nat) (l : MapT.Ents) (now : Int) (k a s : ByteArray) (p : Nat) (hpm : p ≤ 4096) (haz : a.size ≤ 100000) (hap : parseI a.data.toList = some (p : Int)) (hk1 : 1 ≤ k.size) (hk : k.size ≤ 512) (hf : MapT.find k l = none) (nn0 : Nat) (hn0 : max 0 (p + s.size) = nn0) (hsp : 0 < s.size) (hse : p + s.size ≤ 4096) : CmdOk W0 42 bS bM l now [⟨#[83, 69, 84, 82, 65, 78, 71, 69]⟩, k, a, s] 3 (nn0 : Int) ⟨#[]⟩ R0 [⟨k, 1, ovT ⟨#[]⟩ s p, 0⟩] := by
  intro w j vA _ hS hj hA
  have A1 := Lib.hid (alloc_old (w := w) (o := .cells #[.int .i64 0, .int .i64 0, .string ⟨#[]⟩, .slice none 0 0] 37))
  have hr := Lib.hid (heap_alloc_new w (.cells #[.int .i64 0, .int .i64 0, .string ⟨#[]⟩, .slice none 0 0] 37))
  obtain ⟨aA, cap, hv, p1, p2, p3⟩ := hA
  replace hv : vA = .slice aA 4 cap := hv
  subst hv
  replace p1 : 4 ≤ cap := p1
  obtain ⟨blk, off, rfl, hblt, hc⟩ := p3 (by simp)
  have ca1 := Lib.hid (show ∀ Y, Below w.heap.size w Y → Y.cell? ⟨blk, off + 1, none⟩ = some (.string k) from fun Y hb => (hb.cell (p := ⟨blk, off + 1, none⟩) hblt).trans (hc 1 _ rfl))
  have ca3 := Lib.hid (show ∀ Y, Below w.heap.size w Y → Y.cell? ⟨blk, off + 3, none⟩ = some (.string s) from fun Y hb => (hb.cell (p := ⟨blk, off + 3, none⟩) hblt).trans (hc 3 _ rfl))
  have cj := Lib.hid (show ∀ Y, Below w.heap.size w Y → Y.cell? ⟨j, 2, none⟩ = some (.slice (some ⟨blk, off, none⟩) 4 cap) ∧ Y.cell? ⟨j, 1, none⟩ = some (.int .i64 now) from fun Y hb => ⟨(hj.below hb).cells.2.2.1, (hj.below hb).cells.2.1⟩)
  have HJ := Lib.hid hj
  have hA0 : SSl w (.slice (some ⟨blk, off, none⟩) 4 cap) [⟨#[83, 69, 84, 82, 65, 78, 71, 69]⟩, k, a, s] := ⟨_, _, rfl, p1, p2, fun _ => ⟨blk, off, rfl, hblt, hc⟩⟩
  have hcv := conv_sb
  have i1 : (1 : Int) < 4 := by decide
  have i3 : (3 : Int) < 4 := by decide
  have G := Lib.hid (Of_no bS bM j l k now _ _ 1 hf _ (hS.below A1.out) (hj.below A1.out))
  have JI := Lib.hid (fun X (hX : Below w.heap.size w X) => show Calls Tryz.prog 71 #[.pointer (some ⟨j, 0, none⟩), .int .i64 2] X (fun e w' => e = .returned (.int .i64 (p : Int)) ∧ Below X.heap.size X w') from JInt_ok j bS now _ _ [⟨#[83, 69, 84, 82, 65, 78, 71, 69]⟩, k, a, s] 2 a (p : Int) haz hap rfl X (hj.below hX) (hA0.below hX))
  have hTS := ovT_size ⟨#[]⟩ s p
  have TU := Lib.hid (fun X (hX : Below w.heap.size w X) => Turn_new j bS bM l now (.slice (some ⟨blk, off, none⟩) 4 cap) none 0 0 [] X.heap.size X (hS.below hX) (hj.below hX) (EF.nil _ _) (Nat.le_refl _) (by simp) k (ovT ⟨#[]⟩ s p) hk1 hk (by rw [hTS]; show max 0 (p + s.size) ≤ 4096; omega) 0 (by omega) (by omega) hf)
  have TX := Lib.hid (fun X => text73 (ovT ⟨#[]⟩ s p) X)
  have se := ne_empty hsp
  have pp : 0 ≤ (p : Int) ∧ (p : Int) ≤ 4096 := by omega
  have y2 := (cj.out _ A1.out).1
  have z1 := ca1.out _ A1.out
  have hp1 : ¬ (p : Int) < 0 := by omega
  have hp2 : ¬ (4096 : Int) < (p : Int) := by omega
  clear hS hj hc p3 hf hA0 hap
  go_enter Tryz.func42, Tryz.ntmps42
  go_wp2_with (first | (go_at_call 65; (with_reducible refine (G.out).mono ?_); rintro e w1 ⟨rfl, h1⟩; have B1 := Lib.hid (A1.out.trans (h1.mono (Below.size A1.out))); have R1 := Lib.hid (blk_below hr.out h1); clear h1; refine Hid.out ?_))
  refine Lib.hid ?_
  clear y2 z1
  have B2 := Lib.hid (show Below w.heap.size w (w1.alloc (.cells #[.string k, .int .i64 1, .string ⟨#[]⟩, .slice none 0 0, .slice none 0 0, .slice none 0 0, .slice none 0 0, .int .i64 0] 33)) from B1.out.trans (alloc_old.mono (Below.size B1.out)))
  have o2 := Lib.hid (heap_alloc_new w1 (.cells #[.string k, .int .i64 1, .string ⟨#[]⟩, .slice none 0 0, .slice none 0 0, .slice none 0 0, .slice none 0 0, .int .i64 0] 33))
  have R2 := Lib.hid (blk_below R1.out (alloc_old (o := .cells #[.string k, .int .i64 1, .string ⟨#[]⟩, .slice none 0 0, .slice none 0 0, .slice none 0 0, .slice none 0 0, .int .i64 0] 33)))
  have hs1 := Below.size B1.out
  have hs2 := lt_blk R1.out
  go_wp2
  generalize w1.alloc (.cells #[.string k, .int .i64 1, .string ⟨#[]⟩, .slice none 0 0, .slice none 0 0, .slice none 0 0, .slice none 0 0, .int .i64 0] 33) = w2 at B2 o2 R2 ⊢
  have KQ := Lib.hid (show ∀ X, Below w.heap.size w X → (X.cell? ⟨j, 2, none⟩ = some (.slice (some ⟨blk, off, none⟩) 4 cap) ∧ X.cell? ⟨blk, off + 3, none⟩ = some (.string s)) from fun X hb => ⟨(cj.out X hb).1, ca3.out X hb⟩)
  have K0 := Lib.hid (KQ.out w2.drew B2.out.drew)
  have J2 := Lib.hid (JI.out w2.drew B2.out.drew)
  go_region_held3 (fun X => X.cell? ⟨j, 2, none⟩ = some (.slice (some ⟨blk, off, none⟩) 4 cap) ∧ X.cell? ⟨blk, off + 3, none⟩ = some (.string s)) (first | assumption | (with_reducible exact K0.out) | (with_reducible exact KQ.out _ (by assumption))) (first | (go_at_call 71; (with_reducible refine (J2.out).mono ?_); rintro e w3 ⟨rfl, h3⟩; have B3 : Below w.heap.size w w3 := B2.out.trans ((belT (Below.refl w2.heap.size w2).drew h3).mono (Below.size B2.out)); have o3 := Lib.hid (blk_below o2.out (belT (Below.refl w2.heap.size w2).drew h3)); have R3 := Lib.hid (blk_below R2.out (belT (Below.refl w2.heap.size w2).drew h3)); clear h3))
  have B3h := Lib.hid B3
  clear B3 KQ K0 J2
  obtain ⟨⟨g0, g1, g2, g3, g4, g5, g6, g7⟩, _, gz⟩ := cells8 o3.out
  have HO := Lib.hid (show OwnG w3.heap.size (Lib.bytesWorld w3 5 ⟨#[]⟩) (.slice (some ⟨w3.heap.size, 0, none⟩) 0 (grownCap w3 0 0 5)) [] from OwnG.new w3 ⟨#[]⟩ (by decide))
  have HW := Lib.hid (Lib.bytesWorld_below w3 5 ⟨#[]⟩)
  have hz3 : w3.heap.size < (Lib.bytesWorld w3 5 ⟨#[]⟩).heap.size := by rw [Lib.bytesWorld_size]; omega
  have HZ3 := Lib.hid hz3
  clear hz3
  have wsum : IntKind.i64.wrap ((p : Int) + (s.size : Int)) = (p : Int) + (s.size : Int) := IntWalk.i64_in _ (by omega)
  have hend : ¬ (4096 : Int) < (p : Int) + (s.size : Int) := by omega
  go_wp2_with fail
  have hc1 := grownCap_ge w3 0 0 5
  generalize hC : grownCap w3 0 0 5 = C at HO hc1 ⊢
  generalize Lib.bytesWorld w3 5 (⟨#[]⟩ : ByteArray) = W1 at HO HW HZ3 ⊢
  have htl : (⟨#[]⟩ : ByteArray).data.toList.length = 0 := by simp
  have HTL := Lib.hid htl
  clear htl
  go_loopw [7] (fun b wr => ∃ (m nn : Nat) (A : Option Addr) (cap : Nat), nn = 0 + m ∧ b = .slice A nn cap ∧ nn ≤ max 0 (p + s.size) ∧ Hid (OwnG w3.heap.size wr (.slice A nn cap) ((⟨#[]⟩ : ByteArray).data.toList ++ List.replicate m 0) ∧ Below w3.heap.size w3 wr ∧ w3.heap.size < wr.heap.size)) (fun b _ => (p + s.size) - lenOf b)
  case atStart => exact ⟨0, 0, _, _, by omega, rfl, by omega, Lib.hid ⟨by simpa using HO.out, HW.out, HZ3.out⟩⟩
  case round =>
    obtain ⟨m, nn, A, cap2, hnn, rfl, hle, HR⟩ := hrel
    have hnn9 : nn ≤ 100000 := by omega
    by_cases hlt : nn < p + s.size
    · have q0 : (nn : Int) < (p : Int) + (s.size : Int) := by omega
      have HS2 := Lib.hid (Src.ofSlice (P := Tryz.prog) (size := 1) (wr.alloc (.cells #[.int .u8 0] 5)) Tryz.underlying34 ⟨wr.heap.size, 0, none⟩ 1 1 [.int .u8 0] rfl (cell_one_new _ _ _) (fun x hx => by simp at hx; subst hx; rfl))
      have HN := Lib.hid hnn
      have HL := Lib.hid hle
      clear hnn hle
      go_wp2_with (first | (at_builtin; refine append_G _ rfl _ _ 34 rfl w3.heap.size ((⟨#[]⟩ : ByteArray).data.toList ++ List.replicate m 0) [0] _ _ rfl (HR.out.1.below alloc_old) rfl HS2.out (by rw [List.length_append, List.length_replicate, HTL.out]; have := HN.out; show _ + 1 ≤ _; omega) (Nat.le_of_lt (Nat.lt_of_lt_of_le HR.out.2.2 (by simp))) ?_; intro v2 w2x hO2 hb2; have HO2 := Lib.hid hO2; have HB2 := Lib.hid hb2; clear hO2 hb2))
      have hO3 := HO2.out
      rw [List.append_assoc, show (List.replicate m (0 : UInt8) ++ [0]) = List.replicate (m + 1) 0 from (List.replicate_succ' (n := m) (a := (0 : UInt8))).symm] at hO3
      obtain ⟨A3, c3, hv3⟩ := OwnG.shape hO3
      have hl3 : ((⟨#[]⟩ : ByteArray).data.toList ++ List.replicate (m + 1) (0 : UInt8)).length = nn + 1 := by rw [List.length_append, List.length_replicate, HTL.out]; have := HN.out; omega
      rw [hl3] at hv3
      subst hv3
      refine ⟨⟨m + 1, nn + 1, A3, c3, by have := HN.out; omega, rfl, by have := HL.out; omega, Lib.hid ⟨hO3, HR.out.2.1.trans ((alloc_old.mono (Nat.le_of_lt HR.out.2.2)).trans HB2.out), Nat.lt_of_lt_of_le HR.out.2.2 (Nat.le_trans (by simp) (Below.size HB2.out))⟩⟩, by simp [lenOf]; omega⟩
    · have q0 : ¬ (nn : Int) < (p : Int) + (s.size : Int) := by omega
      have hm : m = p + s.size - 0 := by omega
      subst hm
      have hnn0 : nn = nn0 := by rw [← hn0]; omega
      subst hnn0
      obtain ⟨g, off2, hA, hcl⟩ := OwnG.some HR.out.1 (by rw [List.length_append, List.length_replicate, HTL.out]; omega)
      subst hA
      have q1 : (p : Int) ≤ (nn : Int) := by omega
      have q2 : (nn : Int) ≤ (cap2 : Int) := by omega
      have q3 : ¬ cap2 = p := by omega
      have q4 : p + s.size ≤ nn := by omega
      have RX := Lib.hid (blk_below R3.out HR.out.2.1)
      have oX := Lib.hid (blk_below o3.out HR.out.2.1)
      have BX := Lib.hid (B3h.out.trans (HR.out.2.1.mono (Below.size B3h.out)))
      have hs3 := Below.size B3h.out
      clear hnn hle hlt q0
      go_wp2_with (first | (refine wpList_copy_G (o := ⟨some 64, _, _, _, _, _⟩) wr rfl _ _ rfl w3.heap.size g off2 nn cap2 p ((⟨#[]⟩ : ByteArray).data.toList ++ List.replicate (p + s.size - 0) 0) s rfl HR.out.1 rfl q4 ?_; intro w5 hO5 hb5; have hcb := show (convert 34 9 (.slice (some ⟨g, off2, none⟩) nn cap2)).run Tryz.prog w5 = .ok (.string (ovT ⟨#[]⟩ s p)) w5 from hO5.back; have RX := Lib.hid ((hb5.block _ (lt_blk R3.out)).trans RX.out); have oX := Lib.hid ((hb5.block _ (lt_blk o3.out)).trans oX.out); have BX := Lib.hid (BX.out.trans (hb5.mono hs3)); clear hO5 hb5) | (go_at_call 73; (with_reducible refine (TX.out _).mono ?_); rintro e w6 ⟨rfl, hh⟩; have oX := Lib.hid (blk_below oX.out hh); have RX := Lib.hid (blk_below RX.out hh); have BX := Lib.hid (BX.out.trans (hh.mono (Below.size BX.out))); clear hh; refine Hid.out ?_))
      refine Lib.hid ?_
      obtain ⟨⟨g0, g1, g2, g3, g4, g5, g6, g7⟩, ⟨k0, k1, k2, k3, k4, k5, k6, k7⟩, gz⟩ := cells8 oX.out
      have B4 := Lib.hid (bel6 BX.out (show w.heap.size ≤ w1.heap.size by omega) (.int .i64 1) (.string (ovT ⟨#[]⟩ s p)) (.slice none 0 0) (.slice none 0 0) (.slice none 0 0) (.slice none 0 0))
      have o4 := Lib.hid (set6of8 oX.out (.int .i64 1) (.string (ovT ⟨#[]⟩ s p)) (.slice none 0 0) (.slice none 0 0) (.slice none 0 0) (.slice none 0 0))
      have R4 := Lib.hid ((far6 (X := w6) (b := w1.heap.size) (.int .i64 1) (.string (ovT ⟨#[]⟩ s p)) (.slice none 0 0) (.slice none 0 0) (.slice none 0 0) (.slice none 0 0) (show w.heap.size ≠ w1.heap.size by omega)).trans RX.out)
      have T4 := Lib.hid (TU.out ((((((w6.setCell ⟨w1.heap.size, 1, none⟩ (.int .i64 1)).setCell ⟨w1.heap.size, 2, none⟩ (.string (ovT ⟨#[]⟩ s p))).setCell ⟨w1.heap.size, 3, none⟩ (.slice none 0 0)).setCell ⟨w1.heap.size, 4, none⟩ (.slice none 0 0)).setCell ⟨w1.heap.size, 5, none⟩ (.slice none 0 0)).setCell ⟨w1.heap.size, 6, none⟩ (.slice none 0 0)) B4.out)
      have hjw := lt_blk HJ.out
      have IN := Lib.hid (fun X => Int75 (nn : Int) X)
      go_wp2_with (first | (go_at_call 77; (with_reducible refine (T4.out).mono ?_); rintro e w8 ⟨rfl, ⟨A', n', c', hJ5, hE5⟩, hK5⟩; have HJ5 := Lib.hid hJ5; have HE5 := Lib.hid hE5; have HK5 := Lib.hid hK5; have R5 := Lib.hid ((hK5.block w.heap.size (lt_blk R4.out) (by omega)).trans R4.out); clear hJ5 hE5 hK5) | (go_at_call 75; (with_reducible refine (IN.out _).mono ?_); rintro e w9 ⟨rfl, h6⟩; have B6 := Lib.hid h6; obtain ⟨⟨c0, c1, c2, c3⟩, ⟨f0, f1, f2, f3⟩⟩ := cells4 (blk_below R5.out h6); clear h6))
      obtain ⟨hJ6, hE6, hK6⟩ := eff_after HJ5.out HE5.out HK5.out B6.out
      exact bodyPost_ret (v := .agg #[.int .i64 3, .int .i64 (nn : Int), .string ⟨#[]⟩, .slice none 0 0]) (by simp [results, Tryz.results42, go_sem, c0, c1, c2, c3]) rfl (eff_end hjw (Nat.le_refl _) (lt_blk R4.out) B4.out hJ6 hE6 hK6 _ _ _ _)
end Go.Proofs.YtaomiglmahklfaaGreatDoor
