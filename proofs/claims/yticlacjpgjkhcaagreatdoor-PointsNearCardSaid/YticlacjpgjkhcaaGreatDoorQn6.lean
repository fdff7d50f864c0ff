/- Texts joined: St23, St18 -/
import Derived.Test.YticlacjpgjkhcaaGreatDoorQn5
import Derived.Defers
import Derived.Recover
import Derived.Laws.Pointers
import Derived.StillTailTactics
import Derived.Deep.RegionHeld3
import Derived.Deep.RegionHeldLaw
import Derived.RegionTactic

/- What a command that is refused becomes: the deferred closure. -/
namespace Go.Proofs.YticlacjpgjkhcaaGreatDoor
open Go.ChangeShapes Go.WideShapes Go.ChangeAt Go.RowKit

set_option maxRecDepth 100000 in
set_option maxHeartbeats 1000000 in
theorem catch_idle (p8 p9 p10 : Addr) (w : World) :
    CallsD Tryz.prog 97 #[.pointer (some p8), .pointer (some p9), .pointer (some p10)] .returning w fun e u' w' => e = .returned (.tuple #[]) ∧ u' = .returning ∧ Below w.heap.size w w' := by
  have hT : ∀ w, (Instr.typeAssert .nilIface 20 103 true).run Tryz.prog w = .ok (.tuple #[.agg #[.int .i64 0], .bool false]) w := fun w => by kernel_rfl
  refine callsD_of_wpS Tryz.func97 rfl fun c₀ cs hu => ?_
  change Code.wpS _ _ _ { tmps := #[.pointer (some p8), .pointer (some p9), .pointer (some p10), undef, undef, undef, undef, undef, undef, undef, undef, undef, undef, undef], defers := [] } _ _
  apply wpS_seq
  apply wpS_region
  simp [wpOpsS, go_sem, recoverD, hu, Exit.thenS, hT]
  refine wpS_of_wp ?_
  go_wp2
  refine ⟨rfl, .returning, ?_, _, results_none rfl _ _ _, rfl, rfl, alloc_old⟩
  rw [← hu]
theorem cells4 {X : World} {b : Nat} {a0 a1 a2 a3 : Value} {t : TypeId} (h : X.heap[b]? = some (.cells #[a0, a1, a2, a3] t)) :
    (X.cell? ⟨b, 0, none⟩ = some a0 ∧ X.cell? ⟨b, 1, none⟩ = some a1 ∧ X.cell? ⟨b, 2, none⟩ = some a2 ∧ X.cell? ⟨b, 3, none⟩ = some a3) ∧
    (X.frozen? ⟨b, 0, none⟩ = false ∧ X.frozen? ⟨b, 1, none⟩ = false ∧ X.frozen? ⟨b, 2, none⟩ = false ∧ X.frozen? ⟨b, 3, none⟩ = false) := by
  refine ⟨⟨?_, ?_, ?_, ?_⟩, ⟨?_, ?_, ?_, ?_⟩⟩ <;> simp [World.cell?, World.frozen?, h]
theorem set4 {X : World} {b : Nat} {a0 a1 a2 a3 : Value} {t : TypeId} (h : X.heap[b]? = some (.cells #[a0, a1, a2, a3] t)) (v0 v1 v2 v3 : Value) : ((((X.setCell ⟨b, 0, none⟩ v0).setCell ⟨b, 1, none⟩ v1).setCell ⟨b, 2, none⟩ v2).setCell ⟨b, 3, none⟩ v3).heap[b]? = some (.cells #[v0, v1, v2, v3] t) := by
  simp [World.setCell, Array.getElem?_modify, h]
theorem far4 {X : World} {b i : Nat} (v0 v1 v2 v3 : Value) (hi : i ≠ b) : ((((X.setCell ⟨b, 0, none⟩ v0).setCell ⟨b, 1, none⟩ v1).setCell ⟨b, 2, none⟩ v2).setCell ⟨b, 3, none⟩ v3).heap[i]? = X.heap[i]? :=
  (Below.heap_setCell _ ⟨b, 3, none⟩ _ _ hi).trans ((Below.heap_setCell _ ⟨b, 2, none⟩ _ _ hi).trans ((Below.heap_setCell _ ⟨b, 1, none⟩ _ _ hi).trans (Below.heap_setCell _ ⟨b, 0, none⟩ _ _ hi)))
theorem set1 {X : World} {b : Nat} {a0 : Value} {t : TypeId} (h : X.heap[b]? = some (.cells #[a0] t)) (v0 : Value) : (X.setCell ⟨b, 0, none⟩ v0).heap[b]? = some (.cells #[v0] t) := by
  simp [World.setCell, Array.getElem?_modify, h]
theorem cells1 {X : World} {b : Nat} {a0 : Value} {t : TypeId} (h : X.heap[b]? = some (.cells #[a0] t)) : X.cell? ⟨b, 0, none⟩ = some a0 ∧ X.frozen? ⟨b, 0, none⟩ = false := by
  refine ⟨?_, ?_⟩ <;> simp [World.cell?, World.frozen?, h]
set_option maxRecDepth 100000 in
set_option maxHeartbeats 1000000 in
theorem catch_fail (b8 b9 b10 : Nat) (hd : b8 ≠ b9 ∧ b8 ≠ b10 ∧ b9 ≠ b10) (c0 c1 c2 c3 c4 c5 : Value) (n : Int) (older : List PanicEntry) (w : World) (h8 : w.heap[b8]? = some (.cells #[c0, c1, c2, c3] 29)) (h9 : w.heap[b9]? = some (.cells #[c4] 59)) (h10 : w.heap[b10]? = some (.cells #[c5] 4)) :
    CallsD Tryz.prog 97 #[.pointer (some ⟨b8, 0, none⟩), .pointer (some ⟨b9, 0, none⟩), .pointer (some ⟨b10, 0, none⟩)] (.panicking ({ v := .iface 103 (.agg #[.int .i64 n]), recovered := false } :: older)) w fun e u' w' => e = .returned (.tuple #[]) ∧ u' = .panicking ({ v := .iface 103 (.agg #[.int .i64 n]), recovered := true } :: older) ∧ w'.heap[b8]? = some (.cells #[.int .i64 2, .int .i64 n, .string ⟨#[]⟩, .slice none 0 0] 29) ∧ w'.heap[b9]? = some (.cells #[.slice none 0 0] 59) ∧ w'.heap[b10]? = some (.cells #[.bool true] 4) ∧ Kp w.heap.size (fun i => i ≠ b8 ∧ i ≠ b9 ∧ i ≠ b10) w w' := by
  have hT : ∀ w, (Instr.typeAssert (.iface 103 (.agg #[.int .i64 n])) 20 103 true).run Tryz.prog w = .ok (.tuple #[.agg #[.int .i64 n], .bool true]) w := fun w => by kernel_rfl
  have H8 := Lib.hid h8
  have H9 := Lib.hid h9
  have H10 := Lib.hid h10
  clear h8 h9 h10
  obtain ⟨hd1, hd2, hd3⟩ := hd
  refine callsD_of_wpS Tryz.func97 rfl fun c₀ cs hu => ?_
  change Code.wpS _ _ _ { tmps := #[.pointer (some ⟨b8, 0, none⟩), .pointer (some ⟨b9, 0, none⟩), .pointer (some ⟨b10, 0, none⟩), undef, undef, undef, undef, undef, undef, undef, undef, undef, undef, undef], defers := [] } _ _
  apply wpS_seq
  apply wpS_region
  simp [wpOpsS, go_sem, recoverD, hu, Exit.thenS, hT]
  refine wpS_of_wp ?_
  have Er := Lib.hid (fun w => Err64 n w)
  have hx0 : (w.alloc (.cells #[.int .i64 n] 103)).cell? ⟨w.heap.size, 0, none⟩ = some (.int .i64 n) := by simp
  have AO := Lib.hid (alloc_old (w := w) (o := .cells #[.int .i64 n] 103))
  go_wp2_with (first | (go_at_call 98; (with_reducible refine (Er.out _).mono ?_); rintro e w1 ⟨rfl, h1⟩; have B1 := Lib.hid (AO.out.trans (h1.mono (Below.size AO.out))); clear h1; have k8 := cells4 (blk_below H8.out B1.out); have k9 := cells1 (blk_below H9.out B1.out); have k10 := cells1 (blk_below H10.out B1.out); obtain ⟨⟨a0, a1, a2, a3⟩, ⟨f0, f1, f2, f3⟩⟩ := k8; obtain ⟨g0, g1⟩ := k9; obtain ⟨l0, l1⟩ := k10))
  refine ⟨rfl, _, rfl, _, results_none rfl _ _ _, rfl, rfl, ?_, ?_, ?_, ?_⟩
  · exact (Below.heap_setCell _ ⟨b10, 0, none⟩ _ _ hd2).trans ((Below.heap_setCell _ ⟨b9, 0, none⟩ _ _ hd1).trans (set4 (blk_below H8.out B1.out) _ _ _ _))
  · exact (Below.heap_setCell _ ⟨b10, 0, none⟩ _ _ hd3).trans (set1 ((far4 _ _ _ _ (Ne.symm hd1)).trans (blk_below H9.out B1.out)) _)
  · exact set1 ((Below.heap_setCell _ ⟨b9, 0, none⟩ _ _ (Ne.symm hd3)).trans ((far4 _ _ _ _ (Ne.symm hd2)).trans (blk_below H10.out B1.out))) _
  · exact ((((((Kp.of B1.out).setCell (p := ⟨b8, 0, none⟩) (by simp) _).setCell (p := ⟨b8, 1, none⟩) (by simp) _).setCell (p := ⟨b8, 2, none⟩) (by simp) _).setCell (p := ⟨b8, 3, none⟩) (by simp) _).setCell (p := ⟨b9, 0, none⟩) (by simp) _).setCell (p := ⟨b10, 0, none⟩) (by simp) _
end Go.Proofs.YticlacjpgjkhcaaGreatDoor

/- The space: an entry is put. -/
namespace Go.Proofs.YticlacjpgjkhcaaGreatDoor
open Go.ChangeShapes Go.WideShapes Go.ChangeAt Go.RowKit

theorem lt_blk {X : World} {b : Nat} {o : Obj} (h : X.heap[b]? = some o) : b < X.heap.size := (Array.getElem?_eq_some_iff.1 h).1
theorem grown_block {X Y : World} {m i : Nat} (h : X.grownBy Y (some m)) (hi : i < X.heap.size) (hn : i ≠ m) : Y.heap[i]? = X.heap[i]? := h.block i hi (fun e => hn (Option.some.inj e))
theorem mem53 {X : World} {b : Nat} {a c : Value} (h : X.heap[b]? = some (.cells #[a, c] 57)) : X.cell? ⟨b, 1, none⟩ = some c ∧ X.frozen? ⟨b, 1, none⟩ = false := by
  constructor <;> simp [World.cell?, World.frozen?, h]
theorem cell53 {X : World} {b : Nat} {a c : Value} (h : X.heap[b]? = some (.cells #[a, c] 57)) : X.cell? ⟨b, 0, none⟩ = some a := by simp [World.cell?, h]
theorem set53 {X : World} {b : Nat} {a c : Value} (h : X.heap[b]? = some (.cells #[a, c] 57)) (v : Value) : (X.setCell ⟨b, 1, none⟩ v).heap[b]? = some (.cells #[a, v] 57) := by simp [World.setCell, Array.getElem?_modify, h]
/-- What a space says of its memory. -/
def memI (b : Nat) (X : World) : Int := match X.cell? ⟨b, 1, none⟩ with
  | some (.int _ m) => m
  | _ => 0
theorem memI_is {X : World} {b : Nat} {a : Value} {m : Int} (h : X.heap[b]? = some (.cells #[a, .int .i64 m] 57)) : X.cell? ⟨b, 1, none⟩ = some (.int .i64 (memI b X)) := by
  unfold memI
  rw [(mem53 h).1]
theorem hMB_all (w1 : World) (bM : Nat) (l : MapT.Ents) (k : ByteArray) (r : Value) (h : MapT.MB w1 bM l) (hr : (Value.tuple #[(MapT.find k l).getD (.agg #[.string ⟨#[]⟩, .int .i64 0, .string ⟨#[]⟩, .slice none 0 0, .slice none 0 0, .slice none 0 0, .slice none 0 0, .int .i64 0]), .bool (MapT.find k l).isSome]) = r) (X : World) (hb : Below w1.heap.size w1 X) : (Instr.lookup 55 (.map (some bM)) (.string k) true).run Tryz.prog X = .ok r X := by
  have := MapT.run_lookup (ok := true) Tryz.underlying55 Tryz.underlying9 (h.below hb) k (z := .agg #[.string ⟨#[]⟩, .int .i64 0, .string ⟨#[]⟩, .slice none 0 0, .slice none 0 0, .slice none 0 0, .slice none 0 0, .int .i64 0]) (zero33 X)
  rw [this, ← hr]
  rfl

set_option maxRecDepth 100000 in
set_option maxHeartbeats 8000000 in
theorem Put10_new (bS bM : Nat) (l : MapT.Ents) (k t : ByteArray) (hk1 : 1 ≤ k.size) (hk : k.size ≤ 512) (ht : t.size ≤ 4096) (u : Int) (hu0 : 0 ≤ u) (hu1 : u ≤ 1125899906842624) (w : World) (h : SP w bS bM l) (hf : MapT.find k l = none) (hlen : l.length < 4096) : Calls Tryz.prog 29 #[.pointer (some ⟨bS, 0, none⟩), .agg #[.string k, .int .i64 1, .string t, .slice none 0 0, .slice none 0 0, .slice none 0 0, .slice none 0 0, .int .i64 u]] w fun e w' => e = .returned (.int .i64 0) ∧ SP w' bS bM (MapT.put k (.agg #[.string k, .int .i64 1, .string t, .slice none 0 0, .slice none 0 0, .slice none 0 0, .slice none 0 0, .int .i64 u]) l) ∧ Kp w.heap.size (fun i => i ≠ bS ∧ i ≠ bM) w w' := by
  have MY := Lib.hid (fun w => May15 k t hk1 hk ht u hu0 hu1 w)
  have CL := Lib.hid (fun w => clone17 k 1 t u w)
  have SZ := Lib.hid (fun w => size16 k t (by omega) (by omega) u w)
  have hlt := Lib.hid h.lt
  have hneP := Lib.hid (show bS ≠ w.heap.size from by have := h.lt; omega)
  have hl1 := hlen
  obtain ⟨⟨mem, hmem⟩, hMB, hne⟩ := h
  have hp := Lib.hid (heap_alloc_new w (.cells #[.string k, .int .i64 1, .string t, .slice none 0 0, .slice none 0 0, .slice none 0 0, .slice none 0 0, .int .i64 u] 66))
  have hS1 := Lib.hid (blk_below hmem (alloc_old (o := .cells #[.string k, .int .i64 1, .string t, .slice none 0 0, .slice none 0 0, .slice none 0 0, .slice none 0 0, .int .i64 u] 66)))
  have hM1 := Lib.hid (hMB.below (alloc_old (o := .cells #[.string k, .int .i64 1, .string t, .slice none 0 0, .slice none 0 0, .slice none 0 0, .slice none 0 0, .int .i64 u] 66)))
  have hr : (Value.tuple #[(MapT.find k l).getD (.agg #[.string ⟨#[]⟩, .int .i64 0, .string ⟨#[]⟩, .slice none 0 0, .slice none 0 0, .slice none 0 0, .slice none 0 0, .int .i64 0]), .bool (MapT.find k l).isSome]) = .tuple #[.agg #[.string ⟨#[]⟩, .int .i64 0, .string ⟨#[]⟩, .slice none 0 0, .slice none 0 0, .slice none 0 0, .slice none 0 0, .int .i64 0], .bool false] := by rw [hf]; rfl
  have HR := Lib.hid hr
  clear hmem hMB hf hr
  go_enter Tryz.func29, Tryz.ntmps29
  go_wp2_with (first | (go_at_call 51; (with_reducible refine (MY.out _).mono ?_); rintro e w1 ⟨rfl, h1⟩; have B1 := Lib.hid h1; clear h1))
  have hS2 := blk_below hS1.out B1.out
  have hp2 := blk_below hp.out B1.out
  have hM2 := hM1.out.below B1.out
  obtain ⟨⟨p0, p1, p2, p3, p4, p5, p6, p7⟩, ⟨pf0, pf1, pf2, pf3, pf4, pf5, pf6, pf7⟩, pz⟩ := cells8 hp2
  have s0 : w1.cell? ⟨bS, 0, none⟩ = some (.map (some bM)) := by simp [World.cell?, hS2]
  have hmk := (hMB_all w1 bM l k _ hM2 HR.out)
  have L1 := hmk w1.drew (Below.refl w1.heap.size w1).drew
  have L2 := hmk (w1.alloc (.cells #[.string ⟨#[]⟩, .int .i64 0, .string ⟨#[]⟩, .slice none 0 0, .slice none 0 0, .slice none 0 0, .slice none 0 0, .int .i64 0] 66)).drew (alloc_old).drew
  have sz := (Array.getElem?_eq_some_iff.1 hS2).1
  have hpz : w.heap.size < w1.heap.size := pz
  have KH := Lib.hid (show ∀ X, Below w1.heap.size w1 X → (X.cell? ⟨bS, 0, none⟩ = some (.map (some bM)) ∧ X.cell? ⟨w.heap.size, 0, none⟩ = some (.string k)) from fun X hb => ⟨(hb.cell (p := ⟨bS, 0, none⟩) sz).trans s0, (hb.cell (p := ⟨w.heap.size, 0, none⟩) hpz).trans p0⟩)
  have K0 := Lib.hid (KH.out w1.drew (Below.refl w1.heap.size w1).drew)
  have K1 := Lib.hid (KH.out (w1.alloc (.cells #[.string ⟨#[]⟩, .int .i64 0, .string ⟨#[]⟩, .slice none 0 0, .slice none 0 0, .slice none 0 0, .slice none 0 0, .int .i64 0] 66)).drew (alloc_old).drew)
  have K2 := Lib.hid (KH.out (w1.alloc (.cells #[.string ⟨#[]⟩, .int .i64 0, .string ⟨#[]⟩, .slice none 0 0, .slice none 0 0, .slice none 0 0, .slice none 0 0, .int .i64 0] 66)).drew (alloc_old).drew)
  clear hmk hM2 hS2 hp2
  go_region_held3 (fun X => X.cell? ⟨bS, 0, none⟩ = some (.map (some bM)) ∧ X.cell? ⟨w.heap.size, 0, none⟩ = some (.string k)) (first | (with_reducible exact K0.out) | (with_reducible exact K1.out) | (with_reducible exact K2.out)) (first | skip)
  all_goals (
    change Exit.then _ _ _ _ (w1.alloc (.cells #[.string ⟨#[]⟩, .int .i64 0, .string ⟨#[]⟩, .slice none 0 0, .slice none 0 0, .slice none 0 0, .slice none 0 0, .int .i64 0] 66)).drew
    have w2b := Lib.hid (show Below w1.heap.size w1 (w1.alloc (.cells #[.string ⟨#[]⟩, .int .i64 0, .string ⟨#[]⟩, .slice none 0 0, .slice none 0 0, .slice none 0 0, .slice none 0 0, .int .i64 0] 66)).drew from alloc_old.drew)
    have w2n := Lib.hid (show (w1.alloc (.cells #[.string ⟨#[]⟩, .int .i64 0, .string ⟨#[]⟩, .slice none 0 0, .slice none 0 0, .slice none 0 0, .slice none 0 0, .int .i64 0] 66)).drew.heap[w1.heap.size]? = some (.cells #[.string ⟨#[]⟩, .int .i64 0, .string ⟨#[]⟩, .slice none 0 0, .slice none 0 0, .slice none 0 0, .slice none 0 0, .int .i64 0] 66) from heap_alloc_new w1 _)
    generalize (w1.alloc (.cells #[.string ⟨#[]⟩, .int .i64 0, .string ⟨#[]⟩, .slice none 0 0, .slice none 0 0, .slice none 0 0, .slice none 0 0, .int .i64 0] 66)).drew = w2 at w2b w2n ⊢
    clear L1 L2 K0 K1 K2 KH s0
    have BW := Lib.hid (show Below w.heap.size w w2 from (alloc_old.trans (B1.out.mono (by simp))).trans (w2b.out.mono (by omega)))
    have Q2 := Lib.hid (show Kp w.heap.size (fun i => i ≠ bS ∧ i ≠ bM) w w2 from .of BW.out)
    have S2 := Lib.hid (blk_below hS1.out (B1.out.trans (w2b.out.mono (Below.size B1.out))))
    have P2 := Lib.hid (blk_below hp.out (B1.out.trans (w2b.out.mono (Below.size B1.out))))
    have M2 := Lib.hid (hM1.out.below (B1.out.trans (w2b.out.mono (Below.size B1.out))))
    have hne1 := Lib.hid (show bS ≠ w1.heap.size from by omega)
    clear hS1 hM1 hp w2b p0 p1 p2 p3 p4 p5 p6 p7 pf0 pf1 pf2 pf3 pf4 pf5 pf6 pf7
    have cM2 := cell53 S2.out
    have LN := MapT.run_len Tryz.underlying55 M2.out
    have il : ¬ (4096 : Int) ≤ (l.length : Int) := by omega
    go_wp2
    have KQ := Lib.hid (show ∀ X, Below w2.heap.size w2 X → (X.cell? ⟨bS, 0, none⟩ = some (.map (some bM)) ∧ X.cell? ⟨w.heap.size, 0, none⟩ = some (.string k) ∧ X.cell? ⟨w.heap.size, 1, none⟩ = some (.int .i64 1) ∧ X.cell? ⟨w.heap.size, 2, none⟩ = some (.string t) ∧ X.cell? ⟨w.heap.size, 3, none⟩ = some (.slice none 0 0) ∧ X.cell? ⟨w.heap.size, 4, none⟩ = some (.slice none 0 0) ∧ X.cell? ⟨w.heap.size, 5, none⟩ = some (.slice none 0 0) ∧ X.cell? ⟨w.heap.size, 6, none⟩ = some (.slice none 0 0) ∧ X.cell? ⟨w.heap.size, 7, none⟩ = some (.int .i64 u)) from fun X hb => ⟨cell53 (blk_below S2.out hb), (cells8 (blk_below P2.out hb)).1⟩)
    have KU := Lib.hid (show ∀ X Y, X.grownBy Y (some bM) → Below w2.heap.size w2 X → (Y.cell? ⟨bS, 0, none⟩ = some (.map (some bM)) ∧ Y.cell? ⟨w.heap.size, 0, none⟩ = some (.string k) ∧ Y.cell? ⟨w.heap.size, 1, none⟩ = some (.int .i64 1) ∧ Y.cell? ⟨w.heap.size, 2, none⟩ = some (.string t) ∧ Y.cell? ⟨w.heap.size, 3, none⟩ = some (.slice none 0 0) ∧ Y.cell? ⟨w.heap.size, 4, none⟩ = some (.slice none 0 0) ∧ Y.cell? ⟨w.heap.size, 5, none⟩ = some (.slice none 0 0) ∧ Y.cell? ⟨w.heap.size, 6, none⟩ = some (.slice none 0 0) ∧ Y.cell? ⟨w.heap.size, 7, none⟩ = some (.int .i64 u)) from fun X Y hg hb => ⟨cell53 ((grown_block hg (lt_blk (blk_below S2.out hb)) hne).trans (blk_below S2.out hb)), (cells8 ((grown_block hg (lt_blk (blk_below P2.out hb)) (by have := hlt.out; omega)).trans (blk_below P2.out hb))).1⟩)
    have Z8 := Lib.hid (CL.out w2.drew)
    have K8 := Lib.hid (KQ.out w2.drew (Below.refl _ _).drew)
    go_region_held3 (fun X => X.cell? ⟨bS, 0, none⟩ = some (.map (some bM)) ∧ X.cell? ⟨w.heap.size, 0, none⟩ = some (.string k) ∧ X.cell? ⟨w.heap.size, 1, none⟩ = some (.int .i64 1) ∧ X.cell? ⟨w.heap.size, 2, none⟩ = some (.string t) ∧ X.cell? ⟨w.heap.size, 3, none⟩ = some (.slice none 0 0) ∧ X.cell? ⟨w.heap.size, 4, none⟩ = some (.slice none 0 0) ∧ X.cell? ⟨w.heap.size, 5, none⟩ = some (.slice none 0 0) ∧ X.cell? ⟨w.heap.size, 6, none⟩ = some (.slice none 0 0) ∧ X.cell? ⟨w.heap.size, 7, none⟩ = some (.int .i64 u)) (first | (with_reducible exact K8.out) | (with_reducible exact KU.out _ _ (by assumption) (by assumption)) | (with_reducible exact KQ.out _ (by assumption))) (first | (go_at_call 34; (with_reducible refine (Z8.out).mono ?_); rintro e w5 ⟨rfl, h5⟩; have B5 : Below w2.heap.size w2 w5 := belT (Below.refl w2.heap.size w2).drew h5; clear h5; obtain ⟨w6, hrun, r1, r2, r3⟩ := MapT.run_update Tryz.underlying55 Tryz.underlying9 (M2.out.below B5) k (.agg #[.string k, .int .i64 1, .string t, .slice none 0 0, .slice none 0 0, .slice none 0 0, .slice none 0 0, .int .i64 u])))
    all_goals (
      have S6 := Lib.hid ((grown_block r2 (lt_blk (blk_below S2.out B5)) hne).trans (blk_below S2.out B5))
      have P6 := Lib.hid ((grown_block r2 (lt_blk (blk_below P2.out B5)) (show w.heap.size ≠ bM by have := hlt.out; omega)).trans (blk_below P2.out B5))
      have M6 := Lib.hid r1
      have Q6 := Lib.hid ((Q2.out.trans (.of (B5.mono Q2.out.size))).grown r2 (Nat.le_trans Q2.out.size (Below.size B5)) (fun k hk _ hS => hS.2 (Option.some.inj hk).symm))
      clear KQ KU Z8 K8 B5 hrun r1 r2 r3
      go_wp2
      obtain ⟨cm6, cf6⟩ := mem53 S6.out
      obtain ⟨⟨g0, g1, g2, g3, g4, g5, g6, g7⟩, _, gz⟩ := cells8 P6.out
      have Z7 := Lib.hid (SZ.out w6.drew)
      go_region_with ((go_at_call 50; (with_reducible refine (Z7.out).mono ?_); rintro e w7 ⟨rfl, h5⟩; have B7 : Below w6.heap.size w6 w7 := belT (Below.refl w6.heap.size w6).drew h5; clear h5; obtain ⟨cm7, cf7⟩ := mem53 (blk_below S6.out B7)))
      all_goals (
        change Exit.then _ _ _ _ (w7.setCell ⟨bS, 1, none⟩ (.int .i64 (IntKind.i64.wrap (mem + (48 + (k.size : Int) + t.size)))))
        have S8 := Lib.hid (set53 (blk_below S6.out B7) (.int .i64 (IntKind.i64.wrap (mem + (48 + (k.size : Int) + t.size)))))
        have P8 := Lib.hid ((Below.heap_setCell w7 ⟨bS, 1, none⟩ (.int .i64 (IntKind.i64.wrap (mem + (48 + (k.size : Int) + t.size)))) w.heap.size (by have := hlt.out; show w.heap.size ≠ bS; omega)).trans (blk_below P6.out B7))
        have M8 := Lib.hid ((M6.out.below B7).kept (Below.heap_setCell w7 ⟨bS, 1, none⟩ (.int .i64 (IntKind.i64.wrap (mem + (48 + (k.size : Int) + t.size)))) bM (Ne.symm hne)))
        have Q8 := Lib.hid (((Q6.out.trans (.of (B7.mono Q6.out.size))).setCell (p := ⟨bS, 1, none⟩) (by simp) (.int .i64 (IntKind.i64.wrap (mem + (48 + (k.size : Int) + t.size))))))
        clear cm6 cf6 cm7 cf7 g0 g1 g2 g3 g4 g5 g6 g7 gz Z7 B7
        generalize w7.setCell ⟨bS, 1, none⟩ (.int .i64 (IntKind.i64.wrap (mem + (48 + (k.size : Int) + t.size)))) = w8 at S8 P8 M8 Q8 ⊢
        go_wp2
        go_ret
        exact ⟨by simp, ⟨⟨_, S8.out⟩, M8.out, hne⟩, Q8.out⟩)))
end Go.Proofs.YticlacjpgjkhcaaGreatDoor
