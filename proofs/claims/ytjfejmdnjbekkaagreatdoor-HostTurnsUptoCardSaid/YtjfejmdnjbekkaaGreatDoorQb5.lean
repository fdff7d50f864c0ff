/- Texts joined: St17, St18, HL -/
import Derived.Test.YtjfejmdnjbekkaaGreatDoorQb4
import Derived.Laws.AppendOwn
import Derived.Laws.OwnMore
import Derived.StillTailTactics
import Derived.Deep.RegionHeld3
import Derived.Deep.RegionHeldLaw
import Derived.RegionTactic
set_option linter.unusedVariables false
set_option linter.unusedSimpArgs false

/- What a call keeps: all blocks below a number that a set holds; effects in memory. -/
namespace Go.Proofs.YtjfejmdnjbekkaaGreatDoor
open Go.ChangeShapes Go.WideShapes Go.ChangeAt Go.RowKit

/-- Of the blocks below c nothing has turned but those that S leaves out. -/
structure Kp (c : Nat) (S : Nat → Prop) (w w' : World) : Prop where
  os : w'.os = w.os
  tape : w'.tape = w.tape
  output : w'.output = w.output
  size : w.heap.size ≤ w'.heap.size
  block : ∀ k, k < c → S k → w'.heap[k]? = w.heap[k]?
theorem Kp.refl (c : Nat) (S : Nat → Prop) (w : World) : Kp c S w w := ⟨rfl, rfl, rfl, Nat.le_refl _, fun _ _ _ => rfl⟩
theorem Kp.trans {c : Nat} {S : Nat → Prop} {x y z : World} (h : Kp c S x y) (k : Kp c S y z) : Kp c S x z :=
  ⟨k.os.trans h.os, k.tape.trans h.tape, k.output.trans h.output, Nat.le_trans h.size k.size, fun i hi hb => (k.block i hi hb).trans (h.block i hi hb)⟩
theorem Kp.of {c : Nat} {S : Nat → Prop} {w w' : World} (h : Below c w w') : Kp c S w w' := ⟨h.os, h.tape, h.output, h.size, fun i hi _ => h.block i hi⟩
theorem Kp.below {c n : Nat} {S : Nat → Prop} {w w' : World} (h : Kp c S w w') (hn : ∀ k, k < n → k < c ∧ S k) : Below n w w' := ⟨h.os, h.tape, h.output, h.size, fun i hi => h.block i (hn i hi).1 (hn i hi).2⟩
theorem Kp.mono {c d : Nat} {S T : Nat → Prop} {w w' : World} (h : Kp c S w w') (hd : d ≤ c) (hS : ∀ k, T k → S k) : Kp d T w w' := ⟨h.os, h.tape, h.output, h.size, fun i hi hb => h.block i (by omega) (hS i hb)⟩
theorem Kp.below_after {c n : Nat} {S : Nat → Prop} {w w' w'' : World} (h : Kp c S w w') (k : Below n w' w'') (hn : c ≤ n) : Kp c S w w'' := h.trans (.of (k.mono hn))
theorem Kp.setCell {c : Nat} {S : Nat → Prop} {w w' : World} (h : Kp c S w w') {p : Addr} (hp : ¬ (p.block < c ∧ S p.block)) (v : Value) : Kp c S w (w'.setCell p v) :=
  h.trans ⟨rfl, rfl, rfl, by simp [World.setCell], fun k hk hS => Below.heap_setCell _ _ _ _ (fun e => hp ⟨by omega, by rw [← e]; exact hS⟩)⟩
theorem Kp.alloc {c : Nat} {S : Nat → Prop} {w w' : World} (h : Kp c S w w') (hc : c ≤ w'.heap.size) (o : Obj) : Kp c S w (w'.alloc o) :=
  h.trans ⟨rfl, rfl, rfl, by simp, fun k hk _ => Below.heap_alloc _ _ _ (by omega)⟩
theorem Kp.drew {c : Nat} {S : Nat → Prop} {w w' : World} (h : Kp c S w w') : Kp c S w w'.drew := ⟨h.os, h.tape, h.output, h.size, h.block⟩
theorem Kp.grown {c : Nat} {S : Nat → Prop} {a w w' : World} {row : Option Nat} (h : Kp c S a w) (hg : w.grownBy w' row) (hB : c ≤ w.heap.size) (hr : ∀ k, row = some k → k < c → ¬ S k) : Kp c S a w' :=
  h.trans ⟨hg.os, hg.tape, hg.output, hg.size, fun k hk hS => hg.block k (by omega) (fun e => hr k e.symm hk hS)⟩
theorem Kp.cell {c : Nat} {S : Nat → Prop} {w w' : World} (h : Kp c S w w') {p : Addr} (hp : p.block < c) (hn : S p.block) : w'.cell? p = w.cell? p := World.cell?_of_block (h.block p.block hp hn)
theorem SP.kept {w w' : World} {bS bM : Nat} {l : MapT.Ents} (h : SP w bS bM l) (h1 : w'.heap[bS]? = w.heap[bS]?) (h2 : w'.heap[bM]? = w.heap[bM]?) : SP w' bS bM l := by
  obtain ⟨⟨mem, g1⟩, g2, g3⟩ := h
  exact ⟨⟨mem, h1.trans g1⟩, g2.kept h2, g3⟩
theorem SP.lt {w : World} {bS bM : Nat} {l : MapT.Ents} (h : SP w bS bM l) : bS < w.heap.size ∧ bM < w.heap.size := ⟨h.cell.2, h.2.1.lt⟩
theorem JB.kept {w w' : World} {j bS : Nat} {now : Int} {vA vl : Value} (h : JB w j bS now vA vl) (h1 : w'.heap[j]? = w.heap[j]?) : JB w' j bS now vA vl := h1.trans h
/-- An entry of a text. -/
abbrev entV (k : ByteArray) (kd : Int) (t : ByteArray) (u : Int) : Value := .agg #[.string k, .int .i64 kd, .string t, .slice none 0 0, .slice none 0 0, .slice none 0 0, .slice none 0 0, .int .i64 u]
/-- An entry as it is told: key, kind, text, end. -/
structure Ent where
  k : ByteArray
  kd : Int
  t : ByteArray
  u : Int
def Ent.cells (e : Ent) : List Value := [.string e.k, .int .i64 e.kd, .string e.t, .slice none 0 0, .slice none 0 0, .slice none 0 0, .slice none 0 0, .int .i64 e.u]
def Ent.val (e : Ent) : Value := entV e.k e.kd e.t e.u
/-- Effects in a row of the call's own. -/
def EF (w : World) (c : Nat) (v : Value) (es : List Ent) : Prop := w.ownsRow c 86 8 v es.length (es.flatMap Ent.cells)
theorem EF.nil (w : World) (c : Nat) : EF w c (.slice none 0 0) [] := World.ownsRow_nil w c 86 8
theorem EF.below {w w' : World} {c : Nat} {v : Value} {es : List Ent} (h : EF w c v es) (hb : Below w.heap.size w w') : EF w' c v es := by
  refine World.ownsRow.kept (row := none) h ⟨hb.os, hb.tape, hb.output, hb.size, fun k hk _ => hb.block k hk⟩ ?_
  cases v.ownBlock with
  | none => exact .inl rfl
  | some g => exact .inr (by simp)
theorem EF.kept {w w' : World} {c : Nat} {v : Value} {es : List Ent} (h : EF w c v es) (_hs : w.heap.size ≤ w'.heap.size) (hb : ∀ g, v.ownBlock = some g → w'.heap[g]? = w.heap[g]?) : EF w' c v es := by
  unfold EF World.ownsRow at h ⊢
  obtain ⟨h1, h2⟩ := h
  refine ⟨h1, ?_⟩
  rcases h2 with h2 | ⟨g, cap, cur, hv, hg, hh, r⟩
  · exact .inl h2
  · exact .inr ⟨g, cap, cur, hv, hg, by rw [hb g (by rw [hv]; rfl)]; exact hh, r⟩
theorem EF.mono {w : World} {c d : Nat} {v : Value} {es : List Ent} (h : EF w c v es) (hd : d ≤ c) : EF w d v es := by
  unfold EF World.ownsRow at h ⊢
  obtain ⟨h1, h2⟩ := h
  refine ⟨h1, ?_⟩
  rcases h2 with h2 | ⟨g, cap, cur, hv, hg, r⟩
  · exact .inl h2
  · exact .inr ⟨g, cap, cur, hv, by omega, r⟩
theorem len_cells (es : List Ent) : (es.flatMap Ent.cells).length = es.length * 8 := by
  induction es with
  | nil => rfl
  | cons e r ih => rw [List.flatMap_cons, List.length_append, ih, List.length_cons, show e.cells.length = 8 from rfl]; omega
/-- What effects do to what a space holds. -/
def applyE : List Ent → MapT.Ents → MapT.Ents
  | [], l => l
  | e :: r, l => applyE r (if e.kd = 0 then MapT.del e.k l else MapT.put e.k e.val l)
theorem find_put (k : ByteArray) (v : Value) (q : ByteArray) : ∀ l, MapT.find q (MapT.put k v l) = if k = q then some v else MapT.find q l := by
  intro l
  induction l with
  | nil => simp [MapT.put, MapT.find]
  | cons p r ih =>
    obtain ⟨x, u⟩ := p
    by_cases hx : x = k
    · subst hx
      by_cases hq : x = q
      · subst hq; simp [MapT.put, MapT.find]
      · simp [MapT.put, MapT.find, hq]
    · by_cases hq : x = q
      · subst hq
        have : ¬ k = x := fun e => hx e.symm
        simp [MapT.put, MapT.find, hx, this]
      · simp [MapT.put, MapT.find, hx, hq, ih]
theorem put_same (k : ByteArray) (v : Value) : ∀ l, MapT.find k l = some v → MapT.put k v l = l := by
  intro l h
  induction l with
  | nil => simp [MapT.find] at h
  | cons p r ih =>
    obtain ⟨x, u⟩ := p
    by_cases hx : x = k
    · subst hx
      simp [MapT.find] at h
      simp [MapT.put, h]
    · simp [MapT.find, hx] at h
      simp [MapT.put, hx, ih h]
theorem len_put (k : ByteArray) (v : Value) : ∀ l, (MapT.put k v l).length ≤ l.length + 1 := by
  intro l
  induction l with
  | nil => simp [MapT.put]
  | cons p r ih =>
    obtain ⟨x, u⟩ := p
    by_cases hx : x = k
    · simp [MapT.put, hx]
    · simp [MapT.put, hx]; omega
end Go.Proofs.YtjfejmdnjbekkaaGreatDoor

/- The space: an entry is put. -/
namespace Go.Proofs.YtjfejmdnjbekkaaGreatDoor
open Go.ChangeShapes Go.WideShapes Go.ChangeAt Go.RowKit

theorem lt_blk {X : World} {b : Nat} {o : Obj} (h : X.heap[b]? = some o) : b < X.heap.size := (Array.getElem?_eq_some_iff.1 h).1
theorem grown_block {X Y : World} {m i : Nat} (h : X.grownBy Y (some m)) (hi : i < X.heap.size) (hn : i ≠ m) : Y.heap[i]? = X.heap[i]? := h.block i hi (fun e => hn (Option.some.inj e))
theorem mem53 {X : World} {b : Nat} {a c : Value} (h : X.heap[b]? = some (.cells #[a, c] 57)) : X.cell? ⟨b, 1, none⟩ = some c ∧ X.frozen? ⟨b, 1, none⟩ = false := by
  constructor <;> simp [World.cell?, World.frozen?, h]
theorem cell53 {X : World} {b : Nat} {a c : Value} (h : X.heap[b]? = some (.cells #[a, c] 57)) : X.cell? ⟨b, 0, none⟩ = some a := by simp [World.cell?, h]
theorem set53 {X : World} {b : Nat} {a c : Value} (h : X.heap[b]? = some (.cells #[a, c] 57)) (v : Value) : (X.setCell ⟨b, 1, none⟩ v).heap[b]? = some (.cells #[a, v] 57) := by simp [World.setCell, Array.getElem?_modify, h]
/-- What a space says of its memory. -/
def memI (b : Nat) (X : World) : Int := match X.cell? ⟨b, 1, none⟩ with
  | some (.int _ m) => m
  | _ => 0
theorem memI_is {X : World} {b : Nat} {a : Value} {m : Int} (h : X.heap[b]? = some (.cells #[a, .int .i64 m] 57)) : X.cell? ⟨b, 1, none⟩ = some (.int .i64 (memI b X)) := by
  unfold memI
  rw [(mem53 h).1]
theorem hMB_all (w1 : World) (bM : Nat) (l : MapT.Ents) (k : ByteArray) (r : Value) (h : MapT.MB w1 bM l) (hr : (Value.tuple #[(MapT.find k l).getD (.agg #[.string ⟨#[]⟩, .int .i64 0, .string ⟨#[]⟩, .slice none 0 0, .slice none 0 0, .slice none 0 0, .slice none 0 0, .int .i64 0]), .bool (MapT.find k l).isSome]) = r) (X : World) (hb : Below w1.heap.size w1 X) : (Instr.lookup 55 (.map (some bM)) (.string k) true).run Tryz.prog X = .ok r X := by
  have := MapT.run_lookup (ok := true) Tryz.underlying55 Tryz.underlying9 (h.below hb) k (z := .agg #[.string ⟨#[]⟩, .int .i64 0, .string ⟨#[]⟩, .slice none 0 0, .slice none 0 0, .slice none 0 0, .slice none 0 0, .int .i64 0]) (zero33 X)
  rw [this, ← hr]
  rfl

set_option maxRecDepth 100000 in
set_option maxHeartbeats 8000000 in
theorem Put10_new (bS bM : Nat) (l : MapT.Ents) (k t : ByteArray) (hk1 : 1 ≤ k.size) (hk : k.size ≤ 512) (ht : t.size ≤ 4096) (u : Int) (hu0 : 0 ≤ u) (hu1 : u ≤ 1125899906842624) (w : World) (h : SP w bS bM l) (hf : MapT.find k l = none) (hlen : l.length < 4096) : Calls Tryz.prog 51 #[.pointer (some ⟨bS, 0, none⟩), .agg #[.string k, .int .i64 1, .string t, .slice none 0 0, .slice none 0 0, .slice none 0 0, .slice none 0 0, .int .i64 u]] w fun e w' => e = .returned (.int .i64 0) ∧ SP w' bS bM (MapT.put k (.agg #[.string k, .int .i64 1, .string t, .slice none 0 0, .slice none 0 0, .slice none 0 0, .slice none 0 0, .int .i64 u]) l) ∧ Kp w.heap.size (fun i => i ≠ bS ∧ i ≠ bM) w w' := by
  have MY := Lib.hid (fun w => May15 k t hk1 hk ht u hu0 hu1 w)
  have CL := Lib.hid (fun w => clone17 k 1 t u w)
  have SZ := Lib.hid (fun w => size16 k t (by omega) (by omega) u w)
  have hlt := Lib.hid h.lt
  have hneP := Lib.hid (show bS ≠ w.heap.size from by have := h.lt; omega)
  have hl1 := hlen
  obtain ⟨⟨mem, hmem⟩, hMB, hne⟩ := h
  have hp := Lib.hid (heap_alloc_new w (.cells #[.string k, .int .i64 1, .string t, .slice none 0 0, .slice none 0 0, .slice none 0 0, .slice none 0 0, .int .i64 u] 84))
  have hS1 := Lib.hid (blk_below hmem (alloc_old (o := .cells #[.string k, .int .i64 1, .string t, .slice none 0 0, .slice none 0 0, .slice none 0 0, .slice none 0 0, .int .i64 u] 84)))
  have hM1 := Lib.hid (hMB.below (alloc_old (o := .cells #[.string k, .int .i64 1, .string t, .slice none 0 0, .slice none 0 0, .slice none 0 0, .slice none 0 0, .int .i64 u] 84)))
  have hr : (Value.tuple #[(MapT.find k l).getD (.agg #[.string ⟨#[]⟩, .int .i64 0, .string ⟨#[]⟩, .slice none 0 0, .slice none 0 0, .slice none 0 0, .slice none 0 0, .int .i64 0]), .bool (MapT.find k l).isSome]) = .tuple #[.agg #[.string ⟨#[]⟩, .int .i64 0, .string ⟨#[]⟩, .slice none 0 0, .slice none 0 0, .slice none 0 0, .slice none 0 0, .int .i64 0], .bool false] := by rw [hf]; rfl
  have HR := Lib.hid hr
  clear hmem hMB hf hr
  go_enter Tryz.func51, Tryz.ntmps51
  go_wp2_with (first | (go_at_call 70; (with_reducible refine (MY.out _).mono ?_); rintro e w1 ⟨rfl, h1⟩; have B1 := Lib.hid h1; clear h1))
  have hS2 := blk_below hS1.out B1.out
  have hp2 := blk_below hp.out B1.out
  have hM2 := hM1.out.below B1.out
  obtain ⟨⟨p0, p1, p2, p3, p4, p5, p6, p7⟩, ⟨pf0, pf1, pf2, pf3, pf4, pf5, pf6, pf7⟩, pz⟩ := cells8 hp2
  have s0 : w1.cell? ⟨bS, 0, none⟩ = some (.map (some bM)) := by simp [World.cell?, hS2]
  have hmk := (hMB_all w1 bM l k _ hM2 HR.out)
  have L1 := hmk w1.drew (Below.refl w1.heap.size w1).drew
  have L2 := hmk (w1.alloc (.cells #[.string ⟨#[]⟩, .int .i64 0, .string ⟨#[]⟩, .slice none 0 0, .slice none 0 0, .slice none 0 0, .slice none 0 0, .int .i64 0] 84)).drew (alloc_old).drew
  have sz := (Array.getElem?_eq_some_iff.1 hS2).1
  have hpz : w.heap.size < w1.heap.size := pz
  have KH := Lib.hid (show ∀ X, Below w1.heap.size w1 X → (X.cell? ⟨bS, 0, none⟩ = some (.map (some bM)) ∧ X.cell? ⟨w.heap.size, 0, none⟩ = some (.string k)) from fun X hb => ⟨(hb.cell (p := ⟨bS, 0, none⟩) sz).trans s0, (hb.cell (p := ⟨w.heap.size, 0, none⟩) hpz).trans p0⟩)
  have K0 := Lib.hid (KH.out w1.drew (Below.refl w1.heap.size w1).drew)
  have K1 := Lib.hid (KH.out (w1.alloc (.cells #[.string ⟨#[]⟩, .int .i64 0, .string ⟨#[]⟩, .slice none 0 0, .slice none 0 0, .slice none 0 0, .slice none 0 0, .int .i64 0] 84)).drew (alloc_old).drew)
  have K2 := Lib.hid (KH.out (w1.alloc (.cells #[.string ⟨#[]⟩, .int .i64 0, .string ⟨#[]⟩, .slice none 0 0, .slice none 0 0, .slice none 0 0, .slice none 0 0, .int .i64 0] 84)).drew (alloc_old).drew)
  clear hmk hM2 hS2 hp2
  go_region_held3 (fun X => X.cell? ⟨bS, 0, none⟩ = some (.map (some bM)) ∧ X.cell? ⟨w.heap.size, 0, none⟩ = some (.string k)) (first | (with_reducible exact K0.out) | (with_reducible exact K1.out) | (with_reducible exact K2.out)) (first | skip)
  all_goals (
    change Exit.then _ _ _ _ (w1.alloc (.cells #[.string ⟨#[]⟩, .int .i64 0, .string ⟨#[]⟩, .slice none 0 0, .slice none 0 0, .slice none 0 0, .slice none 0 0, .int .i64 0] 84)).drew
    have w2b := Lib.hid (show Below w1.heap.size w1 (w1.alloc (.cells #[.string ⟨#[]⟩, .int .i64 0, .string ⟨#[]⟩, .slice none 0 0, .slice none 0 0, .slice none 0 0, .slice none 0 0, .int .i64 0] 84)).drew from alloc_old.drew)
    have w2n := Lib.hid (show (w1.alloc (.cells #[.string ⟨#[]⟩, .int .i64 0, .string ⟨#[]⟩, .slice none 0 0, .slice none 0 0, .slice none 0 0, .slice none 0 0, .int .i64 0] 84)).drew.heap[w1.heap.size]? = some (.cells #[.string ⟨#[]⟩, .int .i64 0, .string ⟨#[]⟩, .slice none 0 0, .slice none 0 0, .slice none 0 0, .slice none 0 0, .int .i64 0] 84) from heap_alloc_new w1 _)
    generalize (w1.alloc (.cells #[.string ⟨#[]⟩, .int .i64 0, .string ⟨#[]⟩, .slice none 0 0, .slice none 0 0, .slice none 0 0, .slice none 0 0, .int .i64 0] 84)).drew = w2 at w2b w2n ⊢
    clear L1 L2 K0 K1 K2 KH s0
    have BW := Lib.hid (show Below w.heap.size w w2 from (alloc_old.trans (B1.out.mono (by simp))).trans (w2b.out.mono (by omega)))
    have Q2 := Lib.hid (show Kp w.heap.size (fun i => i ≠ bS ∧ i ≠ bM) w w2 from .of BW.out)
    have S2 := Lib.hid (blk_below hS1.out (B1.out.trans (w2b.out.mono (Below.size B1.out))))
    have P2 := Lib.hid (blk_below hp.out (B1.out.trans (w2b.out.mono (Below.size B1.out))))
    have M2 := Lib.hid (hM1.out.below (B1.out.trans (w2b.out.mono (Below.size B1.out))))
    have hne1 := Lib.hid (show bS ≠ w1.heap.size from by omega)
    clear hS1 hM1 hp w2b p0 p1 p2 p3 p4 p5 p6 p7 pf0 pf1 pf2 pf3 pf4 pf5 pf6 pf7
    have cM2 := cell53 S2.out
    have LN := MapT.run_len Tryz.underlying55 M2.out
    have il : ¬ (4096 : Int) ≤ (l.length : Int) := by omega
    go_wp2
    have KQ := Lib.hid (show ∀ X, Below w2.heap.size w2 X → (X.cell? ⟨bS, 0, none⟩ = some (.map (some bM)) ∧ X.cell? ⟨w.heap.size, 0, none⟩ = some (.string k) ∧ X.cell? ⟨w.heap.size, 1, none⟩ = some (.int .i64 1) ∧ X.cell? ⟨w.heap.size, 2, none⟩ = some (.string t) ∧ X.cell? ⟨w.heap.size, 3, none⟩ = some (.slice none 0 0) ∧ X.cell? ⟨w.heap.size, 4, none⟩ = some (.slice none 0 0) ∧ X.cell? ⟨w.heap.size, 5, none⟩ = some (.slice none 0 0) ∧ X.cell? ⟨w.heap.size, 6, none⟩ = some (.slice none 0 0) ∧ X.cell? ⟨w.heap.size, 7, none⟩ = some (.int .i64 u)) from fun X hb => ⟨cell53 (blk_below S2.out hb), (cells8 (blk_below P2.out hb)).1⟩)
    have KU := Lib.hid (show ∀ X Y, X.grownBy Y (some bM) → Below w2.heap.size w2 X → (Y.cell? ⟨bS, 0, none⟩ = some (.map (some bM)) ∧ Y.cell? ⟨w.heap.size, 0, none⟩ = some (.string k) ∧ Y.cell? ⟨w.heap.size, 1, none⟩ = some (.int .i64 1) ∧ Y.cell? ⟨w.heap.size, 2, none⟩ = some (.string t) ∧ Y.cell? ⟨w.heap.size, 3, none⟩ = some (.slice none 0 0) ∧ Y.cell? ⟨w.heap.size, 4, none⟩ = some (.slice none 0 0) ∧ Y.cell? ⟨w.heap.size, 5, none⟩ = some (.slice none 0 0) ∧ Y.cell? ⟨w.heap.size, 6, none⟩ = some (.slice none 0 0) ∧ Y.cell? ⟨w.heap.size, 7, none⟩ = some (.int .i64 u)) from fun X Y hg hb => ⟨cell53 ((grown_block hg (lt_blk (blk_below S2.out hb)) hne).trans (blk_below S2.out hb)), (cells8 ((grown_block hg (lt_blk (blk_below P2.out hb)) (by have := hlt.out; omega)).trans (blk_below P2.out hb))).1⟩)
    have Z8 := Lib.hid (CL.out w2.drew)
    have K8 := Lib.hid (KQ.out w2.drew (Below.refl _ _).drew)
    go_region_held3 (fun X => X.cell? ⟨bS, 0, none⟩ = some (.map (some bM)) ∧ X.cell? ⟨w.heap.size, 0, none⟩ = some (.string k) ∧ X.cell? ⟨w.heap.size, 1, none⟩ = some (.int .i64 1) ∧ X.cell? ⟨w.heap.size, 2, none⟩ = some (.string t) ∧ X.cell? ⟨w.heap.size, 3, none⟩ = some (.slice none 0 0) ∧ X.cell? ⟨w.heap.size, 4, none⟩ = some (.slice none 0 0) ∧ X.cell? ⟨w.heap.size, 5, none⟩ = some (.slice none 0 0) ∧ X.cell? ⟨w.heap.size, 6, none⟩ = some (.slice none 0 0) ∧ X.cell? ⟨w.heap.size, 7, none⟩ = some (.int .i64 u)) (first | (with_reducible exact K8.out) | (with_reducible exact KU.out _ _ (by assumption) (by assumption)) | (with_reducible exact KQ.out _ (by assumption))) (first | (go_at_call 62; (with_reducible refine (Z8.out).mono ?_); rintro e w5 ⟨rfl, h5⟩; have B5 : Below w2.heap.size w2 w5 := belT (Below.refl w2.heap.size w2).drew h5; clear h5; obtain ⟨w6, hrun, r1, r2, r3⟩ := MapT.run_update Tryz.underlying55 Tryz.underlying9 (M2.out.below B5) k (.agg #[.string k, .int .i64 1, .string t, .slice none 0 0, .slice none 0 0, .slice none 0 0, .slice none 0 0, .int .i64 u])))
    all_goals (
      have S6 := Lib.hid ((grown_block r2 (lt_blk (blk_below S2.out B5)) hne).trans (blk_below S2.out B5))
      have P6 := Lib.hid ((grown_block r2 (lt_blk (blk_below P2.out B5)) (show w.heap.size ≠ bM by have := hlt.out; omega)).trans (blk_below P2.out B5))
      have M6 := Lib.hid r1
      have Q6 := Lib.hid ((Q2.out.trans (.of (B5.mono Q2.out.size))).grown r2 (Nat.le_trans Q2.out.size (Below.size B5)) (fun k hk _ hS => hS.2 (Option.some.inj hk).symm))
      clear KQ KU Z8 K8 B5 hrun r1 r2 r3
      go_wp2
      obtain ⟨cm6, cf6⟩ := mem53 S6.out
      obtain ⟨⟨g0, g1, g2, g3, g4, g5, g6, g7⟩, _, gz⟩ := cells8 P6.out
      have Z7 := Lib.hid (SZ.out w6.drew)
      go_region_with ((go_at_call 69; (with_reducible refine (Z7.out).mono ?_); rintro e w7 ⟨rfl, h5⟩; have B7 : Below w6.heap.size w6 w7 := belT (Below.refl w6.heap.size w6).drew h5; clear h5; obtain ⟨cm7, cf7⟩ := mem53 (blk_below S6.out B7)))
      all_goals (
        change Exit.then _ _ _ _ (w7.setCell ⟨bS, 1, none⟩ (.int .i64 (IntKind.i64.wrap (mem + (48 + (k.size : Int) + t.size)))))
        have S8 := Lib.hid (set53 (blk_below S6.out B7) (.int .i64 (IntKind.i64.wrap (mem + (48 + (k.size : Int) + t.size)))))
        have P8 := Lib.hid ((Below.heap_setCell w7 ⟨bS, 1, none⟩ (.int .i64 (IntKind.i64.wrap (mem + (48 + (k.size : Int) + t.size)))) w.heap.size (by have := hlt.out; show w.heap.size ≠ bS; omega)).trans (blk_below P6.out B7))
        have M8 := Lib.hid ((M6.out.below B7).kept (Below.heap_setCell w7 ⟨bS, 1, none⟩ (.int .i64 (IntKind.i64.wrap (mem + (48 + (k.size : Int) + t.size)))) bM (Ne.symm hne)))
        have Q8 := Lib.hid (((Q6.out.trans (.of (B7.mono Q6.out.size))).setCell (p := ⟨bS, 1, none⟩) (by simp) (.int .i64 (IntKind.i64.wrap (mem + (48 + (k.size : Int) + t.size))))))
        clear cm6 cf6 cm7 cf7 g0 g1 g2 g3 g4 g5 g6 g7 gz Z7 B7
        generalize w7.setCell ⟨bS, 1, none⟩ (.int .i64 (IntKind.i64.wrap (mem + (48 + (k.size : Int) + t.size)))) = w8 at S8 P8 M8 Q8 ⊢
        go_wp2
        go_ret
        exact ⟨by simp, ⟨⟨_, S8.out⟩, M8.out, hne⟩, Q8.out⟩)))
end Go.Proofs.YtjfejmdnjbekkaaGreatDoor

/- space.New and space.Put with what the space says of its memory (turned from St18, St4). -/
namespace Go.Proofs.YtjfejmdnjbekkaaGreatDoor
open Go.ChangeShapes Go.WideShapes Go.ChangeAt Go.RowKit

set_option maxRecDepth 100000 in
set_option maxHeartbeats 2000000 in
theorem New_mem (w : World) : Calls Tryz.prog 14 #[] w fun e w' => ∃ bS bM, e = .returned (.pointer (some ⟨bS, 0, none⟩)) ∧ w'.heap[bS]? = some (.cells #[.map (some bM), .int .i64 0] 57) ∧ SP w' bS bM [] ∧ w.heap.size ≤ bS ∧ w.heap.size ≤ bM ∧ Below w.heap.size w w' := by
  have hmm := @run_makeMap Tryz.prog
  go_enter Tryz.func14, Tryz.ntmps14
  go_wp2
  go_ret
  have h1 : ((w.alloc (.map #[] 0)).alloc (.cells #[.map (some w.heap.size), .int .i64 0] 57)).heap[w.heap.size + 1]? = some (.cells #[.map (some w.heap.size), .int .i64 0] 57) := by
    have := heap_alloc_new (w.alloc (.map #[] 0)) (.cells #[.map (some w.heap.size), .int .i64 0] 57)
    rw [World.size_alloc] at this
    exact this
  refine ⟨w.heap.size + 1, w.heap.size, rfl, h1, ⟨⟨0, h1⟩, (MapT.MB.made w).kept ?_, by omega⟩, by omega, Nat.le_refl _, alloc_old.trans (alloc_old.mono (by simp))⟩
  exact Below.heap_alloc _ _ _ (by simp)
set_option maxRecDepth 100000 in
set_option maxHeartbeats 8000000 in
theorem Put_mem (bS bM : Nat) (l : MapT.Ents) (k t : ByteArray) (hk1 : 1 ≤ k.size) (hk : k.size ≤ 512) (ht : t.size ≤ 4096) (u : Int) (hu0 : 0 ≤ u) (hu1 : u ≤ 1125899906842624) (mem : Int) (w : World) (hmem : w.heap[bS]? = some (.cells #[.map (some bM), .int .i64 mem] 57)) (h : SP w bS bM l) (hf : MapT.find k l = none) (hlen : l.length < 4096) : Calls Tryz.prog 51 #[.pointer (some ⟨bS, 0, none⟩), .agg #[.string k, .int .i64 1, .string t, .slice none 0 0, .slice none 0 0, .slice none 0 0, .slice none 0 0, .int .i64 u]] w fun e w' => e = .returned (.int .i64 0) ∧ (w'.heap[bS]? = some (.cells #[.map (some bM), .int .i64 (IntKind.i64.wrap (mem + (48 + (k.size : Int) + t.size)))] 57) ∧ SP w' bS bM (MapT.put k (.agg #[.string k, .int .i64 1, .string t, .slice none 0 0, .slice none 0 0, .slice none 0 0, .slice none 0 0, .int .i64 u]) l)) ∧ Kp w.heap.size (fun i => i ≠ bS ∧ i ≠ bM) w w' := by
  have MY := Lib.hid (fun w => May15 k t hk1 hk ht u hu0 hu1 w)
  have CL := Lib.hid (fun w => clone17 k 1 t u w)
  have SZ := Lib.hid (fun w => size16 k t (by omega) (by omega) u w)
  have hlt := Lib.hid h.lt
  have hneP := Lib.hid (show bS ≠ w.heap.size from by have := h.lt; omega)
  have hl1 := hlen
  obtain ⟨_, hMB, hne⟩ := h
  have hp := Lib.hid (heap_alloc_new w (.cells #[.string k, .int .i64 1, .string t, .slice none 0 0, .slice none 0 0, .slice none 0 0, .slice none 0 0, .int .i64 u] 84))
  have hS1 := Lib.hid (blk_below hmem (alloc_old (o := .cells #[.string k, .int .i64 1, .string t, .slice none 0 0, .slice none 0 0, .slice none 0 0, .slice none 0 0, .int .i64 u] 84)))
  have hM1 := Lib.hid (hMB.below (alloc_old (o := .cells #[.string k, .int .i64 1, .string t, .slice none 0 0, .slice none 0 0, .slice none 0 0, .slice none 0 0, .int .i64 u] 84)))
  have hr : (Value.tuple #[(MapT.find k l).getD (.agg #[.string ⟨#[]⟩, .int .i64 0, .string ⟨#[]⟩, .slice none 0 0, .slice none 0 0, .slice none 0 0, .slice none 0 0, .int .i64 0]), .bool (MapT.find k l).isSome]) = .tuple #[.agg #[.string ⟨#[]⟩, .int .i64 0, .string ⟨#[]⟩, .slice none 0 0, .slice none 0 0, .slice none 0 0, .slice none 0 0, .int .i64 0], .bool false] := by rw [hf]; rfl
  have HR := Lib.hid hr
  clear hmem hMB hf hr
  go_enter Tryz.func51, Tryz.ntmps51
  go_wp2_with (first | (go_at_call 70; (with_reducible refine (MY.out _).mono ?_); rintro e w1 ⟨rfl, h1⟩; have B1 := Lib.hid h1; clear h1))
  have hS2 := blk_below hS1.out B1.out
  have hp2 := blk_below hp.out B1.out
  have hM2 := hM1.out.below B1.out
  obtain ⟨⟨p0, p1, p2, p3, p4, p5, p6, p7⟩, ⟨pf0, pf1, pf2, pf3, pf4, pf5, pf6, pf7⟩, pz⟩ := cells8 hp2
  have s0 : w1.cell? ⟨bS, 0, none⟩ = some (.map (some bM)) := by simp [World.cell?, hS2]
  have hmk := (hMB_all w1 bM l k _ hM2 HR.out)
  have L1 := hmk w1.drew (Below.refl w1.heap.size w1).drew
  have L2 := hmk (w1.alloc (.cells #[.string ⟨#[]⟩, .int .i64 0, .string ⟨#[]⟩, .slice none 0 0, .slice none 0 0, .slice none 0 0, .slice none 0 0, .int .i64 0] 84)).drew (alloc_old).drew
  have sz := (Array.getElem?_eq_some_iff.1 hS2).1
  have hpz : w.heap.size < w1.heap.size := pz
  have KH := Lib.hid (show ∀ X, Below w1.heap.size w1 X → (X.cell? ⟨bS, 0, none⟩ = some (.map (some bM)) ∧ X.cell? ⟨w.heap.size, 0, none⟩ = some (.string k)) from fun X hb => ⟨(hb.cell (p := ⟨bS, 0, none⟩) sz).trans s0, (hb.cell (p := ⟨w.heap.size, 0, none⟩) hpz).trans p0⟩)
  have K0 := Lib.hid (KH.out w1.drew (Below.refl w1.heap.size w1).drew)
  have K1 := Lib.hid (KH.out (w1.alloc (.cells #[.string ⟨#[]⟩, .int .i64 0, .string ⟨#[]⟩, .slice none 0 0, .slice none 0 0, .slice none 0 0, .slice none 0 0, .int .i64 0] 84)).drew (alloc_old).drew)
  have K2 := Lib.hid (KH.out (w1.alloc (.cells #[.string ⟨#[]⟩, .int .i64 0, .string ⟨#[]⟩, .slice none 0 0, .slice none 0 0, .slice none 0 0, .slice none 0 0, .int .i64 0] 84)).drew (alloc_old).drew)
  clear hmk hM2 hS2 hp2
  go_region_held3 (fun X => X.cell? ⟨bS, 0, none⟩ = some (.map (some bM)) ∧ X.cell? ⟨w.heap.size, 0, none⟩ = some (.string k)) (first | (with_reducible exact K0.out) | (with_reducible exact K1.out) | (with_reducible exact K2.out)) (first | skip)
  all_goals (
    change Exit.then _ _ _ _ (w1.alloc (.cells #[.string ⟨#[]⟩, .int .i64 0, .string ⟨#[]⟩, .slice none 0 0, .slice none 0 0, .slice none 0 0, .slice none 0 0, .int .i64 0] 84)).drew
    have w2b := Lib.hid (show Below w1.heap.size w1 (w1.alloc (.cells #[.string ⟨#[]⟩, .int .i64 0, .string ⟨#[]⟩, .slice none 0 0, .slice none 0 0, .slice none 0 0, .slice none 0 0, .int .i64 0] 84)).drew from alloc_old.drew)
    have w2n := Lib.hid (show (w1.alloc (.cells #[.string ⟨#[]⟩, .int .i64 0, .string ⟨#[]⟩, .slice none 0 0, .slice none 0 0, .slice none 0 0, .slice none 0 0, .int .i64 0] 84)).drew.heap[w1.heap.size]? = some (.cells #[.string ⟨#[]⟩, .int .i64 0, .string ⟨#[]⟩, .slice none 0 0, .slice none 0 0, .slice none 0 0, .slice none 0 0, .int .i64 0] 84) from heap_alloc_new w1 _)
    generalize (w1.alloc (.cells #[.string ⟨#[]⟩, .int .i64 0, .string ⟨#[]⟩, .slice none 0 0, .slice none 0 0, .slice none 0 0, .slice none 0 0, .int .i64 0] 84)).drew = w2 at w2b w2n ⊢
    clear L1 L2 K0 K1 K2 KH s0
    have BW := Lib.hid (show Below w.heap.size w w2 from (alloc_old.trans (B1.out.mono (by simp))).trans (w2b.out.mono (by omega)))
    have Q2 := Lib.hid (show Kp w.heap.size (fun i => i ≠ bS ∧ i ≠ bM) w w2 from .of BW.out)
    have S2 := Lib.hid (blk_below hS1.out (B1.out.trans (w2b.out.mono (Below.size B1.out))))
    have P2 := Lib.hid (blk_below hp.out (B1.out.trans (w2b.out.mono (Below.size B1.out))))
    have M2 := Lib.hid (hM1.out.below (B1.out.trans (w2b.out.mono (Below.size B1.out))))
    have hne1 := Lib.hid (show bS ≠ w1.heap.size from by omega)
    clear hS1 hM1 hp w2b p0 p1 p2 p3 p4 p5 p6 p7 pf0 pf1 pf2 pf3 pf4 pf5 pf6 pf7
    have cM2 := cell53 S2.out
    have LN := MapT.run_len Tryz.underlying55 M2.out
    have il : ¬ (4096 : Int) ≤ (l.length : Int) := by omega
    go_wp2
    have KQ := Lib.hid (show ∀ X, Below w2.heap.size w2 X → (X.cell? ⟨bS, 0, none⟩ = some (.map (some bM)) ∧ X.cell? ⟨w.heap.size, 0, none⟩ = some (.string k) ∧ X.cell? ⟨w.heap.size, 1, none⟩ = some (.int .i64 1) ∧ X.cell? ⟨w.heap.size, 2, none⟩ = some (.string t) ∧ X.cell? ⟨w.heap.size, 3, none⟩ = some (.slice none 0 0) ∧ X.cell? ⟨w.heap.size, 4, none⟩ = some (.slice none 0 0) ∧ X.cell? ⟨w.heap.size, 5, none⟩ = some (.slice none 0 0) ∧ X.cell? ⟨w.heap.size, 6, none⟩ = some (.slice none 0 0) ∧ X.cell? ⟨w.heap.size, 7, none⟩ = some (.int .i64 u)) from fun X hb => ⟨cell53 (blk_below S2.out hb), (cells8 (blk_below P2.out hb)).1⟩)
    have KU := Lib.hid (show ∀ X Y, X.grownBy Y (some bM) → Below w2.heap.size w2 X → (Y.cell? ⟨bS, 0, none⟩ = some (.map (some bM)) ∧ Y.cell? ⟨w.heap.size, 0, none⟩ = some (.string k) ∧ Y.cell? ⟨w.heap.size, 1, none⟩ = some (.int .i64 1) ∧ Y.cell? ⟨w.heap.size, 2, none⟩ = some (.string t) ∧ Y.cell? ⟨w.heap.size, 3, none⟩ = some (.slice none 0 0) ∧ Y.cell? ⟨w.heap.size, 4, none⟩ = some (.slice none 0 0) ∧ Y.cell? ⟨w.heap.size, 5, none⟩ = some (.slice none 0 0) ∧ Y.cell? ⟨w.heap.size, 6, none⟩ = some (.slice none 0 0) ∧ Y.cell? ⟨w.heap.size, 7, none⟩ = some (.int .i64 u)) from fun X Y hg hb => ⟨cell53 ((grown_block hg (lt_blk (blk_below S2.out hb)) hne).trans (blk_below S2.out hb)), (cells8 ((grown_block hg (lt_blk (blk_below P2.out hb)) (by have := hlt.out; omega)).trans (blk_below P2.out hb))).1⟩)
    have Z8 := Lib.hid (CL.out w2.drew)
    have K8 := Lib.hid (KQ.out w2.drew (Below.refl _ _).drew)
    go_region_held3 (fun X => X.cell? ⟨bS, 0, none⟩ = some (.map (some bM)) ∧ X.cell? ⟨w.heap.size, 0, none⟩ = some (.string k) ∧ X.cell? ⟨w.heap.size, 1, none⟩ = some (.int .i64 1) ∧ X.cell? ⟨w.heap.size, 2, none⟩ = some (.string t) ∧ X.cell? ⟨w.heap.size, 3, none⟩ = some (.slice none 0 0) ∧ X.cell? ⟨w.heap.size, 4, none⟩ = some (.slice none 0 0) ∧ X.cell? ⟨w.heap.size, 5, none⟩ = some (.slice none 0 0) ∧ X.cell? ⟨w.heap.size, 6, none⟩ = some (.slice none 0 0) ∧ X.cell? ⟨w.heap.size, 7, none⟩ = some (.int .i64 u)) (first | (with_reducible exact K8.out) | (with_reducible exact KU.out _ _ (by assumption) (by assumption)) | (with_reducible exact KQ.out _ (by assumption))) (first | (go_at_call 62; (with_reducible refine (Z8.out).mono ?_); rintro e w5 ⟨rfl, h5⟩; have B5 : Below w2.heap.size w2 w5 := belT (Below.refl w2.heap.size w2).drew h5; clear h5; obtain ⟨w6, hrun, r1, r2, r3⟩ := MapT.run_update Tryz.underlying55 Tryz.underlying9 (M2.out.below B5) k (.agg #[.string k, .int .i64 1, .string t, .slice none 0 0, .slice none 0 0, .slice none 0 0, .slice none 0 0, .int .i64 u])))
    all_goals (
      have S6 := Lib.hid ((grown_block r2 (lt_blk (blk_below S2.out B5)) hne).trans (blk_below S2.out B5))
      have P6 := Lib.hid ((grown_block r2 (lt_blk (blk_below P2.out B5)) (show w.heap.size ≠ bM by have := hlt.out; omega)).trans (blk_below P2.out B5))
      have M6 := Lib.hid r1
      have Q6 := Lib.hid ((Q2.out.trans (.of (B5.mono Q2.out.size))).grown r2 (Nat.le_trans Q2.out.size (Below.size B5)) (fun k hk _ hS => hS.2 (Option.some.inj hk).symm))
      clear KQ KU Z8 K8 B5 hrun r1 r2 r3
      go_wp2
      obtain ⟨cm6, cf6⟩ := mem53 S6.out
      obtain ⟨⟨g0, g1, g2, g3, g4, g5, g6, g7⟩, _, gz⟩ := cells8 P6.out
      have Z7 := Lib.hid (SZ.out w6.drew)
      go_region_with ((go_at_call 69; (with_reducible refine (Z7.out).mono ?_); rintro e w7 ⟨rfl, h5⟩; have B7 : Below w6.heap.size w6 w7 := belT (Below.refl w6.heap.size w6).drew h5; clear h5; obtain ⟨cm7, cf7⟩ := mem53 (blk_below S6.out B7)))
      all_goals (
        change Exit.then _ _ _ _ (w7.setCell ⟨bS, 1, none⟩ (.int .i64 (IntKind.i64.wrap (mem + (48 + (k.size : Int) + t.size)))))
        have S8 := Lib.hid (set53 (blk_below S6.out B7) (.int .i64 (IntKind.i64.wrap (mem + (48 + (k.size : Int) + t.size)))))
        have P8 := Lib.hid ((Below.heap_setCell w7 ⟨bS, 1, none⟩ (.int .i64 (IntKind.i64.wrap (mem + (48 + (k.size : Int) + t.size)))) w.heap.size (by have := hlt.out; show w.heap.size ≠ bS; omega)).trans (blk_below P6.out B7))
        have M8 := Lib.hid ((M6.out.below B7).kept (Below.heap_setCell w7 ⟨bS, 1, none⟩ (.int .i64 (IntKind.i64.wrap (mem + (48 + (k.size : Int) + t.size)))) bM (Ne.symm hne)))
        have Q8 := Lib.hid (((Q6.out.trans (.of (B7.mono Q6.out.size))).setCell (p := ⟨bS, 1, none⟩) (by simp) (.int .i64 (IntKind.i64.wrap (mem + (48 + (k.size : Int) + t.size))))))
        clear cm6 cf6 cm7 cf7 g0 g1 g2 g3 g4 g5 g6 g7 gz Z7 B7
        generalize w7.setCell ⟨bS, 1, none⟩ (.int .i64 (IntKind.i64.wrap (mem + (48 + (k.size : Int) + t.size)))) = w8 at S8 P8 M8 Q8 ⊢
        go_wp2
        go_ret
        exact ⟨by simp, ⟨S8.out, ⟨_, S8.out⟩, M8.out, hne⟩, Q8.out⟩)))
end Go.Proofs.YtjfejmdnjbekkaaGreatDoor
