/- Texts joined: Z1, Z2, G15, DoH -/
import Derived.Test.YticlacjpgjkhcaaGreatDoorQs23
import Derived.Test.YticlacjpgjkhcaaGreatDoorQs25
import Derived.Test.YticlacjpgjkhcaaGreatDoorQs19
import Derived.Test.YticlacjpgjkhcaaGreatDoorQs15
import Derived.Test.YticlacjpgjkhcaaGreatDoorQs12
set_option linter.unusedVariables false
set_option linter.unusedSimpArgs false

/- scores.of, scores.turn: a key's set of scores; a set that was turned is put. -/
namespace Go.Proofs.YticlacjpgjkhcaaGreatDoor
open Go.ChangeShapes Go.WideShapes Go.ChangeAt Go.RowKit

theorem NdIn.mono {w : World} {c c' : Nat} {y : Nd} (h : NdIn w c y) (hc : c' ≤ c) : NdIn w c' y := ⟨h.blk, h.nxb, h.wdb, Nat.le_trans hc h.la, Nat.le_trans hc h.ln, Nat.le_trans hc h.lw, h.h1, h.h2⟩
theorem SK.mono {w : World} {c c' sp : Nat} {Z : List (ByteArray × Int)} (h : SK w c sp Z) (hc : c' ≤ c) : SK w c' sp Z := by
  obtain ⟨bM, hd, L, E, made, high, h, rfl⟩ := h
  exact ⟨bM, hd, L, E, made, high, ⟨h.set, Nat.le_trans hc h.lo, Nat.le_trans hc h.lom, h.map, h.nd, h.same, ⟨fun y hy => (h.mem.nodes y hy).mono hc, h.mem.apart, h.mem.head, h.mem.lv⟩, h.ord, h.ndZ, h.mad⟩, rfl⟩
theorem SK.kept {w w' : World} {c sp b : Nat} {Z : List (ByteArray × Int)} {cs : Array Value} {t : TypeId} (h : SK w c sp Z) (hb : w.heap[b]? = some (.cells cs t)) (ht : t ≠ 197 ∧ t ≠ 207 ∧ t ≠ 195 ∧ t ≠ 3) (hk : ∀ i, i ≠ b → w'.heap[i]? = w.heap[i]?) : SK w' c sp Z := by
  obtain ⟨bM, hd, L, E, made, high, h, rfl⟩ := h
  have hsp : sp ≠ b := fun e => by
    have h9 := h.set
    rw [e, hb] at h9
    cases h9
    exact ht.1 rfl
  have hbM : bM ≠ b := fun e => by
    obtain ⟨es, cl, g1, _⟩ := h.map
    rw [e, hb] at g1
    cases g1
  refine ⟨bM, hd, L, E, made, high, ⟨(hk _ hsp).trans h.set, h.lo, h.lom, h.map.kept (hk _ hbM), h.nd, h.same, h.mem.move fun i ds u hi hu => (hk i fun e => ?_).trans hi, h.ord, h.ndZ, h.mad⟩, rfl⟩
  subst e
  rw [hb] at hi
  cases hi
  rcases hu with hu | hu | hu
  · exact ht.2.1 hu
  · exact ht.2.2.1 hu
  · exact ht.2.2.2 hu
theorem SK.ordZ {w : World} {c sp : Nat} {Z : List (ByteArray × Int)} (h : SK w c sp Z) : Ord Z ∧ (namesD Z).Nodup := by
  obtain ⟨bM, hd, L, E, made, high, h, rfl⟩ := h
  exact ⟨h.ord, h.ndZ⟩
/-- A command's set: its block, its skip list. -/
structure ZH (c : Nat) (w : World) (h sp : Nat) (k : ByteArray) (e3 e4 e5 e6 : Value) (Z : List (ByteArray × Int)) : Prop where
  blk : w.heap[h]? = some (.cells #[.string k, .int .i64 4, .string ⟨#[]⟩, e3, e4, e5, e6, .int .i64 0, .pointer (some ⟨sp, 0, none⟩)] 130)
  hc : c ≤ h
  sk : SK w c sp Z
theorem ZH.below {c : Nat} {w w' : World} {h sp : Nat} {k : ByteArray} {e3 e4 e5 e6 : Value} {Z : List (ByteArray × Int)} (s : ZH c w h sp k e3 e4 e5 e6 Z) (hb : Below w.heap.size w w') : ZH c w' h sp k e3 e4 e5 e6 Z := ⟨blk_below s.blk hb, s.hc, s.sk.below hb⟩
/-- The set's own calls. -/
theorem ZH.set {c : Nat} {w w' : World} {h sp : Nat} {k : ByteArray} {e3 e4 e5 e6 : Value} {Z Z' : List (ByteArray × Int)} (s : ZH c w h sp k e3 e4 e5 e6 Z) (hF : FarP w w') (hk : SK w' c sp Z') : ZH c w' h sp k e3 e4 e5 e6 Z' := ⟨hF _ _ _ s.blk (by decide) (by decide) (by decide), s.hc, hk⟩
theorem cells9 {X : World} {b : Nat} {a0 a1 a2 a3 a4 a5 a6 a7 a8 : Value} {t : TypeId} (h : X.heap[b]? = some (.cells #[a0, a1, a2, a3, a4, a5, a6, a7, a8] t)) :
    (X.cell? ⟨b, 0, none⟩ = some a0 ∧ X.cell? ⟨b, 1, none⟩ = some a1 ∧ X.cell? ⟨b, 2, none⟩ = some a2 ∧ X.cell? ⟨b, 3, none⟩ = some a3 ∧ X.cell? ⟨b, 4, none⟩ = some a4 ∧ X.cell? ⟨b, 5, none⟩ = some a5 ∧ X.cell? ⟨b, 6, none⟩ = some a6 ∧ X.cell? ⟨b, 7, none⟩ = some a7 ∧ X.cell? ⟨b, 8, none⟩ = some a8) ∧ ∀ i, X.frozen? ⟨b, i, none⟩ = false := by
  refine ⟨⟨?_, ?_, ?_, ?_, ?_, ?_, ?_, ?_, ?_⟩, fun i => frozen_of_row X b i _ _ h⟩ <;> (rw [cell_of_row _ b _ _ t (0, 0) h]; rfl)
/-- A key's entry of scores, whether it is there or not. -/
theorem OfS (bS bM j : Nat) (D : List (ByteArray × List (ByteArray × Int))) (k : ByteArray) (now : Int) (vA vl : Value) (w : World) (h : SPG KS okS w bS bM D) (hj : JB w j bS now vA vl) : Calls Tryz.prog 130 #[.pointer (some ⟨j, 0, none⟩), .string k, .int .i64 4] w fun e w' => ∃ (v3 v4 v6 : Value) (A5 : Option Addr) (C5 : Nat), e = .returned (.tuple #[.agg #[.string k, .int .i64 4, .string ⟨#[]⟩, v3, v4, .slice A5 ((findD k D).getD []).length C5, v6, .int .i64 0], .bool (findD k D).isSome]) ∧ RS w' w.heap.size (.slice A5 ((findD k D).getD []).length C5) ((findD k D).getD []) ∧ (v3 = .slice none 0 0 ∧ v4 = .slice none 0 0 ∧ v6 = .slice none 0 0) ∧ Below w.heap.size w w' := by
  cases hf : findD k D with
  | none =>
    refine (OfD_no KS okS bS bM j D k now vA vl hf w h hj).mono ?_
    rintro e w' ⟨rfl, h1⟩
    exact ⟨_, _, _, none, 0, rfl, World.ownsRow_nil _ _ _ _, ⟨rfl, rfl, rfl⟩, h1⟩
  | some F =>
    refine (OfD_yes KS okS KSok bS bM j D k F now vA vl hf w h hj).mono ?_
    rintro e w' ⟨A3, A4, A5, A6, an3, ac3, an4, ac4, an5, ac5, an6, ac6, rfl, hV, hg, h1⟩
    obtain ⟨g, rfl, rfl, rfl, rfl, rfl, rfl, rfl, rfl, rfl, rfl, rfl⟩ := VS.form A3 A4 A5 A6 an3 ac3 an4 ac4 an5 ac5 an6 ac6 hV
    refine ⟨_, _, _, _, _, rfl, ?_, ⟨rfl, rfl, rfl⟩, h1⟩
    have hR := hV.1
    unfold RS World.ownsRow at hR ⊢
    obtain ⟨r0, ⟨r1, _⟩ | ⟨g', cap, cur, e', r2, r3⟩⟩ := hR
    · cases r1
    · cases e'
      exact ⟨r0, .inr ⟨_, _, cur, rfl, hg _ (.inr (.inr (.inl rfl))), r3⟩⟩
set_option maxRecDepth 100000 in
set_option maxHeartbeats 8000000 in
theorem zof_any (bS bM j : Nat) (D : List (ByteArray × List (ByteArray × Int))) (now : Int) (blk off cap : Nat) (xs : List ByteArray) (n : Nat) (hn : xs.length = n) (h2 : 2 ≤ n) (k : ByteArray) (hk : xs[1]? = some k) (vl : Value) (F : List (ByteArray × Int)) (hF : (findD k D).getD [] = F) (w : World) (hDB : DB w) (h3 : 3 < w.heap.size) (hS : SPG KS okS w bS bM D) (hj : JB w j bS now (.slice (some ⟨blk, off, none⟩) n cap) vl) (hA : AR w j now blk off cap xs) : Calls Tryz.prog 67 #[.pointer (some ⟨j, 0, none⟩)] w fun e w' => ∃ (h sp : Nat) (e3 e4 e5 e6 : Value), e = .returned (.pointer (some ⟨h, 0, none⟩)) ∧ ZH w.heap.size w' h sp k e3 e4 e5 e6 F ∧ Below w.heap.size w w' := by
  have hFF : F.length ≤ 31 ∧ Ord F ∧ (F.map Prod.fst).Nodup := by
    cases hf : findD k D with
    | none => rw [hf] at hF; subst hF; exact ⟨by simp, List.Pairwise.nil, List.nodup_nil⟩
    | some G =>
      rw [hf] at hF
      obtain rfl : G = F := hF
      obtain ⟨_, _, _, g1, _, _, g2, g3⟩ := hS.2 _ (findD_mem hf)
      exact ⟨g1, ord_of_rise g2, g3⟩
  have OH := OfS bS bM j D k now _ _ w hS hj
  rw [hF] at OH
  obtain ⟨n5, hn5⟩ : ∃ n5, F.length = n5 := ⟨_, rfl⟩
  rw [hn5] at OH hFF
  have OH := Lib.hid OH
  have HFF := Lib.hid (And.intro hn5 hFF)
  have HDB := Lib.hid hDB
  subst hn
  have cj := (hA.job _ (Below.refl _ _)).1
  have ca := hA.arg _ (Below.refl _ _) 1 k hk
  have i1 : (1 : Int) < (xs.length : Int) := by omega
  obtain ⟨b, hb⟩ : ∃ b, (findD k D).isSome = b := ⟨_, rfl⟩
  rw [hb] at OH
  clear hS hj hA hb hF hFF hn5 hDB
  go_enter Tryz.func67, Tryz.ntmps67
  go_wp2_with (first | (go_at_call 130; (with_reducible refine (OH.out).mono ?_); rintro e w3 ⟨v3, v4, v6, A5, C5, rfl, hR, ⟨rfl, rfl, rfl⟩, h1⟩; have R3 := Lib.hid hR; have B3 := Lib.hid h1; clear h1 hR; refine Hid.out ?_))
  refine Lib.hid ?_
  clear cj ca i1
  go_wp2_with fail
  generalize hW4 : w3.alloc (.cells #[.string k, .int .i64 4, .string ⟨#[]⟩, .slice none 0 0, .slice none 0 0, .slice A5 n5 C5, .slice none 0 0, .int .i64 0] 66) = W4
  have b4 : Below w3.heap.size w3 W4 := by rw [← hW4]; exact alloc_old
  have z4 : W4.heap[w3.heap.size]? = some (.cells #[.string k, .int .i64 4, .string ⟨#[]⟩, .slice none 0 0, .slice none 0 0, .slice A5 n5 C5, .slice none 0 0, .int .i64 0] 66) := by rw [← hW4]; exact heap_alloc_new w3 _
  have B4 := Lib.hid (B3.out.trans (b4.mono (Below.size B3.out)))
  have SK4 := Lib.hid (fun X (hX : Below W4.heap.size W4 X) => skOf_any A5 n5 C5 w.heap.size F HFF.out.1 (by have := HFF.out.2.1; omega) HFF.out.2.2.1 HFF.out.2.2.2 X (HDB.out.at_ (B4.out.trans (hX.mono (Below.size B4.out)))) (by have := Below.size B4.out; have := Below.size hX; omega) ((R3.out.below b4).below hX))
  have SX := Lib.hid (show ∀ X, Below W4.heap.size W4 X → (X.cell? ⟨w3.heap.size, 0, none⟩ = some (.string k) ∧ X.cell? ⟨w3.heap.size, 1, none⟩ = some (.int .i64 4) ∧ X.cell? ⟨w3.heap.size, 2, none⟩ = some (.string ⟨#[]⟩) ∧ X.cell? ⟨w3.heap.size, 3, none⟩ = some (.slice none 0 0) ∧ X.cell? ⟨w3.heap.size, 4, none⟩ = some (.slice none 0 0) ∧ X.cell? ⟨w3.heap.size, 5, none⟩ = some (.slice A5 n5 C5) ∧ X.cell? ⟨w3.heap.size, 6, none⟩ = some (.slice none 0 0) ∧ X.cell? ⟨w3.heap.size, 7, none⟩ = some (.int .i64 0)) from fun X hX => by
    obtain ⟨⟨e0, e1, e2, e3, e4, e5, e6, e7⟩, _⟩ := cells8 (blk_below z4 hX)
    exact ⟨e0, e1, e2, e3, e4, e5, e6, e7⟩)
  have S0 := SX.out W4.drew (Below.refl _ _).drew
  have SQ := Lib.hid (SK4.out W4.drew (Below.refl _ _).drew)
  obtain ⟨⟨d0, d1, d2, d3, d4, d5, d6, d7⟩, ⟨f0, f1, f2, f3, f4, f5, f6, f7⟩, _⟩ := cells8 z4
  clear b4 z4 SK4 hW4
  go_region_held3 (fun X => (X.cell? ⟨w3.heap.size, 0, none⟩ = some (.string k) ∧ X.cell? ⟨w3.heap.size, 1, none⟩ = some (.int .i64 4) ∧ X.cell? ⟨w3.heap.size, 2, none⟩ = some (.string ⟨#[]⟩) ∧ X.cell? ⟨w3.heap.size, 3, none⟩ = some (.slice none 0 0) ∧ X.cell? ⟨w3.heap.size, 4, none⟩ = some (.slice none 0 0) ∧ X.cell? ⟨w3.heap.size, 5, none⟩ = some (.slice A5 n5 C5) ∧ X.cell? ⟨w3.heap.size, 6, none⟩ = some (.slice none 0 0) ∧ X.cell? ⟨w3.heap.size, 7, none⟩ = some (.int .i64 0))) (first | (with_reducible exact S0) | (with_reducible exact S2.out) | (with_reducible exact S3.out)) (first | (go_at_call 131; (with_reducible refine (SQ.out).mono ?_); rintro e w5 ⟨sp, rfl, h5, h6⟩; have K5 := Lib.hid h5; have B5 := Lib.hid h6; have h7 := (Below.refl W4.heap.size W4).drew.trans h6; have S2 := Lib.hid (SX.out w5 h7); have S3 := Lib.hid (SX.out (w5.alloc (.cells #[.string k, .int .i64 4, .string ⟨#[]⟩, .slice none 0 0, .slice none 0 0, .slice A5 n5 C5, .slice none 0 0, .int .i64 0, .pointer (some ⟨sp, 0, none⟩)] 130)) (h7.trans (alloc_old.mono (Below.size h7)))); clear h5 h6 h7))
  all_goals (
    go_wp2
    go_ret
    have hz4 := Below.size B4.out
    have hz5 := Below.size B5.out
    refine ⟨w5.heap.size, sp, _, _, _, _, rfl, ⟨heap_alloc_new w5 _, Nat.le_trans hz4 hz5, (K5.out.mono hz4).below alloc_old⟩, ?_⟩
    exact (B4.out.trans ((show Below W4.heap.size W4 w5 from (Below.refl _ _).drew.trans B5.out).mono hz4)).trans (alloc_old.mono (Nat.le_trans hz4 hz5)))
end Go.Proofs.YticlacjpgjkhcaaGreatDoor

/- scores.turn: a set that was turned is put. -/
namespace Go.Proofs.YticlacjpgjkhcaaGreatDoor
open Go.ChangeShapes Go.WideShapes Go.ChangeAt Go.RowKit

/-- Scores as a value: nothing, if there are none. -/
def xoS (Z : List (ByteArray × Int)) : Option (List (ByteArray × Int)) := if Z = [] then none else some Z
theorem set6z {w : World} {b : Nat} {a0 a1 a2 a3 a4 a5 a6 a7 a8 : Value} {t : TypeId} (h : w.heap[b]? = some (.cells #[a0, a1, a2, a3, a4, a5, a6, a7, a8] t)) (v1 v2 v3 v4 v5 v6 : Value) : ((((((w.setCell ⟨b, 1, none⟩ v1).setCell ⟨b, 2, none⟩ v2).setCell ⟨b, 3, none⟩ v3).setCell ⟨b, 4, none⟩ v4).setCell ⟨b, 5, none⟩ v5).setCell ⟨b, 6, none⟩ v6).heap[b]? = some (.cells #[a0, v1, v2, v3, v4, v5, v6, a7, a8] t) ∧ (∀ i, i ≠ b → ((((((w.setCell ⟨b, 1, none⟩ v1).setCell ⟨b, 2, none⟩ v2).setCell ⟨b, 3, none⟩ v3).setCell ⟨b, 4, none⟩ v4).setCell ⟨b, 5, none⟩ v5).setCell ⟨b, 6, none⟩ v6).heap[i]? = w.heap[i]?) ∧ ∀ c, c ≤ b → Below c w ((((((w.setCell ⟨b, 1, none⟩ v1).setCell ⟨b, 2, none⟩ v2).setCell ⟨b, 3, none⟩ v3).setCell ⟨b, 4, none⟩ v4).setCell ⟨b, 5, none⟩ v5).setCell ⟨b, 6, none⟩ v6) := by
  have h1 : (w.setCell ⟨b, 1, none⟩ v1).heap[b]? = some (.cells #[a0, v1, a2, a3, a4, a5, a6, a7, a8] t) := set_cells h
  have h2 : ((w.setCell ⟨b, 1, none⟩ v1).setCell ⟨b, 2, none⟩ v2).heap[b]? = some (.cells #[a0, v1, v2, a3, a4, a5, a6, a7, a8] t) := set_cells h1
  have h3 : (((w.setCell ⟨b, 1, none⟩ v1).setCell ⟨b, 2, none⟩ v2).setCell ⟨b, 3, none⟩ v3).heap[b]? = some (.cells #[a0, v1, v2, v3, a4, a5, a6, a7, a8] t) := set_cells h2
  have h4 : ((((w.setCell ⟨b, 1, none⟩ v1).setCell ⟨b, 2, none⟩ v2).setCell ⟨b, 3, none⟩ v3).setCell ⟨b, 4, none⟩ v4).heap[b]? = some (.cells #[a0, v1, v2, v3, v4, a5, a6, a7, a8] t) := set_cells h3
  have h5 : (((((w.setCell ⟨b, 1, none⟩ v1).setCell ⟨b, 2, none⟩ v2).setCell ⟨b, 3, none⟩ v3).setCell ⟨b, 4, none⟩ v4).setCell ⟨b, 5, none⟩ v5).heap[b]? = some (.cells #[a0, v1, v2, v3, v4, v5, a6, a7, a8] t) := set_cells h4
  have h6 : ((((((w.setCell ⟨b, 1, none⟩ v1).setCell ⟨b, 2, none⟩ v2).setCell ⟨b, 3, none⟩ v3).setCell ⟨b, 4, none⟩ v4).setCell ⟨b, 5, none⟩ v5).setCell ⟨b, 6, none⟩ v6).heap[b]? = some (.cells #[a0, v1, v2, v3, v4, v5, v6, a7, a8] t) := set_cells h5
  exact ⟨h6, fun i hi => (Below.heap_setCell _ ⟨b, 6, none⟩ _ _ hi).trans ((Below.heap_setCell _ ⟨b, 5, none⟩ _ _ hi).trans ((Below.heap_setCell _ ⟨b, 4, none⟩ _ _ hi).trans ((Below.heap_setCell _ ⟨b, 3, none⟩ _ _ hi).trans ((Below.heap_setCell _ ⟨b, 2, none⟩ _ _ hi).trans ((Below.heap_setCell _ ⟨b, 1, none⟩ _ _ hi)))))), fun c hc => (((((((Below.refl c w).setCell hc _).setCell hc _).setCell hc _).setCell hc _).setCell hc _).setCell hc _)⟩
set_option maxRecDepth 100000 in
set_option maxHeartbeats 4000000 in
theorem All_nil (c sp : Nat) (w : World) (h : SK w c sp []) : Calls Tryz.prog 177 #[.pointer (some ⟨sp, 0, none⟩)] w fun e w' => e = .returned (.slice none 0 0) ∧ w' = w := by
  have RN := Lib.hid (Range_nil c sp w h)
  clear h
  go_enter Tryz.func177, Tryz.ntmps177
  go_wp2_with (first | (go_at_call 126; (with_reducible refine (RN.out).mono ?_); rintro e w2 ⟨rfl, hw2⟩; obtain rfl := hw2.symm))
  go_ret
  exact ⟨rfl, rfl⟩
theorem All_two (c sp : Nat) (Z : List (ByteArray × Int)) (n : Nat) (hn : Z.length = n) (w : World) (h : SK w c sp Z) (hlen : Z.length ≤ 100000) : Calls Tryz.prog 177 #[.pointer (some ⟨sp, 0, none⟩)] w fun e w' => ∃ A C, e = .returned (.slice A n C) ∧ RS w' w.heap.size (.slice A n C) Z ∧ Below w.heap.size w w' ∧ (Z = [] → A = none ∧ C = 0) := by
  by_cases hz : Z = []
  · subst hz
    subst hn
    refine (All_nil c sp w h).mono ?_
    rintro e w' ⟨rfl, hw⟩
    obtain rfl := hw.symm
    exact ⟨none, 0, rfl, World.ownsRow_nil _ _ _ _, Below.refl _ _, fun _ => ⟨rfl, rfl⟩⟩
  · refine (All_any c sp Z n hn w h hlen).mono ?_
    rintro e w' ⟨A, C, rfl, h1, h2⟩
    exact ⟨A, C, rfl, h1, h2, fun e => absurd e hz⟩
set_option maxRecDepth 100000 in
set_option maxHeartbeats 8000000 in
theorem zturn_any (bS bM j : Nat) (D : List (ByteArray × List (ByteArray × Int))) (k : ByteArray) (now : Int) (vA : Value) (c ch h sp : Nat) (e3 e4 e5 e6 : Value) (Z : List (ByteArray × Int)) (hN : Z.length ≤ 1000) (hok : Z ≠ [] → okS k Z) (hc : c ≤ ch) (w : World) (hw : ch ≤ w.heap.size) (hS : ∀ X, Below ch w X → SPG KS okS X bS bM D) (hj : ∀ X, Below ch w X → JB X j bS now vA (.slice none 0 0)) (s : ZH ch w h sp k e3 e4 e5 e6 Z) : Calls Tryz.prog 116 #[.pointer (some ⟨h, 0, none⟩), .pointer (some ⟨j, 0, none⟩)] w fun e w' => e = .returned (.tuple #[]) ∧ (∃ vl', JD KS w' j bS now vA c vl' (dEff k (xoS Z) D)) ∧ Kp ch (fun i => i ≠ j) w w' ∧ ∀ i, i < w.heap.size → i ≠ j → i ≠ h → w'.heap[i]? = w.heap[i]? := by
  obtain ⟨n, hn⟩ : ∃ n, Z.length = n := ⟨_, rfl⟩
  have AL := Lib.hid (All_two ch sp Z n hn w s.sk (by omega))
  have HN := Lib.hid hn
  obtain ⟨⟨c0, c1, c2, c3, c4, c5, c6, c7, c8⟩, _⟩ := cells9 s.blk
  have HB := Lib.hid s.blk
  have HHC := Lib.hid s.hc
  have HHL := Lib.hid (lt_blk s.blk)
  have SS := Lib.hid hS
  have JJ := Lib.hid hj
  have OK := Lib.hid hok
  clear hS hj hok s hn c0 c1 c2 c3 c4 c5 c6 c7
  go_enter Tryz.func116, Tryz.ntmps116
  go_wp2_with (first | (go_at_call 177; (with_reducible refine (AL.out).mono ?_); rintro e w1 ⟨A9, C9, rfl, hR, h1, hnil⟩; have NIL := Lib.hid hnil; have R1 := Lib.hid hR; have B1 := Lib.hid h1; clear h1 hR hnil; refine Hid.out ?_))
  refine Lib.hid ?_
  have hb0 := blk_below HB.out B1.out
  obtain ⟨⟨c0, c1, c2, c3, c4, c5, c6, c7, c8⟩, zz⟩ := cells9 hb0
  obtain ⟨s1, s2, s3⟩ := set6z hb0 (.int .i64 4) (.string ⟨#[]⟩) (.slice none 0 0) (.slice none 0 0) (.slice A9 n C9) (.slice none 0 0)
  have f1 := zz 1
  have f2 := zz 2
  have f3 := zz 3
  have f4 := zz 4
  have f5 := zz 5
  have f6 := zz 6
  have BX := Lib.hid ((B1.out.mono hw).trans (s3 _ HHC.out))
  have RX := Lib.hid (R1.out.kept (w' := ((((((w1.setCell ⟨h, 1, none⟩ (.int .i64 4)).setCell ⟨h, 2, none⟩ (.string ⟨#[]⟩)).setCell ⟨h, 3, none⟩ (.slice none 0 0)).setCell ⟨h, 4, none⟩ (.slice none 0 0)).setCell ⟨h, 5, none⟩ (.slice A9 n C9)).setCell ⟨h, 6, none⟩ (.slice none 0 0))) fun g hg => s2 g (by have := (row_own R1.out g hg).1; have := HHL.out; omega))
  have hcz := Below.size BX.out
  have TT : Calls Tryz.prog 161 #[.pointer (some ⟨j, 0, none⟩), .agg #[.string k, .int .i64 4, .string ⟨#[]⟩, .slice none 0 0, .slice none 0 0, .slice A9 n C9, .slice none 0 0, .int .i64 0]] ((((((w1.setCell ⟨h, 1, none⟩ (.int .i64 4)).setCell ⟨h, 2, none⟩ (.string ⟨#[]⟩)).setCell ⟨h, 3, none⟩ (.slice none 0 0)).setCell ⟨h, 4, none⟩ (.slice none 0 0)).setCell ⟨h, 5, none⟩ (.slice A9 n C9)).setCell ⟨h, 6, none⟩ (.slice none 0 0)) (fun e w' => e = .returned (.tuple #[]) ∧ (∃ vl', JD KS w' j bS now vA c vl' ([] ++ dEff k (xoS Z) D)) ∧ Kp ((((((w1.setCell ⟨h, 1, none⟩ (.int .i64 4)).setCell ⟨h, 2, none⟩ (.string ⟨#[]⟩)).setCell ⟨h, 3, none⟩ (.slice none 0 0)).setCell ⟨h, 4, none⟩ (.slice none 0 0)).setCell ⟨h, 5, none⟩ (.slice A9 n C9)).setCell ⟨h, 6, none⟩ (.slice none 0 0)).heap.size (fun q => q ≠ j ∧ (Value.slice none 0 0).ownBlock ≠ some q) ((((((w1.setCell ⟨h, 1, none⟩ (.int .i64 4)).setCell ⟨h, 2, none⟩ (.string ⟨#[]⟩)).setCell ⟨h, 3, none⟩ (.slice none 0 0)).setCell ⟨h, 4, none⟩ (.slice none 0 0)).setCell ⟨h, 5, none⟩ (.slice A9 n C9)).setCell ⟨h, 6, none⟩ (.slice none 0 0)) w') := by
    by_cases hF : Z = []
    · have hi1 : n = 0 := by rw [← HN.out, hF]; rfl
      obtain ⟨rfl, rfl⟩ := NIL.out hF
      subst hi1
      rw [show xoS Z = none from if_pos hF]
      exact TurnD_none KS okS KSok KSsame bS bM j D [] k now vA _ c _ (SS.out _ BX.out) (JD.nil KS c (JJ.out _ BX.out)) (by omega) (by simp)
    · rw [show xoS Z = some Z from if_neg hF]
      refine TurnD_some KS okS KSok KSsame bS bM j D [] k Z now vA _ c none none A9 none 0 0 0 0 n C9 0 0 (OK.out hF) _ (SS.out _ BX.out) (JD.nil KS c (JJ.out _ BX.out)) (by omega) (by simp) ⟨RX.out.mono (Nat.zero_le _), hF, rfl, rfl, rfl⟩ (fun g hg => ?_)
      rcases hg with hg | hg | hg | hg
      · cases hg
      · cases hg
      · have h1 := (row_own RX.out g hg).1
        show c ≤ g
        omega
      · cases hg
  have TT := Lib.hid TT
  have SF := Lib.hid s2
  clear s1 s2 s3 zz hb0
  go_wp2_with (first | (go_at_call 161; (with_reducible refine (TT.out).mono ?_); rintro e w7 ⟨rfl, h7, hK7⟩; have H7 := Lib.hid h7; have K7 := Lib.hid hK7; clear h7 hK7))
  go_end0
  exact ⟨rfl, H7.out, (Kp.of BX.out).trans (K7.out.mono (by omega) (fun q hq => ⟨hq, by simp [Value.ownBlock]⟩)), fun i hi hij hih => (K7.out.block i (Nat.lt_of_lt_of_le hi (Below.size BX.out)) ⟨hij, by simp [Value.ownBlock]⟩).trans ((SF.out i hih).trans (B1.out.block i hi))⟩
end Go.Proofs.YticlacjpgjkhcaaGreatDoor

/- A law's do where the command is refused. -/
namespace Go.Proofs.YticlacjpgjkhcaaGreatDoor
open Go.ChangeShapes Go.WideShapes Go.ChangeAt Go.RowKit

set_option maxRecDepth 100000 in
set_option maxHeartbeats 8000000 in
theorem do_failG (bS : Nat) (vA : Value) (n : Int) (w : World) (hD : ∀ X, Below w.heap.size w X → Calls Tryz.prog 31 #[.pointer (some ⟨bS, 0, none⟩), .int .i64 1, vA] X fun e w' => e = .returned (.tuple #[.agg #[.int .i64 2, .int .i64 n, .string ⟨#[]⟩, .slice none 0 0], .slice none 0 0, .bool true]) ∧ Below X.heap.size X w') : Calls Tryz.prog 23 #[.pointer (some ⟨bS, 0, none⟩), vA] w fun e w' => e = .returned (.agg #[.int .i64 2, .int .i64 n, .string ⟨#[]⟩, .slice none 0 0]) ∧ Below w.heap.size w w' := by
  have A1 := Lib.hid (alloc_old (w := w) (o := .cells #[.int .i64 0, .int .i64 0, .string ⟨#[]⟩, .slice none 0 0] 29))
  have hr := Lib.hid (heap_alloc_new w (.cells #[.int .i64 0, .int .i64 0, .string ⟨#[]⟩, .slice none 0 0] 29))
  have D := Lib.hid (hD _ A1.out)
  clear hD
  go_enter Tryz.func23, Tryz.ntmps23
  go_wp2_with (first | (go_at_call 31; (with_reducible refine (D.out).mono ?_); rintro e w5 ⟨rfl, hb5⟩; have B5 := Lib.hid (A1.out.trans (hb5.mono (Below.size A1.out))); have R5 := Lib.hid (blk_below hr.out hb5); clear hb5; refine Hid.out ?_))
  refine Lib.hid ?_
  have B6 := Lib.hid (show Below w.heap.size w (w5.alloc (.cells #[.int .i64 2, .int .i64 n, .string ⟨#[]⟩, .slice none 0 0] 29)) from B5.out.trans (alloc_old.mono (Below.size B5.out)))
  have o6 := Lib.hid (heap_alloc_new w5 (.cells #[.int .i64 2, .int .i64 n, .string ⟨#[]⟩, .slice none 0 0] 29))
  have R6 := Lib.hid (blk_below R5.out (alloc_old (o := .cells #[.int .i64 2, .int .i64 n, .string ⟨#[]⟩, .slice none 0 0] 29)))
  go_wp2_with fail
  generalize (w5.alloc (.cells #[.int .i64 2, .int .i64 n, .string ⟨#[]⟩, .slice none 0 0] 29)) = w6 at B6 o6 R6 ⊢
  refine wp_loop_once ?_
  obtain ⟨⟨d0, d1, d2, d3⟩, _⟩ := cells4 o6.out
  obtain ⟨⟨c0, c1, c2, c3⟩, ⟨f0, f1, f2, f3⟩⟩ := cells4 R6.out
  go_wp2
  exact bodyPost_ret (v := .agg #[.int .i64 2, .int .i64 n, .string ⟨#[]⟩, .slice none 0 0]) (by simp [results, Tryz.results23, go_sem, c0, c1, c2, c3]) rfl ⟨rfl, ((((B6.out.setCell (Nat.le_refl _) _).setCell (Nat.le_refl _) _).setCell (Nat.le_refl _) _).setCell (Nat.le_refl _) _)⟩
end Go.Proofs.YticlacjpgjkhcaaGreatDoor

/- hashes.Do: the commands' functions by name; a law's do over data. -/
namespace Go.MapT
open Go.MapKept Go.RowKit
theorem at_insertL {P : Program} {t key elem : TypeId} {ops : Array Oper} {rest : List Oper} {o : Oper} {a : Act} {Q : Exit → Act → World → Prop} (w : World) (hg : o.guard = none) (hd : o.dst = none) (m v : Operand) (k : ByteArray) (hop : o.op = Op.insert t m (.const (.string k)) v) (ht : P.underlying t = some (.map key elem)) (hk : P.underlying key = some .string)
    (b : Nat) (l : Ents) (hm : a.eval m = .map (some b)) (h : MB w b l) (u : Value) (hv : a.eval v = u)
    (hK : ∀ w', MB w' b (put k u l) → w.grownBy w' (some b) → wpList P ops Q rest a w') : wpList P ops Q (o :: rest) a w := by
  refine wpList_plain hg fun K' hK' => ?_
  obtain ⟨w', hrun, r1, r2, r3⟩ := run_update ht hk h k u
  unfold Oper.wp
  have hx : a.eval (.const (.string k)) = .string k := rfl
  simp [execOp, hop, hm, hx, hv, hrun, Result.andThen]
  refine hK' _ _ ?_
  rw [hd]
  exact hK w' r1 r2
theorem at_insertF {P : Program} {t key elem : TypeId} {ops : Array Oper} {rest : List Oper} {o : Oper} {a : Act} {Q : Exit → Act → World → Prop} (w : World) (hg : o.guard = none) (hd : o.dst = none) (m : Operand) (k : ByteArray) (f : FuncId) (hop : o.op = Op.insert t m (.const (.string k)) (.func f)) (ht : P.underlying t = some (.map key elem)) (hk : P.underlying key = some .string)
    (b : Nat) (l : Ents) (hm : a.eval m = .map (some b)) (h : MB w b l)
    (hK : ∀ w', MB w' b (put k (.func (.func f) #[] #[]) l) → w.grownBy w' (some b) → wpList P ops Q rest a w') : wpList P ops Q (o :: rest) a w :=
  at_insertL w hg hd m _ k hop ht hk b l hm h (.func (.func f) #[] #[]) rfl hK
end Go.MapT
namespace Go.Proofs.YticlacjpgjkhcaaGreatDoor
open Go.ChangeShapes Go.WideShapes Go.ChangeAt Go.RowKit

/-- What stands while the map of commands is made. -/
structure DoSt (w X : World) (bm : Nat) (l : MapT.Ents) : Prop where
  mb : MapT.MB X bm l
  below : Below w.heap.size w X
  hb : w.heap.size < bm
  reply : X.heap[w.heap.size]? = some (.cells #[.int .i64 0, .int .i64 0, .string ⟨#[]⟩, .slice none 0 0] 29)
theorem DoSt.ins {w X Y : World} {bm : Nat} {l l' : MapT.Ents} (h : DoSt w X bm l) (h1 : MapT.MB Y bm l') (h2 : X.grownBy Y (some bm)) : DoSt w Y bm l' :=
  ⟨h1, h.below.grown h2 (Below.size h.below) (fun k hk => by cases hk; exact Nat.le_of_lt h.hb), h.hb, (grown_block h2 (lt_blk h.reply) (by have := h.hb; omega)).trans h.reply⟩
/-- A command's function at a world, over data: its reply, its effects. -/
def CmdD {α : Type} (K : Kd α) (ok : ByteArray → α → Prop) (F : FuncId) (bS bM : Nat) (D : List (ByteArray × α)) (now : Int) (xs : List ByteArray) (k n : Int) (s : ByteArray) (R : Nat → World → Value → Prop) (des : List (ByteArray × Option α)) (X : World) : Prop :=
  ∀ (j : Nat) (vA : Value), SPG K ok X bS bM D → JB X j bS now vA (.slice none 0 0) → SSl X vA xs →
    Calls Tryz.prog F #[.pointer (some ⟨j, 0, none⟩)] X fun e w' => ∃ A m c, e = .returned (.agg #[.int .i64 k, .int .i64 n, .string s, .slice A m c]) ∧ R X.heap.size w' (.slice A m c) ∧
      (∃ vl, JD K w' j bS now vA X.heap.size vl des) ∧ Kp X.heap.size (fun i => i ≠ j) X w'
/-- The commands' functions. -/
abbrev flH : MapT.Ents := MapT.put ⟨#[72, 73, 78, 67, 82, 66, 89]⟩ (.func (.func 89) #[] #[]) (MapT.put ⟨#[72, 71, 69, 84, 65, 76, 76]⟩ (.func (.func 88) #[] #[]) (MapT.put ⟨#[72, 86, 65, 76, 83]⟩ (.func (.func 87) #[] #[]) (MapT.put ⟨#[72, 75, 69, 89, 83]⟩ (.func (.func 85) #[] #[]) (MapT.put ⟨#[72, 83, 84, 82, 76, 69, 78]⟩ (.func (.func 84) #[] #[]) (MapT.put ⟨#[72, 76, 69, 78]⟩ (.func (.func 83) #[] #[]) (MapT.put ⟨#[72, 69, 88, 73, 83, 84, 83]⟩ (.func (.func 82) #[] #[]) (MapT.put ⟨#[72, 68, 69, 76]⟩ (.func (.func 81) #[] #[]) (MapT.put ⟨#[72, 77, 71, 69, 84]⟩ (.func (.func 80) #[] #[]) (MapT.put ⟨#[72, 71, 69, 84]⟩ (.func (.func 79) #[] #[]) (MapT.put ⟨#[72, 83, 69, 84, 78, 88]⟩ (.func (.func 78) #[] #[]) (MapT.put ⟨#[72, 83, 69, 84]⟩ (.func (.func 77) #[] #[]) ([]))))))))))))
theorem sel_HSET : MapT.find ⟨#[72, 83, 69, 84]⟩ flH = some (.func (.func 77) #[] #[]) := by kernel_rfl
theorem ent_HSET (args : Array Value) (w : World) : (callFunc 77 args).run Tryz.prog w = .ok (.enter 77 args) w := by kernel_rfl
theorem sel_HSETNX : MapT.find ⟨#[72, 83, 69, 84, 78, 88]⟩ flH = some (.func (.func 78) #[] #[]) := by kernel_rfl
theorem ent_HSETNX (args : Array Value) (w : World) : (callFunc 78 args).run Tryz.prog w = .ok (.enter 78 args) w := by kernel_rfl
theorem sel_HGET : MapT.find ⟨#[72, 71, 69, 84]⟩ flH = some (.func (.func 79) #[] #[]) := by kernel_rfl
theorem ent_HGET (args : Array Value) (w : World) : (callFunc 79 args).run Tryz.prog w = .ok (.enter 79 args) w := by kernel_rfl
theorem sel_HMGET : MapT.find ⟨#[72, 77, 71, 69, 84]⟩ flH = some (.func (.func 80) #[] #[]) := by kernel_rfl
theorem ent_HMGET (args : Array Value) (w : World) : (callFunc 80 args).run Tryz.prog w = .ok (.enter 80 args) w := by kernel_rfl
theorem sel_HDEL : MapT.find ⟨#[72, 68, 69, 76]⟩ flH = some (.func (.func 81) #[] #[]) := by kernel_rfl
theorem ent_HDEL (args : Array Value) (w : World) : (callFunc 81 args).run Tryz.prog w = .ok (.enter 81 args) w := by kernel_rfl
theorem sel_HEXISTS : MapT.find ⟨#[72, 69, 88, 73, 83, 84, 83]⟩ flH = some (.func (.func 82) #[] #[]) := by kernel_rfl
theorem ent_HEXISTS (args : Array Value) (w : World) : (callFunc 82 args).run Tryz.prog w = .ok (.enter 82 args) w := by kernel_rfl
theorem sel_HLEN : MapT.find ⟨#[72, 76, 69, 78]⟩ flH = some (.func (.func 83) #[] #[]) := by kernel_rfl
theorem ent_HLEN (args : Array Value) (w : World) : (callFunc 83 args).run Tryz.prog w = .ok (.enter 83 args) w := by kernel_rfl
theorem sel_HSTRLEN : MapT.find ⟨#[72, 83, 84, 82, 76, 69, 78]⟩ flH = some (.func (.func 84) #[] #[]) := by kernel_rfl
theorem ent_HSTRLEN (args : Array Value) (w : World) : (callFunc 84 args).run Tryz.prog w = .ok (.enter 84 args) w := by kernel_rfl
theorem sel_HKEYS : MapT.find ⟨#[72, 75, 69, 89, 83]⟩ flH = some (.func (.func 85) #[] #[]) := by kernel_rfl
theorem ent_HKEYS (args : Array Value) (w : World) : (callFunc 85 args).run Tryz.prog w = .ok (.enter 85 args) w := by kernel_rfl
theorem sel_HVALS : MapT.find ⟨#[72, 86, 65, 76, 83]⟩ flH = some (.func (.func 87) #[] #[]) := by kernel_rfl
theorem ent_HVALS (args : Array Value) (w : World) : (callFunc 87 args).run Tryz.prog w = .ok (.enter 87 args) w := by kernel_rfl
theorem sel_HGETALL : MapT.find ⟨#[72, 71, 69, 84, 65, 76, 76]⟩ flH = some (.func (.func 88) #[] #[]) := by kernel_rfl
theorem ent_HGETALL (args : Array Value) (w : World) : (callFunc 88 args).run Tryz.prog w = .ok (.enter 88 args) w := by kernel_rfl
theorem sel_HINCRBY : MapT.find ⟨#[72, 73, 78, 67, 82, 66, 89]⟩ flH = some (.func (.func 89) #[] #[]) := by kernel_rfl
theorem ent_HINCRBY (args : Array Value) (w : World) : (callFunc 89 args).run Tryz.prog w = .ok (.enter 89 args) w := by kernel_rfl
set_option maxRecDepth 100000 in
set_option maxHeartbeats 8000000 in
theorem Do_okH (RAW NAME : ByteArray) (F : FuncId) (bS bM : Nat) (l : MapT.Ents) (now : Int) (xs : List ByteArray) (vA : Value) (k n : Int) (s : ByteArray) (R E : Nat → World → Value → Prop) (hR : RKeep R) (hE : RKeep E) (w : World) (hS : SP w bS bM l) (hA : SSl w vA xs) (hx : xs[0]? = some RAW) (hfit : ∀ X, SSl X vA xs → Calls Tryz.prog 95 #[vA] X fun e w' => e = .returned (.int .i64 0) ∧ Below X.heap.size X w') (hup : ∀ X, Calls Tryz.prog 96 #[.string RAW] X fun e w' => e = .returned (.string NAME) ∧ Below X.heap.size X w')
    (hsel : MapT.find NAME flH = some (.func (.func F) #[] #[])) (hent : ∀ (args : Array Value) (w : World), (callFunc F args).run Tryz.prog w = .ok (.enter F args) w) (hF : ∀ W, Below w.heap.size w W → CmdOkG W F #[] bS bM l now xs k n s R E) :
    Calls Tryz.prog 31 #[.pointer (some ⟨bS, 0, none⟩), .int .i64 now, vA] w fun e w' => ∃ A m c A' n' c', e = .returned (.tuple #[.agg #[.int .i64 k, .int .i64 n, .string s, .slice A m c], .slice A' n' c', .bool true]) ∧ R w.heap.size w' (.slice A m c) ∧ E w.heap.size w' (.slice A' n' c') ∧ Below w.heap.size w w' := by
  have hmm := @run_makeMap Tryz.prog
  have hmf : ∀ (fn : Fn) (first cap : Array Value) (w : World), (Instr.makeFunc fn first cap).run Tryz.prog w = .ok (.func fn first cap) w := fun _ _ _ _ => rfl
  have Q9 := Lib.hid (show DoSt w ((w.alloc (.cells #[.int .i64 0, .int .i64 0, .string ⟨#[]⟩, .slice none 0 0] 29)).alloc (.map #[] 0)) (w.heap.size + 1) [] from ⟨by
    have := MapT.MB.made (w.alloc (.cells #[.int .i64 0, .int .i64 0, .string ⟨#[]⟩, .slice none 0 0] 29))
    rw [World.size_alloc] at this
    exact this, alloc_old.trans (alloc_old.mono (by simp)), by omega, blk_below (heap_alloc_new w _) alloc_old⟩)
  have RR := Lib.hid (fun X (hX : DoSt w X (w.heap.size + 1) flH) => (show Calls Tryz.prog 36 #[.pointer (some ⟨bS, 0, none⟩), .int .i64 now, vA, .map (some (w.heap.size + 1))] X (fun e w' => ∃ A m c A' n' c', e = .returned (.tuple #[.agg #[.int .i64 k, .int .i64 n, .string s, .slice A m c], .slice A' n' c', .bool true]) ∧ R X.heap.size w' (.slice A m c) ∧ E X.heap.size w' (.slice A' n' c') ∧ Below X.heap.size X w') from
    Run_okG X RAW NAME F #[] bS bM (w.heap.size + 1) l _ now xs vA k n s R E (hF X hX.below) hR hE X (Below.refl _ _) (hS.below hX.below) (hA.below hX.below) hX.mb hsel hx hent hfit hup))
  obtain ⟨aA, acap, hvA, _⟩ := id hA
  clear hfit hup hA hS hx hsel hent hF
  subst hvA
  go_enter Tryz.func31, Tryz.ntmps31
  go_wp2_with (first | (refine MapT.at_insertF _ rfl rfl _ _ _ rfl Tryz.underlying81 Tryz.underlying9 (w.heap.size + 1) _ rfl Q9.out.mb ?_; intro w9 hM9 hg9; have Q9 := Lib.hid (Q9.out.ins hM9 hg9); clear hM9 hg9) | (go_at_call 36; (with_reducible refine (RR.out _ Q9.out).mono ?_); rintro e w5 ⟨A, m, c, A', n', c', rfl, hRR, hE5, hb5⟩; have B5 := Lib.hid hb5; obtain ⟨⟨a0, a1, a2, a3⟩, ⟨f0, f1, f2, f3⟩⟩ := cells4 (blk_below Q9.out.reply hb5); clear hb5))
  have BW := Lib.hid (Q9.out.below.trans (B5.out.mono (Below.size Q9.out.below)))
  have hle : w.heap.size + 1 ≤ w9.heap.size := Nat.le_of_lt (Q9.out.mb).lt
  have hfar : ∀ i, w.heap.size + 1 ≤ i → i < w5.heap.size → (((((w5.setCell ⟨w.heap.size, 0, none⟩ (.int .i64 k)).setCell ⟨w.heap.size, 1, none⟩ (.int .i64 n)).setCell ⟨w.heap.size, 2, none⟩ (.string s)).setCell ⟨w.heap.size, 3, none⟩ (.slice A m c))).heap[i]? = w5.heap[i]? := fun i hi _ => far4 (X := w5) (b := w.heap.size) _ _ _ _ (by omega)
  have hsz : w5.heap.size ≤ (((((w5.setCell ⟨w.heap.size, 0, none⟩ (.int .i64 k)).setCell ⟨w.heap.size, 1, none⟩ (.int .i64 n)).setCell ⟨w.heap.size, 2, none⟩ (.string s)).setCell ⟨w.heap.size, 3, none⟩ (.slice A m c))).heap.size := by simp [World.setCell]
  have hR6 := hR.kept _ _ _ _ (hR.mono _ (w.heap.size + 1) _ _ hRR hle) hsz hfar
  have hE6 := hE.kept _ _ _ _ (hE.mono _ (w.heap.size + 1) _ _ hE5 hle) hsz hfar
  exact bodyPost_ret (v := .tuple #[.agg #[.int .i64 k, .int .i64 n, .string s, .slice A m c], .slice A' n' c', .bool true]) (by simp [results, Tryz.results31, go_sem, a0, a1, a2, a3]) rfl ⟨A, m, c, A', n', c', rfl, hR.mono _ _ _ _ hR6 (by omega), hE.mono _ _ _ _ hE6 (by omega), (((BW.out.setCell (p := ⟨w.heap.size, 0, none⟩) (Nat.le_refl _) _).setCell (p := ⟨w.heap.size, 1, none⟩) (Nat.le_refl _) _).setCell (p := ⟨w.heap.size, 2, none⟩) (Nat.le_refl _) _).setCell (p := ⟨w.heap.size, 3, none⟩) (Nat.le_refl _) _⟩
set_option maxRecDepth 100000 in
set_option maxHeartbeats 8000000 in
theorem Do_failH (RAW NAME : ByteArray) (F : FuncId) (bS bM : Nat) (l : MapT.Ents) (now : Int) (xs : List ByteArray) (vA : Value) (n : Int) (w : World) (hS : SP w bS bM l) (hA : SSl w vA xs) (hx : xs[0]? = some RAW) (hfit : ∀ X, SSl X vA xs → Calls Tryz.prog 95 #[vA] X fun e w' => e = .returned (.int .i64 0) ∧ Below X.heap.size X w') (hup : ∀ X, Calls Tryz.prog 96 #[.string RAW] X fun e w' => e = .returned (.string NAME) ∧ Below X.heap.size X w')
    (hsel : MapT.find NAME flH = some (.func (.func F) #[] #[])) (hent : ∀ (args : Array Value) (w : World), (callFunc F args).run Tryz.prog w = .ok (.enter F args) w) (hF : CmdFail w F bS bM l now xs n) :
    Calls Tryz.prog 31 #[.pointer (some ⟨bS, 0, none⟩), .int .i64 now, vA] w fun e w' => e = .returned (.tuple #[.agg #[.int .i64 2, .int .i64 n, .string ⟨#[]⟩, .slice none 0 0], .slice none 0 0, .bool true]) ∧ Below w.heap.size w w' := by
  have hmm := @run_makeMap Tryz.prog
  have hmf : ∀ (fn : Fn) (first cap : Array Value) (w : World), (Instr.makeFunc fn first cap).run Tryz.prog w = .ok (.func fn first cap) w := fun _ _ _ _ => rfl
  have Q9 := Lib.hid (show DoSt w ((w.alloc (.cells #[.int .i64 0, .int .i64 0, .string ⟨#[]⟩, .slice none 0 0] 29)).alloc (.map #[] 0)) (w.heap.size + 1) [] from ⟨by
    have := MapT.MB.made (w.alloc (.cells #[.int .i64 0, .int .i64 0, .string ⟨#[]⟩, .slice none 0 0] 29))
    rw [World.size_alloc] at this
    exact this, alloc_old.trans (alloc_old.mono (by simp)), by omega, blk_below (heap_alloc_new w _) alloc_old⟩)
  have RR := Lib.hid (fun X (hX : DoSt w X (w.heap.size + 1) flH) => (show Calls Tryz.prog 36 #[.pointer (some ⟨bS, 0, none⟩), .int .i64 now, vA, .map (some (w.heap.size + 1))] X (fun e w' => e = .returned (.tuple #[.agg #[.int .i64 2, .int .i64 n, .string ⟨#[]⟩, .slice none 0 0], .slice none 0 0, .bool true]) ∧ Below X.heap.size X w') from
    Run_fail w RAW NAME F bS bM (w.heap.size + 1) l _ now xs vA n hF X hX.below (hS.below hX.below) (hA.below hX.below) hX.mb hsel hx hent hfit hup))
  obtain ⟨aA, acap, hvA, _⟩ := id hA
  clear hfit hup hA hS hx hsel hent hF
  subst hvA
  go_enter Tryz.func31, Tryz.ntmps31
  go_wp2_with (first | (refine MapT.at_insertF _ rfl rfl _ _ _ rfl Tryz.underlying81 Tryz.underlying9 (w.heap.size + 1) _ rfl Q9.out.mb ?_; intro w9 hM9 hg9; have Q9 := Lib.hid (Q9.out.ins hM9 hg9); clear hM9 hg9) | (go_at_call 36; (with_reducible refine (RR.out _ Q9.out).mono ?_); rintro e w5 ⟨rfl, hb5⟩; have B5 := Lib.hid hb5; obtain ⟨⟨a0, a1, a2, a3⟩, ⟨f0, f1, f2, f3⟩⟩ := cells4 (blk_below Q9.out.reply hb5); clear hb5))
  have BW := Lib.hid (Q9.out.below.trans (B5.out.mono (Below.size Q9.out.below)))
  exact bodyPost_ret (v := .tuple #[.agg #[.int .i64 2, .int .i64 n, .string ⟨#[]⟩, .slice none 0 0], .slice none 0 0, .bool true]) (by simp [results, Tryz.results31, go_sem, a0, a1, a2, a3]) rfl ⟨rfl, (((BW.out.setCell (p := ⟨w.heap.size, 0, none⟩) (Nat.le_refl _) _).setCell (p := ⟨w.heap.size, 1, none⟩) (Nat.le_refl _) _).setCell (p := ⟨w.heap.size, 2, none⟩) (Nat.le_refl _) _).setCell (p := ⟨w.heap.size, 3, none⟩) (Nat.le_refl _) _⟩
/-- A law's do. -/
theorem do_DH {α : Type} (K : Kd α) (ok : ByteArray → α → Prop) (hO : KdOk K ok) (RAW NAME : ByteArray) (F : FuncId) (bS bM : Nat) (D : List (ByteArray × α)) (xs : List ByteArray) (vA : Value) (k n : Int) (s : ByteArray) (R : Nat → World → Value → Prop) (hR : RKeep R) (des : List (ByteArray × Option α)) (hm : MayD ok des D) (w : World) (hS : SPG K ok w bS bM D) (hA : SSl w vA xs) (hx : xs[0]? = some RAW) (hfit : ∀ X, SSl X vA xs → Calls Tryz.prog 95 #[vA] X fun e w' => e = .returned (.int .i64 0) ∧ Below X.heap.size X w') (hup : ∀ X, Calls Tryz.prog 96 #[.string RAW] X fun e w' => e = .returned (.string NAME) ∧ Below X.heap.size X w')
    (hsel : MapT.find NAME flH = some (.func (.func F) #[] #[])) (hent : ∀ (args : Array Value) (w : World), (callFunc F args).run Tryz.prog w = .ok (.enter F args) w) (hF : ∀ X, Below w.heap.size w X → CmdD K ok F bS bM D 1 xs k n s R des X) :
    Calls Tryz.prog 23 #[.pointer (some ⟨bS, 0, none⟩), vA] w fun e w' => ∃ A m c, e = .returned (.agg #[.int .i64 k, .int .i64 n, .string s, .slice A m c]) ∧ R w.heap.size w' (.slice A m c) ∧ SPG K ok w' bS bM (applyD des D) ∧ Kp w.heap.size (fun i => i ≠ bS ∧ i ≠ bM) w w' := by
  refine do_okG K ok hO bS bM D vA k n s R hR des hm w hS (fun X hX => ?_)
  obtain ⟨⟨l, hSP, hAE⟩, hall⟩ := SPG.below K ok hS hX
  refine Do_okH RAW NAME F bS bM l 1 xs vA k n s R (EL K des) hR (EL.keep K des) X hSP (hA.below hX) hx hfit hup hsel hent (fun W hW Y j vB hY _ hJ hss => ?_)
  refine (hF Y ((hX.trans (hW.mono (Below.size hX))).trans (hY.mono (Nat.le_trans (Below.size hX) (Below.size hW)))) j vB (SPG.below K ok hS ((hX.trans (hW.mono (Below.size hX))).trans (hY.mono (Nat.le_trans (Below.size hX) (Below.size hW))))) hJ hss).mono ?_
  rintro e w' ⟨A, m, c, rfl, hRR, ⟨vl, ⟨A', n', c', rfl⟩, hJ', css, hE', hA'⟩, hK⟩
  exact ⟨A, m, c, rfl, hRR, ⟨A', n', c', hJ', css, hE', hA'⟩, hK⟩
end Go.Proofs.YticlacjpgjkhcaaGreatDoor
