/- Texts joined: ZV, ZX, ZW2, ZW3 -/
import Derived.Test.YticlacjpgjkhcaaGreatDoorQs33
import Derived.Test.YticlacjpgjkhcaaGreatDoorQs37
import Derived.Stop.LaidErr
import Derived.ProofKit
import Derived.SliceStrings
import Derived.Deep.Slices
import Derived.Deep.SlicePairs
import Derived.Lib.LaidTab
set_option linter.unusedVariables false
set_option linter.unusedSimpArgs false

/- Scores of a law that are moved: names, each with its score. -/
namespace Go.Proofs.YticlacjpgjkhcaaGreatDoor
open Go.ChangeShapes Go.WideShapes Go.ChangeAt Go.RowKit

theorem putZ_lenE (k : ByteArray) (s : Int) (Z : List (ByteArray × Int)) : (putZ k s Z).length = (delD k Z).length + 1 := by
  have h := part_len (fun q => ltZ q (k, s)) (delD k Z)
  unfold putZ insZ loZ hiZ
  rw [List.length_append, List.length_cons]
  omega
theorem del_lenS (k : ByteArray) (y : Int) : ∀ (Z : List (ByteArray × Int)), findD k Z = some y → (delD k Z).length + 1 = Z.length
  | [], h => by cases h
  | (x, v) :: r, h => by
    by_cases hx : x = k
    · simp [delD, hx]
    · have e : findD k ((x, v) :: r) = findD k r := if_neg hx
      rw [e] at h
      have ih := del_lenS k y r h
      have e2 : delD k ((x, v) :: r) = (x, v) :: delD k r := if_neg hx
      rw [e2, List.length_cons, List.length_cons]
      omega
theorem find_memZ {k : ByteArray} {s : Int} : ∀ {Z : List (ByteArray × Int)}, (namesD Z).Nodup → (k, s) ∈ Z → findD k Z = some s
  | [], _, h => by cases h
  | (x, v) :: r, hn, h => by
    have hn9 : x ∉ namesD r ∧ (namesD r).Nodup := List.nodup_cons.1 hn
    rcases List.mem_cons.1 h with e | h
    · cases e
      exact if_pos rfl
    · have hx : x ≠ k := fun e => hn9.1 (List.mem_map.2 ⟨(k, s), h, e.symm⟩)
      have e : findD k ((x, v) :: r) = findD k r := if_neg hx
      rw [e]
      exact find_memZ hn9.2 h
/-- The law's scores: k names, each with its score. -/
structure MZ (F : List (ByteArray × Int)) (k : Nat) (v : Nat → Int) : Prop where
  bd : ZBd F
  len : F.length = k
  mem : ∀ p ∈ F, ∃ j, j < k ∧ p.1 = nZ j
  at_ : ∀ j, j < k → findD (nZ j) F = some (v j)
theorem MZ.zero (v : Nat → Int) : MZ [] 0 v := ⟨ZBd.nil, rfl, fun p h => (by cases h), fun j h => absurd h (Nat.not_lt_zero j)⟩
theorem MZ.none {F : List (ByteArray × Int)} {i : Nat} {v : Nat → Int} (h : MZ F i v) (hi : i < 9) : findD (nZ i) F = none := find_noneZ _ _ fun p hp e => by
  obtain ⟨j, hj, e2⟩ := h.mem p hp
  have := nZ_ne i (by omega) j (by omega) (e2.symm.trans e)
  omega
theorem MZ.add {F : List (ByteArray × Int)} {i : Nat} {v : Nat → Int} (h : MZ F i v) (hi : i < 9) (x : Int) (hx : I64 x) (hv : v i = x) : MZ (putZ (nZ i) x F) (i + 1) v := by
  have hl : (putZ (nZ i) x F).length = i + 1 := by rw [putZ_lenE, delD_none _ _ (h.none hi), h.len]
  refine ⟨h.bd.put _ _ (by rw [nZ_size]; decide) hx (by omega), hl, fun p hp => ?_, fun j hj => ?_⟩
  · rcases mem_insZ.1 hp with rfl | hp
    · exact ⟨i, by omega, rfl⟩
    · obtain ⟨j, hj, e⟩ := h.mem p ((del_subZ _ F).subset hp)
      exact ⟨j, by omega, e⟩
  · rw [find_putZ _ h.bd.ord h.bd.nd]
    by_cases e : nZ i = nZ j
    · have := nZ_ne j (by omega) i (by omega) e
      subst this
      rw [if_pos rfl, hv]
    · rw [if_neg e]
      exact h.at_ j (by rcases Nat.lt_or_ge j i with g | g
                        · exact g
                        · exact absurd (by rw [show i = j by omega]) e)
theorem MZ.mv {F : List (ByteArray × Int)} {k : Nat} {v : Nat → Int} (h : MZ F k v) (hk : k ≤ 9) (i : Nat) (hi : i < k) (x : Int) (hx : I64 x) : MZ (putZ (nZ i) x F) k (fun j => if j = i then x else v j) := by
  have hl : (putZ (nZ i) x F).length = k := by rw [putZ_lenE, del_lenS _ _ _ (h.at_ i hi), h.len]
  refine ⟨h.bd.put _ _ (by rw [nZ_size]; decide) hx (by omega), hl, fun p hp => ?_, fun j hj => ?_⟩
  · rcases mem_insZ.1 hp with rfl | hp
    · exact ⟨i, hi, rfl⟩
    · exact h.mem p ((del_subZ _ F).subset hp)
  · rw [find_putZ _ h.bd.ord h.bd.nd]
    by_cases e : j = i
    · subst e
      rw [if_pos rfl, if_pos rfl]
    · rw [if_neg fun e2 => e (nZ_ne i (by omega) j (by omega) e2.symm), if_neg e]
      exact h.at_ j hj
theorem MZ.cong {F : List (ByteArray × Int)} {k : Nat} {v u : Nat → Int} (h : MZ F k v) (hu : ∀ j, j < k → v j = u j) : MZ F k u := ⟨h.bd, h.len, h.mem, fun j hj => by rw [← hu j hj]; exact h.at_ j hj⟩
theorem MZ.one {F : List (ByteArray × Int)} {k : Nat} {v : Nat → Int} (h : MZ F k v) (p : ByteArray × Int) : p ∈ F ↔ ∃ j, j < k ∧ p = (nZ j, v j) := by
  constructor
  · intro hp
    obtain ⟨j, hj, e⟩ := h.mem p hp
    have h1 := find_memZ (k := p.1) (s := p.2) h.bd.nd hp
    rw [e, h.at_ j hj] at h1
    refine ⟨j, hj, ?_⟩
    cases p
    simp only at e h1
    cases h1
    rw [e]
  · rintro ⟨j, hj, rfl⟩
    exact findD_mem (h.at_ j hj)
/-- Scores in order are told by what they hold. -/
theorem MZ.ext {F G : List (ByteArray × Int)} {k : Nat} {v : Nat → Int} (h : MZ F k v) (g : MZ G k v) : F = G :=
  h.bd.ord.eq_of_perm g.bd.ord ((List.perm_ext_iff_of_nodup h.bd.ord.nodup g.bd.ord.nodup).2 fun p => (h.one p).trans (g.one p).symm)
def shZ (d : Int) (F : List (ByteArray × Int)) : List (ByteArray × Int) := F.map fun p => (p.1, p.2 + d)
theorem shZ_names (d : Int) (F : List (ByteArray × Int)) : (shZ d F).map Prod.fst = F.map Prod.fst := by
  unfold shZ
  rw [List.map_map]
  rfl
theorem shZ_cat (d : Int) (F : List (ByteArray × Int)) : catN (shZ d F) = catN F := by
  unfold shZ catN
  rw [List.foldl_map]
theorem shZ_find (d : Int) (k : ByteArray) : ∀ (F : List (ByteArray × Int)), findD k (shZ d F) = (findD k F).map (· + d)
  | [] => rfl
  | (x, s) :: r => by
    by_cases e : x = k
    · simp [shZ, findD, e]
    · have ih := shZ_find d k r
      have e1 : findD k (shZ d ((x, s) :: r)) = findD k (shZ d r) := if_neg e
      have e2 : findD k ((x, s) :: r) = findD k r := if_neg e
      rw [e1, e2]
      exact ih
/-- All moved alike: the same order. -/
theorem MZ.shift {F : List (ByteArray × Int)} {k : Nat} {v : Nat → Int} (h : MZ F k v) (d : Int) (hd : ∀ j, j < k → I64 (v j + d)) : MZ (shZ d F) k (fun j => v j + d) := by
  refine ⟨⟨by unfold shZ; rw [List.length_map]; exact h.bd.few, fun p hp => ?_, ?_, ?_, fun p hp => ?_⟩, by unfold shZ; rw [List.length_map]; exact h.len, fun p hp => ?_, fun j hj => ?_⟩
  · obtain ⟨q, hq, rfl⟩ := List.mem_map.1 hp
    exact h.bd.name q hq
  · refine List.pairwise_map.2 (h.bd.ord.imp fun {a b} hab => ?_)
    rw [ltZ_iff] at hab ⊢
    show a.2 + d < b.2 + d ∨ (a.2 + d = b.2 + d ∧ bl a.1 < bl b.1)
    rcases hab with g | ⟨g, g2⟩
    · exact .inl (by omega)
    · exact .inr ⟨by omega, g2⟩
  · show ((shZ d F).map Prod.fst).Nodup
    rw [shZ_names]
    exact h.bd.nd
  · obtain ⟨q, hq, rfl⟩ := List.mem_map.1 hp
    obtain ⟨j, hj, rfl⟩ := (h.one q).1 hq
    exact hd j hj
  · obtain ⟨q, hq, rfl⟩ := List.mem_map.1 hp
    exact h.mem q hq
  · rw [shZ_find, h.at_ j hj]
    rfl
theorem MZ.names {F : List (ByteArray × Int)} {k : Nat} {v : Nat → Int} (h : MZ F k v) : (catN F).size = k := by
  rw [catN_size F fun p hp => ?_, h.len]
  obtain ⟨j, _, e⟩ := h.mem p hp
  rw [e]
  rfl
end Go.Proofs.YticlacjpgjkhcaaGreatDoor

/- The scores' laws: what comes in, read; the tables; whole numbers in a row. -/
namespace Go.Proofs.YticlacjpgjkhcaaGreatDoor
open Go.ChangeShapes Go.WideShapes Go.ChangeAt Go.RowKit

/-- A slice of whole numbers. -/
def ISz (w : World) (v : Value) (zs : List Int) : Prop := ∃ A cap, v = .slice A zs.length cap ∧ zs.length ≤ cap ∧ cap ≤ maxLen ∧
  (zs ≠ [] → ∃ blk off, A = some ⟨blk, off, none⟩ ∧ blk < w.heap.size ∧ ∀ (i : Nat) z, zs[i]? = some z → w.cell? ⟨blk, off + i, none⟩ = some (.int .i64 z)) ∧ ∀ z ∈ zs, I64 z
section
variable {H : Type} {enc : TypeId × Value → H} {W : World}
theorem at_ofZ {a : Addr} {n : Nat} {f : Nat → Value} (h : ∀ i, i < n → W.cell? (a.add i) = some (f i)) (hp : 0 < n) :
    ∃ b off, a = ⟨b, off, none⟩ ∧ b < W.heap.size ∧ ∀ j, j < n → W.cell? ⟨b, off + j, none⟩ = some (f j) := by
  obtain ⟨b, off, spot⟩ := a
  have hspot : spot = none := by simpa [Addr.add] using World.cell?_spot (h 0 hp)
  subst hspot
  have h2 : ∀ j, j < n → W.cell? ⟨b, off + j, none⟩ = some (f j) := fun j hj => by rw [← Go.WideShapes.add_plain]; exact h j hj
  refine ⟨b, off, rfl, ?_, h2⟩
  have h0 := h2 0 hp
  rcases Nat.lt_or_ge b W.heap.size with hb | hb
  · exact hb
  · unfold World.cell? at h0
    simp only [Array.getElem?_eq_none hb] at h0
    cases h0
theorem ISz.of_trod {v : Value} {d : DataW H} {ps : List MemPlace} (h : DataW.Trod enc Tryz.prog W 0 (fun _ => true) true 22 v d ps) (hv : ∃ A n c, v = .slice A n c) : ∃ l, ISz W v l := by
  obtain ⟨A, n, c, rfl⟩ := hv
  obtain ⟨m, hm⟩ := h
  rcases open_ints Tryz.underlying22 Tryz.underlying3 (by kernel_rfl) hm with ⟨hcs, _⟩ | ⟨a, len, cap, zs, hcs, _, hl, hc, hs, _, hcell, hw⟩
  · obtain ⟨rfl, rfl, rfl⟩ : A = none ∧ n = 0 ∧ c = 0 := by simpa [Value.cells] using hcs
    exact ⟨[], none, 0, rfl, Nat.le_refl _, Nat.zero_le _, fun h => absurd rfl h, fun z hz => by cases hz⟩
  · obtain ⟨rfl, rfl, rfl⟩ : A = some a ∧ n = len ∧ c = cap := by simpa [Value.cells] using hcs
    simp only [if_true] at hs
    have e : (zs.take n).length = n := by rw [List.length_take]; omega
    refine ⟨zs.take n, some a, c, by rw [e], by rw [e]; exact hl, hc, fun hne => ?_, fun z hz => ?_⟩
    · have hn : 0 < n := by
        rcases Nat.eq_zero_or_pos n with h | h
        · subst h; simp at hne
        · exact h
      obtain ⟨b, off, rfl, hb, hcell'⟩ := at_ofZ hcell (by omega)
      refine ⟨b, off, rfl, hb, fun i s hi => ?_⟩
      obtain ⟨hi1, hi2⟩ := List.getElem?_eq_some_iff.1 hi
      rw [e] at hi1
      rw [hcell' i (by omega)]
      rw [List.getElem?_take_of_lt hi1] at hi
      rw [List.getD, hi]; rfl
    · have h1 := hw z (List.mem_of_mem_take hz)
      have h2 : (IntKind.i64.min ≤ z) ∧ z ≤ IntKind.i64.max := by simpa [Lit.wf] using h1
      exact ⟨h2.1, h2.2⟩
end
/-- A row of whole numbers told by a function. -/
def rowI (v : Nat → Int) (k : Nat) : Array Value := ((List.range k).map fun j => Value.int .i64 (v j)).toArray
theorem rowI_made (k : Nat) : madeCells #[.int .i64 0] k = rowI (fun _ => 0) k := by
  refine Array.ext (by simp [madeCells, rowI]) fun i h1 h2 => ?_
  simp [madeCells, rowI, Nat.mod_one]
theorem rowI_at {w : World} {b k : Nat} {v : Nat → Int} (h : w.heap[b]? = some (.cells (rowI v k) 3)) (j : Nat) (hj : j < k) : w.cell? ⟨b, j, none⟩ = some (.int .i64 (v j)) := by
  rw [cell_of_row w b j _ 3 (0, 0) h]
  simp [rowI, hj]
theorem rowI_set {w : World} {b k : Nat} {v : Nat → Int} (h : w.heap[b]? = some (.cells (rowI v k) 3)) (j : Nat) (x : Int) : (w.setCell ⟨b, j, none⟩ (.int .i64 x)).heap[b]? = some (.cells (rowI (fun i => if i = j then x else v i) k) 3) := by
  have h1 := set_cells (i := j) (v := .int .i64 x) h
  rw [h1]
  congr 2
  refine Array.ext (by simp [rowI]) fun i h1 h2 => ?_
  simp only [rowI, List.size_toArray, List.length_map, List.length_range] at h2
  rw [Array.getElem_setIfInBounds (by simpa [rowI] using h2)]
  by_cases e : j = i
  · subst e
    simp [rowI]
  · have e2 : ¬ i = j := fun q => e q.symm
    simp [rowI, e, e2]
theorem tmK (a : Int) : -999 ≤ a.tmod 1000 ∧ a.tmod 1000 ≤ 999 := by
  have := tmod_bd a 1000 (by decide)
  omega
set_option maxRecDepth 100000 in
set_option maxHeartbeats 4000000 in
/-- The law's name. -/
theorem zname_any (i : Nat) (hi : i < 12) (w : World) : Calls Tryz.prog 20 #[.int .i64 i] w fun e w' => e = .returned (.string (nZ i)) ∧ Below w.heap.size w w' := by
  have u1 : IntKind.u8.wrap (i : Int) = (i : Int) := by rw [IntKind.wrap_u8]; omega
  have u2 : IntKind.u8.wrap (97 + (i : Int)) = 97 + (i : Int) := by rw [IntKind.wrap_u8]; omega
  have cv := convZ i hi (w.alloc (.cells #[.int .u8 (97 + (i : Int))] 5)) w.heap.size (heap_alloc_new w (.cells #[.int .u8 (97 + (i : Int))] 5))
  go_enter Tryz.func20, Tryz.ntmps20
  go_wp2
  go_ret
  exact ⟨rfl, alloc_old⟩
end Go.Proofs.YticlacjpgjkhcaaGreatDoor

/- The law ScoresMoves: its walk. -/
namespace Go.Proofs.YticlacjpgjkhcaaGreatDoor
open Go.ChangeShapes Go.WideShapes Go.ChangeAt Go.RowKit

/-- A block that is the law's own turns: the space stays. -/
theorem LD.farZ {W0 w w' : World} {bS bM b : Nat} {D : List (ByteArray × List (ByteArray × Int))} {cs : Array Value} {t : TypeId} (h : LD KS okS W0 w bS bM D) (hb : w.heap[b]? = some (.cells cs t)) (h1 : t ≠ 57) (h2 : t ≠ 52) (hk : ∀ i, i ≠ b → w'.heap[i]? = w.heap[i]?) (hB : Below W0.heap.size W0 w') : LD KS okS W0 w' bS bM D := by
  have hn := h.ne hb h1
  obtain ⟨⟨⟨l, h3, h4⟩, h5⟩, _, h6, h7⟩ := h
  refine ⟨⟨⟨l, h3.kept (hk bS (fun e => hn.1 e.symm)) (hk bM (fun e => hn.2 e.symm)), AllE.kept2 KS (fun x a b9 d e hv g hg => ?_) h4⟩, h5⟩, hB, h6, h7⟩
  obtain ⟨k1, _, rfl, rfl, rfl⟩ := hv
  rcases hg with hg | hg | hg | hg
  · cases hg
  · cases hg
  · obtain ⟨cs9, hc⟩ := row_typ k1 g hg
    refine hk g fun e => ?_
    subst e
    rw [hb] at hc
    cases hc
    exact h2 rfl
  · cases hg
theorem MZ.size1 {F : List (ByteArray × Int)} {k : Nat} {v : Nat → Int} (h : MZ F k v) : ∀ p ∈ F, p.1.size = 1 := fun p hp => by
  obtain ⟨j, _, e⟩ := h.mem p hp
  rw [e]
  rfl
theorem rng_zof {z : Int} (h : -100000 ≤ z ∧ z ≤ 100000) : rng z = true := by
  unfold rng
  exact decide_eq_true (by omega)
set_option maxRecDepth 100000 in
set_option maxHeartbeats 16000000 in
theorem moves_main (zs : List Int) (v0 : Value) (n0 al0 : Int) (w : World) (hT : TZ w) (h0 : ISz w v0 zs) (l : Nat) (hl : zs.length = l) (l12 : l ≤ 12) : Calls Tryz.prog 6 #[.int .i64 n0, v0, .int .i64 al0] w fun e w' => e = .returned (.bool true) ∧ Below w.heap.size w w' := by
  have NW := Lib.hid (fun X => New9 X)
  obtain ⟨aA, cap, rfl, p1, p2, p3, p4⟩ := h0
  simp only [hl]
  have PZ := Lib.hid p3
  have HL := Lib.hid hl
  obtain ⟨t0, u1, ht0⟩ := uk9 n0
  obtain ⟨k, hk⟩ : ∃ k : Nat, k = t0 + 1 := ⟨_, rfl⟩
  have hk1 : 1 ≤ k := by omega
  have hk9 : k ≤ 9 := by omega
  have u2 : IntKind.i64.wrap (t0 : Int) = (t0 : Int) := by rw [IntKind.wrap_i64]; omega
  have u3 : IntKind.i64.wrap (1 + (t0 : Int)) = (k : Int) := by rw [IntKind.wrap_i64]; omega
  have q0 : ¬ (12 : Int) < (l : Int) := by omega
  have mk : ∀ X, (Instr.makeSlice 22 (.int .i64 (k : Nat)) (.int .i64 (k : Nat))).run Tryz.prog X = .ok (.slice (some ⟨X.heap.size, 0, none⟩) k k) (X.alloc (.cells (rowI (fun _ => 0) k) 3)) := fun X => by
    rw [← rowI_made]
    exact run_make_row' (P := Tryz.prog) 22 3 (.int .i64 0) 8 Tryz.underlying22 (by kernel_rfl) rfl .i64 .i64 k (by omega) (by omega) X
  have hfd : ∀ (a b : Int) (c : ByteArray) (A : Option Addr) (m cc : Nat) (w : World), (Instr.field 29 (.agg #[.int .i64 a, .int .i64 b, .string c, .slice A m cc]) 2).run Tryz.prog w = .ok (.string c) w := fun _ _ _ _ _ _ _ => by kernel_rfl
  have HT := Lib.hid hT
  have NU := Lib.hid (fun (x : Int) (hx : -100000 ≤ x ∧ x ≤ 100000) X (hX : Below w.heap.size w X) => Number13 hT.1 x ⟨by omega, by omega⟩ X hX)
  have TL := Lib.hid (fun X (hX : Below w.heap.size w X) => toldZ (hT.at_ hX))
  have HK := Lib.hid (And.intro hk1 hk9)
  have HL12 := Lib.hid l12
  clear p1 p2 p3 p4 hl ht0 hk hk1 hk9 hT l12
  go_enter Tryz.func6, Tryz.ntmps6
  go_wp2_with (first | (go_at_call 11; (with_reducible refine (NW.out _).mono ?_); rintro e v0 ⟨bS, bM, rfl, hS0, hbS, hbM, hB0⟩; have L0 := Lib.hid (LD.mk0 KS okS hS0 hB0 hbS hbM); clear hS0 hbS hbM hB0; refine Hid.out ?_))
  refine Lib.hid ?_
  have M0 : Hid (LDZ w (v0.alloc (.cells (rowI (fun _ => 0) k) 3)) bS bM (dZ [])) := Lib.hid (by rw [dZ_nil]; exact L0.out.old alloc_old)
  have R0 := Lib.hid (heap_alloc_new v0 (.cells (rowI (fun _ => 0) k) 3))
  have HSB := Lib.hid (Below.size L0.out.below)
  go_wp2
  clear u1 u2 u3 q0 mk L0
  generalize v0.alloc (.cells (rowI (fun _ => 0) k) 3) = y at M0 R0 ⊢
  generalize v0.heap.size = sb at R0 HSB ⊢
  go_loopw [11] (fun iv wr => ∃ i : Nat, i ≤ k ∧ iv = .int .i64 i ∧ Hid (∃ F, MZ F i (fun _ => 0) ∧ LDZ w wr bS bM (dZ F) ∧ wr.heap[sb]? = some (.cells (rowI (fun _ => 0) k) 3))) (fun iv _ => k - (intOf iv).toNat)
  case atStart => exact ⟨0, Nat.zero_le _, rfl, Lib.hid ⟨[], MZ.zero _, M0.out, R0.out⟩⟩
  case round =>
    obtain ⟨i, hi, rfl, HQ⟩ := hrel
    obtain ⟨F, hM, hL, hR⟩ := HQ.out
    by_cases hlt : i < k
    · have q0 : (i : Int) < (k : Int) := by omega
      have i9 : i < 9 := by have := HK.out; omega
      have hM1 := hM.add i9 0 ⟨by decide, by decide⟩ rfl
      have NM := Lib.hid (fun X => zname_any i (by omega) X)
      have DA := fun X hL q hq => l_zadd0 w bS bM HT.out F (nZ i) 0 rfl hM1.bd _ rfl X hL q hq
      obtain ⟨nn, hnn⟩ : ∃ nn, ((addN (fun _ => nZ i) (fun _ => 0) F 1 : Nat) : Int) = nn := ⟨_, rfl⟩
      rw [hnn] at DA
      have DA := Lib.hid DA
      have HM1 := Lib.hid hM1
      have L1 := Lib.hid hL
      have R1 := Lib.hid hR
      clear hM hL hR hM1 hnn
      go_wp2_with (first | (go_at_call 20; (with_reducible refine (NM.out _).mono ?_); rintro e w2 ⟨rfl, h1⟩; have L2 := Lib.hid (L1.out.old h1); have R2 := Lib.hid (blk_below R1.out h1); have D1 := Lib.hid (DA.out w2 L2.out _ rfl); clear h1; refine Hid.out ?_))
      refine Lib.hid ?_
      go_wp2_with (first | (go_at_call 17; (with_reducible refine (D1.out).mono ?_); rintro e w3 ⟨rfl, h1, h2⟩; have R3 := Lib.hid (keepL h2 L2.out R2.out (by decide)); have L3 := Lib.hid h1; clear h1 h2))
      exact ⟨⟨i + 1, hlt, by go_num, Lib.hid ⟨_, HM1.out, L3.out, R3.out⟩⟩, by simp [intOf]; omega⟩
    · have q0 : ¬ (i : Int) < (k : Int) := by omega
      obtain rfl : i = k := by omega
      have HM0 := Lib.hid hM
      have L1 := Lib.hid hL
      have R1 := Lib.hid hR
      clear hM hL hR HQ hi hlt
      go_wp2
      clear q0
      go_loopw [12] (fun iv wr => ∃ j : Nat, j ≤ l ∧ iv = .int .i64 j ∧ Hid (∃ (G : List (ByteArray × Int)) (v : Nat → Int), MZ G i v ∧ (∀ q, -(1000 * (j : Int)) ≤ v q ∧ v q ≤ 1000 * (j : Int)) ∧ LDZ w wr bS bM (dZ G) ∧ wr.heap[sb]? = some (.cells (rowI v i) 3))) (fun iv _ => l - (intOf iv).toNat)
      case atStart => exact ⟨0, Nat.zero_le _, rfl, Lib.hid ⟨F, _, HM0.out, fun _ => by simp, L1.out, R1.out⟩⟩
      case round =>
        obtain ⟨j, hj, rfl, HQ⟩ := hrel
        obtain ⟨G, v, hM, hV, hL, hR⟩ := HQ.out
        by_cases hlt : j < l
        · have q0 : (j : Int) < (l : Int) := by omega
          have l12 := HL12.out
          have hk := HK.out
          obtain ⟨blk, off, rfl, hblt, hc⟩ := PZ.out (by intro e; have h9 := HL.out; rw [e] at h9; simp at h9; omega)
          obtain ⟨z, hz⟩ : ∃ z, zs[j]? = some z := ⟨_, List.getElem?_eq_getElem (by rw [HL.out]; exact hlt)⟩
          have cz := (hL.below.cell (p := ⟨blk, off + j, none⟩) hblt).trans (hc j z hz)
          obtain ⟨m, hm⟩ : ∃ m, z.tmod 1000 = m := ⟨_, rfl⟩
          have hm9 : -999 ≤ m ∧ m ≤ 999 := by rw [← hm]; exact tmK z
          obtain ⟨p, hp⟩ : ∃ p : Nat, j % i = p := ⟨_, rfl⟩
          have hpi : p < i := by rw [← hp]; exact Nat.mod_lt _ (by omega)
          have t1 : (j : Int).tmod (i : Int) = (p : Int) := by rw [Int.tmod_eq_emod_of_nonneg (by omega), ← hp]; rfl
          have k0 : ¬ (i : Int) = 0 := by omega
          have k2 : i ≠ 0 := by omega
          have q1 : (p : Int) < (i : Int) := by omega
          have cs := rowI_at hR p hpi
          have fz := frozen_of_row wr sb p _ _ hR
          obtain ⟨x, hx⟩ : ∃ x, v p = x := ⟨_, rfl⟩
          rw [hx] at cs
          obtain ⟨s, hs⟩ : ∃ s, x + m = s := ⟨_, rfl⟩
          have hx9 := hV p
          rw [hx] at hx9
          have w1 : IntKind.i64.wrap (x + m) = s := by rw [← hs, IntKind.wrap_i64]; omega
          have w2 : wrap64 (x + m) = s := by rw [← hs]; unfold wrap64; omega
          have hM1 := hM.mv hk.2 p hpi s ⟨by omega, by omega⟩
          have HV1 := Lib.hid (show ∀ q, -(1000 * ((j + 1 : Nat) : Int)) ≤ (if q = p then s else v q) ∧ (if q = p then s else v q) ≤ 1000 * ((j + 1 : Nat) : Int) from fun q => by
            have h9 := hV q
            by_cases e : q = p
            · rw [if_pos e]; omega
            · rw [if_neg e]; omega)
          have DA := Lib.hid (fun X hL q hq => l_zincr w bS bM HT.out G (nZ p) m x s ⟨by omega, by omega⟩ ⟨by omega, by omega⟩ hs (rng_zof ⟨by omega, by omega⟩) (by rw [hM.at_ p hpi, hx]) hM1.bd X hL q hq)
          have HM1 := Lib.hid hM1
          have N1 := Lib.hid (fun X hX => NU.out m ⟨by omega, by omega⟩ X hX)
          have N2 := Lib.hid (fun X hX => NU.out s ⟨by omega, by omega⟩ X hX)
          have NM := Lib.hid (fun X => zname_any p (by omega) X)
          have T5 := Lib.hid (show ∀ X : World, X.heap = wr.heap → (X.setCell ⟨sb, p, none⟩ (.int .i64 s)).heap[sb]? = some (.cells (rowI (fun q => if q = p then s else v q) i) 3) from fun X hX => rowI_set (hX ▸ hR) p s)
          have L5 := Lib.hid (show ∀ X : World, X.heap = wr.heap → Below w.heap.size w X → LDZ w (X.setCell ⟨sb, p, none⟩ (.int .i64 s)) bS bM (dZ G) from fun X hX hB => hL.farZ hR (by decide) (by decide) (fun q hq => (Below.heap_setCell X ⟨sb, p, none⟩ _ q hq).trans (by rw [hX])) (hB.setCell HSB.out _))
          have BW := Lib.hid hL.below
          clear hM hL hR hM1 hV hx9 hx hs hp hz hc hk HQ hblt hm9
          go_wp2
          go_region
          go_wp2_with fail
          have L1 := Lib.hid ((L5.out wr rfl BW.out).old (Below.refl _ _).drew)
          have R1 : Hid ((wr.setCell ⟨sb, p, none⟩ (.int .i64 s)).drew.heap[sb]? = some (.cells (rowI (fun q => if q = p then s else v q) i) 3)) := Lib.hid (T5.out wr rfl)
          clear cs fz cz w1 w2 T5 L5 hm
          generalize (wr.setCell ⟨sb, p, none⟩ (.int .i64 s)).drew = y1 at L1 R1 ⊢
          have SX := Lib.hid (show ∀ X : World, X.heap[sb]? = some (.cells (rowI (fun q => if q = p then s else v q) i) 3) → X.cell? ⟨sb, p, none⟩ = some (.int .i64 s) from fun X hX => (rowI_at hX p hpi).trans (by simp))
          have S0 := SX.out y1.drew R1.out
          have L2 := Lib.hid (L1.out.old (Below.refl _ _).drew)
          have R2 : Hid (y1.drew.heap[sb]? = some (.cells (rowI (fun q => if q = p then s else v q) i) 3)) := Lib.hid R1.out
          clear hpi
          go_region_held3 (fun X => X.cell? ⟨sb, p, none⟩ = some (.int .i64 s)) (first | (with_reducible exact S0) | (with_reducible exact S1.out) | (with_reducible exact S2.out) | (with_reducible exact S3.out) | (with_reducible exact S4.out) | (with_reducible exact S5.out))
            (first | (go_at_call 13; (first | ((with_reducible refine (N1.out _ L2.out.below).mono ?_); rintro ee x1 ⟨rfl, h1⟩; have L3 := Lib.hid (L2.out.old h1); have R3 := Lib.hid (blk_below R2.out h1); have S1 := Lib.hid (SX.out x1 R3.out); clear h1) | ((with_reducible refine (N2.out _ L6.out.below).mono ?_); rintro ee x4 ⟨rfl, h1⟩; have L7 := Lib.hid (L6.out.old h1); have R7 := Lib.hid (blk_below R6.out h1); have S5 := Lib.hid (SX.out x4 R7.out); clear h1))) | (go_at_call 20; (with_reducible refine (NM.out _).mono ?_); rintro ee x2 ⟨rfl, h1⟩; have L4 := Lib.hid (L3.out.old h1); have R4 := Lib.hid (blk_below R3.out h1); have S2 := Lib.hid (SX.out x2 R4.out); have S3 := Lib.hid (SX.out (x2.alloc (.cells #[.string ⟨#[90, 73, 78, 67, 82, 66, 89]⟩, .string ⟨#[107]⟩, .string (numT m), .string (nZ p)] 9)) (blk_below R4.out alloc_old)); have D1 := Lib.hid (DA.out x2 L4.out _ rfl); clear h1) | (go_at_call 17; (with_reducible refine (D1.out).mono ?_); rintro ee x3 ⟨rfl, h1, h2⟩; have R6 := Lib.hid (keepL h2 L4.out R4.out (by decide)); have L6 := Lib.hid h1; have S4 := Lib.hid (SX.out x3 R6.out); clear h1 h2))
          all_goals (
            go_wp2
            exact ⟨⟨j + 1, hlt, by go_num, Lib.hid ⟨_, _, HM1.out, HV1.out, L7.out, R7.out⟩⟩, by simp [intOf]; omega⟩)
        · have q0 : ¬ (j : Int) < (l : Int) := by omega
          obtain rfl : j = l := by omega
          have hk := HK.out
          have HM0 := Lib.hid hM
          have l12 := HL12.out
          have HV := Lib.hid (show ∀ q, -12000 ≤ v q ∧ v q ≤ 12000 from fun q => by have := hV q; omega)
          have L0 := Lib.hid hL
          have R0 := Lib.hid hR
          have JA := Lib.hid (joined_any w bS bM HT.out G i hM.len (by omega) hM.size1 wr hL)
          obtain ⟨d, hd⟩ : ∃ d, al0.tmod 1000 = d := ⟨_, rfl⟩
          have hd9 : -999 ≤ d ∧ d ≤ 999 := by rw [← hd]; exact tmK al0
          have HD9 := Lib.hid hd9
          clear hM hV hL hR HQ l12 hd9 hlt hj
          go_wp2_with (first | (go_at_call 19; (with_reducible refine (JA.out).mono ?_); rintro e w1 ⟨rfl, h1, h2⟩; have L1 := Lib.hid h1; have R1 := Lib.hid (keepL h2 L0.out R0.out (by decide)); clear h1 h2; refine Hid.out ?_))
          refine Lib.hid ?_
          go_wp2
          clear q0
          obtain ⟨was, hwas⟩ : ∃ s, catN G = s := ⟨_, rfl⟩
          rw [hwas]
          have HWAS := Lib.hid hwas
          clear hwas
          go_loopw [15] (fun iv wr => ∃ c : Nat, c ≤ i ∧ iv = .int .i64 c ∧ Hid (∃ H : List (ByteArray × Int), MZ H i (fun q => if q < c then v q + d else v q) ∧ LDZ w wr bS bM (dZ H) ∧ wr.heap[sb]? = some (.cells (rowI v i) 3))) (fun iv _ => i - (intOf iv).toNat)
          case atStart => exact ⟨0, Nat.zero_le _, rfl, Lib.hid ⟨G, HM0.out.cong fun q _ => by simp, L1.out, R1.out⟩⟩
          case round =>
            obtain ⟨c, hc, rfl, HQ⟩ := hrel
            obtain ⟨H, hM, hL, hR⟩ := HQ.out
            by_cases hlt : c < i
            · have q0 : (c : Int) < (i : Int) := by omega
              have hv := HV.out c
              have hd9 := HD9.out
              obtain ⟨x, hx⟩ : ∃ x, v c = x := ⟨_, rfl⟩
              obtain ⟨s, hs⟩ : ∃ s, x + d = s := ⟨_, rfl⟩
              rw [hx] at hv
              have hM1 := (hM.mv hk.2 c hlt s ⟨by omega, by omega⟩).cong (u := fun q => if q < c + 1 then v q + d else v q) fun q hq => by
                by_cases e : q = c
                · subst e
                  simp only [if_true]
                  rw [if_pos (by omega), hx, hs]
                · simp only [e, if_false]
                  by_cases e2 : q < c
                  · rw [if_pos e2, if_pos (by omega)]
                  · rw [if_neg e2, if_neg (by omega)]
              have DA := Lib.hid (fun X hL q hq => l_zincr w bS bM HT.out H (nZ c) d x s ⟨by omega, by omega⟩ ⟨by omega, by omega⟩ hs (rng_zof ⟨by omega, by omega⟩) (by rw [hM.at_ c hlt]; simp [hx]) hM1.bd X hL q hq)
              have HM1 := Lib.hid hM1
              have N1 := Lib.hid (fun X hX => NU.out d ⟨by omega, by omega⟩ X hX)
              have NM := Lib.hid (fun X => zname_any c (by omega) X)
              have L2 := Lib.hid hL
              have R2 := Lib.hid hR
              clear hM hL hR hM1 hv hd9 hx hs HQ
              go_wp2_with (first | (go_at_call 13; (with_reducible refine (N1.out _ L2.out.below).mono ?_); rintro ee x1 ⟨rfl, h1⟩; have L3 := Lib.hid (L2.out.old h1); have R3 := Lib.hid (blk_below R2.out h1); clear h1; refine Hid.out ?_))
              refine Lib.hid ?_
              go_wp2_with (first | (go_at_call 20; (with_reducible refine (NM.out _).mono ?_); rintro ee x2 ⟨rfl, h1⟩; have L4 := Lib.hid (L3.out.old h1); have R4 := Lib.hid (blk_below R3.out h1); have D1 := Lib.hid (DA.out x2 L4.out _ rfl); clear h1; refine Hid.out ?_))
              refine Lib.hid ?_
              go_wp2_with (first | (go_at_call 17; (with_reducible refine (D1.out).mono ?_); rintro ee x3 ⟨rfl, h1, h2⟩; have R6 := Lib.hid (keepL h2 L4.out R4.out (by decide)); have L6 := Lib.hid h1; clear h1 h2))
              exact ⟨⟨c + 1, hlt, by go_num, Lib.hid ⟨_, HM1.out, L6.out, R6.out⟩⟩, by simp [intOf]; omega⟩
            · have q0 : ¬ (c : Int) < (i : Int) := by omega
              obtain rfl : c = i := by omega
              have hd9 := HD9.out
              have hM1 := hM.cong (u := fun q => v q + d) fun q hq => by rw [if_pos hq]
              have hS := HM0.out.shift d fun q _ => by have := HV.out q; exact ⟨by omega, by omega⟩
              have hHG : H = shZ d G := hM1.ext hS
              have hcat : catN H = was := by rw [hHG, shZ_cat]; exact HWAS.out
              have hsz : was.size = c := by rw [← hcat]; exact hM1.names
              have cs := rowI_at hR 0 (by omega)
              obtain ⟨x, hx⟩ : ∃ x, v 0 = x := ⟨_, rfl⟩
              obtain ⟨s, hs⟩ : ∃ s, x + d = s := ⟨_, rfl⟩
              have hx9 := HV.out 0
              rw [hx] at cs hx9
              have w1 : wrap64 (x + d) = s := by rw [← hs]; unfold wrap64; omega
              have w2 : IntKind.i64.wrap (x + d) = s := by rw [← hs, IntKind.wrap_i64]; omega
              have TLc := Lib.hid (TL.out wr.drew hL.below.drew)
              have JE := fun X hL => joined_any w bS bM HT.out H c hM1.len (by omega) hM1.size1 X hL
              rw [hcat] at JE
              have JE := Lib.hid JE
              have NM : Hid (∀ X : World, Calls Tryz.prog 20 #[.int .i64 0] X fun e w' => e = .returned (.string (nZ 0)) ∧ Below X.heap.size X w') := Lib.hid (fun X => zname_any 0 (by omega) X)
              have DA := Lib.hid (fun X hL q hq => l_zscore w bS bM HT.out H (nZ 0) s ⟨by omega, by omega⟩ (by rw [hM1.at_ 0 (by omega), hx, hs]) X hL q hq)
              have N1 := Lib.hid (fun X hX => NU.out s ⟨by omega, by omega⟩ X hX)
              have q1 : (0 : Int) < (c : Int) := by omega
              have q2 : 0 < c := by omega
              have q3 : c ≠ 0 := by omega
              have SX := Lib.hid (show ∀ X : World, X.heap[sb]? = some (.cells (rowI v c) 3) → X.cell? ⟨sb, 0, none⟩ = some (.int .i64 x) from fun X hX => (rowI_at hX 0 (by omega)).trans (by rw [hx]))
              have hsz2 : (was.size : Int) = (c : Int) := by omega
              have L2 := Lib.hid (hL.old (Below.refl _ _).drew)
              have R2 : Hid (wr.drew.heap[sb]? = some (.cells (rowI v c) 3)) := Lib.hid hR
              have S0 := SX.out wr.drew R2.out
              clear hM hL hR HQ hd9 hM1 hS hHG hcat hsz cs hx hs hx9 hk hc hlt
              go_wp2
              go_region_held3 (fun X => X.cell? ⟨sb, 0, none⟩ = some (.int .i64 x)) (first | (with_reducible exact S0) | (with_reducible exact S1.out) | (with_reducible exact S2.out) | (with_reducible exact S3.out) | (with_reducible exact S4.out) | (with_reducible exact S5.out) | (with_reducible exact S6.out))
                (first | (go_at_call 18; (with_reducible refine (TLc.out).mono ?_); rintro ee x1 ⟨rfl, h1⟩; have L3 := Lib.hid (L2.out.old h1); have R3 := Lib.hid (blk_below R2.out h1); have S1 := Lib.hid (SX.out x1 R3.out); have JC := Lib.hid (JE.out x1 L3.out); clear h1) | (go_at_call 19; (with_reducible refine (JC.out).mono ?_); rintro ee x2 ⟨rfl, h1, h2⟩; have R4 := Lib.hid (keepL h2 L3.out R3.out (by decide)); have L4 := Lib.hid h1; have S2 := Lib.hid (SX.out x2 R4.out); clear h1 h2) | (go_at_call 20; (with_reducible refine (NM.out _).mono ?_); rintro ee x3 ⟨rfl, h1⟩; have L5 := Lib.hid (L4.out.old h1); have R5 := Lib.hid (blk_below R4.out h1); have S3 := Lib.hid (SX.out x3 R5.out); have S4 := Lib.hid (SX.out (x3.alloc (.cells #[.string ⟨#[90, 83, 67, 79, 82, 69]⟩, .string ⟨#[107]⟩, .string (nZ 0)] 9)) (blk_below R5.out alloc_old)); have D1 := Lib.hid (DA.out x3 L5.out _ rfl); clear h1) | (go_at_call 17; (with_reducible refine (D1.out).mono ?_); rintro ee x4 ⟨rfl, h1, h2⟩; have R6 := Lib.hid (keepL h2 L5.out R5.out (by decide)); have L6 := Lib.hid h1; have S5 := Lib.hid (SX.out x4 R6.out); clear h1 h2) | (go_at_call 13; (with_reducible refine (N1.out _ L6.out.below).mono ?_); rintro ee x5 ⟨rfl, h1⟩; have L7 := Lib.hid (L6.out.old h1); have R7 := Lib.hid (blk_below R6.out h1); have S6 := Lib.hid (SX.out x5 R7.out); clear h1))
              all_goals (
                go_wp2
                go_ret
                exact ⟨by first | rfl | simp, L7.out.below⟩)
end Go.Proofs.YticlacjpgjkhcaaGreatDoor

/- The law ScoresMoves, whole. -/
namespace Go.Proofs.YticlacjpgjkhcaaGreatDoor
open Go.ChangeShapes Go.WideShapes Go.ChangeAt Go.RowKit

set_option maxRecDepth 100000 in
set_option maxHeartbeats 8000000 in
theorem moves_none (zs : List Int) (v0 : Value) (n0 al0 : Int) (w : World) (hT : TZ w) (h0 : ISz w v0 zs) (h : 12 < zs.length) : Calls Tryz.prog 6 #[.int .i64 n0, v0, .int .i64 al0] w fun e w' => e = .returned (.bool true) ∧ Below w.heap.size w w' := by
  have TL := Lib.hid (toldZ hT)
  obtain ⟨aA, cap, rfl, _⟩ := h0
  obtain ⟨l, hl⟩ : ∃ l : Nat, zs.length = l := ⟨_, rfl⟩
  rw [hl] at h
  rw [hl]
  have q2 : (12 : Int) < (l : Int) := by omega
  clear hl h hT
  go_enter Tryz.func6, Tryz.ntmps6
  go_wp2_with (first | (go_at_call 18; (with_reducible refine (TL.out).mono ?_); rintro e w7 ⟨rfl, h7⟩; have B7 := Lib.hid h7; clear h7))
  go_ret
  exact ⟨rfl, B7.out⟩
theorem moves_law {W : World} (hT : TZ W) (v0 : Value) (zs : List Int) (h0 : ISz W v0 zs) (n0 al0 : Int) : Calls Tryz.prog 6 #[.int .i64 n0, v0, .int .i64 al0] W fun e w' => e = .returned (.bool true) ∧ Below W.heap.size W w' := by
  by_cases h : zs.length ≤ 12
  · exact moves_main zs v0 n0 al0 W hT h0 _ rfl h
  · exact moves_none zs v0 n0 al0 W hT h0 (by omega)
end Go.Proofs.YticlacjpgjkhcaaGreatDoor
