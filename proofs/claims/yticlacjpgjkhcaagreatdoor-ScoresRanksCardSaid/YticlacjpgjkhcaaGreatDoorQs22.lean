/- Texts joined: Sa -/
import Derived.Test.YticlacjpgjkhcaaGreatDoorQs21
import Derived.Deep.CutRange
set_option linter.unusedVariables false
set_option linter.unusedSimpArgs false

/- A skip list: one more node. -/
namespace Go.Proofs.YticlacjpgjkhcaaGreatDoor
open Go.ChangeShapes Go.WideShapes Go.ChangeAt Go.RowKit

/-- Nodes and levels stand where their blocks stand. -/
theorem SKm.move {w w' : World} {c : Nat} {hd : Nd} {L : List Nd} (h : SKm w c hd L) (hk : ∀ (b : Nat) (cs : Array Value) (t : TypeId), w.heap[b]? = some (.cells cs t) → t = 207 ∨ t = 195 ∨ t = 3 → w'.heap[b]? = some (.cells cs t)) : SKm w' c hd L := by
  refine ⟨fun y hy => ?_, h.apart, h.head, fun k hk9 => (h.lv k hk9).congr fun y hy => ?_⟩
  · have hn := h.nodes y hy
    obtain ⟨cs, h1, h2⟩ := hn.nxb
    obtain ⟨ds, g1, g2⟩ := hn.wdb
    exact ⟨hk _ _ _ hn.blk (.inl rfl), ⟨cs, hk _ _ _ h1 (.inr (.inl rfl)), h2⟩, ⟨ds, hk _ _ _ g1 (.inr (.inr rfl)), g2⟩, hn.la, hn.ln, hn.lw, hn.h1, hn.h2⟩
  · have hn := h.nodes y hy
    obtain ⟨cs, h1, h2⟩ := hn.nxb
    obtain ⟨ds, g1, g2⟩ := hn.wdb
    exact ⟨by rw [cell_of_row _ _ _ _ _ (0, 0) h1, cell_of_row _ _ _ _ _ (0, 0) (hk _ _ _ h1 (.inr (.inl rfl)))], by rw [cell_of_row _ _ _ _ _ (0, 0) g1, cell_of_row _ _ _ _ _ (0, 0) (hk _ _ _ g1 (.inr (.inr rfl)))]⟩
/-- What a call that turns a set leaves: all but sets, rows of nodes, rows of numbers. -/
def FarS (w w' : World) : Prop := ∀ (i : Nat) (o : Obj), w.heap[i]? = some o → (∀ (cs : Array Value) (t : TypeId), o = .cells cs t → t ≠ 197 ∧ t ≠ 195 ∧ t ≠ 3) → w'.heap[i]? = some o
theorem FarS.refl (w : World) : FarS w w := fun _ _ h _ => h
theorem FarS.trans {w1 w2 w3 : World} (h : FarS w1 w2) (g : FarS w2 w3) : FarS w1 w3 := fun i o h1 h2 => g i o (h i o h1 h2) h2
theorem FarS.of {w w' : World} (h : Below w.heap.size w w') : FarS w w' := fun i _ h1 _ => blk_below h1 h
theorem FarS.set {w : World} {b i : Nat} {cs : Array Value} {t : TypeId} {v : Value} (h : w.heap[b]? = some (.cells cs t)) (ht : t = 197 ∨ t = 195 ∨ t = 3) : FarS w (w.setCell ⟨b, i, none⟩ v) := fun j o hj ho => by
  by_cases e : j = b
  · subst e
    rw [h] at hj
    cases hj
    obtain ⟨a1, a2, a3⟩ := ho _ _ rfl
    rcases ht with ht | ht | ht
    · exact absurd ht a1
    · exact absurd ht a2
    · exact absurd ht a3
  · exact (Below.heap_setCell w ⟨b, i, none⟩ v j e).trans hj
theorem FarS.map {w w' : World} {b : Nat} {l : MapT.Ents} (h : FarS w w') (hm : MapT.MB w b l) : MapT.MB w' b l := by
  have hm2 := hm
  obtain ⟨es, cl, h1, _⟩ := hm
  exact hm2.kept ((h b _ h1 (fun cs t e => by cases e)).trans h1.symm)
/-- What a walk over the levels leaves: all but rows of nodes, rows of numbers. -/
def FarN (w w' : World) : Prop := ∀ (i : Nat) (o : Obj), w.heap[i]? = some o → (∀ (cs : Array Value) (t : TypeId), o = .cells cs t → t ≠ 195 ∧ t ≠ 3) → w'.heap[i]? = some o
theorem FarN.refl (w : World) : FarN w w := fun _ _ h _ => h
theorem FarN.toS {w w' : World} (h : FarN w w') : FarS w w' := fun i o h1 h2 => h i o h1 fun cs t e => ⟨(h2 cs t e).2.1, (h2 cs t e).2.2⟩
theorem FarN.set2 {W wk : World} {b i : Nat} {cs : Array Value} {t : TypeId} {v : Value} (h : FarN W wk) (hb : wk.heap[b]? = some (.cells cs t)) (ht : t = 195 ∨ t = 3) : FarN W (wk.setCell ⟨b, i, none⟩ v) := fun j o hj ho => by
  have hj := h j o hj ho
  by_cases e : j = b
  · subst e
    rw [hb] at hj
    cases hj
    obtain ⟨a2, a3⟩ := ho _ _ rfl
    rcases ht with ht | ht
    · exact absurd ht a2
    · exact absurd ht a3
  · exact (Below.heap_setCell wk ⟨b, i, none⟩ v j e).trans hj
/-- In the midst of putting a node in. -/
structure InI (W wk : World) (c : Nat) (hd nd : Nd) (A B : List Nd) (k : Nat) : Prop where
  nodes : ∀ z ∈ hd :: (A ++ nd :: B), NdIn wk c z
  done : ∀ j, j < k → LvM wk j (hd :: (A ++ nd :: B))
  rest : ∀ j, k ≤ j → j < 20 → LvM wk j (hd :: (A ++ B))
  far : FarN W wk
  below : Below c W wk
/-- Three blocks made one by one. -/
theorem al3 (w : World) (o1 o2 o3 : Obj) : (((w.alloc o1).alloc o2).alloc o3).heap[w.heap.size]? = some o1 ∧ (((w.alloc o1).alloc o2).alloc o3).heap[w.heap.size + 1]? = some o2 ∧ (((w.alloc o1).alloc o2).alloc o3).heap[w.heap.size + 1 + 1]? = some o3 ∧ Below w.heap.size w (((w.alloc o1).alloc o2).alloc o3) := by
  refine ⟨blk_below (blk_below (heap_alloc_new w _) alloc_old) alloc_old, blk_below (heap2L w _) alloc_old, ?_, (alloc_old.trans (alloc_old.mono (by simp))).trans (alloc_old.mono (by simp; omega))⟩
  have := heap_alloc_new ((w.alloc o1).alloc o2) o3
  simpa using this
theorem made_size (v : Value) (n : Nat) : (madeCells #[v] n).size = n := by simp [madeCells]
/-- A node made. -/
theorem nd1 (w : World) (c : Nat) (hc : c ≤ w.heap.size) (x : ByteArray × Int) (n : Nat) (h1 : 1 ≤ n) (h2 : n ≤ 20) : NdIn (((w.alloc (.cells (madeCells #[.pointer none] n) 195)).alloc (.cells (madeCells #[.int .i64 0] n) 3)).alloc (.cells #[.string x.1, .int .i64 x.2, .slice (some ⟨w.heap.size, 0, none⟩) n n, .slice (some ⟨w.heap.size + 1, 0, none⟩) n n] 207)) c ⟨x.1, x.2, n, w.heap.size + 1 + 1, w.heap.size, w.heap.size + 1⟩ :=
  ⟨(al3 w _ _ _).2.2.1, ⟨_, (al3 w _ _ _).1, made_size _ n⟩, ⟨_, (al3 w _ _ _).2.1, made_size _ n⟩, (by show c ≤ w.heap.size + 1 + 1; omega), hc, (by show c ≤ w.heap.size + 1; omega), h1, h2⟩
theorem nd2 (w : World) (c : Nat) (hc : c ≤ w.heap.size) (x : ByteArray × Int) (n : Nat) (h1 : 1 ≤ n) (h2 : n ≤ 20) : NdIn (((w.alloc (.cells (madeCells #[.int .i64 0] n) 3)).alloc (.cells (madeCells #[.pointer none] n) 195)).alloc (.cells #[.string x.1, .int .i64 x.2, .slice (some ⟨w.heap.size + 1, 0, none⟩) n n, .slice (some ⟨w.heap.size, 0, none⟩) n n] 207)) c ⟨x.1, x.2, n, w.heap.size + 1 + 1, w.heap.size + 1, w.heap.size⟩ :=
  ⟨(al3 w _ _ _).2.2.1, ⟨_, (al3 w _ _ _).2.1, made_size _ n⟩, ⟨_, (al3 w _ _ _).1, made_size _ n⟩, (by show c ≤ w.heap.size + 1 + 1; omega), (by show c ≤ w.heap.size + 1; omega), hc, h1, h2⟩
theorem dstN_le (k : Nat) : ∀ T : List Nd, dstN k T ≤ T.length
  | [] => Nat.le_refl _
  | y :: T => by
    unfold dstN
    split
    · simp
    · have := dstN_le k T
      simp
      exact this
/-- What stands still while a node is put in or taken out. -/
structure InS (wk : World) (c b5 : Nat) (N : List Nd) (LA RA : Array Value) : Prop where
  nodes : ∀ z ∈ N, NdIn wk c z
  la : wk.heap[b5]? = some (.cells LA 200)
  ra : wk.heap[b5 + 1]? = some (.cells RA 201)
theorem InS.set {wk : World} {c b5 : Nat} {N : List Nd} {LA RA : Array Value} (h : InS wk c b5 N LA RA) {b : Nat} (k : Nat) (v : Value) {cs : Array Value} {t : TypeId} (hb : wk.heap[b]? = some (.cells cs t)) (ht : t = 195 ∨ t = 3) : InS (wk.setCell ⟨b, k, none⟩ v) c b5 N LA RA := by
  have hn : ∀ (i : Nat) (ds : Array Value) (u : TypeId), wk.heap[i]? = some (.cells ds u) → u ≠ 195 → u ≠ 3 → (wk.setCell ⟨b, k, none⟩ v).heap[i]? = some (.cells ds u) := fun i ds u hi h1 h2 => by
    rw [Below.heap_setCell wk ⟨b, k, none⟩ v i]
    · exact hi
    · intro e
      have e : i = b := e
      subst e
      rw [hb] at hi
      cases hi
      rcases ht with ht | ht
      · exact h1 ht
      · exact h2 ht
  refine ⟨fun z hz => (h.nodes z hz).set b k v (fun ds u hd => ?_), hn _ _ _ h.la (by decide) (by decide), hn _ _ _ h.ra (by decide) (by decide)⟩
  rw [hb] at hd
  cases hd
  exact ht
theorem InS.drew {wk : World} {c b5 : Nat} {N : List Nd} {LA RA : Array Value} (h : InS wk c b5 N LA RA) : InS wk.drew c b5 N LA RA := ⟨fun z hz => (h.nodes z hz).below (Below.refl _ _).drew, h.la, h.ra⟩
theorem FarS.set2 {W wk : World} {b i : Nat} {cs : Array Value} {t : TypeId} {v : Value} (h : FarS W wk) (hb : wk.heap[b]? = some (.cells cs t)) (ht : t = 197 ∨ t = 195 ∨ t = 3) : FarS W (wk.setCell ⟨b, i, none⟩ v) := h.trans (FarS.set hb ht)
/-- A cell of another block is as it was. -/
theorem cell_far {w : World} {b b' k k' : Nat} {v : Value} (h : b' ≠ b) : (w.setCell ⟨b, k, none⟩ v).cell? ⟨b', k', none⟩ = w.cell? ⟨b', k', none⟩ := World.cell?_setCell_other _ _ _ _ (by intro e; cases e; exact h rfl)
theorem cell_far2 {w : World} {b b' k k' : Nat} {v : Value} (h : k' ≠ k) : (w.setCell ⟨b, k, none⟩ v).cell? ⟨b', k', none⟩ = w.cell? ⟨b', k', none⟩ := World.cell?_setCell_other _ _ _ _ (by intro e; cases e; exact h rfl)
theorem cell_here {w : World} {b k : Nat} {v u : Value} (h : w.cell? ⟨b, k, none⟩ = some u) : (w.setCell ⟨b, k, none⟩ v).cell? ⟨b, k, none⟩ = some v := World.cell?_setCell_same _ _ _ h
theorem InI.drew {W wk : World} {c : Nat} {hd nd : Nd} {A B : List Nd} {k : Nat} (h : InI W wk c hd nd A B k) : InI W wk.drew c hd nd A B k :=
  ⟨fun z hz => (h.nodes z hz).below (Below.refl _ _).drew, fun j hj => (h.done j hj).congr fun y hy => ⟨rfl, rfl⟩, fun j h1 h2 => (h.rest j h1 h2).congr fun y hy => ⟨rfl, rfl⟩, h.far, h.below.drew⟩
/-- Levels that a cell is not on stand. -/
theorem LvM.set {w : World} {j k b : Nat} {v : Value} {N : List Nd} (h : LvM w j N) (hjk : j ≠ k) : LvM (w.setCell ⟨b, k, none⟩ v) j N := h.congr fun _ _ => ⟨cell_far2 hjk, cell_far2 hjk⟩
set_option maxRecDepth 100000 in
set_option maxHeartbeats 40000000 in
theorem insert_any (c sp bM : Nat) (hd : Nd) (L A B : List Nd) (made : Nat) (high : Int) (x : ByteArray × Int) (w : World) (hD : DB w) (hc : c ≤ w.heap.size) (hsp : c ≤ sp) (hs : w.heap[sp]? = some (.cells #[.pointer (some ⟨hd.a, 0, none⟩), .map (some bM), .int .u64 (made : Nat), .int .i64 high] 197)) (h : SKm w c hd L) (hL : L = A ++ B) (hlen : L.length ≤ 100000) (hA : ∀ y ∈ A, ltZ (y.name, y.score) x = true) (hB : ∀ y ∈ B, ltZ (y.name, y.score) x = false) (hm9 : made < 18446744073709551616) : Calls Tryz.prog 176 #[.pointer (some ⟨sp, 0, none⟩), .agg #[.string x.1, .int .i64 x.2]] w fun e w' => e = .returned (.tuple #[]) ∧ (∃ (nd : Nd) (made' : Nat) (high' : Int), nd.name = x.1 ∧ nd.score = x.2 ∧ made' < 18446744073709551616 ∧ w'.heap[sp]? = some (.cells #[.pointer (some ⟨hd.a, 0, none⟩), .map (some bM), .int .u64 (made' : Nat), .int .i64 high'] 197) ∧ SKm w' c hd (A ++ nd :: B)) ∧ FarS w w' ∧ Below c w w' := by
  obtain ⟨m', hm', hm8⟩ : ∃ m' : Nat, IntKind.u64.wrap ((made : Int) + 1) = (m' : Int) ∧ m' < 18446744073709551616 := ⟨(IntKind.u64.wrap ((made : Int) + 1)).toNat, by rw [IntKind.wrap_u64]; omega, by rw [IntKind.wrap_u64]; omega⟩
  obtain ⟨W0, hW0⟩ : ∃ W0, w.alloc (.cells #[.string x.1, .int .i64 x.2] 52) = W0 := ⟨_, rfl⟩
  have b0 : Below w.heap.size w W0 := by rw [← hW0]; exact alloc_old
  have x0 : W0.heap[w.heap.size]? = some (.cells #[.string x.1, .int .i64 x.2] 52) := by rw [← hW0]; exact heap_alloc_new w _
  have hspw : sp < w.heap.size := lt_blk hs
  have hs0 := blk_below hs b0
  obtain ⟨W1, hW1⟩ : ∃ W1, W0.setCell ⟨sp, 2, none⟩ (.int .u64 (m' : Nat)) = W1 := ⟨_, rfl⟩
  have hs1 : W1.heap[sp]? = some (.cells #[.pointer (some ⟨hd.a, 0, none⟩), .map (some bM), .int .u64 (m' : Nat), .int .i64 high] 197) := by rw [← hW1]; exact set_cells hs0
  have k1 : ∀ i, i ≠ sp → W1.heap[i]? = W0.heap[i]? := fun i hi => by rw [← hW1]; exact Below.heap_setCell W0 ⟨sp, 2, none⟩ _ i hi
  have fr1 : FarS w W1 := (FarS.of b0).trans (by rw [← hW1]; exact FarS.set hs0 (.inl rfl))
  have bc1 : Below c w W1 := (b0.mono hc).trans (by rw [← hW1]; exact (Below.refl _ _).setCell (p := ⟨sp, 2, none⟩) hsp _)
  obtain ⟨⟨c0, c1, c2, c3⟩, ⟨f0, f1, f2, f3⟩⟩ := cells4 hs0
  obtain ⟨⟨d0, d1, d2, d3⟩, ⟨g0, g1, g2, g3⟩⟩ := cells4 hs1
  have hD1 : DB W1 := fun j hj => by
    have h0 := (hD.at_ b0) j hj
    have e3 : 3 ≠ sp ∨ ∃ cs t, W0.heap[sp]? = some (.cells cs t) ∧ 3 = sp := by
      by_cases e : 3 = sp
      · exact .inr ⟨_, _, hs0, e⟩
      · exact .inl e
    rcases e3 with e | ⟨cs, t, e1, e2⟩
    · rw [← hW1, World.cell?_setCell_other _ _ _ _ (by intro e9; cases e9; exact e rfl)]
      exact h0
    · subst e2
      have hh := h0
      have h5 := hD.at_ b0 5 (by decide)
      rw [cell_of_row _ _ _ _ _ (0, 0) hs0] at h5
      simp at h5
  have TZ := Lib.hid (tz_any m' hm8 W1 hD1)
  have HS1 := Lib.hid hs1
  have K1 := Lib.hid k1
  have FR1 := Lib.hid fr1
  have BC1 := Lib.hid bc1
  have X1 := Lib.hid ((k1 w.heap.size (by omega)).trans x0)
  have H1 := Lib.hid (show SKm W1 c hd L from h.move fun b cs t hb ht => by
    have hne : b ≠ sp := fun e => by
      subst e
      rw [hs] at hb
      cases hb
      rcases ht with ht | ht | ht <;> exact absurd ht (by decide)
    exact (k1 b hne).trans (blk_below hb b0))
  clear hD1 k1 fr1 bc1 hs1 b0 h hD
  go_enter Tryz.func176, Tryz.ntmps176
  go_wp2_with (first | (go_at_call 206; (with_reducible refine (TZ.out).mono ?_); rintro e w2 ⟨⟨v, hv, rfl⟩, hw2⟩; obtain rfl := hw2.symm; refine Hid.out ?_))
  refine Lib.hid ?_
  clear c0 c1 c2 c3 f0 f1 f2 f3
  obtain ⟨hh, hmin⟩ : ∃ hh : Nat, min (20 : Int) (1 + (v : Int)) = (hh : Int) := ⟨(min (20 : Int) (1 + (v : Int))).toNat, by omega⟩
  have hh1 : 1 ≤ hh := by omega
  have hh2 : hh ≤ 20 := by omega
  obtain ⟨high', hmax⟩ : ∃ high', max high (hh : Int) = high' := ⟨_, rfl⟩
  obtain ⟨W2, hW2⟩ : ∃ W2, W1.setCell ⟨sp, 3, none⟩ (.int .i64 high') = W2 := ⟨_, rfl⟩
  have hs2 : W2.heap[sp]? = some (.cells #[.pointer (some ⟨hd.a, 0, none⟩), .map (some bM), .int .u64 (m' : Nat), .int .i64 high'] 197) := by rw [← hW2]; exact set_cells HS1.out
  have k2 : ∀ i, i ≠ sp → W2.heap[i]? = W1.heap[i]? := fun i hi => by rw [← hW2]; exact Below.heap_setCell W1 ⟨sp, 3, none⟩ _ i hi
  have FR2 := Lib.hid (FR1.out.trans (show FarS W1 W2 by rw [← hW2]; exact FarS.set HS1.out (.inl rfl)))
  have BC2 := Lib.hid (BC1.out.trans (show Below c W1 W2 by rw [← hW2]; exact (Below.refl _ _).setCell (p := ⟨sp, 3, none⟩) hsp _))
  have X2 := Lib.hid ((k2 w.heap.size (by omega)).trans X1.out)
  have H2 := Lib.hid (show SKm W2 c hd L from H1.out.move fun b cs t hb ht => by
    have hne : b ≠ sp := fun e => by
      subst e
      have := HS1.out
      rw [this] at hb
      cases hb
      rcases ht with ht | ht | ht <;> exact absurd ht (by decide)
    exact (k2 b hne).trans hb)
  have AH := Lib.hid (ahead_any c sp bM hd L A B m' high' x W2 hs2 H2.out hL (by omega) hA hB)
  have HS2 := Lib.hid hs2
  obtain ⟨c0, c1⟩ := cells2z X2.out
  clear k2 hs2
  go_wp2_with (first | (go_at_call 179; (with_reducible refine (AH.out).mono ?_); rintro e w3 ⟨LA, RA, rfl, hAL, h3⟩; have AL := Lib.hid hAL; have B3 := Lib.hid h3; clear hAL h3; refine Hid.out ?_))
  refine Lib.hid ?_
  obtain ⟨w4, w5, st1, st2, f1, f2, f3, f4⟩ := store_two w3 LA RA AL.out.1 AL.out.2.1 AL.out.one.1 AL.out.one.2
  have B5 := Lib.hid (B3.out.trans (f3.mono (Below.size B3.out)))
  have X5 := Lib.hid (blk_below X2.out B5.out)
  have L5 := Lib.hid f1
  have R5 := Lib.hid f2
  have zL := AL.out.1
  have zR := AL.out.2.1
  clear c0 c1 f1 f2 f3 f4 d0 d1 d2 d3 g0 g1 g2 g3
  go_wp2
  clear zL zR
  obtain ⟨c0, c1⟩ := cells2z X5.out
  have mk1 : ∀ X, (Instr.makeSlice 205 (.int .i64 (hh : Nat)) (.int .i64 (hh : Nat))).run Tryz.prog X = .ok (.slice (some ⟨X.heap.size, 0, none⟩) hh hh) (X.alloc (.cells (madeCells #[.pointer none] hh) 195)) := fun X => run_make_row' (P := Tryz.prog) 205 195 (.pointer none) 8 Tryz.underlying205 (by kernel_rfl) rfl .i64 .i64 hh (by omega) (by omega) X
  have mk2 : ∀ X, (Instr.makeSlice 22 (.int .i64 (hh : Nat)) (.int .i64 (hh : Nat))).run Tryz.prog X = .ok (.slice (some ⟨X.heap.size, 0, none⟩) hh hh) (X.alloc (.cells (madeCells #[.int .i64 0] hh) 3)) := fun X => run_make_row' (P := Tryz.prog) 22 3 (.int .i64 0) 8 Tryz.underlying22 (by kernel_rfl) rfl .i64 .i64 hh (by omega) (by omega) X
  have H5 := Lib.hid (H2.out.below B5.out)
  clear st1 st2
  go_cut [7] from 39 (fun r wx => ∃ nd : Nd, r = .pointer (some ⟨nd.a, 0, none⟩) ∧ Hid (nd.name = x.1 ∧ nd.score = x.2 ∧ nd.h = hh ∧ w5.heap.size ≤ nd.a ∧ w5.heap.size ≤ nd.nx ∧ w5.heap.size ≤ nd.wd ∧ NdIn wx c nd ∧ Below w5.heap.size w5 wx))
  case first =>
    obtain ⟨ca0, ca1⟩ := cells2z (blk_below X5.out (alloc_old (o := (.cells (madeCells #[.pointer none] hh) 195))))
    obtain ⟨cb0, cb1⟩ := cells2z (blk_below X5.out (alloc_old (o := (.cells (madeCells #[.int .i64 0] hh) 3))))
    obtain ⟨cc0, cc1⟩ := cells2z (blk_below (blk_below X5.out (alloc_old (o := (.cells (madeCells #[.pointer none] hh) 195)))) (alloc_old (o := (.cells (madeCells #[.int .i64 0] hh) 3))))
    obtain ⟨cd0, cd1⟩ := cells2z (blk_below (blk_below X5.out (alloc_old (o := (.cells (madeCells #[.int .i64 0] hh) 3)))) (alloc_old (o := (.cells (madeCells #[.pointer none] hh) 195))))
    have hc5 : c ≤ w5.heap.size := by have := Below.size BC2.out; have := Below.size B5.out; omega
    go_wp2_with fail
    go_region
    all_goals (
      go_wp2_with fail
      go_meet
      first | exact ⟨⟨x.1, x.2, hh, w5.heap.size + 1 + 1, w5.heap.size, w5.heap.size + 1⟩, rfl, Lib.hid ⟨rfl, rfl, rfl, (by show w5.heap.size ≤ w5.heap.size + 1 + 1; omega), Nat.le_refl _, (by show w5.heap.size ≤ w5.heap.size + 1; omega), (nd1 w5 c hc5 x hh hh1 hh2).below (Below.refl _ _).drew, (al3 w5 _ _ _).2.2.2.drew⟩⟩ | exact ⟨⟨x.1, x.2, hh, w5.heap.size + 1 + 1, w5.heap.size + 1, w5.heap.size⟩, rfl, Lib.hid ⟨rfl, rfl, rfl, (by show w5.heap.size ≤ w5.heap.size + 1 + 1; omega), (by show w5.heap.size ≤ w5.heap.size + 1; omega), Nat.le_refl _, (nd2 w5 c hc5 x hh hh1 hh2).below (Below.refl _ _).drew, (al3 w5 _ _ _).2.2.2.drew⟩⟩)
  case rest =>
    obtain ⟨nd, rfl, HC⟩ := hcut
    subst hL
    have B6 := HC.out.2.2.2.2.2.2.2
    have H6 := H5.out.below B6
    have L6 := Lib.hid (blk_below L5.out B6)
    have R6 := Lib.hid (blk_below R5.out B6)
    have hndh := HC.out.2.2.1
    have I0 : InI wc wc c hd nd A B 0 := ⟨fun z hz => by
      simp only [List.mem_cons, List.mem_append] at hz
      rcases hz with rfl | hz | rfl | hz
      · exact H6.nodes _ (by simp)
      · exact H6.nodes _ (by simp [hz])
      · exact HC.out.2.2.2.2.2.2.1
      · exact H6.nodes _ (by simp [hz]), fun j hj => by omega, fun j _ hj => H6.lv j hj, FarN.refl _, Below.refl _ _⟩
    have I0 := Lib.hid I0
    have hlt9 : ∀ y ∈ hd :: (A ++ B), y.a < w5.heap.size ∧ y.nx < w5.heap.size ∧ y.wd < w5.heap.size := fun y hy => by
      have hn := H5.out.nodes y hy
      obtain ⟨cs, g1, _⟩ := hn.nxb
      obtain ⟨ds, g2, _⟩ := hn.wdb
      exact ⟨lt_blk hn.blk, lt_blk g1, lt_blk g2⟩
    have hap : ∀ y ∈ hd :: (A ++ B), y.a ≠ nd.a ∧ y.nx ≠ nd.nx ∧ y.wd ≠ nd.wd := fun y hy => by
      obtain ⟨g1, g2, g3⟩ := hlt9 y hy
      obtain ⟨_, _, _, g4, g5, g6, _⟩ := HC.out
      omega
    have hApart : Apart (hd :: (A ++ nd :: B)) := by
      have h0 := H5.out.apart
      unfold Apart at h0 ⊢
      rw [← List.cons_append] at h0 hap ⊢
      rw [List.pairwise_append] at h0 ⊢
      obtain ⟨p1, p2, p3⟩ := h0
      refine ⟨p1, List.pairwise_cons.2 ⟨fun b hb => ?_, p2⟩, fun a ha b hb => ?_⟩
      · obtain ⟨e1, e2, e3⟩ := hap b (List.mem_append_right _ hb)
        exact ⟨e1.symm, e2.symm, e3.symm⟩
      · rcases List.mem_cons.1 hb with rfl | hb
        · exact hap a (List.mem_append_left _ ha)
        · exact p3 a ha b hb
    have HAP := Lib.hid hApart
    have HHD := Lib.hid H6.head
    have HLEN := Lib.hid hlen
    clear hap hlt9 hApart H6 hlen
    go_wp2
    go_loopw [46] (fun kv wr => ∃ k : Nat, k ≤ 20 ∧ kv = .int .i64 k ∧ Hid (InI wc wr c hd nd A B k)) (fun kv _ => 20 - (intOf kv).toNat)
    case atStart => exact ⟨0, Nat.zero_le _, rfl, I0⟩
    case round =>
      obtain ⟨k, hk, rfl, HI⟩ := hrel
      by_cases hk20 : k < 20
      · obtain ⟨y, n, hy1, hy2, hLast⟩ := AL.out.2.2 k hk20
        obtain ⟨y0, n0, _, hz2, hLast0⟩ := AL.out.2.2 0 (by decide)
        have hn0 := (hLast0.zero (fun z hz => (H5.out.nodes z (by rcases List.mem_cons.1 hz with rfl | hz; exact List.mem_cons_self; exact List.mem_cons_of_mem _ (List.mem_append_left _ hz))).h1)).1
        subst hn0
        obtain ⟨P, T, e, hPn, hyk, hT⟩ := hLast
        have eN : hd :: (A ++ B) = P ++ y :: (T ++ B) := by rw [← List.cons_append, e]; simp
        have L7 := HI.out.far _ _ L6.out (fun cs t e => by cases e; exact ⟨by decide, by decide⟩)
        have R7 := HI.out.far _ _ R6.out (fun cs t e => by cases e; exact ⟨by decide, by decide⟩)
        have cl : wr.cell? ⟨w3.heap.size, k, none⟩ = some (.pointer (some ⟨y.a, 0, none⟩)) := (cell_of_row _ _ _ _ _ (0, 0) L7).trans hy1
        have cr : wr.cell? ⟨w3.heap.size + 1, k, none⟩ = some (.int .i64 n) := (cell_of_row _ _ _ _ _ (0, 0) R7).trans hy2
        have cr0 : wr.cell? ⟨w3.heap.size + 1, 0, none⟩ = some (.int .i64 (A.length : Nat)) := (cell_of_row _ _ _ _ _ (0, 0) R7).trans hz2
        have hyN : y ∈ hd :: (A ++ nd :: B) := by rw [← List.cons_append, e]; simp
        have NY := HI.out.nodes y hyN
        have NN := HI.out.nodes nd (by simp)
        obtain ⟨_, _, y2, y3⟩ := ptr_cell NY
        obtain ⟨_, _, n2, n3⟩ := ptr_cell NN
        obtain ⟨a1, a2⟩ := LvM.at (eN ▸ HI.out.rest k (Nat.le_refl _) hk20) hyk
        obtain ⟨cs1, q1, z1⟩ := NY.nxb
        obtain ⟨cs2, q2, z2⟩ := NY.wdb
        obtain ⟨cs3, q3, z3⟩ := NN.nxb
        obtain ⟨cs4, q4, z4⟩ := NN.wdb
        have fa1 := frozen_of_row wr y.nx k _ _ q1
        have fa2 := frozen_of_row wr y.wd k _ _ q2
        have fn1 := frozen_of_row wr nd.nx k _ _ q3
        have fn2 := frozen_of_row wr nd.wd k _ _ q4
        obtain ⟨q, hq⟩ : ∃ q, ptrN (fstN k (T ++ B)) = .pointer q := by cases fstN k (T ++ B) <;> exact ⟨_, rfl⟩
        obtain ⟨d, hd9⟩ : ∃ d : Nat, dstN k (T ++ B) = d := ⟨_, rfl⟩
        obtain ⟨t, ht⟩ : ∃ t : Nat, T.length = t := ⟨_, rfl⟩
        obtain ⟨al, hal⟩ : ∃ al : Nat, A.length = al := ⟨_, rfl⟩
        have hat : al = n + t := by have := congrArg List.length e; simp at this; omega
        rw [hq] at a1
        rw [hd9] at a2
        rw [hal] at cr0
        have hyi : (k : Int) < (y.h : Int) := by omega
        have k0 : (0 : Int) ≤ (k : Int) := by omega
        have k2 : (k : Int) < 20 := by omega
        by_cases hkn : k < hh
        · have hdt : d = t + dstN k B := by rw [← hd9, ← ht]; exact (fstN_skip k T B hT).2
          have hki : (k : Int) < (hh : Int) := by omega
          have hki2 : ¬ (hh : Int) ≤ (k : Int) := by omega
          rw [hndh] at n2 n3
          obtain ⟨v5, hv5⟩ : ∃ v, cs3[k]? = some v := ⟨_, Array.getElem?_eq_getElem (by omega)⟩
          obtain ⟨v6, hv6⟩ : ∃ v, cs4[k]? = some v := ⟨_, Array.getElem?_eq_getElem (by omega)⟩
          have c5 : wr.cell? ⟨nd.nx, k, none⟩ = some v5 := (cell_of_row _ _ _ _ _ (0, 0) q3).trans hv5
          have c6 : wr.cell? ⟨nd.wd, k, none⟩ = some v6 := (cell_of_row _ _ _ _ _ (0, 0) q4).trans hv6
          have wt : wrap64 ((al : Int) - (n : Int)) = (t : Int) := by unfold wrap64; have h8 := HLEN.out; rw [List.length_append] at h8; omega
          have wd9 : wrap64 ((d : Int) - (t : Int)) = (d : Int) - (t : Int) := by unfold wrap64; have h8 := HLEN.out; have h7 := dstN_le k B; rw [List.length_append] at h8; omega
          have wt1 : wrap64 ((t : Int) + 1) = (t : Int) + 1 := by unfold wrap64; have h8 := HLEN.out; rw [List.length_append] at h8; omega
          have S0 : InS wr c w3.heap.size (hd :: (A ++ nd :: B)) LA RA := ⟨HI.out.nodes, L7, R7⟩
          have ynn : y.nx ≠ nd.nx ∧ y.wd ≠ nd.wd := by
            have h9 := HAP.out
            unfold Apart at h9
            rw [← List.cons_append, e] at h9
            rw [List.append_assoc, List.cons_append] at h9
            have h8 := (List.pairwise_cons.1 (List.pairwise_append.1 h9).2.1).1 nd (by simp)
            exact ⟨h8.2.1, h8.2.2⟩
          have nxt : nd.nx ≠ nd.wd ∧ y.nx ≠ nd.wd ∧ y.wd ≠ nd.nx ∧ y.wd ≠ y.nx := by
            refine ⟨fun e => ?_, fun e => ?_, fun e => ?_, fun e => ?_⟩
            · rw [e, q4] at q3; cases q3
            · rw [e, q4] at q1; cases q1
            · rw [e, q3] at q2; cases q2
            · rw [e, q1] at q2; cases q2
          obtain ⟨X1, hX1⟩ : ∃ X1, wr.setCell ⟨nd.nx, k, none⟩ (.pointer q) = X1 := ⟨_, rfl⟩
          have S1 : InS X1 c w3.heap.size (hd :: (A ++ nd :: B)) LA RA := hX1 ▸ S0.set k _ q3 (.inl rfl)
          have q41 : X1.heap[nd.wd]? = some (.cells cs4 3) := by rw [← hX1, Below.heap_setCell wr ⟨nd.nx, k, none⟩ _ nd.wd (fun e => nxt.1 e.symm)]; exact q4
          obtain ⟨X2, hX2⟩ : ∃ X2, X1.setCell ⟨nd.wd, k, none⟩ (.int .i64 ((d : Int) - (t : Int))) = X2 := ⟨_, rfl⟩
          have S2 : InS X2 c w3.heap.size (hd :: (A ++ nd :: B)) LA RA := hX2 ▸ S1.set k _ q41 (.inr rfl)
          have q12 : X2.heap[y.nx]? = some (.cells cs1 195) := by rw [← hX2, Below.heap_setCell X1 ⟨nd.wd, k, none⟩ _ y.nx nxt.2.1, ← hX1, Below.heap_setCell wr ⟨nd.nx, k, none⟩ _ y.nx ynn.1]; exact q1
          have q22 : X2.heap[y.wd]? = some (.cells cs2 3) := by rw [← hX2, Below.heap_setCell X1 ⟨nd.wd, k, none⟩ _ y.wd ynn.2, ← hX1, Below.heap_setCell wr ⟨nd.nx, k, none⟩ _ y.wd nxt.2.2.1]; exact q2
          obtain ⟨X3, hX3⟩ : ∃ X3, X2.setCell ⟨y.nx, k, none⟩ (.pointer (some ⟨nd.a, 0, none⟩)) = X3 := ⟨_, rfl⟩
          have S3 : InS X3 c w3.heap.size (hd :: (A ++ nd :: B)) LA RA := hX3 ▸ S2.set k _ q12 (.inl rfl)
          have q23 : X3.heap[y.wd]? = some (.cells cs2 3) := by rw [← hX3, Below.heap_setCell X2 ⟨y.nx, k, none⟩ _ y.wd nxt.2.2.2]; exact q22
          obtain ⟨X4, hX4⟩ : ∃ X4, X3.setCell ⟨y.wd, k, none⟩ (.int .i64 ((t : Int) + 1)) = X4 := ⟨_, rfl⟩
          have hself : ∀ z ∈ P ++ (T ++ B), z.nx ≠ y.nx ∧ z.wd ≠ y.wd ∧ z.nx ≠ nd.nx ∧ z.wd ≠ nd.wd ∧ z.nx ≠ nd.wd ∧ z.wd ≠ nd.nx ∧ z.nx ≠ y.wd ∧ z.wd ≠ y.nx := fun z hz => by
            have h9 := HAP.out
            have eN9 : hd :: (A ++ nd :: B) = P ++ y :: (T ++ nd :: B) := by rw [← List.cons_append, e]; simp
            have hzN : z ∈ hd :: (A ++ nd :: B) := by
              rw [eN9]
              simp only [List.mem_append, List.mem_cons] at hz ⊢
              rcases hz with hz | hz | hz
              · exact .inl hz
              · exact .inr (.inr (.inl hz))
              · exact .inr (.inr (.inr (.inr hz)))
            obtain ⟨es1, u1, _⟩ := (HI.out.nodes z hzN).nxb
            obtain ⟨es2, u2, _⟩ := (HI.out.nodes z hzN).wdb
            unfold Apart at h9
            rw [eN9] at h9
            obtain ⟨p1, p2, p3⟩ := List.pairwise_append.1 h9
            have hzy : z.nx ≠ y.nx ∧ z.wd ≠ y.wd := by
              simp only [List.mem_append] at hz
              rcases hz with hz | hz | hz
              · exact (p3 z hz y (by simp)).2
              · have := ((List.pairwise_cons.1 p2).1 z (by simp [hz])).2
                exact ⟨this.1.symm, this.2.symm⟩
              · have := ((List.pairwise_cons.1 p2).1 z (by simp [hz])).2
                exact ⟨this.1.symm, this.2.symm⟩
            have hzn : z.nx ≠ nd.nx ∧ z.wd ≠ nd.wd := by
              simp only [List.mem_append] at hz
              rcases hz with hz | hz | hz
              · exact (p3 z hz nd (by simp)).2
              · exact ((List.pairwise_append.1 (List.pairwise_cons.1 p2).2).2.2 z hz nd (by simp)).2
              · have := ((List.pairwise_cons.1 (List.pairwise_append.1 (List.pairwise_cons.1 p2).2).2.1).1 z hz).2
                exact ⟨this.1.symm, this.2.symm⟩
            refine ⟨hzy.1, hzy.2, hzn.1, hzn.2, fun e => ?_, fun e => ?_, fun e => ?_, fun e => ?_⟩
            · rw [e, q4] at u1; cases u1
            · rw [e, q3] at u2; cases u2
            · rw [e, q2] at u1; cases u1
            · rw [e, q1] at u2; cases u2
          have low : c ≤ y.nx ∧ c ≤ y.wd ∧ c ≤ nd.nx ∧ c ≤ nd.wd := ⟨NY.ln, NY.lw, NN.ln, NN.lw⟩
          have a1X : X2.cell? ⟨y.nx, k, none⟩ = some (.pointer q) := (by rw [← hX2, cell_far nxt.2.1, ← hX1, cell_far ynn.1]; exact a1)
          have a2X : X3.cell? ⟨y.wd, k, none⟩ = some (.int .i64 d) := (by rw [← hX3, cell_far nxt.2.2.2, ← hX2, cell_far ynn.2, ← hX1, cell_far nxt.2.2.1]; exact a2)
          have I4 : InI wc X4 c hd nd A B (k + 1) := by
            refine ⟨(hX4 ▸ S3.set k _ q23 (.inr rfl)).nodes, fun j hj => ?_, fun j hj hj2 => ?_, ?_, ?_⟩
            · by_cases hjk : j = k
              · subst hjk
                have hs9 := fun z hz => hself z hz
                have far4 : ∀ z ∈ P ++ (T ++ B), X4.cell? ⟨z.nx, j, none⟩ = wr.cell? ⟨z.nx, j, none⟩ ∧ X4.cell? ⟨z.wd, j, none⟩ = wr.cell? ⟨z.wd, j, none⟩ := fun z hz => by
                  obtain ⟨g1, g2, g3, g4, g5, g6, g7, g8⟩ := hs9 z hz
                  rw [← hX4, ← hX3, ← hX2, ← hX1]
                  exact ⟨by rw [cell_far g7, cell_far g1, cell_far g5, cell_far g3], by rw [cell_far g2, cell_far g8, cell_far g4, cell_far g6]⟩
                have eN9 : hd :: (A ++ nd :: B) = P ++ y :: (T ++ nd :: B) := by rw [← List.cons_append, e]; simp
                rw [eN9]
                refine LvM.ins (w := wr) hT hyk (fun z hz => far4 z (by simp [hz])) (fun _ => ⟨?_, ?_, ?_, ?_⟩) (fun hn => absurd (by rw [hndh]; exact hkn) hn) (fun z hz => far4 z (by simp [hz])) (eN ▸ HI.out.rest j (Nat.le_refl _) hk20)
                · rw [← hX4, cell_far nxt.2.2.2.symm, ← hX3]
                  exact cell_here a1X
                · rw [← hX4, ht]
                  exact cell_here a2X
                · rw [← hX4, cell_far (fun e => nxt.2.2.1 e.symm), ← hX3, cell_far ynn.1.symm, ← hX2, cell_far nxt.1, ← hX1, hq]
                  exact cell_here c5
                · rw [← hX4, cell_far ynn.2.symm, ← hX3, cell_far (fun e => nxt.2.1 e.symm), ← hX2, hd9, ht]
                  exact cell_here (by rw [← hX1, cell_far nxt.1.symm]; exact c6)
              · rw [← hX4, ← hX3, ← hX2, ← hX1]
                exact ((((HI.out.done j (by omega)).set hjk).set hjk).set hjk).set hjk
            · have hjk : j ≠ k := by omega
              rw [← hX4, ← hX3, ← hX2, ← hX1]
              exact ((((HI.out.rest j (by omega) hj2).set hjk).set hjk).set hjk).set hjk
            · rw [← hX4]
              refine FarN.set2 ?_ q23 (.inr rfl)
              rw [← hX3]
              refine FarN.set2 ?_ q12 (.inl rfl)
              rw [← hX2]
              refine FarN.set2 ?_ q41 (.inr rfl)
              rw [← hX1]
              exact FarN.set2 HI.out.far q3 (.inl rfl)
            · rw [← hX4, ← hX3, ← hX2, ← hX1]
              exact (((HI.out.below.setCell (p := ⟨nd.nx, k, none⟩) low.2.2.1 _).setCell (p := ⟨nd.wd, k, none⟩) low.2.2.2 _).setCell (p := ⟨y.nx, k, none⟩) low.1 _).setCell (p := ⟨y.wd, k, none⟩) low.2.1 _
          have I4 := Lib.hid I4.drew
          clear hself low a1X a2X
          -- the cells, world by world
          obtain ⟨_, _, yb2, yb3⟩ := ptr_cell (S1.nodes y hyN)
          obtain ⟨_, _, nb2, nb3⟩ := ptr_cell (S1.nodes nd (by simp))
          obtain ⟨_, _, yc2, yc3⟩ := ptr_cell (S2.nodes y hyN)
          obtain ⟨_, _, yd2, yd3⟩ := ptr_cell (S3.nodes y hyN)
          have clb : X1.cell? ⟨w3.heap.size, k, none⟩ = some (.pointer (some ⟨y.a, 0, none⟩)) := (cell_of_row _ _ _ _ _ (0, 0) S1.la).trans hy1
          have clc : X2.cell? ⟨w3.heap.size, k, none⟩ = some (.pointer (some ⟨y.a, 0, none⟩)) := (cell_of_row _ _ _ _ _ (0, 0) S2.la).trans hy1
          have cld : X3.cell? ⟨w3.heap.size, k, none⟩ = some (.pointer (some ⟨y.a, 0, none⟩)) := (cell_of_row _ _ _ _ _ (0, 0) S3.la).trans hy1
          have c61 : X1.cell? ⟨nd.wd, k, none⟩ = some v6 := (cell_of_row _ _ _ _ _ (0, 0) q41).trans hv6
          have f61 := frozen_of_row X1 nd.wd k _ _ q41
          have a12 : X2.cell? ⟨y.nx, k, none⟩ = some (.pointer q) := (by rw [← hX2, cell_far nxt.2.1, ← hX1, cell_far ynn.1]; exact a1)
          have g12 := frozen_of_row X2 y.nx k _ _ q12
          have a23 : X3.cell? ⟨y.wd, k, none⟩ = some (.int .i64 d) := (by rw [← hX3, cell_far nxt.2.2.2, ← hX2, cell_far ynn.2, ← hX1, cell_far nxt.2.2.1]; exact a2)
          have g23 := frozen_of_row X3 y.wd k _ _ q23
          rw [hndh] at nb2 nb3
          clear hdt hq hd9 ht hal hat hy1 hy2 hz2 eN e hyN NY NN hPn hyk hT q1 q2 q3 q4 z1 z2 z3 z4 hv5 hv6 L7 R7 hLast0 S0 S1 S2 S3 q41 q12 q22 q23 ynn nxt
          as_aux_lemma =>
          go_wp2
          go_region
          go_wp2_with fail
          go_region
          go_wp2_with fail
          go_region
          go_wp2_with fail
          exact ⟨⟨k + 1, by omega, by go_num, Lib.hid (by first | exact I4.out | exact I4.out.drew | exact I4.out.drew.drew | exact I4.out.drew.drew.drew)⟩, by simp [intOf]; omega⟩
        · have hki2 : (hh : Int) ≤ (k : Int) := by omega
          have hki3 : ¬ (k : Int) < (hh : Int) := by omega
          have wd1 : wrap64 ((d : Int) + 1) = (d : Int) + 1 := by unfold wrap64; have h8 := HLEN.out; have h7 := dstN_le k (T ++ B); rw [List.length_append] at h8 h7; omega
          have yyx : y.wd ≠ y.nx := fun e => by rw [e, q1] at q2; cases q2
          obtain ⟨X4, hX4⟩ : ∃ X4, wr.setCell ⟨y.wd, k, none⟩ (.int .i64 ((d : Int) + 1)) = X4 := ⟨_, rfl⟩
          have S0 : InS wr c w3.heap.size (hd :: (A ++ nd :: B)) LA RA := ⟨HI.out.nodes, L7, R7⟩
          have eN9 : hd :: (A ++ nd :: B) = P ++ y :: (T ++ nd :: B) := by rw [← List.cons_append, e]; simp
          have hself : ∀ z ∈ P ++ (T ++ B), z.wd ≠ y.wd ∧ z.nx ≠ y.wd := fun z hz => by
            have h9 := HAP.out
            have hzN : z ∈ hd :: (A ++ nd :: B) := by
              rw [eN9]
              simp only [List.mem_append, List.mem_cons] at hz ⊢
              rcases hz with hz | hz | hz
              · exact .inl hz
              · exact .inr (.inr (.inl hz))
              · exact .inr (.inr (.inr (.inr hz)))
            obtain ⟨es1, u1, _⟩ := (HI.out.nodes z hzN).nxb
            unfold Apart at h9
            rw [eN9] at h9
            obtain ⟨p1, p2, p3⟩ := List.pairwise_append.1 h9
            refine ⟨?_, fun e => by rw [e, q2] at u1; cases u1⟩
            simp only [List.mem_append] at hz
            rcases hz with hz | hz | hz
            · exact (p3 z hz y (by simp)).2.2
            · exact ((List.pairwise_cons.1 p2).1 z (by simp [hz])).2.2.symm
            · exact ((List.pairwise_cons.1 p2).1 z (by simp [hz])).2.2.symm
          have I4 : InI wc X4 c hd nd A B (k + 1) := by
            refine ⟨(hX4 ▸ S0.set k _ q2 (.inr rfl)).nodes, fun j hj => ?_, fun j hj hj2 => ?_, ?_, ?_⟩
            · by_cases hjk : j = k
              · subst hjk
                have far4 : ∀ z ∈ P ++ (T ++ B), X4.cell? ⟨z.nx, j, none⟩ = wr.cell? ⟨z.nx, j, none⟩ ∧ X4.cell? ⟨z.wd, j, none⟩ = wr.cell? ⟨z.wd, j, none⟩ := fun z hz => by
                  obtain ⟨g1, g2⟩ := hself z hz
                  rw [← hX4]
                  exact ⟨cell_far g2, cell_far g1⟩
                rw [eN9]
                refine LvM.ins (w := wr) hT hyk (fun z hz => far4 z (by simp [hz])) (fun hn => absurd (by rw [hndh] at hn; exact hn) hkn) (fun _ => ⟨?_, ?_⟩) (fun z hz => far4 z (by simp [hz])) (eN ▸ HI.out.rest j (Nat.le_refl _) hk20)
                · rw [← hX4]
                  exact cell_far yyx.symm
                · rw [← hX4, hd9]
                  exact cell_here a2
              · rw [← hX4]
                exact (HI.out.done j (by omega)).set hjk
            · rw [← hX4]
              exact (HI.out.rest j (by omega) hj2).set (by omega)
            · rw [← hX4]
              exact FarN.set2 HI.out.far q2 (.inr rfl)
            · rw [← hX4]
              exact HI.out.below.setCell (p := ⟨y.wd, k, none⟩) NY.lw _
          have I4 := Lib.hid I4
          clear hq hd9 ht hal hat hy1 hy2 hz2 eN e hyN NY NN hPn hyk hT q1 q2 q3 q4 z1 z2 z3 z4 L7 R7 hLast0 S0 hself eN9
          go_wp2
          exact ⟨⟨k + 1, by omega, by go_num, I4⟩, by simp [intOf]; omega⟩
      · obtain rfl : k = 20 := by omega
        go_wp2
        go_end0
        have hS6 := HI.out.far sp _ (blk_below (blk_below HS2.out B5.out) B6) (fun cs t e => by cases e; exact ⟨by decide, by decide⟩)
        have hz2 := Below.size BC2.out
        have hz5 := Below.size B5.out
        exact ⟨rfl, ⟨nd, m', high', HC.out.1, HC.out.2.1, hm8, hS6, ⟨HI.out.nodes, HAP.out, HHD.out, fun j hj => HI.out.done j hj⟩⟩, ((FR2.out.trans (FarS.of B5.out)).trans (FarS.of B6)).trans HI.out.far.toS, ((BC2.out.trans (B5.out.mono (by omega))).trans (B6.mono (by omega))).trans HI.out.below⟩
end Go.Proofs.YticlacjpgjkhcaaGreatDoor
