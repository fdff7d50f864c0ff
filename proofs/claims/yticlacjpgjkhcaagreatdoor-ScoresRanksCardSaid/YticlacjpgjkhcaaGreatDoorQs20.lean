/- Texts joined: S7, S8 -/
import Derived.Test.YticlacjpgjkhcaaGreatDoorQs19
import Derived.Test.YticlacjpgjkhcaaGreatDoorQs14
set_option linter.unusedVariables false
set_option linter.unusedSimpArgs false

/- A skip list: ranks, ranges. -/
namespace Go.Proofs.YticlacjpgjkhcaaGreatDoor
open Go.ChangeShapes Go.WideShapes Go.ChangeAt Go.RowKit

/-- One score is appended to a row of scores. -/
theorem append_RS {ops : Array Oper} {rest : List Oper} {o : Oper} {a : Act} {Q : Exit → Act → World → Prop} (w : World) (hg : o.guard = none) (s x : Operand) (hop : o.op = Op.call { callee := Callee.builtin Builtin.append, args := #[s, x], argTypes := #[48, 48] })
    (c : Nat) (v : Value) (F : List (ByteArray × Int)) (N : Nat) (hN : F.length = N) (hs : a.eval s = v) (h : RS w c v F) (p : ByteArray × Int) (b : Nat) (hx : a.eval x = .slice (some ⟨b, 0, none⟩) 1 1) (hb : w.heap[b]? = some (.cells #[.string p.1, .int .i64 p.2] 52)) (hl : N ≤ 100000) (hc : c ≤ w.heap.size)
    (k : ∀ g cap w', RS w' c (.slice (some ⟨g, 0, none⟩) (N + 1) cap) (F ++ [p]) → Below c w w' → w.grownBy w' v.ownBlock → wpList Tryz.prog ops Q rest (a.put o.dst (.slice (some ⟨g, 0, none⟩) (N + 1) cap)) w') : wpList Tryz.prog ops Q (o :: rest) a w := by
  subst hN
  obtain ⟨i0, hi, hz0, hz1, hz2⟩ := info_parts iS
  refine wpList_append_lies w hg s x 48 hop c 52 i0 _ 2 24 Tryz.underlying48 hi hz0 hz1 hz2 rfl (by decide) v F.length _ hs h ⟨b, 0, none⟩ 1 1 (cS p) hx rfl (news_blk (show w.heap[b]? = some (.cells (cS p).toArray 52) from hb)) (fun u hu => by simp [cS] at hu; rcases hu with rfl | rfl <;> rfl) (by decide) (by unfold maxLen; omega) (by omega) hc _ rfl ?_
  intro g cap w' h1 h2 _ _
  refine k g cap w' ?_ ((Below.refl _ _).grown h2 hc (fun k hk => (row_own h k hk).1)) h2
  unfold RS
  rw [List.length_append, List.flatMap_append, show [p].length = 1 from rfl, show [p].flatMap cS = cS p by simp]
  exact h1
/-- A score splits the nodes. -/
theorem splitN (x : ByteArray × Int) : ∀ {L : List Nd}, Ord (zN L) → ∃ A B, L = A ++ B ∧ (∀ y ∈ A, ltZ (y.name, y.score) x = true) ∧ (∀ y ∈ B, ltZ (y.name, y.score) x = false)
  | [], _ => ⟨[], [], rfl, fun _ h => (by cases h), fun _ h => (by cases h)⟩
  | y :: L, h => by
    obtain ⟨h1, h2⟩ := List.pairwise_cons.1 h
    cases hy : ltZ (y.name, y.score) x with
    | true =>
      obtain ⟨A, B, rfl, hA, hB⟩ := splitN x h2
      refine ⟨y :: A, B, rfl, fun u hu => ?_, hB⟩
      rcases List.mem_cons.1 hu with rfl | hu
      · exact hy
      · exact hA u hu
    | false =>
      refine ⟨[], y :: L, rfl, fun _ h => (by cases h), fun u hu => ?_⟩
      rcases List.mem_cons.1 hu with rfl | hu
      · exact hy
      · cases hux : ltZ (u.name, u.score) x with
        | false => rfl
        | true =>
          have := ltZ_trans (h1 (u.name, u.score) (List.mem_map.2 ⟨u, hu, rfl⟩)) hux
          rw [hy] at this
          cases this
/-- The split's first part, as scores. -/
theorem split_lo {x : ByteArray × Int} {A B : List Nd} (hA : ∀ y ∈ A, ltZ (y.name, y.score) x = true) (hB : ∀ y ∈ B, ltZ (y.name, y.score) x = false) : loZ x (zN (A ++ B)) = zN A ∧ hiZ x (zN (A ++ B)) = zN B := by
  unfold loZ hiZ zN
  rw [List.map_append, List.filter_append, List.filter_append]
  have a1 : (A.map fun y => (y.name, y.score)).filter (fun q => ltZ q x) = A.map fun y => (y.name, y.score) := List.filter_eq_self.2 fun q hq => by obtain ⟨y, hy, rfl⟩ := List.mem_map.1 hq; exact hA y hy
  have a2 : (A.map fun y => (y.name, y.score)).filter (fun q => !ltZ q x) = [] := List.filter_eq_nil_iff.2 fun q hq => by obtain ⟨y, hy, rfl⟩ := List.mem_map.1 hq; simp [hA y hy]
  have b1 : (B.map fun y => (y.name, y.score)).filter (fun q => ltZ q x) = [] := List.filter_eq_nil_iff.2 fun q hq => by obtain ⟨y, hy, rfl⟩ := List.mem_map.1 hq; simp [hB y hy]
  have b2 : (B.map fun y => (y.name, y.score)).filter (fun q => !ltZ q x) = B.map fun y => (y.name, y.score) := List.filter_eq_self.2 fun q hq => by obtain ⟨y, hy, rfl⟩ := List.mem_map.1 hq; simp [hB y hy]
  rw [a1, a2, b1, b2]
  simp
/-- The last node on the lowest level. -/
theorem Last.zero {hd : Nd} {A : List Nd} {y : Nd} {n : Nat} (h : Last 0 (hd :: A) y n) (h1 : ∀ z ∈ hd :: A, 1 ≤ z.h) : n = A.length ∧ ∃ P, hd :: A = P ++ [y] := by
  obtain ⟨P, T, e, rfl, _, hT⟩ := h
  cases T with
  | nil =>
    have := congrArg List.length e
    simp at this
    exact ⟨this.symm, P, e⟩
  | cons z T => exact absurd (Nat.lt_of_lt_of_le Nat.zero_lt_one (h1 z (by rw [e]; simp))) (hT z (by simp))
/-- How many are ahead of a score. -/
def rankZ (x : ByteArray × Int) (Z : List (ByteArray × Int)) : Nat := (loZ x Z).length
/-- skip.ahead, for the set. -/
theorem ahead_set (c sp bM : Nat) (hd : Nd) (L : List Nd) (E : List (ByteArray × Int)) (made high : Int) (x : ByteArray × Int) (w : World) (h : SKs w c sp bM hd L E made high) (hlen : L.length ≤ 1000000) : Calls Tryz.prog 179 #[.pointer (some ⟨sp, 0, none⟩), .agg #[.string x.1, .int .i64 x.2]] w fun e w' => ∃ LA RA : Array Value, e = .returned (.tuple #[.agg LA, .agg RA]) ∧ (LA.size = 20 ∧ RA.size = 20 ∧ LA.all (·.oneCell') = true ∧ RA.all (·.oneCell') = true ∧ RA[0]? = some (.int .i64 (rankZ x (zN L) : Nat))) ∧ Below w.heap.size w w' := by
  obtain ⟨A, B, rfl, hA, hB⟩ := splitN x h.ord
  refine (ahead_any c sp bM hd (A ++ B) A B made high x w h.set h.mem rfl hlen hA hB).mono ?_
  rintro e w' ⟨LA, RA, rfl, h1, h2⟩
  obtain ⟨y, n, _, g2, g3⟩ := h1.2.2 0 (by decide)
  obtain ⟨h3, _⟩ := g3.zero (fun z hz => (h.mem.nodes z (by rcases List.mem_cons.1 hz with rfl | hz; exact List.mem_cons_self; exact List.mem_cons_of_mem _ (List.mem_append_left _ hz))).h1)
  refine ⟨LA, RA, rfl, ⟨h1.1, h1.2.1, h1.one.1, h1.one.2, ?_⟩, h2⟩
  rw [g2, h3]
  unfold rankZ
  rw [(split_lo hA hB).1]
  simp [zN]
theorem setCells_far {b i : Nat} (hi : i ≠ b) : ∀ (vs : List Value) (o : Nat) (w : World), (w.setCells b o vs).heap[i]? = w.heap[i]?
  | [], _, _ => rfl
  | v :: r, o, w => (setCells_far hi r (o + 1) _).trans (Below.heap_setCell w ⟨b, o, none⟩ v i hi)
theorem setCells_size (b : Nat) : ∀ (vs : List Value) (o : Nat) (w : World), (w.setCells b o vs).heap.size = w.heap.size
  | [], _, _ => rfl
  | v :: r, o, w => (setCells_size b r (o + 1) _).trans (by simp [World.setCell])
theorem setCells_some {b : Nat} {t : TypeId} : ∀ (vs : List Value) (o : Nat) (w : World) (cs : Array Value), w.heap[b]? = some (.cells cs t) → ∃ ds, (w.setCells b o vs).heap[b]? = some (.cells ds t) ∧ ds.size = cs.size
  | [], _, _, cs, h => ⟨cs, h, rfl⟩
  | v :: r, o, w, cs, h => by
    obtain ⟨ds, h1, h2⟩ := setCells_some r (o + 1) _ _ (set_cells (i := o) (v := v) h)
    exact ⟨ds, h1, by rw [h2]; simp⟩
theorem setCells_row {w : World} {b : Nat} {t : TypeId} {cs : Array Value} (h : w.heap[b]? = some (.cells cs t)) (vs : List Value) (hl : cs.size = vs.length) : (w.setCells b 0 vs).heap[b]? = some (.cells vs.toArray t) := by
  obtain ⟨ds, h1, h2⟩ := setCells_some vs 0 w cs h
  have ht : w.there b 0 vs.length := fun j hj => by
    rw [Nat.zero_add, cell_of_row w b j _ _ (0, 0) h]
    exact ⟨by simp; omega, frozen_of_row w _ _ _ _ h⟩
  have hr := World.rangeAt_setCells_same w b 0 vs ht
  rw [h1]
  congr 2
  apply Array.ext_getElem?
  intro i
  by_cases hi : i < vs.length
  · have e := hr i vs[i] (List.getElem?_eq_getElem hi)
    rw [Nat.zero_add, cell_of_row _ b i _ _ (0, 0) h1] at e
    rw [e]
    simp [hi]
  · rw [Array.getElem?_eq_none (by omega), Array.getElem?_eq_none (by simp; omega)]
/-- A whole array is stored. -/
theorem store_row {w : World} {g : Nat} {t : TypeId} {cs c' : Array Value} (hg : w.heap[g]? = some (.cells cs t)) (hn : cs.size = c'.size) (h1 : c'.all (·.oneCell') = true) : ∃ w', (storeCells ⟨g, 0, none⟩ c'.toList).run Tryz.prog w = .ok () w' ∧ w'.heap[g]? = some (.cells c' t) ∧ (∀ i, i ≠ g → w'.heap[i]? = w.heap[i]?) ∧ w'.heap.size = w.heap.size ∧ (∀ c0, c0 ≤ g → Below c0 w w') := by
  have hr := run_storeCells_cells (P := Tryz.prog) g 0 c'.toList 0 w (fun j hj => by
    simp only [Nat.zero_add]
    rw [cell_of_row w g j _ _ (0, 0) hg]
    simp at hj
    simp
    omega) (fun j hj => by simp only [Nat.zero_add]; exact frozen_of_row w _ _ _ _ hg) (fun v hv => (Array.all_eq_true_iff_forall_mem.1 h1) v (by simpa using hv))
  refine ⟨_, hr, setCells_row hg c'.toList (by simpa using hn), fun i hi => setCells_far hi _ _ _, setCells_size _ _ _ _, fun c0 hc => zbelow_cells hc _ _ _ (Below.refl _ _)⟩
/-- Both arrays that skip.ahead brings are laid into memory of the caller's own. -/
theorem store_two (w2 : World) (LA RA : Array Value) (zL : LA.size = 20) (zR : RA.size = 20) (oL : LA.all (·.oneCell') = true) (oR : RA.all (·.oneCell') = true) : ∃ w3 w4, (storeCells ⟨w2.heap.size, 0, none⟩ LA.toList).run Tryz.prog ((w2.alloc (.cells #[.pointer none, .pointer none, .pointer none, .pointer none, .pointer none, .pointer none, .pointer none, .pointer none, .pointer none, .pointer none, .pointer none, .pointer none, .pointer none, .pointer none, .pointer none, .pointer none, .pointer none, .pointer none, .pointer none, .pointer none] 200)).alloc (.cells #[.int .i64 0, .int .i64 0, .int .i64 0, .int .i64 0, .int .i64 0, .int .i64 0, .int .i64 0, .int .i64 0, .int .i64 0, .int .i64 0, .int .i64 0, .int .i64 0, .int .i64 0, .int .i64 0, .int .i64 0, .int .i64 0, .int .i64 0, .int .i64 0, .int .i64 0, .int .i64 0] 201)) = .ok () w3 ∧ (storeCells ⟨w2.heap.size + 1, 0, none⟩ RA.toList).run Tryz.prog w3 = .ok () w4 ∧ w4.heap[w2.heap.size]? = some (.cells LA 200) ∧ w4.heap[w2.heap.size + 1]? = some (.cells RA 201) ∧ Below w2.heap.size w2 w4 ∧ w4.heap.size = w2.heap.size + 2 := by
  have s0 := blk_below (heap_alloc_new w2 (.cells #[.pointer none, .pointer none, .pointer none, .pointer none, .pointer none, .pointer none, .pointer none, .pointer none, .pointer none, .pointer none, .pointer none, .pointer none, .pointer none, .pointer none, .pointer none, .pointer none, .pointer none, .pointer none, .pointer none, .pointer none] 200)) (alloc_old (o := .cells #[.int .i64 0, .int .i64 0, .int .i64 0, .int .i64 0, .int .i64 0, .int .i64 0, .int .i64 0, .int .i64 0, .int .i64 0, .int .i64 0, .int .i64 0, .int .i64 0, .int .i64 0, .int .i64 0, .int .i64 0, .int .i64 0, .int .i64 0, .int .i64 0, .int .i64 0, .int .i64 0] 201))
  have s1 := heap2L (o := .cells #[.pointer none, .pointer none, .pointer none, .pointer none, .pointer none, .pointer none, .pointer none, .pointer none, .pointer none, .pointer none, .pointer none, .pointer none, .pointer none, .pointer none, .pointer none, .pointer none, .pointer none, .pointer none, .pointer none, .pointer none] 200) w2 (.cells #[.int .i64 0, .int .i64 0, .int .i64 0, .int .i64 0, .int .i64 0, .int .i64 0, .int .i64 0, .int .i64 0, .int .i64 0, .int .i64 0, .int .i64 0, .int .i64 0, .int .i64 0, .int .i64 0, .int .i64 0, .int .i64 0, .int .i64 0, .int .i64 0, .int .i64 0, .int .i64 0] 201)
  obtain ⟨w3, h1, h2, h3, h4, h5⟩ := store_row s0 (show 20 = LA.size by omega) oL
  obtain ⟨w4, g1, g2, g3, g4, g5⟩ := store_row ((h3 (w2.heap.size + 1) (by omega)).trans s1) (show 20 = RA.size by omega) oR
  exact ⟨w3, w4, h1, g1, (g3 _ (by omega)).trans h2, g2, ((alloc_old.trans (alloc_old.mono (by simp))).trans (h5 _ (Nat.le_refl _))).trans (g5 _ (by omega)), by rw [g4, h4]; simp⟩
set_option maxRecDepth 100000 in
set_option maxHeartbeats 8000000 in
theorem Below_any (c sp : Nat) (Z : List (ByteArray × Int)) (s : Int) (w : World) (h : SK w c sp Z) (hlen : Z.length ≤ 1000000) : Calls Tryz.prog 128 #[.pointer (some ⟨sp, 0, none⟩), .int .i64 s] w fun e w' => e = .returned (.int .i64 (rankZ (⟨#[]⟩, s) Z : Nat)) ∧ Below w.heap.size w w' := by
  obtain ⟨bM, hd, L, E, made, high, h, rfl⟩ := h
  have AH := Lib.hid (ahead_set c sp bM hd L E made high (⟨#[]⟩, s) w h (by simpa [zN] using hlen))
  obtain ⟨q, hq⟩ : ∃ q : Nat, rankZ (⟨#[]⟩, s) (zN L) = q := ⟨_, rfl⟩
  rw [hq] at AH ⊢
  clear h hlen hq
  go_enter Tryz.func128, Tryz.ntmps128
  go_wp2_with (first | (go_at_call 179; (with_reducible refine (AH.out).mono ?_); rintro e w2 ⟨LA, RA, rfl, ⟨zL, zR, oL, oR, hr0⟩, h1⟩; have HB := Lib.hid h1; have H0 := Lib.hid hr0; clear hr0 h1; refine Hid.out ?_))
  refine Lib.hid ?_
  obtain ⟨w3, w4, st1, st2, f1, f2, f3, _⟩ := store_two w2 LA RA zL zR oL oR
  have B4 := Lib.hid f3
  have c0 : w4.cell? ⟨w2.heap.size + 1, 0, none⟩ = some (.int .i64 q) := (cell_of_row _ _ _ _ _ (0, 0) f2).trans H0.out
  clear f1 f2 f3
  go_wp2
  go_ret
  exact ⟨by simp, HB.out.trans (B4.out.mono (Below.size HB.out))⟩
set_option maxRecDepth 100000 in
set_option maxHeartbeats 8000000 in
theorem Rank_any (c sp : Nat) (Z : List (ByteArray × Int)) (k : ByteArray) (w : World) (h : SK w c sp Z) (hlen : Z.length ≤ 1000000) : Calls Tryz.prog 124 #[.pointer (some ⟨sp, 0, none⟩), .string k] w fun e w' => e = .returned (.tuple #[.int .i64 (match findD k Z with | none => 0 | some s => ((rankZ (k, s) Z : Nat) : Int)), .bool (findD k Z).isSome]) ∧ Below w.heap.size w w' := by
  obtain ⟨bM, hd, L, E, made, high, h, rfl⟩ := h
  have SC := Score_any c sp bM hd L E made high k w h
  cases hf : findD k (zN L) with
  | none =>
    rw [hf] at SC
    have SC := Lib.hid SC
    clear h hlen hf
    go_enter Tryz.func124, Tryz.ntmps124
    go_wp2_with (first | (go_at_call 117; (with_reducible refine (SC.out).mono ?_); rintro e w2 ⟨rfl, rfl⟩))
    exact bodyPost_ret (v := .tuple #[.int .i64 0, .bool false]) (by simp [results, Tryz.results124, go_sem]) rfl ⟨rfl, Below.refl _ _⟩
  | some s =>
    rw [hf] at SC
    have AH := Lib.hid (ahead_set c sp bM hd L E made high (k, s) w h (by simpa [zN] using hlen))
    obtain ⟨q, hq⟩ : ∃ q : Nat, rankZ (k, s) (zN L) = q := ⟨_, rfl⟩
    rw [hq] at AH
    simp only [hq]
    have SC := Lib.hid SC
    clear h hlen hf hq
    go_enter Tryz.func124, Tryz.ntmps124
    go_wp2_with (first | (go_at_call 117; (with_reducible refine (SC.out).mono ?_); rintro e w2 ⟨rfl, rfl⟩) | (go_at_call 179; (with_reducible refine (AH.out).mono ?_); rintro e w2 ⟨LA, RA, rfl, ⟨zL, zR, oL, oR, hr0⟩, h1⟩; have HB := Lib.hid h1; have H0 := Lib.hid hr0; clear hr0 h1; refine Hid.out ?_))
    refine Lib.hid ?_
    obtain ⟨w3, w4, st1, st2, f1, f2, f3, _⟩ := store_two w2 LA RA zL zR oL oR
    have B4 := Lib.hid f3
    have c0 : w4.cell? ⟨w2.heap.size + 1, 0, none⟩ = some (.int .i64 q) := (cell_of_row _ _ _ _ _ (0, 0) f2).trans H0.out
    clear f1 f2 f3
    go_wp2
    exact bodyPost_ret (v := .tuple #[.int .i64 q, .bool true]) (by simp [results, Tryz.results124, go_sem]) rfl ⟨rfl, HB.out.trans (B4.out.mono (Below.size HB.out))⟩
set_option maxRecDepth 100000 in
set_option maxHeartbeats 8000000 in
/-- skip.At of a rank that there is. -/
theorem At_any (c sp : Nat) (Z : List (ByteArray × Int)) (i : Nat) (p : ByteArray × Int) (hp : Z[i]? = some p) (w : World) (h : SK w c sp Z) (hlen : Z.length ≤ 1000000) : Calls Tryz.prog 129 #[.pointer (some ⟨sp, 0, none⟩), .int .i64 (i : Nat)] w fun e w' => e = .returned (.tuple #[.agg #[.string p.1, .int .i64 p.2], .bool true]) ∧ Below w.heap.size w w' := by
  obtain ⟨bM, hd, L, E, made, high, h, rfl⟩ := h
  have hil : i < L.length := by have := (List.getElem?_eq_some_iff.1 hp).1; simpa [zN] using this
  obtain ⟨y, hy⟩ : ∃ y, L[i]? = some y := ⟨_, List.getElem?_eq_getElem hil⟩
  have hpy : p = (y.name, y.score) := by
    unfold zN at hp
    rw [List.getElem?_map, hy] at hp
    exact (Option.some.inj hp).symm
  subst hpy
  have hl : L.length ≤ 1000000 := by simpa [zN] using hlen
  have B0 := alloc_old (w := w) (o := .cells #[.string ⟨#[]⟩, .int .i64 0] 52)
  have z0 := Lib.hid (heap_alloc_new w (.cells #[.string ⟨#[]⟩, .int .i64 0] 52))
  have BB := Lib.hid B0
  have LN := Lib.hid (fun X (hX : Below (w.alloc (.cells #[.string ⟨#[]⟩, .int .i64 0] 52)).heap.size (w.alloc (.cells #[.string ⟨#[]⟩, .int .i64 0] 52)) X) => Len_any c sp bM hd L E made high X ((h.below B0).below hX))
  have ND := Lib.hid (fun X (hX : Below (w.alloc (.cells #[.string ⟨#[]⟩, .int .i64 0] 52)).heap.size (w.alloc (.cells #[.string ⟨#[]⟩, .int .i64 0] 52)) X) => node_any c sp bM hd L made high i y hy X ((h.below B0).below hX).set ((h.below B0).below hX).mem hl)
  have HY := Lib.hid (fun X (hX : Below (w.alloc (.cells #[.string ⟨#[]⟩, .int .i64 0] 52)).heap.size (w.alloc (.cells #[.string ⟨#[]⟩, .int .i64 0] 52)) X) => ptr_cell (((h.below B0).below hX).mem.nodes y (List.mem_cons_of_mem _ (List.mem_of_getElem? hy))))
  obtain ⟨n, hn⟩ : ∃ n : Nat, L.length = n := ⟨_, rfl⟩
  rw [hn] at hil LN
  have q1 : ¬ (i : Int) < 0 := by omega
  have q2 : ¬ (n : Int) ≤ (i : Int) := by omega
  have q3 : decide ((i : Int) < 0) = false := decide_eq_false q1
  have BR := Lib.hid (Below.refl (w.alloc (.cells #[.string ⟨#[]⟩, .int .i64 0] 52)).heap.size (w.alloc (.cells #[.string ⟨#[]⟩, .int .i64 0] 52)))
  clear h hlen hp hy hl hn hil B0
  go_enter Tryz.func129, Tryz.ntmps129
  go_wp2_with (first | (go_at_call 123; (with_reducible refine (LN.out _ BR.out).mono ?_); rintro e w2 ⟨rfl, rfl⟩) | (go_at_call 180; (with_reducible refine (ND.out _ BR.out).mono ?_); rintro e w2 ⟨rfl, h1⟩; have HB := Lib.hid h1; obtain ⟨e0, e1, _, _⟩ := HY.out w2 h1; obtain ⟨g0, g1⟩ := cells2z (blk_below z0.out h1); have fz := frozen_of_row w2 w.heap.size 0 _ _ (blk_below z0.out h1); have fz1 := frozen_of_row w2 w.heap.size 1 _ _ (blk_below z0.out h1); clear h1))
  exact bodyPost_ret (v := .tuple #[.agg #[.string y.name, .int .i64 y.score], .bool true]) (by simp [results, Tryz.results129, go_sem, g0, g1]) rfl ⟨rfl, ((BB.out.trans (HB.out.mono (by simp))).setCell (p := ⟨w.heap.size, 0, none⟩) (Nat.le_refl _) _).setCell (p := ⟨w.heap.size, 1, none⟩) (Nat.le_refl _) _⟩
end Go.Proofs.YticlacjpgjkhcaaGreatDoor

/- A skip list: ranges. -/
namespace Go.Proofs.YticlacjpgjkhcaaGreatDoor
open Go.ChangeShapes Go.WideShapes Go.ChangeAt Go.RowKit

theorem minI (a b : Int) (h : a ≤ b) : min a b = a := by omega
/-- A node's place on the lowest level: what follows. -/
theorem next0 {w : World} {c : Nat} {hd : Nd} {L : List Nd} (h : SKm w c hd L) (i : Nat) (y : Nd) (hy : L[i]? = some y) : w.cell? ⟨y.nx, 0, none⟩ = some (ptrN L[i + 1]?) := by
  obtain ⟨hi, rfl⟩ := List.getElem?_eq_some_iff.1 hy
  have e : hd :: L = (hd :: L.take i) ++ L[i] :: L.drop (i + 1) := by
    rw [List.cons_append, List.getElem_cons_drop, List.take_append_drop]
  obtain ⟨a1, _⟩ := LvM.at (e ▸ h.lv 0 (by decide)) (Nat.lt_of_lt_of_le Nat.zero_lt_one (h.nodes _ (List.mem_cons_of_mem _ (List.getElem_mem hi))).h1)
  rw [a1]
  have e2 : fstN 0 (L.drop (i + 1)) = L[i + 1]? := by
    cases hd : L.drop (i + 1) with
    | nil =>
      have := congrArg List.length hd
      simp at this
      rw [List.getElem?_eq_none (by omega)]
      rfl
    | cons z T =>
      have hz : L[i + 1]? = some z := by
        have := List.getElem?_drop (xs := L) (i := i + 1) (j := 0)
        rw [hd] at this
        simpa using this.symm
      have hz1 := (h.nodes z (List.mem_cons_of_mem _ (List.mem_of_getElem? hz))).h1
      rw [hz]
      unfold fstN
      rw [if_pos (Nat.lt_of_lt_of_le Nat.zero_lt_one hz1)]
  rw [e2]
set_option maxRecDepth 100000 in
set_option maxHeartbeats 8000000 in
/-- skip.Range of ranks that there are. -/
theorem Range_any (c sp : Nat) (Z : List (ByteArray × Int)) (f m : Nat) (tv : Int) (h1 : 1 ≤ m) (h2 : f + m ≤ Z.length) (ht : tv = f + m - 1 ∨ (tv < 0 ∧ tv = f + m - 1 - (Z.length : Int))) (w : World) (h : SK w c sp Z) (hlen : Z.length ≤ 100000) : Calls Tryz.prog 126 #[.pointer (some ⟨sp, 0, none⟩), .int .i64 (f : Nat), .int .i64 tv] w fun e w' => ∃ A C, e = .returned (.slice A m C) ∧ RS w' w.heap.size (.slice A m C) ((Z.drop f).take m) ∧ Below w.heap.size w w' := by
  obtain ⟨bM, hd, L, E, made, high, h, rfl⟩ := h
  have hzl : (zN L).length = L.length := by simp [zN]
  rw [hzl] at h2 ht hlen
  have hfl : f < L.length := by omega
  obtain ⟨y, hy⟩ : ∃ y, L[f]? = some y := ⟨_, List.getElem?_eq_getElem hfl⟩
  have LN := Lib.hid (Len_any c sp bM hd L E made high w h)
  have ND := Lib.hid (node_any c sp bM hd L made high f y hy w h.set h.mem (by omega))
  have HM := Lib.hid (fun X (hX : Below w.heap.size w X) => h.mem.below hX)
  obtain ⟨n, hn⟩ : ∃ n : Nat, L.length = n := ⟨_, rfl⟩
  have HN := Lib.hid hn
  rw [hn] at h2 ht hlen LN hfl
  have HLE := Lib.hid (And.intro h2 hlen)
  have HY := Lib.hid hy
  have q1 : ¬ (f : Int) < 0 := by omega
  have q4 : ¬ ((f : Int) + (m : Int) - 1) < (f : Int) := by omega
  have q5 : wrap64 ((f : Int) + (m : Int) - 1 - (f : Int)) = (m : Int) - 1 := by unfold wrap64; omega
  have q7 : wrap64 ((n : Int) - 1) = (n : Int) - 1 := by unfold wrap64; omega
  have q8 : min ((f : Int) + (m : Int) - 1) ((n : Int) - 1) = (f : Int) + (m : Int) - 1 := by omega
  have Q := Lib.hid (And.intro q1 (And.intro q4 (And.intro q5 (And.intro q7 q8))))
  clear h hy hzl q1 q4 q5 q7 q8
  rcases ht with rfl | ⟨htn, ht⟩
  · have q3 : ¬ ((f : Int) + (m : Int) - 1) < 0 := by omega
    obtain ⟨q1, q4, q5, q7, q8⟩ := Q.out
    go_enter Tryz.func126, Tryz.ntmps126
    go_wp2_with (first | (go_at_call 123; (with_reducible refine (LN.out).mono ?_); rintro e w2 ⟨rfl, hw2⟩; obtain rfl := hw2.symm) | (go_at_call 180; (with_reducible refine (ND.out).mono ?_); rintro e w2 ⟨rfl, h1⟩; have HB := Lib.hid h1; clear h1; refine Hid.out ?_))
    refine Lib.hid ?_
    go_wp2
    go_loopw [8, 9] (fun ov xv wr => ∃ (j : Nat) (A : Option Addr) (C : Nat), j ≤ m ∧ ov = .slice A j C ∧ xv = ptrN L[f + j]? ∧ Hid (RS wr w.heap.size (.slice A j C) ((zN L).drop f |>.take j) ∧ Below w.heap.size w wr)) (fun ov _ _ => m - (match ov with | .slice _ j _ => j | _ => 0))
    case atStart => exact ⟨0, none, 0, Nat.zero_le _, rfl, by rw [Nat.add_zero, HY.out]; rfl, Lib.hid ⟨by rw [List.take_zero]; exact World.ownsRow_nil _ _ _ _, HB.out⟩⟩
    case round =>
      obtain ⟨j, A, C, hj, rfl, rfl, HQ⟩ := hrel
      by_cases hlt : j < m
      · obtain ⟨z, hz⟩ : ∃ z, L[f + j]? = some z := ⟨_, List.getElem?_eq_getElem (by rw [HN.out]; have := HLE.out; omega)⟩
        have hm := HM.out wr HQ.out.2
        obtain ⟨d0, d1, d2, d3⟩ := ptr_cell (hm.nodes z (List.mem_cons_of_mem _ (List.mem_of_getElem? hz)))
        have hh1 := (hm.nodes z (List.mem_cons_of_mem _ (List.mem_of_getElem? hz))).h1
        have hh : (0 : Int) < (z.h : Int) := by omega
        have DN := Lib.hid (fun X (hX : Below w.heap.size w X) => ptr_cell ((HM.out X hX).nodes z (List.mem_cons_of_mem _ (List.mem_of_getElem? hz))))
        have NX := Lib.hid (fun X (hX : Below w.heap.size w X) => next0 (HM.out X hX) (f + j) z hz)
        rw [hz]
        simp only [ptrN]
        have hjm : (j : Int) ≤ (m : Int) - 1 := by omega
        have HR := Lib.hid (HQ.out.1.below (alloc_old (o := .cells #[.string z.name, .int .i64 z.score] 52)))
        have BX := Lib.hid (alloc_old (w := wr) (o := .cells #[.string z.name, .int .i64 z.score] 52))
        have HX := Lib.hid (heap_alloc_new wr (.cells #[.string z.name, .int .i64 z.score] 52))
        have HW := Lib.hid (Below.size HQ.out.2)
        have hjl : ((zN L).drop f |>.take j).length = j := by
          have := HN.out
          have := HLE.out
          simp [zN]
          omega
        have HJ := Lib.hid hjl
        have hj6 : j ≤ 100000 := by have := HLE.out; omega
        have HT := Lib.hid (show ((zN L).drop f |>.take (j + 1)) = ((zN L).drop f |>.take j) ++ [(z.name, z.score)] by
          rw [List.take_add_one]
          congr 1
          rw [List.getElem?_drop]
          unfold zN
          rw [List.getElem?_map, hz]
          rfl)
        clear hm hz hjl
        go_wp2_with (first | (at_builtin; refine append_RS _ rfl _ _ rfl w.heap.size (.slice A j C) _ j HJ.out rfl HR.out (z.name, z.score) wr.heap.size rfl HX.out hj6 (Nat.le_trans HW.out (by simp)) ?_; intro g6 C6 w6 h6 h7 h8; have R6 := Lib.hid h6; have B6 := Lib.hid (HQ.out.2.trans ((BX.out.mono HW.out).trans h7)); clear h6 h7 h8; obtain ⟨e0, e1, e2, e3⟩ := DN.out w6 B6.out; have nx := NX.out w6 B6.out; clear d0 d1 d2 d3))
        exact ⟨⟨j + 1, _, _, hlt, rfl, rfl, Lib.hid ⟨by rw [HT.out]; exact R6.out, B6.out⟩⟩, by simp only; omega⟩
      · obtain rfl : j = m := by omega
        have hjm : ¬ (j : Int) ≤ (j : Int) - 1 := by omega
        go_wp2
        go_ret
        exact ⟨A, C, rfl, HQ.out.1, HQ.out.2⟩
  · have q2 : wrap64 (tv + (n : Int)) = (f : Int) + (m : Int) - 1 := by unfold wrap64; omega
    obtain ⟨q1, q4, q5, q7, q8⟩ := Q.out
    clear ht
    go_enter Tryz.func126, Tryz.ntmps126
    go_wp2_with (first | (go_at_call 123; (with_reducible refine (LN.out).mono ?_); rintro e w2 ⟨rfl, hw2⟩; obtain rfl := hw2.symm) | (go_at_call 180; (with_reducible refine (ND.out).mono ?_); rintro e w2 ⟨rfl, h1⟩; have HB := Lib.hid h1; clear h1; refine Hid.out ?_))
    refine Lib.hid ?_
    go_wp2
    go_loopw [8, 9] (fun ov xv wr => ∃ (j : Nat) (A : Option Addr) (C : Nat), j ≤ m ∧ ov = .slice A j C ∧ xv = ptrN L[f + j]? ∧ Hid (RS wr w.heap.size (.slice A j C) ((zN L).drop f |>.take j) ∧ Below w.heap.size w wr)) (fun ov _ _ => m - (match ov with | .slice _ j _ => j | _ => 0))
    case atStart => exact ⟨0, none, 0, Nat.zero_le _, rfl, by rw [Nat.add_zero, HY.out]; rfl, Lib.hid ⟨by rw [List.take_zero]; exact World.ownsRow_nil _ _ _ _, HB.out⟩⟩
    case round =>
      obtain ⟨j, A, C, hj, rfl, rfl, HQ⟩ := hrel
      by_cases hlt : j < m
      · obtain ⟨z, hz⟩ : ∃ z, L[f + j]? = some z := ⟨_, List.getElem?_eq_getElem (by rw [HN.out]; have := HLE.out; omega)⟩
        have hm := HM.out wr HQ.out.2
        obtain ⟨d0, d1, d2, d3⟩ := ptr_cell (hm.nodes z (List.mem_cons_of_mem _ (List.mem_of_getElem? hz)))
        have hh1 := (hm.nodes z (List.mem_cons_of_mem _ (List.mem_of_getElem? hz))).h1
        have hh : (0 : Int) < (z.h : Int) := by omega
        have DN := Lib.hid (fun X (hX : Below w.heap.size w X) => ptr_cell ((HM.out X hX).nodes z (List.mem_cons_of_mem _ (List.mem_of_getElem? hz))))
        have NX := Lib.hid (fun X (hX : Below w.heap.size w X) => next0 (HM.out X hX) (f + j) z hz)
        rw [hz]
        simp only [ptrN]
        have hjm : (j : Int) ≤ (m : Int) - 1 := by omega
        have HR := Lib.hid (HQ.out.1.below (alloc_old (o := .cells #[.string z.name, .int .i64 z.score] 52)))
        have BX := Lib.hid (alloc_old (w := wr) (o := .cells #[.string z.name, .int .i64 z.score] 52))
        have HX := Lib.hid (heap_alloc_new wr (.cells #[.string z.name, .int .i64 z.score] 52))
        have HW := Lib.hid (Below.size HQ.out.2)
        have hjl : ((zN L).drop f |>.take j).length = j := by
          have := HN.out
          have := HLE.out
          simp [zN]
          omega
        have HJ := Lib.hid hjl
        have hj6 : j ≤ 100000 := by have := HLE.out; omega
        have HT := Lib.hid (show ((zN L).drop f |>.take (j + 1)) = ((zN L).drop f |>.take j) ++ [(z.name, z.score)] by
          rw [List.take_add_one]
          congr 1
          rw [List.getElem?_drop]
          unfold zN
          rw [List.getElem?_map, hz]
          rfl)
        clear hm hz hjl
        go_wp2_with (first | (at_builtin; refine append_RS _ rfl _ _ rfl w.heap.size (.slice A j C) _ j HJ.out rfl HR.out (z.name, z.score) wr.heap.size rfl HX.out hj6 (Nat.le_trans HW.out (by simp)) ?_; intro g6 C6 w6 h6 h7 h8; have R6 := Lib.hid h6; have B6 := Lib.hid (HQ.out.2.trans ((BX.out.mono HW.out).trans h7)); clear h6 h7 h8; obtain ⟨e0, e1, e2, e3⟩ := DN.out w6 B6.out; have nx := NX.out w6 B6.out; clear d0 d1 d2 d3))
        exact ⟨⟨j + 1, _, _, hlt, rfl, rfl, Lib.hid ⟨by rw [HT.out]; exact R6.out, B6.out⟩⟩, by simp only; omega⟩
      · obtain rfl : j = m := by omega
        have hjm : ¬ (j : Int) ≤ (j : Int) - 1 := by omega
        go_wp2
        go_ret
        exact ⟨A, C, rfl, HQ.out.1, HQ.out.2⟩
end Go.Proofs.YticlacjpgjkhcaaGreatDoor
