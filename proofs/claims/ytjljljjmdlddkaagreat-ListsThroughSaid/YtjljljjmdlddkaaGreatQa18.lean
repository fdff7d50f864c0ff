/- Texts joined: Ch3, Ch4, Ch5, Ch6 -/
import Derived.Test.YtjljljjmdlddkaaGreatQa17
import Derived.Test.YtjljljjmdlddkaaGreatQa5
import Derived.Lib.AppendZeros

/- chunk.Row: Insert. -/
namespace Go.Proofs.YtjljljjmdlddkaaGreat
open Go.ChangeShapes Go.WideShapes Go.ChangeAt Go.RowKit

theorem Kp.mono2 {c d : Nat} {S T : Nat → Prop} {w w' : World} (h : Kp c S w w') (hd : d ≤ c) (hS : ∀ k, k < d → T k → S k) : Kp d T w w' := ⟨h.os, h.tape, h.output, h.size, fun i hi hb => h.block i (by omega) (hS i hi hb)⟩
theorem chset {X : World} {q : Nat} {cs : Array Value} (h : X.heap[q]? = some (.cells cs 22)) (v : Value) : (X.setCell ⟨q, 0, none⟩ v).heap[q]? = some (.cells (cs.setIfInBounds 0 v) 22) := by
  simp [World.setCell, Array.getElem?_modify, h]
theorem rowset {X : World} {p : Nat} {a b : Value} (h : X.heap[p]? = some (.cells #[a, b] 118)) (v : Value) : (X.setCell ⟨p, 1, none⟩ v).heap[p]? = some (.cells #[a, v] 118) := by
  simp [World.setCell, Array.getElem?_modify, h]
theorem rowset0 {X : World} {p : Nat} {a b : Value} (h : X.heap[p]? = some (.cells #[a, b] 118)) (v : Value) : (X.setCell ⟨p, 0, none⟩ v).heap[p]? = some (.cells #[v, b] 118) := by
  simp [World.setCell, Array.getElem?_modify, h]
set_option maxRecDepth 100000 in
set_option maxHeartbeats 8000000 in
/-- Insert where there is a chunk. -/
theorem RIns1 (c p : Nat) (l : Value) (xs : List ByteArray) (hne : xs ≠ []) (hn : xs.length ≤ 31) (i : Nat) (hi : i ≤ xs.length) (s : ByteArray) (w : World) (h : RowL c w p l xs) : Calls Tryz.prog 58 #[.pointer (some ⟨p, 0, none⟩), .int .i64 i, .string s] w fun e w' => e = .returned (.bool true) ∧ RowL c w' p l (insT i s xs) ∧ Kp w.heap.size (fun k => k ≠ p ∧ l.ownBlock ≠ some k) w w' := by
  obtain ⟨hc, hp, ⟨rfl, _⟩ | ⟨_, q, C, cs, g, C2, hcq, hcg, rfl, hq, hz, hC, hCm, h0, hT⟩⟩ := h
  · exact absurd rfl hne
  have HC := Lib.hid (And.intro hz (And.intro hC hCm))
  clear hz hC hCm
  have hpq : p ≠ q := fun e => by subst e; rw [hp] at hq; simp at hq
  have FD := RFind p q C xs.length C2 (.int .i64 (xs.length : Int)) cs (some ⟨g, 0, none⟩) i (by omega) (by omega) w hp hq h0
  have CL := fun X (hX : TX X g C2 xs) => CloneX (.slice (some ⟨g, 0, none⟩) xs.length C2) xs hne (by omega) X hX.tr.ssl
  have IN := fun (g4 C4 b : Nat) X (h1 : TX X g4 C4 xs) (h2 : X.heap[b]? = some (.cells #[.string s] 9)) (h3 : b ≠ g4) => InsX g4 C4 xs (by omega) i hi b s X h1 h2 h3
  have LI := insT_len i s xs hi
  obtain ⟨n, hnn⟩ : ∃ n : Nat, xs.length = n := ⟨_, rfl⟩
  simp only [hnn] at FD CL IN LI
  rw [hnn] at hn hi hp h0
  have LI := Lib.hid LI
  have CL := Lib.hid CL
  have IN := Lib.hid IN
  have HP := Lib.hid hp
  have HQ := Lib.hid hq
  have HT := Lib.hid hT
  have H0 := Lib.hid h0
  obtain ⟨⟨p0, p1⟩, ⟨f0, f1⟩, pz⟩ := rowc hp
  have hi1 : ¬ (i : Int) > (n : Int) := by omega
  have w1 : wrap64 ((n : Int) + 1) = (n : Int) + 1 := by unfold wrap64; omega
  have w2 : wrap64 ((n : Int) - n) = 0 := by unfold wrap64; omega
  have hn32 : (n : Int) + 1 ≤ 32 := by omega
  have hnq : ¬ q = p := fun e => hpq e.symm
  clear hp hq h0 hT hnn
  by_cases hlt : i < n
  · have hfr : findR i n = .tuple #[.int .i64 0, .int .i64 i] := if_pos hlt
    rw [hfr] at FD
    have FD := Lib.hid FD
    clear hfr
    go_enter Tryz.func58, Tryz.ntmps58
    go_wp2_with (first | (go_at_call 75; (with_reducible refine (FD.out).mono ?_); rintro e w2 ⟨rfl, h3⟩; have B2 := Lib.hid h3; clear h3 FD; refine Hid.out ?_))
    refine Lib.hid ?_
    have P2 := Lib.hid (blk_below HP.out B2.out)
    have Q2 := Lib.hid (blk_below HQ.out B2.out)
    have T2 := Lib.hid (HT.out.below B2.out)
    obtain ⟨⟨a0, a1⟩, ⟨b0, b1⟩, bz⟩ := rowc P2.out
    obtain ⟨c0, c1, cz⟩ := chc Q2.out H0.out
    have T3 := Lib.hid (show TX (w2.setCell ⟨p, 1, none⟩ (.int .i64 ((n : Int) + 1))) g C2 xs from T2.out.kept (Below.heap_setCell _ _ _ _ (T2.out.ne P2.out (by decide)).symm))
    have C3 := Lib.hid (CL.out _ T3.out)
    have P3 := Lib.hid (rowset P2.out (.int .i64 ((n : Int) + 1)))
    have Q3 := Lib.hid ((Below.heap_setCell w2 ⟨p, 1, none⟩ (.int .i64 ((n : Int) + 1)) q hnq).trans Q2.out)
    obtain ⟨⟨d0, d1⟩, ⟨e0, e1⟩, ez⟩ := rowc P3.out
    obtain ⟨g0, g1, gz⟩ := chc Q3.out H0.out
    go_wp2_with (first | (go_at_call 64; (with_reducible refine (C3.out).mono ?_); rintro e w4 ⟨g4, C4, rfl, h4, h5, h6⟩; have T4 := Lib.hid h4; have G4 := Lib.hid h5; have B4 := Lib.hid h6; clear h4 h5 h6 C3; refine Hid.out ?_))
    refine Lib.hid ?_
    have P4 := Lib.hid (blk_below P3.out B4.out)
    have Q4 := Lib.hid (blk_below Q3.out B4.out)
    have g4z : p < g4 ∧ q < g4 ∧ w.heap.size ≤ g4 := by
      have h1 := G4.out
      have h2 := Below.size B2.out
      simp [World.setCell] at h1
      omega
    have G5 := Lib.hid g4z
    have I5 := Lib.hid (IN.out g4 C4 w4.heap.size (w4.alloc (.cells #[.string s] 9)) (T4.out.below alloc_old) (heap_alloc_new w4 _) (fun e => absurd T4.out.lt (by omega)))
    have P5 := Lib.hid (blk_below P4.out (alloc_old (o := .cells #[.string s] 9)))
    have Q5 := Lib.hid (blk_below Q4.out (alloc_old (o := .cells #[.string s] 9)))
    clear a0 a1 b0 b1 bz c0 c1 cz d0 d1 e0 e1 ez g0 g1 gz g4z
    go_wp2_with (first | (go_at_call 80; (with_reducible refine (I5.out).mono ?_); rintro e w6 ⟨g6, C6, rfl, h4, h5, h6⟩; have T6 := Lib.hid h4; have G6 := Lib.hid h5; have K6 := Lib.hid h6; clear h4 h5 h6 I5; refine Hid.out ?_))
    refine Lib.hid ?_
    have P6 := Lib.hid ((K6.out.block p (lt_blk P5.out) (by have := G5.out; omega)).trans P5.out)
    have Q6 := Lib.hid ((K6.out.block q (lt_blk Q5.out) (by have := G5.out; omega)).trans Q5.out)
    obtain ⟨⟨a0, a1⟩, ⟨b0, b1⟩, bz⟩ := rowc P6.out
    obtain ⟨c0, c1, cz⟩ := chc Q6.out H0.out
    go_wp2
    go_ret
    have q6 := T6.out
    have z4 : w2.heap.size ≤ w4.heap.size := by have := Below.size B4.out; simpa [World.setCell] using this
    have zw : w.heap.size ≤ w2.heap.size := Below.size B2.out
    have z5 : (w4.alloc (.cells #[.string s] 9)).heap.size = w4.heap.size + 1 := by simp
    have g6w : w.heap.size ≤ g6 := by
      have h1 := G6.out
      have h2 := G5.out
      omega
    have q6n : g6 ≠ q := fun e => by have := lt_blk HQ.out; omega
    refine ⟨rfl, ⟨hc, ?_, .inr ⟨?_, q, C, cs.setIfInBounds 0 (.slice (some ⟨g6, 0, none⟩) (n + 1) C6), g6, C6, hcq, ?_, rfl, chset Q6.out _, by simpa using HC.out.1, HC.out.2.1, HC.out.2.2, ?_, ?_⟩⟩, ?_⟩
    · rw [LI.out]
      exact (Below.heap_setCell _ _ _ _ hpq).trans P6.out
    · intro e
      have := LI.out
      rw [e] at this
      simp at this
    · have := lt_blk HP.out
      omega
    · rw [LI.out, Array.getElem?_setIfInBounds, if_pos rfl, if_pos (by have h1 := HC.out.1; have h2 := HC.out.2.1; omega)]
    · exact q6.kept (Below.heap_setCell _ _ _ _ q6n)
    · have kk : Kp w.heap.size (fun k => k ≠ p ∧ (Value.slice (some ⟨q, 0, none⟩) 1 C).ownBlock ≠ some k) w (w2.setCell ⟨p, 1, none⟩ (.int .i64 ((n : Int) + 1))) := (Kp.of B2.out).setCell (p := ⟨p, 1, none⟩) (fun h => h.2.1 rfl) _
      have k5 := (kk.below_after B4.out (by simp [World.setCell]; omega)).alloc (o := .cells #[.string s] 9) (by omega)
      exact (k5.trans (K6.out.mono2 (by omega) (fun k hk _ => by have := G5.out; omega))).setCell (p := ⟨q, 0, none⟩) (fun h => h.2.2 rfl) _
  · obtain rfl : i = n := by omega
    have hfr : findR i i = .tuple #[.int .i64 1, .int .i64 0] := by simp [findR]
    rw [hfr] at FD
    have FD := Lib.hid FD
    clear hfr
    go_enter Tryz.func58, Tryz.ntmps58
    go_wp2_with (first | (go_at_call 75; (with_reducible refine (FD.out).mono ?_); rintro e w2 ⟨rfl, h3⟩; have B2 := Lib.hid h3; clear h3 FD; refine Hid.out ?_))
    refine Lib.hid ?_
    have P2 := Lib.hid (blk_below HP.out B2.out)
    have Q2 := Lib.hid (blk_below HQ.out B2.out)
    have T2 := Lib.hid (HT.out.below B2.out)
    obtain ⟨⟨a0, a1⟩, ⟨b0, b1⟩, bz⟩ := rowc P2.out
    obtain ⟨c0, c1, cz⟩ := chc Q2.out H0.out
    go_wp2
    go_region
    have B9 := Lib.hid B2.out.drew
    have P9 := Lib.hid (show w2.drew.heap[p]? = some (.cells #[.slice (some ⟨q, 0, none⟩) 1 C, .int .i64 (i : Int)] 118) from P2.out)
    have Q9 := Lib.hid (show w2.drew.heap[q]? = some (.cells cs 22) from Q2.out)
    have T9 := Lib.hid (show TX w2.drew g C2 xs from T2.out.kept rfl)
    clear a0 a1 b0 b1 bz c0 c1 cz B2 P2 Q2 T2
    generalize w2.drew = w9 at B9 P9 Q9 T9 ⊢
    obtain ⟨⟨a0, a1⟩, ⟨b0, b1⟩, bz⟩ := rowc P9.out
    obtain ⟨c0, c1, cz⟩ := chc Q9.out H0.out
    have T3 := Lib.hid (show TX (w9.setCell ⟨p, 1, none⟩ (.int .i64 ((i : Int) + 1))) g C2 xs from T9.out.kept (Below.heap_setCell _ _ _ _ (T9.out.ne P9.out (by decide)).symm))
    have C3 := Lib.hid (CL.out _ T3.out)
    have P3 := Lib.hid (rowset P9.out (.int .i64 ((i : Int) + 1)))
    have Q3 := Lib.hid ((Below.heap_setCell w9 ⟨p, 1, none⟩ (.int .i64 ((i : Int) + 1)) q hnq).trans Q9.out)
    obtain ⟨⟨d0, d1⟩, ⟨e0, e1⟩, ez⟩ := rowc P3.out
    obtain ⟨g0, g1, gz⟩ := chc Q3.out H0.out
    go_wp2_with (first | (go_at_call 64; (with_reducible refine (C3.out).mono ?_); rintro e w4 ⟨g4, C4, rfl, h4, h5, h6⟩; have T4 := Lib.hid h4; have G4 := Lib.hid h5; have B4 := Lib.hid h6; clear h4 h5 h6 C3; refine Hid.out ?_))
    refine Lib.hid ?_
    have P4 := Lib.hid (blk_below P3.out B4.out)
    have Q4 := Lib.hid (blk_below Q3.out B4.out)
    have g4z : p < g4 ∧ q < g4 ∧ w.heap.size ≤ g4 := by
      have h1 := G4.out
      have h2 := Below.size B9.out
      simp [World.setCell] at h1
      omega
    have G5 := Lib.hid g4z
    have I5 := Lib.hid (IN.out g4 C4 w4.heap.size (w4.alloc (.cells #[.string s] 9)) (T4.out.below alloc_old) (heap_alloc_new w4 _) (fun e => absurd T4.out.lt (by omega)))
    have P5 := Lib.hid (blk_below P4.out (alloc_old (o := .cells #[.string s] 9)))
    have Q5 := Lib.hid (blk_below Q4.out (alloc_old (o := .cells #[.string s] 9)))
    clear a0 a1 b0 b1 bz c0 c1 cz d0 d1 e0 e1 ez g0 g1 gz g4z
    go_wp2_with (first | (go_at_call 80; (with_reducible refine (I5.out).mono ?_); rintro e w6 ⟨g6, C6, rfl, h4, h5, h6⟩; have T6 := Lib.hid h4; have G6 := Lib.hid h5; have K6 := Lib.hid h6; clear h4 h5 h6 I5; refine Hid.out ?_))
    refine Lib.hid ?_
    have P6 := Lib.hid ((K6.out.block p (lt_blk P5.out) (by have := G5.out; omega)).trans P5.out)
    have Q6 := Lib.hid ((K6.out.block q (lt_blk Q5.out) (by have := G5.out; omega)).trans Q5.out)
    obtain ⟨⟨a0, a1⟩, ⟨b0, b1⟩, bz⟩ := rowc P6.out
    obtain ⟨c0, c1, cz⟩ := chc Q6.out H0.out
    go_wp2
    go_ret
    have q6 := T6.out
    have z4 : w9.heap.size ≤ w4.heap.size := by have := Below.size B4.out; simpa [World.setCell] using this
    have zw : w.heap.size ≤ w9.heap.size := Below.size B9.out
    have z5 : (w4.alloc (.cells #[.string s] 9)).heap.size = w4.heap.size + 1 := by simp
    have g6w : w.heap.size ≤ g6 := by
      have h1 := G6.out
      have h2 := G5.out
      omega
    have q6n : g6 ≠ q := fun e => by have := lt_blk HQ.out; omega
    refine ⟨rfl, ⟨hc, ?_, .inr ⟨?_, q, C, cs.setIfInBounds 0 (.slice (some ⟨g6, 0, none⟩) (i + 1) C6), g6, C6, hcq, ?_, rfl, chset Q6.out _, by simpa using HC.out.1, HC.out.2.1, HC.out.2.2, ?_, ?_⟩⟩, ?_⟩
    · rw [LI.out]
      exact (Below.heap_setCell _ _ _ _ hpq).trans P6.out
    · intro e
      have := LI.out
      rw [e] at this
      simp at this
    · have := lt_blk HP.out
      omega
    · rw [LI.out, Array.getElem?_setIfInBounds, if_pos rfl, if_pos (by have h1 := HC.out.1; have h2 := HC.out.2.1; omega)]
    · exact q6.kept (Below.heap_setCell _ _ _ _ q6n)
    · have kk : Kp w.heap.size (fun k => k ≠ p ∧ (Value.slice (some ⟨q, 0, none⟩) 1 C).ownBlock ≠ some k) w (w9.setCell ⟨p, 1, none⟩ (.int .i64 ((i : Int) + 1))) := (Kp.of B9.out).setCell (p := ⟨p, 1, none⟩) (fun h => h.2.1 rfl) _
      have k5 := (kk.below_after B4.out (by simp [World.setCell]; omega)).alloc (o := .cells #[.string s] 9) (by omega)
      exact (k5.trans (K6.out.mono2 (by omega) (fun k hk _ => by have := G5.out; omega))).setCell (p := ⟨q, 0, none⟩) (fun h => h.2.2 rfl) _
end Go.Proofs.YtjljljjmdlddkaaGreat

/- chunk.Row: Insert into a row without texts. -/
namespace Go.Proofs.YtjljljjmdlddkaaGreat
open Go.ChangeShapes Go.WideShapes Go.ChangeAt Go.RowKit

theorem i33 : (Tryz.prog.info? 22).map (fun i => (i.zero, i.size, i.bytes)) = some (some (.slice none 0 0), 1, 24) := by kernel_rfl
/-- A row of chunks without a chunk. -/
def NoCh (w : World) (l : Value) : Prop := l = .slice none 0 0 ∨ ∃ (q C : Nat) (cs : Array Value), l = .slice (some ⟨q, 0, none⟩) 0 C ∧ w.heap[q]? = some (.cells cs 22) ∧ cs.size = C ∧ 1 ≤ C ∧ C ≤ maxLen
theorem run_append_ch (w : World) (ty : TypeId) (l : Value) (h : NoCh w l) (b : Nat) (hb : w.heap[b]? = some (.cells #[.slice none 0 0] 22)) :
    ∃ q C w', (Builtin.append_ #[116, 116] ty #[l, .slice (some ⟨b, 0, none⟩) 1 1]).run Tryz.prog w = .ok (.slice (some ⟨q, 0, none⟩) 1 C) w' ∧ (∃ cs : Array Value, w'.heap[q]? = some (.cells cs 22) ∧ cs.size = C ∧ 1 ≤ C ∧ C ≤ maxLen ∧ cs[0]? = some (.slice none 0 0)) ∧ (l.ownBlock = some q ∨ w.heap.size ≤ q) ∧ Kp w.heap.size (fun k => l.ownBlock ≠ some k) w w' := by
  obtain ⟨i0, hi, hz0, hz1, hz2⟩ := info_parts i33
  have hcell : ∀ (j : Nat) (u : Value), [Value.slice none 0 0][j]? = some u → w.cell? ((⟨b, 0, none⟩ : Addr).add j) = some u := fun j u hj => by
    match j, hj with
    | 0, hj =>
      cases hj
      rw [Addr.add_lit, cell_of_row _ b _ _ 22 (0, 0) hb]
      rfl
  rcases h with rfl | ⟨q, C, cs, rfl, hq, hz, h1, h2⟩
  · have hge : 1 ≤ grownCap w 1 0 22 := grownCap_ge w (0 + 1) 0 22
    have hcm : grownCap w (0 + 1) 0 22 ≤ maxLen := grownCap_le_maxLen w (0 + 1) 0 22 (by unfold maxLen; omega)
    have hs : Src Tryz.prog i0.size 116 (.slice (some ⟨b, 0, none⟩) 1 1) 1 [Value.slice none 0 0] w := by
      rw [hz1]
      exact Src.ofSlice (P := Tryz.prog) (size := 1) w Tryz.underlying116 ⟨b, 0, none⟩ 1 1 [Value.slice none 0 0] (by simp) hcell (fun u hu => by simp at hu; subst hu; rfl)
    have hrun := run_append_grow_src (P := Tryz.prog) w 116 116 ty 22 i0 (.slice none 0 0) Tryz.underlying116 hi hz0 none 0 0 [] (by rw [hz1]; rfl) (.slice (some ⟨b, 0, none⟩) 1 1) 1 [Value.slice none 0 0] hs (by omega) (by omega) (by rw [hz2]; exact growslice_fits (by omega) (by omega))
    refine ⟨_, _, _, hrun, ⟨_, heap_alloc_new w.drew _, ?_, hge, hcm, ?_⟩, .inr (Nat.le_refl _), ((Kp.refl _ _ w).drew).alloc (Nat.le_refl _) _⟩
    · simp [size_zeroCells, show (Value.slice none 0 0).cells.size = 1 from rfl]
      omega
    · rw [Array.getElem?_append_left (by simp)]
      rfl
  · have hrun := run_append_room (P := Tryz.prog) w 116 ty 22 i0 Tryz.underlying116 hi q 0 C cs hq ⟨b, 0, none⟩ 1 1 [Value.slice none 0 0] (by rw [hz1]; rfl) hcell (fun u hu => by simp at hu; subst hu; rfl) (by omega) (by simp; omega)
    refine ⟨q, C, _, hrun, ⟨_, setRow_heap w q cs _ 22 (0, 0) hq, by simp; omega, h1, h2, ?_⟩, .inl rfl, ⟨rfl, rfl, rfl, by simp [World.setRow], fun k _ hk => setRow_other w q k _ (fun e => hk (by rw [e]; rfl))⟩⟩
    simp
theorem wpList_append_ch {ops : Array Oper} {rest : List Oper} {o : Oper} {a : Act} {Q : Exit → Act → World → Prop} (w : World) (hgd : o.guard = none) (s x : Operand) (hop : o.op = Op.call { callee := Callee.builtin Builtin.append, args := #[s, x], argTypes := #[116, 116] })
    (l : Value) (hs : a.eval s = l) (h : NoCh w l) (b : Nat) (hx : a.eval x = .slice (some ⟨b, 0, none⟩) 1 1) (hb : w.heap[b]? = some (.cells #[.slice none 0 0] 22))
    (k : ∀ q C w', (∃ cs : Array Value, w'.heap[q]? = some (.cells cs 22) ∧ cs.size = C ∧ 1 ≤ C ∧ C ≤ maxLen ∧ cs[0]? = some (.slice none 0 0)) → (l.ownBlock = some q ∨ w.heap.size ≤ q) → Kp w.heap.size (fun k => l.ownBlock ≠ some k) w w' → wpList Tryz.prog ops Q rest (a.put o.dst (.slice (some ⟨q, 0, none⟩) 1 C)) w') : wpList Tryz.prog ops Q (o :: rest) a w := by
  obtain ⟨q, C, w', hr, h1, h2, h3⟩ := run_append_ch w o.type l h b hb
  refine wpList_plain hgd fun K hK' => ?_
  unfold Oper.wp
  simp [execOp, hop, resolve, invoke, builtin, hs, hx, hr, Result.andThen]
  exact hK' _ _ (k q C w' h1 h2 h3)
set_option maxRecDepth 100000 in
set_option maxHeartbeats 8000000 in
/-- Insert where there is no chunk. -/
theorem RIns0 (c p : Nat) (l : Value) (s : ByteArray) (w : World) (h : RowL c w p l []) : Calls Tryz.prog 58 #[.pointer (some ⟨p, 0, none⟩), .int .i64 0, .string s] w fun e w' => ∃ q C, e = .returned (.bool true) ∧ RowL c w' p (.slice (some ⟨q, 0, none⟩) 1 C) [s] ∧ (l.ownBlock = some q ∨ w.heap.size ≤ q) ∧ Kp w.heap.size (fun k => k ≠ p ∧ l.ownBlock ≠ some k) w w' := by
  have hlt := h.lt
  obtain ⟨hc, hp, h2 | ⟨hne, _⟩⟩ := h
  rotate_left
  · exact absurd rfl hne
  have hN : NoCh w l := by
    obtain ⟨_, h3 | ⟨q, C, cs, _, h3⟩⟩ := h2
    · exact .inl h3
    · exact .inr ⟨q, C, cs, h3⟩
  have HL := Lib.hid hlt
  have HP := Lib.hid hp
  obtain ⟨A, C0, hl0⟩ : ∃ A C0, l = .slice A 0 C0 := by
    rcases hN with rfl | ⟨q, C, cs, rfl, _⟩
    · exact ⟨none, 0, rfl⟩
    · exact ⟨_, _, rfl⟩
  subst hl0
  have HN := Lib.hid (show ∀ Y, Below w.heap.size w Y → NoCh Y (.slice A 0 C0) from fun Y hb => by
    rcases hN with h3 | ⟨q, C, cs, h3, h4, h5⟩
    · exact .inl h3
    · exact .inr ⟨q, C, cs, h3, blk_below h4 hb, h5⟩)
  obtain ⟨⟨p0, p1⟩, ⟨f0, f1⟩, pz⟩ := rowc hp
  have P1 := Lib.hid (blk_below hp (alloc_old (o := .cells #[.slice none 0 0] 22)))
  obtain ⟨⟨a0, a1⟩, ⟨b0, b1⟩, bz⟩ := rowc P1.out
  clear hp h2 hN hlt
  go_enter Tryz.func58, Tryz.ntmps58
  go_wp2_with (first | (at_builtin; refine wpList_append_ch _ rfl _ _ rfl (.slice A 0 C0) rfl (HN.out _ alloc_old) _ rfl (heap_alloc_new w _) ?_; rintro q C w2 hcs hq hk; have CS := Lib.hid hcs; have HQ := Lib.hid hq; have K2 := Lib.hid hk; clear hcs hq hk; refine Hid.out ?_))
  refine Lib.hid ?_
  have hpn : (Value.slice A 0 C0).ownBlock ≠ some p := fun e => (HL.out.2.2 p e).2.2 rfl
  have P2 := Lib.hid ((K2.out.block p bz hpn).trans P1.out)
  have hz1 : (w.alloc (.cells #[.slice none 0 0] 22)).heap.size = w.heap.size + 1 := by simp
  have hqp : q ≠ p := by
    rcases HQ.out with e | e
    · exact (HL.out.2.2 q e).2.2
    · rw [hz1] at e
      omega
  have hpq : ¬ p = q := fun e => hqp e.symm
  obtain ⟨cs, cq⟩ := CS.out
  have CQ := Lib.hid cq
  clear a0 a1 b0 b1 bz CS cq hpn
  obtain ⟨⟨a0, a1⟩, ⟨b0, b1⟩, bz⟩ := rowc P2.out
  have P3 := Lib.hid (rowset0 P2.out (.slice (some ⟨q, 0, none⟩) 1 C))
  have Q3 := Lib.hid ((Below.heap_setCell w2 ⟨p, 0, none⟩ (.slice (some ⟨q, 0, none⟩) 1 C) q hqp).trans CQ.out.1)
  have FD := Lib.hid (show Calls Tryz.prog 75 #[.pointer (some ⟨p, 0, none⟩), .int .i64 0] (w2.setCell ⟨p, 0, none⟩ (.slice (some ⟨q, 0, none⟩) 1 C)) (fun e w' => e = .returned (.tuple #[.int .i64 1, .int .i64 0]) ∧ Below (w2.setCell ⟨p, 0, none⟩ (.slice (some ⟨q, 0, none⟩) 1 C)).heap.size (w2.setCell ⟨p, 0, none⟩ (.slice (some ⟨q, 0, none⟩) 1 C)) w') from RFind p q C 0 0 (.int .i64 0) cs none 0 (by omega) (by omega) _ P3.out Q3.out CQ.out.2.2.2.2)
  go_wp2_with (first | (go_at_call 75; (with_reducible refine (FD.out).mono ?_); rintro e w4 ⟨rfl, h3⟩; have B4 := Lib.hid h3; clear h3 FD; refine Hid.out ?_))
  refine Lib.hid ?_
  have B5 := Lib.hid (B4.out.drew)
  have P5 := Lib.hid (blk_below P3.out B5.out)
  have Q5 := Lib.hid (blk_below Q3.out B5.out)
  have P4 := Lib.hid (blk_below P3.out B4.out)
  have Q4 := Lib.hid (blk_below Q3.out B4.out)
  clear a0 a1 b0 b1 bz
  obtain ⟨⟨a0, a1⟩, ⟨b0, b1⟩, bz⟩ := rowc P4.out
  obtain ⟨c0, c1, cz⟩ := chc Q4.out CQ.out.2.2.2.2
  go_wp2
  go_region
  clear a0 a1 b0 b1 bz c0 c1 cz P4 Q4 B4
  generalize w4.drew = w5 at B5 P5 Q5 ⊢
  obtain ⟨⟨a0, a1⟩, ⟨b0, b1⟩, bz⟩ := rowc P5.out
  obtain ⟨c0, c1, cz⟩ := chc Q5.out CQ.out.2.2.2.2
  have P6 := Lib.hid (rowset P5.out (.int .i64 1))
  have Q6 := Lib.hid ((Below.heap_setCell w5 ⟨p, 1, none⟩ (.int .i64 1) q hqp).trans Q5.out)
  have CL := Lib.hid (Tryz.slices_Clone_string_nil 0 0 (w5.setCell ⟨p, 1, none⟩ (.int .i64 1)))
  have hz5 : (w5.setCell ⟨p, 1, none⟩ (.int .i64 1)).heap.size = w5.heap.size := by simp [World.setCell]
  have IN := Lib.hid (InsX0 w5.heap.size s ((w5.setCell ⟨p, 1, none⟩ (.int .i64 1)).alloc (.cells #[.string s] 9)) (by rw [← hz5]; exact heap_alloc_new (w5.setCell ⟨p, 1, none⟩ (.int .i64 1)) (.cells #[.string s] 9)))
  clear hz5
  go_wp2_with (first | (go_at_call 64; (with_reducible refine (CL.out).mono ?_); rintro e w7 ⟨rfl, rfl⟩; clear CL) | (go_at_call 80; (with_reducible refine (IN.out).mono ?_); rintro e w8 ⟨g8, C8, rfl, h4, h5, h6⟩; have T8 := Lib.hid h4; have G8 := Lib.hid h5; have B8 := Lib.hid h6; clear h4 h5 h6 IN; refine Hid.out ?_))
  refine Lib.hid ?_
  have P8 := Lib.hid (blk_below P6.out (alloc_old.trans (B8.out.mono (by simp))))
  have Q8 := Lib.hid (blk_below Q6.out (alloc_old.trans (B8.out.mono (by simp))))
  clear a0 a1 b0 b1 bz c0 c1 cz
  obtain ⟨⟨a0, a1⟩, ⟨b0, b1⟩, bz⟩ := rowc P8.out
  obtain ⟨c0, c1, cz⟩ := chc Q8.out CQ.out.2.2.2.2
  go_wp2
  go_ret
  have z2 : w.heap.size + 1 ≤ w2.heap.size := by rw [← hz1]; exact K2.out.size
  have z5 : w2.heap.size ≤ w5.heap.size := by have := Below.size B5.out; simpa [World.setCell] using this
  have hg8 : w5.heap.size + 1 ≤ g8 := by have := G8.out; simpa [World.setCell] using this
  have q5 := lt_blk Q5.out
  have hcq : c ≤ q := by
    rcases HQ.out with e | e
    · exact (HL.out.2.2 q e).1
    · rw [hz1] at e
      have := HL.out
      omega
  have hgq : g8 ≠ q := by omega
  refine ⟨q, C, rfl, ⟨hc, (Below.heap_setCell _ _ _ _ hpq).trans P8.out, .inr ⟨by simp, q, C, cs.setIfInBounds 0 (.slice (some ⟨g8, 0, none⟩) 1 C8), g8, C8, hcq, by have := HL.out; omega, rfl, chset Q8.out _, by simpa using CQ.out.2.1, CQ.out.2.2.1, CQ.out.2.2.2.1, ?_, T8.out.kept (Below.heap_setCell _ _ _ _ hgq)⟩⟩, ?_, ?_⟩
  · rw [Array.getElem?_setIfInBounds, if_pos rfl, if_pos (by have h1 := CQ.out.2.1; have h2 := CQ.out.2.2.1; omega)]
    rfl
  · rcases HQ.out with e | e
    · exact .inl e
    · rw [hz1] at e
      exact .inr (by omega)
  · have k2 : Kp w.heap.size (fun k => k ≠ p ∧ (Value.slice A 0 C0).ownBlock ≠ some k) w w2 := ((Kp.refl _ _ w).alloc (Nat.le_refl _) _).trans (K2.out.mono2 (by rw [hz1]; omega) (fun k _ hk => hk.2))
    have k3 := k2.setCell (p := ⟨p, 0, none⟩) (fun h => h.2.1 rfl) (.slice (some ⟨q, 0, none⟩) 1 C)
    have k5 := (k3.below_after B5.out (by simp [World.setCell]; omega)).setCell (p := ⟨p, 1, none⟩) (fun h => h.2.1 rfl) (.int .i64 1)
    have k8 := (k5.alloc (o := .cells #[.string s] 9) (by simp [World.setCell]; omega)).below_after B8.out (by simp [World.setCell]; omega)
    refine k8.setCell (p := ⟨q, 0, none⟩) (fun h => ?_) _
    rcases HQ.out with e | e
    · exact h.2.2 e
    · rw [hz1] at e
      have := h.1
      simp at this
      omega
end Go.Proofs.YtjljljjmdlddkaaGreat

/- chunk.Row: Push, Of. -/
namespace Go.Proofs.YtjljljjmdlddkaaGreat
open Go.ChangeShapes Go.WideShapes Go.ChangeAt Go.RowKit

/-- Where a row's chunks are, behind a call. -/
def NewCh (w : World) (l l' : Value) : Prop := l'.ownBlock = l.ownBlock ∨ ∃ q, l'.ownBlock = some q ∧ w.heap.size ≤ q
theorem RIns (c p : Nat) (l : Value) (xs : List ByteArray) (hn : xs.length ≤ 31) (i : Nat) (hi : i ≤ xs.length) (s : ByteArray) (w : World) (h : RowL c w p l xs) : Calls Tryz.prog 58 #[.pointer (some ⟨p, 0, none⟩), .int .i64 i, .string s] w fun e w' => ∃ l', e = .returned (.bool true) ∧ RowL c w' p l' (insT i s xs) ∧ NewCh w l l' ∧ Kp w.heap.size (fun k => k ≠ p ∧ l.ownBlock ≠ some k) w w' := by
  by_cases hne : xs = []
  · subst hne
    obtain rfl : i = 0 := by simpa using hi
    refine (RIns0 c p l s w h).mono ?_
    rintro e w' ⟨q, C, h1, h2, h3, h4⟩
    exact ⟨_, h1, h2, h3.imp (fun e => e.symm) (fun e => ⟨q, rfl, e⟩), h4⟩
  · refine (RIns1 c p l xs hne hn i hi s w h).mono ?_
    rintro e w' ⟨h1, h2, h3⟩
    exact ⟨l, h1, h2, .inl rfl, h3⟩
set_option maxRecDepth 100000 in
set_option maxHeartbeats 4000000 in
theorem RPush (c p : Nat) (l : Value) (xs : List ByteArray) (hn : xs.length ≤ 31) (f : Bool) (s : ByteArray) (w : World) (h : RowL c w p l xs) : Calls Tryz.prog 37 #[.pointer (some ⟨p, 0, none⟩), .bool f, .string s] w fun e w' => ∃ l', e = .returned (.tuple #[]) ∧ RowL c w' p l' (if f then s :: xs else xs ++ [s]) ∧ NewCh w l l' ∧ Kp w.heap.size (fun k => k ≠ p ∧ l.ownBlock ≠ some k) w w' := by
  cases f
  · have LN := RLen c p l xs w h
    have IN := fun X (hX : Below w.heap.size w X) => RIns c p l xs hn xs.length (Nat.le_refl _) s X (h.below hX)
    have e1 : insT xs.length s xs = xs ++ [s] := by simp [insT]
    rw [e1] at IN
    obtain ⟨n, hnn⟩ : ∃ n : Nat, xs.length = n := ⟨_, rfl⟩
    rw [hnn] at LN IN
    have LN := Lib.hid LN
    have IN := Lib.hid IN
    clear h hnn hn e1
    simp only [Bool.false_eq_true, if_false]
    go_enter Tryz.func37, Tryz.ntmps37
    go_wp2_with (first | (go_at_call 39; (with_reducible refine (LN.out).mono ?_); rintro e w2 ⟨rfl, h3⟩; have B2 := Lib.hid h3; have I2 := Lib.hid (IN.out _ h3); clear h3 LN) | (go_at_call 58; (with_reducible refine (I2.out).mono ?_); rintro e w3 ⟨l', rfl, h3, h4, h5⟩; have R3 := Lib.hid h3; have N3 := Lib.hid h4; have K3 := Lib.hid h5; clear h3 h4 h5))
    go_end0
    have hz := Below.size B2.out
    exact ⟨l', rfl, R3.out, N3.out.imp id (fun ⟨q, e, hq⟩ => ⟨q, e, by omega⟩), (Kp.of B2.out).trans (K3.out.mono hz (fun _ h => h))⟩
  · have I2 := Lib.hid (show Calls Tryz.prog 58 #[.pointer (some ⟨p, 0, none⟩), .int .i64 0, .string s] w (fun e w' => ∃ l', e = .returned (.bool true) ∧ RowL c w' p l' (s :: xs) ∧ NewCh w l l' ∧ Kp w.heap.size (fun k => k ≠ p ∧ l.ownBlock ≠ some k) w w') from RIns c p l xs hn 0 (Nat.zero_le _) s w h)
    clear h
    simp only [if_true]
    go_enter Tryz.func37, Tryz.ntmps37
    go_wp2_with (first | (go_at_call 58; (with_reducible refine (I2.out).mono ?_); rintro e w3 ⟨l', rfl, h3, h4, h5⟩; have R3 := Lib.hid h3; have N3 := Lib.hid h4; have K3 := Lib.hid h5; clear h3 h4 h5))
    exact bodyPost_ret (v := .tuple #[]) (by simp [results, Tryz.results37]) rfl ⟨l', rfl, R3.out, N3.out, K3.out⟩
/-- A row of the call's own: what a call on it leaves. -/
theorem RowL.own {c : Nat} {w : World} {p : Nat} {l : Value} {xs : List ByteArray} (h : RowL c w p l xs) (w0 w' : World) (hb : Below c w0 w) (hk : Kp w.heap.size (fun k => k ≠ p ∧ l.ownBlock ≠ some k) w w') : Below c w0 w' := by
  have hl := h.lt
  refine hb.trans (hk.below (fun k hk => ⟨by omega, by omega, fun e => ?_⟩))
  have := hl.2.2 k e
  omega
set_option maxRecDepth 100000 in
set_option maxHeartbeats 4000000 in
theorem ROf (v : Value) (xs : List ByteArray) (hn : xs.length ≤ 31) (w : World) (h : SSl w v xs) : Calls Tryz.prog 55 #[v] w fun e w' => ∃ p l, e = .returned (.pointer (some ⟨p, 0, none⟩)) ∧ RowL w.heap.size w' p l xs ∧ Below w.heap.size w w' := by
  have NW := Lib.hid (RNew w)
  have HS := Lib.hid h
  have PU := Lib.hid (fun X p l ys s (hX : RowL w.heap.size X p l ys) (hy : ys.length ≤ 31) => RPush w.heap.size p l ys hy false s X hX)
  obtain ⟨A, C, rfl, h2, h3, h4⟩ := h
  obtain ⟨n, hnn⟩ : ∃ n : Nat, xs.length = n := ⟨_, rfl⟩
  have HN := Lib.hid hnn
  have HC := Lib.hid h4
  rw [hnn] at hn ⊢
  clear h2 h3 h4 hnn
  go_enter Tryz.func55, Tryz.ntmps55
  go_wp2_with (first | (go_at_call 57; (with_reducible refine (NW.out).mono ?_); rintro e w2 ⟨p, rfl, h5, h6⟩; have R2 := Lib.hid h5; have B2 := Lib.hid h6; clear h5 h6 NW))
  go_loopw [5, 9] (fun _ iv wr => ∃ (k : Nat) (l : Value), k ≤ n ∧ iv = .int .i64 k ∧ Hid (RowL w.heap.size wr p l (xs.take k) ∧ Below w.heap.size w wr)) (fun _ iv _ => n - (intOf iv).toNat)
  case atStart => exact ⟨0, _, Nat.zero_le _, rfl, Lib.hid ⟨R2.out, B2.out⟩⟩
  case round =>
    obtain ⟨k, l, hk, rfl, HR⟩ := hrel
    by_cases hlt : k < n
    · have q0 : (k : Int) < (n : Int) := by omega
      have q1 : wrap64 ((k : Int) + 1) = (k : Int) + 1 := by unfold wrap64; omega
      have hkl : k < xs.length := by rw [HN.out]; exact hlt
      obtain ⟨s, hs⟩ : ∃ s, xs[k]? = some s := ⟨_, List.getElem?_eq_getElem hkl⟩
      obtain ⟨blk, off, rfl, hblt, hcell⟩ := HC.out (by intro e; rw [e] at hkl; simp at hkl)
      have ck := (HR.out.2.cell (p := ⟨blk, off + k, none⟩) hblt).trans (hcell k s hs)
      have P3 := Lib.hid (PU.out wr p l _ s HR.out.1 (by rw [List.length_take]; omega))
      have HS1 := Lib.hid hs
      have HK := Lib.hid hkl
      clear hcell hblt hs hkl
      go_wp2_with (first | (go_at_call 37; (with_reducible refine (P3.out).mono ?_); rintro e w3 ⟨l', rfl, h3, h4, h5⟩; have R3 := Lib.hid h3; have K3 := Lib.hid h5; clear h3 h4 h5 P3))
      refine ⟨⟨k + 1, l', by omega, by go_num, Lib.hid ⟨?_, HR.out.1.own _ _ HR.out.2 K3.out⟩⟩, by simp [intOf]; omega⟩
      rw [List.take_add_one, HS1.out]
      exact R3.out
    · obtain rfl : k = n := by omega
      have q0 : ¬ (k : Int) < (k : Int) := by omega
      go_wp2
      go_ret
      have := HR.out.1
      rw [List.take_of_length_le (by rw [HN.out]; exact Nat.le_refl _)] at this
      exact ⟨p, rfl, ⟨l, this⟩, HR.out.2⟩
end Go.Proofs.YtjljljjmdlddkaaGreat

/- slices.Grow, slices.Concat of texts; chunk.Row's All. -/
namespace Go.Proofs.YtjljljjmdlddkaaGreat
open Go.ChangeShapes Go.WideShapes Go.ChangeAt Go.RowKit

/-- Room for texts. -/
def Room (w : World) (g C : Nat) : Prop := ∃ cs : Array Value, w.heap[g]? = some (.cells cs 9 (0, 0)) ∧ cs.size = C ∧ C ≤ maxLen
set_option maxRecDepth 100000 in
set_option maxHeartbeats 4000000 in
theorem Grow (n : Nat) (h1 : 1 ≤ n) (hn : n ≤ 1000000) (w : World) : Calls Tryz.prog 115 #[.slice none 0 0, .int .i64 n] w fun e w' => ∃ g C, e = .returned (.slice (some ⟨g, 0, none⟩) 0 C) ∧ Room w' g C ∧ n ≤ C ∧ w.heap.size ≤ g ∧ Below w.heap.size w w' := by
  obtain ⟨i0, hi, hz0, hz1, hz2⟩ := info_parts i9
  have hge := grownCap_ge w n 0 9
  have hcm := grownCap_le_maxLen w n 0 9 (by unfold maxLen; omega)
  have hrun := Lib.hid (fun ty => Lib.run_append_nil_zeros (P := Tryz.prog) w 22 3 ty 9 i0 (.string ⟨#[]⟩) .i64 .i64 Tryz.underlying22 Tryz.underlying3 hi hz0 n (by omega) (by omega) (by omega) (by rw [hz2]; omega))
  have e1 : wrap64 (0 - 0) = 0 := by unfold wrap64; omega
  have e2 : wrap64 ((n : Int) - 0) = n := by unfold wrap64; omega
  have e3 : (n : Int) > 0 := by omega
  have e4 : ¬ (n : Int) < 0 := by omega
  have e5 : (0 : Int) ≤ (n : Int) := by omega
  obtain ⟨C, hC⟩ : ∃ C, grownCap w n 0 9 = C := ⟨_, rfl⟩
  rw [hC] at hrun hge hcm
  have HCM := Lib.hid hcm
  have HGE := Lib.hid hge
  have e6 : (0 : Int) ≤ (C : Int) := by clear hcm; omega
  clear hC hcm hge hi hz0 hz1 hz2
  go_enter Tryz.func115, Tryz.ntmps115
  go_wp2_with (first | (at_builtin; refine Lib.wpList_append_run _ rfl _ _ _ _ rfl _ _ rfl rfl _ _ (hrun.out _) ?_; refine Hid.out ?_))
  refine Lib.hid ?_
  go_wp2
  go_ret
  refine ⟨w.heap.size, C, rfl, ⟨_, heap_alloc_new w.drew _, ?_, HCM.out⟩, HGE.out, Nat.le_refl _, ((Below.refl w.heap.size w).drew).alloc (Nat.le_refl _) _⟩
  have := HGE.out
  clear HCM
  simp [size_zeroCells]
  omega
/-- A row of chunks: none, or one whose texts are xs. -/
def Chs (w : World) (l : Value) (xs : List ByteArray) : Prop := (xs = [] ∧ ∃ A C, l = .slice A 0 C) ∨ (xs ≠ [] ∧ ∃ q C g C2, l = .slice (some ⟨q, 0, none⟩) 1 C ∧ w.cell? ⟨q, 0, none⟩ = some (.slice (some ⟨g, 0, none⟩) xs.length C2) ∧ TX w g C2 xs)
theorem RowL.chs {c : Nat} {w : World} {p : Nat} {l : Value} {xs : List ByteArray} (h : RowL c w p l xs) : Chs w l xs := by
  obtain ⟨_, _, ⟨h1, rfl | ⟨q, C, cs, _, rfl, _⟩⟩ | ⟨h1, q, C, cs, g, C2, _, _, rfl, h2, _, _, _, h3, h4⟩⟩ := h
  · exact .inl ⟨h1, none, 0, rfl⟩
  · exact .inl ⟨h1, _, _, rfl⟩
  · exact .inr ⟨h1, q, C, g, C2, rfl, (chc h2 h3).1, h4⟩
set_option maxRecDepth 100000 in
set_option maxHeartbeats 4000000 in
theorem Concat0 (A : Option Addr) (C : Nat) (w : World) : Calls Tryz.prog 79 #[.slice A 0 C] w fun e w' => e = .returned (.slice none 0 0) ∧ Below w.heap.size w w' := by
  have GR := Lib.hid (show Calls Tryz.prog 115 #[.slice none 0 0, .int .i64 0] w (fun e w' => e = .returned (.slice none 0 0) ∧ Below w.heap.size w w') from by
    have e1 : wrap64 (0 - 0) = 0 := by unfold wrap64; omega
    go_enter Tryz.func115, Tryz.ntmps115
    go_wp2
    go_ret
    exact ⟨rfl, Below.refl _ _⟩)
  go_enter Tryz.func79, Tryz.ntmps79
  go_wp2
  go_loopw [3, 11] (fun n iv wr => n = .int .i64 0 ∧ iv = .int .i64 0 ∧ w = wr) (fun _ _ _ => 0)
  case atStart => exact ⟨rfl, rfl, rfl⟩
  case round =>
    obtain ⟨rfl, rfl, rfl⟩ := hrel
    go_wp2_with (first | (go_at_call 115; (with_reducible refine (GR.out).mono ?_); rintro e w2 ⟨rfl, h3⟩; have B2 := Lib.hid h3; clear h3 GR))
    go_loopw [6, 27] (fun v iv wr => v = .slice none 0 0 ∧ iv = .int .i64 0 ∧ w2 = wr) (fun _ _ _ => 0)
    case atStart => exact ⟨rfl, rfl, rfl⟩
    case round =>
      obtain ⟨rfl, rfl, rfl⟩ := hrel
      go_wp2
      go_ret
      exact ⟨rfl, B2.out⟩
theorem wpList_append_R {ops : Array Oper} {rest : List Oper} {o : Oper} {a : Act} {Q : Exit → Act → World → Prop} (w : World) (hg : o.guard = none) (s x : Operand) (hop : o.op = Op.call { callee := Callee.builtin Builtin.append, args := #[s, x], argTypes := #[22, 22] })
    (g C : Nat) (xs : List ByteArray) (u : Value) (hs : a.eval s = .slice (some ⟨g, 0, none⟩) 0 C) (hR : Room w g C) (hx : a.eval x = u) (h2 : SSl w u xs) (hne : xs ≠ []) (hle : xs.length ≤ C)
    (k : ∀ w', TX w' g C xs → Kp w.heap.size (fun k => k ≠ g) w w' → wpList Tryz.prog ops Q rest (a.put o.dst (.slice (some ⟨g, 0, none⟩) xs.length C)) w') : wpList Tryz.prog ops Q (o :: rest) a w := by
  obtain ⟨i0, hi, hz0, hz1, hz2⟩ := info_parts i9
  have h2' : Src Tryz.prog i0.size 22 u xs.length (xs.map Value.string) w := by rw [hz1]; exact Src.ofSSl h2 hne
  obtain ⟨cs, r1, r2, r3⟩ := hR
  have hs1 : ∀ j, j < C → (w.cell? ⟨g, j, none⟩).isSome = true := fun j hj => by
    rw [cell_of_row _ g _ _ 9 (0, 0) r1]
    simp [r2, hj]
  have hrun := run_append_room_src (P := Tryz.prog) w 22 22 o.type 9 i0 Tryz.underlying22 hi g 0 0 C u xs.length (xs.map Value.string) h2' (by omega) (fun j hj => by simp at hj; rw [Nat.zero_mul, Nat.zero_add]; exact hs1 j (by omega)) (fun j _ => frozen_of_row w g _ cs 9 r1)
  rw [Nat.zero_mul, Nat.zero_add, Nat.zero_add] at hrun
  obtain ⟨c2, e2, z2⟩ := cells_set g 9 (xs.map Value.string) 0 w cs r1
  refine wpList_plain hg fun K hK' => ?_
  unfold Oper.wp
  simp [execOp, hop, resolve, invoke, builtin, hs, hx, hrun, Result.andThen]
  refine hK' _ _ (k _ (TX.of e2 (by omega) hle r3 (fun j t hj => ?_)) (kp_setCells _ g _ _ _))
  have := in_cells (w := w) (b := g) (o := 0) (vs := xs.map Value.string) (fun q hq => by simp at hq; rw [Nat.zero_add]; exact hs1 q (by omega)) j (.string t) (by rw [List.getElem?_map, hj]; rfl)
  rw [Nat.zero_add] at this
  exact this
set_option maxRecDepth 100000 in
set_option maxHeartbeats 4000000 in
theorem Concat1 (q C g C2 : Nat) (xs : List ByteArray) (hne : xs ≠ []) (hn : xs.length ≤ 1000000) (w : World) (h0 : w.cell? ⟨q, 0, none⟩ = some (.slice (some ⟨g, 0, none⟩) xs.length C2)) (hT : TX w g C2 xs) : Calls Tryz.prog 79 #[.slice (some ⟨q, 0, none⟩) 1 C] w fun e w' => ∃ g' C', e = .returned (.slice (some ⟨g', 0, none⟩) xs.length C') ∧ TX w' g' C' xs ∧ w.heap.size ≤ g' ∧ Below w.heap.size w w' := by
  have hpos : 0 < xs.length := List.length_pos_iff.2 hne
  have hq : q < w.heap.size := by
    unfold World.cell? at h0
    by_cases hlt : q < w.heap.size
    · exact hlt
    · rw [Array.getElem?_eq_none (by simpa using hlt)] at h0
      simp at h0
  obtain ⟨n, hnn⟩ : ∃ n : Nat, xs.length = n := ⟨_, rfl⟩
  have TS := hT.tr.ssl
  rw [hnn] at h0 hpos hn TS ⊢
  have TS := Lib.hid TS
  have HN := Lib.hid hnn
  have HE := Lib.hid hne
  have GR := Lib.hid (Grow n hpos hn w)
  have CQ := Lib.hid (fun X (hb : Below w.heap.size w X) => (hb.cell (p := ⟨q, 0, none⟩) hq).trans h0)
  have w1 : wrap64 (0 + (n : Int)) = (n : Int) := by unfold wrap64; omega
  have w2 : wrap64 (0 + 1) = 1 := by unfold wrap64; omega
  have n0 : ¬ (n : Int) < 0 := by omega
  clear hT hnn hne
  go_enter Tryz.func79, Tryz.ntmps79
  go_wp2
  go_loopw [3, 5, 11] (fun m _ iv wr => ((m = .int .i64 0 ∧ iv = .int .i64 0) ∨ (m = .int .i64 n ∧ iv = .int .i64 1)) ∧ w = wr) (fun _ _ iv _ => 1 - (intOf iv).toNat)
  case atStart => exact ⟨.inl ⟨rfl, rfl⟩, rfl⟩
  case round =>
    obtain ⟨⟨rfl, rfl⟩ | ⟨rfl, rfl⟩, rfl⟩ := hrel
    · go_wp2
      exact ⟨⟨.inr ⟨by simp, by simp⟩, trivial⟩, by simp [intOf]⟩
    · go_wp2_with (first | (go_at_call 115; (with_reducible refine (GR.out).mono ?_); rintro e w4 ⟨g4, C4, rfl, h3, h4, h5, h6⟩; have R4 := Lib.hid h3; have L4 := Lib.hid h4; have G4 := Lib.hid h5; have B4 := Lib.hid h6; clear h3 h4 h5 h6 GR))
      go_loopw [6, 8, 27] (fun v _ iv wr => (v = .slice (some ⟨g4, 0, none⟩) 0 C4 ∧ iv = .int .i64 0 ∧ w4 = wr) ∨ (v = .slice (some ⟨g4, 0, none⟩) n C4 ∧ iv = .int .i64 1 ∧ Hid (TX wr g4 C4 xs ∧ Below w.heap.size w wr))) (fun _ _ iv _ => 1 - (intOf iv).toNat)
      case atStart => exact .inl ⟨rfl, rfl, rfl⟩
      case round =>
        obtain ⟨rfl, rfl, rfl⟩ | ⟨rfl, rfl, HH⟩ := hrel
        · have c4 := CQ.out _ B4.out
          have hle := L4.out
          have AP := Lib.hid (fun (ops : Array Oper) (rest : List Oper) (o : Oper) (a : Act) (Q : Exit → Act → World → Prop) (hg : o.guard = none) s x hop hs hx k => wpList_append_R (ops := ops) (rest := rest) (o := o) (a := a) (Q := Q) w4 hg s x hop g4 C4 xs (.slice (some ⟨g, 0, none⟩) n C2) hs R4.out hx (TS.out.below B4.out) HE.out (by rw [HN.out]; exact hle) k)
          rw [HN.out] at AP
          go_wp2_with (first | (at_builtin; refine AP.out _ _ _ _ _ rfl _ _ rfl rfl rfl ?_; intro w5 h7 h8; have T5 := Lib.hid h7; have K5 := Lib.hid h8; clear h7 h8))
          exact ⟨.inr ⟨rfl, by simp, Lib.hid ⟨T5.out, B4.out.trans (K5.out.below (fun k hk => ⟨Nat.lt_of_lt_of_le hk (Below.size B4.out), by have := G4.out; omega⟩))⟩⟩, by simp [intOf]⟩
        · go_wp2
          go_ret
          exact ⟨g4, C4, rfl, HH.out.1, G4.out, HH.out.2⟩
set_option maxRecDepth 100000 in
set_option maxHeartbeats 4000000 in
theorem RAll0 (c p : Nat) (l : Value) (w : World) (h : RowL c w p l []) : Calls Tryz.prog 56 #[.pointer (some ⟨p, 0, none⟩)] w fun e w' => e = .returned (.slice none 0 0) ∧ Below w.heap.size w w' := by
  obtain ⟨⟨p0, p1⟩, _, _⟩ := rowc h.2.1
  rcases h.chs with ⟨_, A, C, rfl⟩ | ⟨hne, _⟩
  · have CC := Lib.hid (Concat0 A C w)
    clear h
    go_enter Tryz.func56, Tryz.ntmps56
    go_wp2_with (first | (go_at_call 79; (with_reducible refine (CC.out).mono ?_); rintro e w4 ⟨rfl, h3⟩; have B4 := Lib.hid h3; clear h3 CC))
    go_ret
    exact ⟨rfl, B4.out⟩
  · exact absurd rfl hne
set_option maxRecDepth 100000 in
set_option maxHeartbeats 4000000 in
theorem RAll1 (c p : Nat) (l : Value) (xs : List ByteArray) (hne : xs ≠ []) (hn : xs.length ≤ 1000000) (w : World) (h : RowL c w p l xs) : Calls Tryz.prog 56 #[.pointer (some ⟨p, 0, none⟩)] w fun e w' => ∃ g C, e = .returned (.slice (some ⟨g, 0, none⟩) xs.length C) ∧ TX w' g C xs ∧ w.heap.size ≤ g ∧ Below w.heap.size w w' := by
  obtain ⟨⟨p0, p1⟩, _, _⟩ := rowc h.2.1
  rcases h.chs with ⟨e, _⟩ | ⟨_, q, C, g, C2, rfl, h1, h2⟩
  · exact absurd e hne
  · have CC := Lib.hid (Concat1 q C g C2 xs hne hn w h1 h2)
    obtain ⟨n, hnn⟩ : ∃ n : Nat, xs.length = n := ⟨_, rfl⟩
    rw [hnn] at CC p1 ⊢
    clear h h1 h2 hnn
    go_enter Tryz.func56, Tryz.ntmps56
    go_wp2_with (first | (go_at_call 79; (with_reducible refine (CC.out).mono ?_); rintro e w4 ⟨g4, C4, rfl, h3, h4, h5⟩; have T4 := Lib.hid h3; have G4 := Lib.hid h4; have B4 := Lib.hid h5; clear h3 h4 h5 CC))
    go_ret
    exact ⟨g4, C4, rfl, T4.out, G4.out, B4.out⟩
end Go.Proofs.YtjljljjmdlddkaaGreat
