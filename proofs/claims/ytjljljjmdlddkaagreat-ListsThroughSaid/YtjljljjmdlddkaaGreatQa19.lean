/- Texts joined: Ch7, Ch8, Ch9, L2 -/
import Derived.Test.YtjljljjmdlddkaaGreatQa18
import Derived.Test.YtjljljjmdlddkaaGreatQa16

/- chunk.Row: join, Remove, Pop. -/
namespace Go.Proofs.YtjljljjmdlddkaaGreat
open Go.ChangeShapes Go.WideShapes Go.ChangeAt Go.RowKit

set_option maxRecDepth 100000 in
set_option maxHeartbeats 4000000 in
theorem RJoinN (p : Nat) (k : Int) (hk : k < 0) (w : World) : Calls Tryz.prog 110 #[.pointer (some ⟨p, 0, none⟩), .int .i64 k] w fun e w' => e = .returned (.tuple #[]) ∧ Below w.heap.size w w' := by
  go_enter Tryz.func110, Tryz.ntmps110
  go_wp2
  go_region
  go_wp2
  exact bodyPost_ret (v := .tuple #[]) (by simp [results, Tryz.results110]) rfl ⟨rfl, (Below.refl _ _).drew⟩
set_option maxRecDepth 100000 in
set_option maxHeartbeats 4000000 in
theorem RJoin0 (p q C : Nat) (b : Value) (w : World) (hp : w.heap[p]? = some (.cells #[.slice (some ⟨q, 0, none⟩) 1 C, b] 118)) : Calls Tryz.prog 110 #[.pointer (some ⟨p, 0, none⟩), .int .i64 0] w fun e w' => e = .returned (.tuple #[]) ∧ Below w.heap.size w w' := by
  obtain ⟨⟨p0, p1⟩, _, _⟩ := rowc hp
  have d0 : w.drew.cell? ⟨p, 0, none⟩ = some (.slice (some ⟨q, 0, none⟩) 1 C) := p0
  clear hp
  go_enter Tryz.func110, Tryz.ntmps110
  go_wp2
  go_region
  go_wp2
  exact bodyPost_ret (v := .tuple #[]) (by simp [results, Tryz.results110]) rfl ⟨rfl, (Below.refl _ _).drew⟩
end Go.Proofs.YtjljljjmdlddkaaGreat

/- chunk.Row: Remove where there are two texts or more. -/
namespace Go.Proofs.YtjljljjmdlddkaaGreat
open Go.ChangeShapes Go.WideShapes Go.ChangeAt Go.RowKit

set_option maxRecDepth 100000 in
set_option maxHeartbeats 16000000 in
/-- Remove at a place, more texts than one. -/
theorem RRem2 (c p : Nat) (l : Value) (xs : List ByteArray) (hn2 : 2 ≤ xs.length) (hn : xs.length ≤ 1000000) (i : Int) (j : Nat) (hj : plI i xs.length = j) (hi : -1000000 ≤ i ∧ i ≤ 1000000) (s : ByteArray) (hs : xs[j]? = some s) (w : World) (h : RowL c w p l xs) : Calls Tryz.prog 70 #[.pointer (some ⟨p, 0, none⟩), .int .i64 i] w fun e w' => e = .returned (.tuple #[.string s, .bool true]) ∧ RowL c w' p l (xs.eraseIdx j) ∧ Kp w.heap.size (fun k => k ≠ p ∧ l.ownBlock ≠ some k) w w' := by
  have hjl : j < xs.length := (List.getElem?_eq_some_iff.1 hs).1
  have PL := RPlace c p l xs hn i hi w h
  rw [hj, decide_eq_true (by omega)] at PL
  obtain ⟨hc, hp, ⟨rfl, _⟩ | ⟨_, q, C, cs, g, C2, hcq, hcg, rfl, hq, hz, hC, hCm, h0, hT⟩⟩ := h
  · simp at hn2
  have HC := Lib.hid (And.intro hz (And.intro hC hCm))
  clear hz hC hCm
  have hne : xs ≠ [] := by rintro rfl; simp at hn2
  have hpq : p ≠ q := fun e => by subst e; rw [hp] at hq; simp at hq
  have FD := fun X h1 h2 => RFind p q C xs.length C2 (.int .i64 (xs.length : Int)) cs (some ⟨g, 0, none⟩) j (by omega) (by omega) X h1 h2 h0
  have CL := fun X (hX : TX X g C2 xs) => CloneX (.slice (some ⟨g, 0, none⟩) xs.length C2) xs hne hn X hX.tr.ssl
  have DL := fun (g4 C4 : Nat) X (h1 : TX X g4 C4 xs) => DelX g4 C4 xs hn j hjl X h1
  have LI := List.length_eraseIdx_of_lt hjl
  rw [show findR j xs.length = .tuple #[.int .i64 0, .int .i64 j] from if_pos hjl] at FD
  obtain ⟨n, hnn⟩ : ∃ n : Nat, xs.length = n := ⟨_, rfl⟩
  simp only [hnn] at FD CL DL LI
  rw [hnn] at hn hn2 hp h0 hjl
  obtain ⟨m, hm⟩ : ∃ m : Nat, n - 1 = m := ⟨_, rfl⟩
  rw [hm] at LI
  simp only [hm] at DL
  have LI := Lib.hid LI
  have CL := Lib.hid CL
  have DL := Lib.hid DL
  have FD := Lib.hid FD
  have PL := Lib.hid PL
  have HP := Lib.hid hp
  have HQ := Lib.hid hq
  have HT := Lib.hid hT
  have H0 := Lib.hid h0
  have HS := Lib.hid hs
  clear hp hq h0 hT hnn hs hj hi
  have j0 : (j : Int) < (n : Int) := by omega
  have j1 : wrap64 ((j : Int) + 1) = (j : Int) + 1 := by unfold wrap64; omega
  have j2 : IntKind.i64.wrap ((j : Int) + 1) = (j : Int) + 1 := IntWalk.i64_in _ (by omega)
  have w1 : wrap64 ((n : Int) - 1) = (n : Int) - 1 := by unfold wrap64; omega
  have hm1 : (m : Int) = (n : Int) - 1 := by omega
  have HM := Lib.hid hm1
  clear hm1
  have n1 : ¬ (m : Int) = 0 := by omega
  have n2 : ¬ m = 0 := by omega
  clear hm
  have m1 : wrap64 ((0 : Int) - 1) = -1 := by unfold wrap64; omega
  have hnq : ¬ q = p := fun e => hpq e.symm
  go_enter Tryz.func70, Tryz.ntmps70
  go_wp2_with (first | (go_at_call 74; (with_reducible refine (PL.out).mono ?_); rintro e w2 ⟨rfl, h3⟩; have B2 := Lib.hid h3; have F2 := Lib.hid (FD.out _ (blk_below HP.out h3) (blk_below HQ.out h3)); clear h3 PL) | (go_at_call 75; (with_reducible refine (F2.out).mono ?_); rintro e w3 ⟨rfl, h3⟩; have B3 := Lib.hid (B2.out.trans (h3.mono (Below.size B2.out))); clear h3 F2; refine Hid.out ?_))
  refine Lib.hid ?_
  have P3 := Lib.hid (blk_below HP.out B3.out)
  have Q3 := Lib.hid (blk_below HQ.out B3.out)
  have T3 := Lib.hid (HT.out.below B3.out)
  obtain ⟨⟨a0, a1⟩, ⟨b0, b1⟩, bz⟩ := rowc P3.out
  obtain ⟨c0, c1, cz⟩ := chc Q3.out H0.out
  have t3 := T3.out.cell j s HS.out
  go_wp2
  clear a0 a1 b0 b1 bz c0 c1 cz t3
  have K := Lib.hid (show ∀ X, Below w3.heap.size w3 X → (X.cell? ⟨p, 0, none⟩ = some (.slice (some ⟨q, 0, none⟩) 1 C) ∧ X.cell? ⟨q, 0, none⟩ = some (.slice (some ⟨g, 0, none⟩) n C2) ∧ X.frozen? ⟨q, 0, none⟩ = false) from fun X hb => ⟨(rowc (blk_below P3.out hb)).1.1, (chc (blk_below Q3.out hb) H0.out).1, (chc (blk_below Q3.out hb) H0.out).2.1⟩)
  have S0 := K.out _ (Below.refl w3.heap.size w3).drew
  have S1 := K.out _ (Below.refl w3.heap.size w3)
  have C3 := Lib.hid (CL.out w3.drew (T3.out.kept rfl))
  obtain ⟨x0, x1, x2⟩ := S0
  obtain ⟨y0, y1, y2⟩ := S1
  go_region_with (first | (go_at_call 64; (with_reducible refine (C3.out).mono ?_); rintro e w5 ⟨g5, C5, rfl, hT5, hg5, hb5⟩; have B5 : Below w3.heap.size w3 w5 := belT (Below.refl w3.heap.size w3).drew hb5; obtain ⟨k0, k1, k2⟩ := K.out _ B5) | (go_at_call 108; (with_reducible refine (DL.out _ _ _ hT5).mono ?_); rintro e w6 ⟨rfl, hT6, hK6⟩; have B6 : Below w3.heap.size w3 w6 := B5.trans (hK6.below (fun k hk => ⟨Nat.lt_of_lt_of_le hk (Below.size B5), fun e => by rw [e] at hk; exact absurd (Nat.lt_of_lt_of_le hk hg5) (Nat.lt_irrefl _)⟩)); obtain ⟨k3, k4, k5⟩ := K.out _ B6))
  all_goals (
    clear x0 x1 x2 y0 y1 y2 k0 k1 k2 k3 k4 k5
    have T6 := Lib.hid hT6
    have G6 : w3.heap.size ≤ g5 := hg5
    have P6 := Lib.hid (blk_below P3.out B6)
    have Q6 := Lib.hid (blk_below Q3.out B6)
    have D6 := Lib.hid B6
    have GG := Lib.hid G6
    clear hT5 hg5 hb5 B5 hT6 hK6 B6 G6
    have P7 := Lib.hid ((Below.heap_setCell w6 ⟨q, 0, none⟩ (.slice (some ⟨g5, 0, none⟩) m C5) p hpq).trans P6.out)
    have Q7 := Lib.hid (chset Q6.out (.slice (some ⟨g5, 0, none⟩) m C5))
    have T7 := Lib.hid (T6.out.kept (Below.heap_setCell w6 ⟨q, 0, none⟩ (.slice (some ⟨g5, 0, none⟩) m C5) g5 (fun e => by have h1 := lt_blk Q3.out; have h2 := GG.out; have e2 : g5 = q := e; omega)))
    have K7 := Lib.hid (((Kp.of (B3.out.trans (D6.out.mono (Below.size B3.out)))).setCell (S := fun k => k ≠ p ∧ (Value.slice (some ⟨q, 0, none⟩) 1 C).ownBlock ≠ some k) (p := ⟨q, 0, none⟩) (fun h => h.2.2 rfl) (.slice (some ⟨g5, 0, none⟩) m C5)))
    generalize w6.setCell ⟨q, 0, none⟩ (.slice (some ⟨g5, 0, none⟩) m C5) = w7 at P7 Q7 T7 K7 ⊢
    obtain ⟨⟨a0, a1⟩, ⟨b0, b1⟩, bz⟩ := rowc P7.out
    have P8 := Lib.hid (rowset P7.out (.int .i64 ((n : Int) - 1)))
    have Q8 := Lib.hid ((Below.heap_setCell w7 ⟨p, 1, none⟩ (.int .i64 ((n : Int) - 1)) q hnq).trans Q7.out)
    have h7 : (cs.setIfInBounds 0 (Value.slice (some ⟨g5, 0, none⟩) m C5))[0]? = some (.slice (some ⟨g5, 0, none⟩) m C5) := by
      rw [Array.getElem?_setIfInBounds, if_pos rfl, if_pos (by have h1 := HC.out.1; have h2 := HC.out.2.1; omega)]
    have H7 := Lib.hid h7
    obtain ⟨⟨d0, d1⟩, ⟨e0, e1⟩, ez⟩ := rowc P8.out
    obtain ⟨c0, c1, cz⟩ := chc Q8.out h7
    have J1 := Lib.hid (RJoin0 p q C (.int .i64 ((n : Int) - 1)) _ P8.out)
    have J2 := Lib.hid (fun X => RJoinN p (-1) (by omega) X)
    clear h7
    go_wp2_with (first | (go_at_call 110; (with_reducible refine (J1.out).mono ?_); rintro e w9 ⟨rfl, h9⟩; have B9 := Lib.hid h9; clear h9 J1) | (go_at_call 110; (with_reducible refine (J2.out _).mono ?_); rintro e w10 ⟨rfl, h9⟩; have B10 := Lib.hid (B9.out.trans (h9.mono (Below.size B9.out))); clear h9 J2))
    refine bodyPost_ret (v := .tuple #[.string s, .bool true]) (by simp [results, Tryz.results70, go_sem]) rfl ⟨rfl, ⟨hc, ?_, .inr ⟨fun e => ?_, q, C, _, g5, C5, hcq, ?_, rfl, blk_below Q8.out B10.out, by simpa using HC.out.1, HC.out.2.1, HC.out.2.2, ?_, (T7.out.kept (Below.heap_setCell _ _ _ _ (T7.out.ne P7.out (by decide)).symm)).below B10.out⟩⟩, (K7.out.setCell (p := ⟨p, 1, none⟩) (fun h => h.2.1 rfl) _).below_after B10.out (by rw [show (w7.setCell ⟨p, 1, none⟩ (.int .i64 ((n : Int) - 1))).heap.size = w7.heap.size by simp [World.setCell]]; exact K7.out.size)⟩
    · rw [LI.out, HM.out]
      exact blk_below P8.out B10.out
    · have h1 := LI.out
      rw [e] at h1
      simp at h1
      omega
    · have h1 := GG.out
      have h2 := Below.size B3.out
      have h3 := lt_blk HP.out
      omega
    · rw [LI.out]
      exact H7.out)
end Go.Proofs.YtjljljjmdlddkaaGreat

/- chunk.Row: Remove of the last text, of none; Pop. -/
namespace Go.Proofs.YtjljljjmdlddkaaGreat
open Go.ChangeShapes Go.WideShapes Go.ChangeAt Go.RowKit

theorem iStrs : (Tryz.prog.info? 22).map (fun i => (i.zero, i.size, i.bytes)) = some (some (.slice none 0 0), 1, 24) := by kernel_rfl
def encSl : Option Addr × Nat × Nat → Value := fun x => .slice x.1 x.2.1 x.2.2
/-- slices.Delete of the only chunk. -/
theorem DelL (q C : Nat) (cs : Array Value) (A : Option Addr) (n c2 : Nat) (hz : cs.size = C) (hC : 1 ≤ C) (hm : C ≤ maxLen) (w : World) (hq : w.heap[q]? = some (.cells cs 22)) (h0 : cs[0]? = some (.slice A n c2)) : Calls Tryz.prog 109 #[.slice (some ⟨q, 0, none⟩) 1 C, .int .i64 0, .int .i64 1] w fun e w' => e = .returned (.slice (some ⟨q, 0, none⟩) 0 C) ∧ (∃ cs', w'.heap[q]? = some (.cells cs' 22) ∧ cs'.size = C) ∧ Kp w.heap.size (fun k => k ≠ q) w w' := by
  obtain ⟨i0, hi, hz0, hz1, hz2⟩ := info_parts iStrs
  obtain ⟨q0, q1, _⟩ := chc hq h0
  refine (Tryz.slices_Delete_f109 encSl (fun _ => rfl) (none, 0, 0) (fun w => by kernel_rfl) i0 hi hz1 q 0 C 0 1 #[(A, n, c2)] w (fun j hj => ?_) hC (by unfold maxLen at hm; omega) (by omega) (Nat.le_refl _)).mono ?_
  · have : j = 0 := by simp at hj; exact hj
    subst this
    exact ⟨q0, q1⟩
  · rintro e w' ⟨rfl, r, rfl⟩
    refine ⟨rfl, ⟨Go.Sort.putCells encSl 0 #[(none, 0, 0)] cs, ?_, ?_⟩, ?_⟩
    · show (Go.Sort.mapBlock (Go.Sort.ahead w r) q _).heap[q]? = _
      simp [Go.Sort.mapBlock, Go.Sort.ahead, Array.getElem?_modify, hq, Go.Sort.onCells]
    · simp [Go.Sort.putCells, hz]
    · refine ⟨rfl, rfl, rfl, ?_, fun k _ hk => ?_⟩
      · simp [Go.Sort.putRow, Go.Sort.mapBlock, Go.Sort.ahead]
      · have hk2 : ¬ q = k := fun e => hk e.symm
        simp [Go.Sort.putRow, Go.Sort.mapBlock, Go.Sort.ahead, Array.getElem?_modify, hk2]
set_option maxRecDepth 100000 in
set_option maxHeartbeats 16000000 in
/-- Remove of the only text. -/
theorem RRem1 (c p : Nat) (l : Value) (s : ByteArray) (i : Int) (hi : i = 0 ∨ i = -1) (w : World) (h : RowL c w p l [s]) : Calls Tryz.prog 70 #[.pointer (some ⟨p, 0, none⟩), .int .i64 i] w fun e w' => e = .returned (.tuple #[.string s, .bool true]) ∧ (∃ l', RowL c w' p l' [] ∧ l'.ownBlock = l.ownBlock) ∧ Kp w.heap.size (fun k => k ≠ p ∧ l.ownBlock ≠ some k) w w' := by
  have hp0 : plI i ([s] : List ByteArray).length = (0 : Nat) := by rcases hi with rfl | rfl <;> simp [plI]
  have PL := RPlace c p l [s] (by simp) i (by omega) w h
  rw [hp0, decide_eq_true (by simp)] at PL
  obtain ⟨hc, hp, ⟨h1, _⟩ | ⟨_, q, C, cs, g, C2, hcq, hcg, rfl, hq, hz, hC, hCm, h0, hT⟩⟩ := h
  · cases h1
  have hp : w.heap[p]? = some (.cells #[.slice (some ⟨q, 0, none⟩) 1 C, .int .i64 1] 118) := hp
  have h0 : cs[0]? = some (.slice (some ⟨g, 0, none⟩) 1 C2) := h0
  have HC := Lib.hid (And.intro hz (And.intro hC hCm))
  clear hz hC hCm
  have hpq : p ≠ q := fun e => by subst e; rw [hp] at hq; simp at hq
  have FD := fun X h1 h2 => (show Calls Tryz.prog 75 #[.pointer (some ⟨p, 0, none⟩), .int .i64 0] X (fun e w' => e = .returned (.tuple #[.int .i64 0, .int .i64 0]) ∧ Below X.heap.size X w') from RFind p q C 1 C2 (.int .i64 1) cs (some ⟨g, 0, none⟩) 0 (by omega) (by omega) X h1 h2 h0)
  have CL := fun X (hX : TX X g C2 [s]) => (show Calls Tryz.prog 64 #[.slice (some ⟨g, 0, none⟩) 1 C2] X (fun e w' => ∃ g C, e = .returned (.slice (some ⟨g, 0, none⟩) 1 C) ∧ TX w' g C [s] ∧ X.heap.size ≤ g ∧ Below X.heap.size X w') from CloneX (.slice (some ⟨g, 0, none⟩) 1 C2) [s] (by simp) (by simp) X hX.tr.ssl)
  have DL := fun (g4 C4 : Nat) X (h1 : TX X g4 C4 [s]) => (show Calls Tryz.prog 108 #[.slice (some ⟨g4, 0, none⟩) 1 C4, .int .i64 0, .int .i64 1] X (fun e w' => e = .returned (.slice (some ⟨g4, 0, none⟩) 0 C4) ∧ TX w' g4 C4 [] ∧ Kp X.heap.size (fun k => k ≠ g4) X w') from DelX g4 C4 [s] (by simp) 0 (by simp) X h1)
  have CL := Lib.hid CL
  have DL := Lib.hid DL
  have FD := Lib.hid FD
  have PL := Lib.hid (show Calls Tryz.prog 74 #[.pointer (some ⟨p, 0, none⟩), .int .i64 i] w (fun e w' => e = .returned (.tuple #[.int .i64 0, .bool true]) ∧ Below w.heap.size w w') from PL)
  have HP := Lib.hid hp
  have HQ := Lib.hid hq
  have HT := Lib.hid hT
  have H0 := Lib.hid h0
  clear hp hq h0 hT hi hp0
  have m1 : wrap64 ((0 : Int) - 1) = -1 := by unfold wrap64; omega
  have m2 : wrap64 ((-1 : Int) - 1) = -2 := by unfold wrap64; omega
  have j2 : IntKind.i64.wrap (1 : Int) = 1 := IntWalk.i64_in _ (by omega)
  have hnq : ¬ q = p := fun e => hpq e.symm
  go_enter Tryz.func70, Tryz.ntmps70
  go_wp2_with (first | (go_at_call 74; (with_reducible refine (PL.out).mono ?_); rintro e w2 ⟨rfl, h3⟩; have B2 := Lib.hid h3; have F2 := Lib.hid (FD.out _ (blk_below HP.out h3) (blk_below HQ.out h3)); clear h3 PL) | (go_at_call 75; (with_reducible refine (F2.out).mono ?_); rintro e w3 ⟨rfl, h3⟩; have B3 := Lib.hid (B2.out.trans (h3.mono (Below.size B2.out))); clear h3 F2; refine Hid.out ?_))
  refine Lib.hid ?_
  have P3 := Lib.hid (blk_below HP.out B3.out)
  have Q3 := Lib.hid (blk_below HQ.out B3.out)
  have T3 := Lib.hid (HT.out.below B3.out)
  obtain ⟨⟨a0, a1⟩, ⟨b0, b1⟩, bz⟩ := rowc P3.out
  obtain ⟨c0, c1, cz⟩ := chc Q3.out H0.out
  have t3 := T3.out.cell 0 s rfl
  go_wp2
  clear a0 a1 b0 b1 bz c0 c1 cz t3
  have K := Lib.hid (show ∀ X, Below w3.heap.size w3 X → (X.cell? ⟨p, 0, none⟩ = some (.slice (some ⟨q, 0, none⟩) 1 C) ∧ X.cell? ⟨q, 0, none⟩ = some (.slice (some ⟨g, 0, none⟩) 1 C2) ∧ X.frozen? ⟨q, 0, none⟩ = false) from fun X hb => ⟨(rowc (blk_below P3.out hb)).1.1, (chc (blk_below Q3.out hb) H0.out).1, (chc (blk_below Q3.out hb) H0.out).2.1⟩)
  have S0 := K.out _ (Below.refl w3.heap.size w3).drew
  have S1 := K.out _ (Below.refl w3.heap.size w3)
  have C3 := Lib.hid (CL.out w3.drew (T3.out.kept rfl))
  obtain ⟨x0, x1, x2⟩ := S0
  obtain ⟨y0, y1, y2⟩ := S1
  go_region_with (first | (go_at_call 64; (with_reducible refine (C3.out).mono ?_); rintro e w5 ⟨g5, C5, rfl, hT5, hg5, hb5⟩; have B5 : Below w3.heap.size w3 w5 := belT (Below.refl w3.heap.size w3).drew hb5; obtain ⟨k0, k1, k2⟩ := K.out _ B5) | (go_at_call 108; (with_reducible refine (DL.out _ _ _ hT5).mono ?_); rintro e w6 ⟨rfl, hT6, hK6⟩; have B6 : Below w3.heap.size w3 w6 := B5.trans (hK6.below (fun k hk => ⟨Nat.lt_of_lt_of_le hk (Below.size B5), fun e => by rw [e] at hk; exact absurd (Nat.lt_of_lt_of_le hk hg5) (Nat.lt_irrefl _)⟩)); obtain ⟨k3, k4, k5⟩ := K.out _ B6))
  all_goals (
    clear x0 x1 x2 y0 y1 y2 k0 k1 k2 k3 k4 k5
    have P6 := Lib.hid (blk_below P3.out B6)
    have Q6 := Lib.hid (blk_below Q3.out B6)
    have D6 := Lib.hid B6
    clear hT5 hg5 hb5 B5 hT6 hK6 B6
    have P7 := Lib.hid ((Below.heap_setCell w6 ⟨q, 0, none⟩ (.slice (some ⟨g5, 0, none⟩) 0 C5) p hpq).trans P6.out)
    have Q7 := Lib.hid (chset Q6.out (.slice (some ⟨g5, 0, none⟩) 0 C5))
    have K7 := Lib.hid (((Kp.of (B3.out.trans (D6.out.mono (Below.size B3.out)))).setCell (S := fun k => k ≠ p ∧ (Value.slice (some ⟨q, 0, none⟩) 1 C).ownBlock ≠ some k) (p := ⟨q, 0, none⟩) (fun h => h.2.2 rfl) (.slice (some ⟨g5, 0, none⟩) 0 C5)))
    generalize w6.setCell ⟨q, 0, none⟩ (.slice (some ⟨g5, 0, none⟩) 0 C5) = w7 at P7 Q7 K7 ⊢
    obtain ⟨⟨a0, a1⟩, ⟨b0, b1⟩, bz⟩ := rowc P7.out
    have P8 := Lib.hid (rowset P7.out (.int .i64 0))
    have Q8 := Lib.hid ((Below.heap_setCell w7 ⟨p, 1, none⟩ (.int .i64 0) q hnq).trans Q7.out)
    have h7 : (cs.setIfInBounds 0 (Value.slice (some ⟨g5, 0, none⟩) 0 C5))[0]? = some (.slice (some ⟨g5, 0, none⟩) 0 C5) := by
      rw [Array.getElem?_setIfInBounds, if_pos rfl, if_pos (by have h1 := HC.out.1; have h2 := HC.out.2.1; omega)]
    have H7 := Lib.hid h7
    obtain ⟨⟨d0, d1⟩, ⟨e0, e1⟩, ez⟩ := rowc P8.out
    obtain ⟨c0, c1, cz⟩ := chc Q8.out h7
    have DD := Lib.hid (DelL q C _ _ _ _ (by simpa using HC.out.1) HC.out.2.1 HC.out.2.2 _ Q8.out h7)
    have J2 := Lib.hid (fun X => RJoinN p (-1) (by omega) X)
    have J3 := Lib.hid (fun X => RJoinN p (-2) (by omega) X)
    have K8 := Lib.hid (K7.out.setCell (p := ⟨p, 1, none⟩) (fun h => h.2.1 rfl) (.int .i64 0))
    clear h7
    go_wp2_with (first | (go_at_call 109; (with_reducible refine (DD.out).mono ?_); rintro e w9 ⟨rfl, ⟨cs9, h9, z9⟩, hK9⟩; have Q9 := Lib.hid h9; have Z9 := Lib.hid z9; have P9 := Lib.hid ((hK9.block p (lt_blk P8.out) hpq).trans P8.out); have K9 := Lib.hid (K8.out.trans (hK9.mono K8.out.size (fun k hk e => hk.2 (by rw [e]; rfl)))); clear h9 z9 hK9 a0 a1 b0 b1 bz d0 d1 e0 e1 ez c0 c1 cz; obtain ⟨⟨a0, a1⟩, ⟨b0, b1⟩, bz⟩ := rowc P9.out) | (go_at_call 110; (with_reducible refine (J2.out _).mono ?_); rintro e w10 ⟨rfl, h9⟩; have B10 := Lib.hid h9; clear h9 J2) | (go_at_call 110; (with_reducible refine (J3.out _).mono ?_); rintro e w11 ⟨rfl, h9⟩; have B11 := Lib.hid (B10.out.trans (h9.mono (Below.size B10.out))); clear h9 J3))
    have P10 := Lib.hid (rowset0 P9.out (.slice (some ⟨q, 0, none⟩) 0 C))
    have Q10 := Lib.hid ((Below.heap_setCell w9 ⟨p, 0, none⟩ (.slice (some ⟨q, 0, none⟩) 0 C) q hnq).trans Q9.out)
    exact bodyPost_ret (v := .tuple #[.string s, .bool true]) (by simp [results, Tryz.results70, go_sem]) rfl ⟨rfl, ⟨.slice (some ⟨q, 0, none⟩) 0 C, ⟨hc, blk_below P10.out B11.out, .inl ⟨rfl, .inr ⟨q, C, cs9, hcq, rfl, blk_below Q10.out B11.out, Z9.out, HC.out.2.1, HC.out.2.2⟩⟩⟩, rfl⟩, (K9.out.setCell (p := ⟨p, 0, none⟩) (fun h => h.2.1 rfl) _).below_after B11.out (by rw [show (w9.setCell ⟨p, 0, none⟩ (.slice (some ⟨q, 0, none⟩) 0 C)).heap.size = w9.heap.size by simp [World.setCell]]; exact K9.out.size)⟩)
set_option maxRecDepth 100000 in
set_option maxHeartbeats 4000000 in
/-- Remove where there is none. -/
theorem RRem0 (c p : Nat) (l : Value) (i : Int) (hi : -1000000 ≤ i ∧ i ≤ 1000000) (w : World) (h : RowL c w p l []) : Calls Tryz.prog 70 #[.pointer (some ⟨p, 0, none⟩), .int .i64 i] w fun e w' => e = .returned (.tuple #[.string ⟨#[]⟩, .bool false]) ∧ Below w.heap.size w w' := by
  have PL := RPlace c p l [] (by simp) i hi w h
  rw [decide_eq_false (by simp)] at PL
  obtain ⟨x, hx⟩ : ∃ x, plI i (([] : List ByteArray).length : Int) = x := ⟨_, rfl⟩
  rw [hx] at PL
  have PL := Lib.hid PL
  clear h hx hi
  go_enter Tryz.func70, Tryz.ntmps70
  go_wp2_with (first | (go_at_call 74; (with_reducible refine (PL.out).mono ?_); rintro e w2 ⟨rfl, h3⟩; have B2 := Lib.hid h3; clear h3 PL))
  exact bodyPost_ret (v := .tuple #[.string ⟨#[]⟩, .bool false]) (by simp [results, Tryz.results70, go_sem]) rfl ⟨rfl, B2.out⟩
/-- Remove of the first or the last text. -/
theorem RRem (c p : Nat) (l : Value) (xs : List ByteArray) (hne : xs ≠ []) (hn : xs.length ≤ 1000000) (f : Bool) (s : ByteArray) (hs : xs[if f then 0 else xs.length - 1]? = some s) (w : World) (h : RowL c w p l xs) : Calls Tryz.prog 70 #[.pointer (some ⟨p, 0, none⟩), .int .i64 (if f then 0 else -1)] w fun e w' => e = .returned (.tuple #[.string s, .bool true]) ∧ (∃ l', RowL c w' p l' (xs.eraseIdx (if f then 0 else xs.length - 1)) ∧ l'.ownBlock = l.ownBlock) ∧ Kp w.heap.size (fun k => k ≠ p ∧ l.ownBlock ≠ some k) w w' := by
  have hpos : 0 < xs.length := List.length_pos_iff.2 hne
  by_cases h1 : xs.length = 1
  · obtain ⟨x, rfl⟩ : ∃ x, xs = [x] := by
      match xs, h1 with
      | [x], _ => exact ⟨x, rfl⟩
    have hx : x = s := by cases f <;> simpa using hs
    subst hx
    have he : [x].eraseIdx (if f then 0 else [x].length - 1) = [] := by cases f <;> rfl
    rw [he]
    exact RRem1 c p l x _ (by cases f <;> simp) w h
  · refine (RRem2 c p l xs (by omega) hn _ (if f then 0 else xs.length - 1) ?_ ?_ s hs w h).mono ?_
    · cases f
      · simp [plI]; omega
      · simp [plI]
    · cases f <;> simp
    · rintro e w' ⟨h2, h3, h4⟩
      exact ⟨h2, ⟨l, h3, rfl⟩, h4⟩
set_option maxRecDepth 100000 in
set_option maxHeartbeats 4000000 in
theorem RPop (c p : Nat) (l : Value) (xs : List ByteArray) (hne : xs ≠ []) (hn : xs.length ≤ 1000000) (f : Bool) (s : ByteArray) (hs : xs[if f then 0 else xs.length - 1]? = some s) (w : World) (h : RowL c w p l xs) : Calls Tryz.prog 40 #[.pointer (some ⟨p, 0, none⟩), .bool f] w fun e w' => e = .returned (.tuple #[.string s, .bool true]) ∧ (∃ l', RowL c w' p l' (xs.eraseIdx (if f then 0 else xs.length - 1)) ∧ l'.ownBlock = l.ownBlock) ∧ Kp w.heap.size (fun k => k ≠ p ∧ l.ownBlock ≠ some k) w w' := by
  have R := Lib.hid (RRem c p l xs hne hn f s hs w h)
  clear h hs
  generalize xs.eraseIdx (if f then 0 else xs.length - 1) = ys at R ⊢
  cases f
  · simp only [Bool.false_eq_true, if_false] at R
    go_enter Tryz.func40, Tryz.ntmps40
    go_wp2_with (first | (go_at_call 70; (with_reducible refine (R.out).mono ?_); rintro e w2 ⟨rfl, h3, h4⟩; have R2 := Lib.hid h3; have K2 := Lib.hid h4; clear h3 h4 R))
    exact bodyPost_ret (v := .tuple #[.string s, .bool true]) (by simp [results, Tryz.results40, go_sem]) rfl ⟨rfl, R2.out, K2.out⟩
  · simp only [if_true] at R
    go_enter Tryz.func40, Tryz.ntmps40
    go_wp2_with (first | (go_at_call 70; (with_reducible refine (R.out).mono ?_); rintro e w2 ⟨rfl, h3, h4⟩; have R2 := Lib.hid h3; have K2 := Lib.hid h4; clear h3 h4 R))
    exact bodyPost_ret (v := .tuple #[.string s, .bool true]) (by simp [results, Tryz.results40, go_sem]) rfl ⟨rfl, R2.out, K2.out⟩
set_option maxRecDepth 100000 in
set_option maxHeartbeats 4000000 in
theorem RPop0 (c p : Nat) (l : Value) (f : Bool) (w : World) (h : RowL c w p l []) : Calls Tryz.prog 40 #[.pointer (some ⟨p, 0, none⟩), .bool f] w fun e w' => e = .returned (.tuple #[.string ⟨#[]⟩, .bool false]) ∧ Below w.heap.size w w' := by
  have R := Lib.hid (fun i hi => RRem0 c p l i hi w h)
  clear h
  cases f
  · go_enter Tryz.func40, Tryz.ntmps40
    go_wp2_with (first | (go_at_call 70; (with_reducible refine (R.out _ (by omega)).mono ?_); rintro e w2 ⟨rfl, h3⟩; have K2 := Lib.hid h3; clear h3 R))
    exact bodyPost_ret (v := .tuple #[.string ⟨#[]⟩, .bool false]) (by simp [results, Tryz.results40, go_sem]) rfl ⟨rfl, K2.out⟩
  · go_enter Tryz.func40, Tryz.ntmps40
    go_wp2_with (first | (go_at_call 70; (with_reducible refine (R.out _ (by omega)).mono ?_); rintro e w2 ⟨rfl, h3⟩; have K2 := Lib.hid h3; clear h3 R))
    exact bodyPost_ret (v := .tuple #[.string ⟨#[]⟩, .bool false]) (by simp [results, Tryz.results40, go_sem]) rfl ⟨rfl, K2.out⟩
end Go.Proofs.YtjljljjmdlddkaaGreat

/- Lists: when two are the same; a key's row. -/
namespace Go.Proofs.YtjljljjmdlddkaaGreat
open Go.ChangeShapes Go.WideShapes Go.ChangeAt Go.RowKit

theorem SameL (xs ys : List ByteArray) (A3 A4 A5 A6 : Option Addr) (an3 ac3 an4 ac4 an5 ac5 an6 ac6 : Nat) (Y3 Y4 Y5 Y6 : Option Addr) (yn3 yc3 yn4 yc4 yn5 yc5 yn6 yc6 : Nat) (w : World) (h1 : VL w xs (.slice A3 an3 ac3) (.slice A4 an4 ac4) (.slice A5 an5 ac5) (.slice A6 an6 ac6)) (h2 : VL w ys (.slice Y3 yn3 yc3) (.slice Y4 yn4 yc4) (.slice Y5 yn5 yc5) (.slice Y6 yn6 yc6)) : Calls Tryz.prog 106 #[.agg #[.int .i64 2, .string ⟨#[]⟩, .slice A3 an3 ac3, .slice A4 an4 ac4, .slice A5 an5 ac5, .slice A6 an6 ac6], .agg #[.int .i64 2, .string ⟨#[]⟩, .slice Y3 yn3 yc3, .slice Y4 yn4 yc4, .slice Y5 yn5 yc5, .slice Y6 yn6 yc6]] w fun e w' => e = .returned (.bool (decide (xs = ys))) ∧ Below w.heap.size w w' := by
  obtain ⟨g, rfl, rfl, rfl, rfl, rfl, rfl, rfl, rfl, rfl, rfl, rfl⟩ := VL.form A3 A4 A5 A6 an3 ac3 an4 ac4 an5 ac5 an6 ac6 h1
  obtain ⟨g', rfl, rfl, rfl, rfl, rfl, rfl, rfl, rfl, rfl, rfl, rfl⟩ := VL.form Y3 Y4 Y5 Y6 yn3 yc3 yn4 yc4 yn5 yc5 yn6 yc6 h2
  have q3 := fun X (hX : Below w.heap.size w X) => EqL _ _ xs ys X (h1.1.below hX) (h2.1.below hX)
  by_cases he : xs = ys
  · simp only [decide_eq_true he] at q3 ⊢
    exact SameG_true 2 _ _ _ _ _ _ _ _ _ _ _ _ _ _ _ _ _ _ _ _ _ _ _ _ w q3 (fun X _ => Eq102 X) (fun X _ => Eq103 X) (fun f X _ => Eq99 f X)
  · simp only [decide_eq_false he] at q3 ⊢
    exact SameG_f3 2 _ _ _ _ _ _ _ _ _ _ _ _ _ _ _ _ _ _ _ _ _ _ _ _ w q3 (fun f X _ => Eq99 f X)
theorem SSl.nil (X : World) : SSl X (.slice none 0 0) [] := ⟨none, 0, rfl, Nat.le_refl _, Nat.zero_le _, fun h => absurd rfl h⟩
theorem OfL_no (bS bM j : Nat) (D : List (ByteArray × List ByteArray)) (k : ByteArray) (now : Int) (vA vl : Value) (hf : findD k D = none) (w : World) (h : SPG KL okL w bS bM D) (hj : JB w j bS now vA vl) : Calls Tryz.prog 68 #[.pointer (some ⟨j, 0, none⟩), .string k, .int .i64 2] w fun e w' => e = .returned (.tuple #[.agg #[.string k, .int .i64 2, .string ⟨#[]⟩, .slice none 0 0, .slice none 0 0, .slice none 0 0, .slice none 0 0, .int .i64 0], .bool false]) ∧ Below w.heap.size w w' := OfD_no KL okL bS bM j D k now vA vl hf w h hj
theorem OfL_yes (bS bM j : Nat) (D : List (ByteArray × List ByteArray)) (k : ByteArray) (xs : List ByteArray) (now : Int) (vA vl : Value) (hf : findD k D = some xs) (w : World) (h : SPG KL okL w bS bM D) (hj : JB w j bS now vA vl) : Calls Tryz.prog 68 #[.pointer (some ⟨j, 0, none⟩), .string k, .int .i64 2] w fun e w' => ∃ Y3 Y4 Y5 Y6 yn3 yc3 yn4 yc4 yn5 yc5 yn6 yc6, e = .returned (.tuple #[.agg #[.string k, .int .i64 2, .string ⟨#[]⟩, .slice Y3 yn3 yc3, .slice Y4 yn4 yc4, .slice Y5 yn5 yc5, .slice Y6 yn6 yc6, .int .i64 0], .bool true]) ∧ VL w' xs (.slice Y3 yn3 yc3) (.slice Y4 yn4 yc4) (.slice Y5 yn5 yc5) (.slice Y6 yn6 yc6) ∧ (∀ g, Own (.slice Y3 yn3 yc3) (.slice Y4 yn4 yc4) (.slice Y5 yn5 yc5) (.slice Y6 yn6 yc6) g → w.heap.size ≤ g) ∧ Below w.heap.size w w' := OfD_yes KL okL KLok bS bM j D k xs now vA vl hf w h hj
theorem OfL (bS bM j : Nat) (D : List (ByteArray × List ByteArray)) (k : ByteArray) (now : Int) (vA vl : Value) (w : World) (h : SPG KL okL w bS bM D) (hj : JB w j bS now vA vl) : Calls Tryz.prog 68 #[.pointer (some ⟨j, 0, none⟩), .string k, .int .i64 2] w fun e w' => ∃ Y3 Y4 Y5 Y6 yn3 yc3 yn4 yc4 yn5 yc5 yn6 yc6, e = .returned (.tuple #[.agg #[.string k, .int .i64 2, .string ⟨#[]⟩, .slice Y3 yn3 yc3, .slice Y4 yn4 yc4, .slice Y5 yn5 yc5, .slice Y6 yn6 yc6, .int .i64 0], .bool (findD k D).isSome]) ∧ SSl w' (.slice Y3 yn3 yc3) ((findD k D).getD []) ∧ Below w.heap.size w w' := by
  cases hf : findD k D with
  | none =>
    refine (OfL_no bS bM j D k now vA vl hf w h hj).mono ?_
    rintro e w' ⟨rfl, hb⟩
    exact ⟨none, none, none, none, 0, 0, 0, 0, 0, 0, 0, 0, rfl, SSl.nil _, hb⟩
  | some xs =>
    refine (OfL_yes bS bM j D k xs now vA vl hf w h hj).mono ?_
    rintro e w' ⟨Y3, Y4, Y5, Y6, yn3, yc3, yn4, yc4, yn5, yc5, yn6, yc6, rfl, hV, _, hb⟩
    exact ⟨Y3, Y4, Y5, Y6, yn3, yc3, yn4, yc4, yn5, yc5, yn6, yc6, rfl, hV.1.ssl, hb⟩
set_option maxRecDepth 100000 in
set_option maxHeartbeats 4000000 in
/-- A key's row. -/
theorem RowD (bS bM j : Nat) (D : List (ByteArray × List ByteArray)) (k : ByteArray) (now : Int) (vA vl : Value) (w : World) (h : SPG KL okL w bS bM D) (hj : JB w j bS now vA vl) : Calls Tryz.prog 35 #[.pointer (some ⟨j, 0, none⟩), .string k] w fun e w' => ∃ A3 A4 A5 A6 an3 ac3 an4 ac4 an5 ac5 an6 ac6 p l, e = .returned (.tuple #[.agg #[.string k, .int .i64 2, .string ⟨#[]⟩, .slice A3 an3 ac3, .slice A4 an4 ac4, .slice A5 an5 ac5, .slice A6 an6 ac6, .int .i64 0], .pointer (some ⟨p, 0, none⟩), .bool (findD k D).isSome]) ∧ RowL w.heap.size w' p l ((findD k D).getD []) ∧ Below w.heap.size w w' := by
  have hlen : ((findD k D).getD []).length ≤ 31 := by
    cases hf : findD k D with
    | none => simp
    | some xs => exact (h.2 _ (findD_mem hf)).2.2.2.1
  have O := fun X (hX : Below w.heap.size w X) => OfL bS bM j D k now vA vl X (SPG.below KL okL h hX) (hj.below hX)
  obtain ⟨b, hb⟩ : ∃ b, (findD k D).isSome = b := ⟨_, rfl⟩
  obtain ⟨xs, hxs⟩ : ∃ xs, (findD k D).getD [] = xs := ⟨_, rfl⟩
  simp only [hb, hxs] at O hlen ⊢
  have O := Lib.hid O
  have HL := Lib.hid hlen
  clear h hj hb hxs hlen
  have z0 := Lib.hid (heap_alloc_new w (.cells #[.string ⟨#[]⟩, .int .i64 0, .string ⟨#[]⟩, .slice none 0 0, .slice none 0 0, .slice none 0 0, .slice none 0 0, .int .i64 0] 45))
  go_enter Tryz.func35, Tryz.ntmps35
  go_wp2_with (first | (go_at_call 68; (with_reducible refine (O.out _ alloc_old).mono ?_); rintro e w1 ⟨Y3, Y4, Y5, Y6, yn3, yc3, yn4, yc4, yn5, yc5, yn6, yc6, rfl, hS1, h1⟩; have HS1 := Lib.hid hS1; have B1 := Lib.hid h1; clear h1 hS1; refine Hid.out ?_))
  refine Lib.hid ?_
  have BW := Lib.hid ((alloc_old (w := w) (o := .cells #[.string ⟨#[]⟩, .int .i64 0, .string ⟨#[]⟩, .slice none 0 0, .slice none 0 0, .slice none 0 0, .slice none 0 0, .int .i64 0] 45)).trans (B1.out.mono (by simp)))
  have Z1 := blk_below z0.out B1.out
  have hz1 := lt_blk Z1
  have zE := heap_alloc_new w1 (.cells #[.string k, .int .i64 2, .string ⟨#[]⟩, .slice Y3 yn3 yc3, .slice Y4 yn4 yc4, .slice Y5 yn5 yc5, .slice Y6 yn6 yc6, .int .i64 0] 45)
  have ZW := blk_below Z1 (alloc_old (w := w1) (o := .cells #[.string k, .int .i64 2, .string ⟨#[]⟩, .slice Y3 yn3 yc3, .slice Y4 yn4 yc4, .slice Y5 yn5 yc5, .slice Y6 yn6 yc6, .int .i64 0] 45))
  have SW := HS1.out.below (alloc_old (w := w1) (o := .cells #[.string k, .int .i64 2, .string ⟨#[]⟩, .slice Y3 yn3 yc3, .slice Y4 yn4 yc4, .slice Y5 yn5 yc5, .slice Y6 yn6 yc6, .int .i64 0] 45))
  have BWW := BW.out.trans ((alloc_old (w := w1) (o := .cells #[.string k, .int .i64 2, .string ⟨#[]⟩, .slice Y3 yn3 yc3, .slice Y4 yn4 yc4, .slice Y5 yn5 yc5, .slice Y6 yn6 yc6, .int .i64 0] 45)).mono (Below.size BW.out))
  go_wp2
  generalize (w1.alloc (.cells #[.string k, .int .i64 2, .string ⟨#[]⟩, .slice Y3 yn3 yc3, .slice Y4 yn4 yc4, .slice Y5 yn5 yc5, .slice Y6 yn6 yc6, .int .i64 0] 45)) = W at zE ZW SW BWW ⊢
  have K := Lib.hid (show ∀ X, Below W.heap.size W X → ((X.cell? ⟨w1.heap.size, 0, none⟩ = some (.string k) ∧ X.cell? ⟨w1.heap.size, 1, none⟩ = some (.int .i64 2) ∧ X.cell? ⟨w1.heap.size, 2, none⟩ = some (.string ⟨#[]⟩) ∧ X.cell? ⟨w1.heap.size, 3, none⟩ = some (.slice Y3 yn3 yc3) ∧ X.cell? ⟨w1.heap.size, 4, none⟩ = some (.slice Y4 yn4 yc4) ∧ X.cell? ⟨w1.heap.size, 5, none⟩ = some (.slice Y5 yn5 yc5) ∧ X.cell? ⟨w1.heap.size, 6, none⟩ = some (.slice Y6 yn6 yc6) ∧ X.cell? ⟨w1.heap.size, 7, none⟩ = some (.int .i64 0)) ∧ Below W.heap.size W X) from fun X hb => ⟨(cells8 (blk_below zE hb)).1, hb⟩)
  have S0 := K.out W.drew (Below.refl W.heap.size W).drew
  have hne : w1.heap.size ≠ w.heap.size := by omega
  have ST := Lib.hid (show ∀ (X : World) (v0 v1 v2 v3 v4 v5 v6 v7 : Value), ((X.cell? ⟨w1.heap.size, 0, none⟩ = some (.string k) ∧ X.cell? ⟨w1.heap.size, 1, none⟩ = some (.int .i64 2) ∧ X.cell? ⟨w1.heap.size, 2, none⟩ = some (.string ⟨#[]⟩) ∧ X.cell? ⟨w1.heap.size, 3, none⟩ = some (.slice Y3 yn3 yc3) ∧ X.cell? ⟨w1.heap.size, 4, none⟩ = some (.slice Y4 yn4 yc4) ∧ X.cell? ⟨w1.heap.size, 5, none⟩ = some (.slice Y5 yn5 yc5) ∧ X.cell? ⟨w1.heap.size, 6, none⟩ = some (.slice Y6 yn6 yc6) ∧ X.cell? ⟨w1.heap.size, 7, none⟩ = some (.int .i64 0)) ∧ Below W.heap.size W X) → ((((((((((X.setCell ⟨w.heap.size, 0, none⟩ v0).setCell ⟨w.heap.size, 1, none⟩ v1).setCell ⟨w.heap.size, 2, none⟩ v2).setCell ⟨w.heap.size, 3, none⟩ v3).setCell ⟨w.heap.size, 4, none⟩ v4).setCell ⟨w.heap.size, 5, none⟩ v5).setCell ⟨w.heap.size, 6, none⟩ v6).setCell ⟨w.heap.size, 7, none⟩ v7).cell? ⟨w1.heap.size, 0, none⟩ = some (.string k) ∧ ((((((((X.setCell ⟨w.heap.size, 0, none⟩ v0).setCell ⟨w.heap.size, 1, none⟩ v1).setCell ⟨w.heap.size, 2, none⟩ v2).setCell ⟨w.heap.size, 3, none⟩ v3).setCell ⟨w.heap.size, 4, none⟩ v4).setCell ⟨w.heap.size, 5, none⟩ v5).setCell ⟨w.heap.size, 6, none⟩ v6).setCell ⟨w.heap.size, 7, none⟩ v7).cell? ⟨w1.heap.size, 1, none⟩ = some (.int .i64 2) ∧ ((((((((X.setCell ⟨w.heap.size, 0, none⟩ v0).setCell ⟨w.heap.size, 1, none⟩ v1).setCell ⟨w.heap.size, 2, none⟩ v2).setCell ⟨w.heap.size, 3, none⟩ v3).setCell ⟨w.heap.size, 4, none⟩ v4).setCell ⟨w.heap.size, 5, none⟩ v5).setCell ⟨w.heap.size, 6, none⟩ v6).setCell ⟨w.heap.size, 7, none⟩ v7).cell? ⟨w1.heap.size, 2, none⟩ = some (.string ⟨#[]⟩) ∧ ((((((((X.setCell ⟨w.heap.size, 0, none⟩ v0).setCell ⟨w.heap.size, 1, none⟩ v1).setCell ⟨w.heap.size, 2, none⟩ v2).setCell ⟨w.heap.size, 3, none⟩ v3).setCell ⟨w.heap.size, 4, none⟩ v4).setCell ⟨w.heap.size, 5, none⟩ v5).setCell ⟨w.heap.size, 6, none⟩ v6).setCell ⟨w.heap.size, 7, none⟩ v7).cell? ⟨w1.heap.size, 3, none⟩ = some (.slice Y3 yn3 yc3) ∧ ((((((((X.setCell ⟨w.heap.size, 0, none⟩ v0).setCell ⟨w.heap.size, 1, none⟩ v1).setCell ⟨w.heap.size, 2, none⟩ v2).setCell ⟨w.heap.size, 3, none⟩ v3).setCell ⟨w.heap.size, 4, none⟩ v4).setCell ⟨w.heap.size, 5, none⟩ v5).setCell ⟨w.heap.size, 6, none⟩ v6).setCell ⟨w.heap.size, 7, none⟩ v7).cell? ⟨w1.heap.size, 4, none⟩ = some (.slice Y4 yn4 yc4) ∧ ((((((((X.setCell ⟨w.heap.size, 0, none⟩ v0).setCell ⟨w.heap.size, 1, none⟩ v1).setCell ⟨w.heap.size, 2, none⟩ v2).setCell ⟨w.heap.size, 3, none⟩ v3).setCell ⟨w.heap.size, 4, none⟩ v4).setCell ⟨w.heap.size, 5, none⟩ v5).setCell ⟨w.heap.size, 6, none⟩ v6).setCell ⟨w.heap.size, 7, none⟩ v7).cell? ⟨w1.heap.size, 5, none⟩ = some (.slice Y5 yn5 yc5) ∧ ((((((((X.setCell ⟨w.heap.size, 0, none⟩ v0).setCell ⟨w.heap.size, 1, none⟩ v1).setCell ⟨w.heap.size, 2, none⟩ v2).setCell ⟨w.heap.size, 3, none⟩ v3).setCell ⟨w.heap.size, 4, none⟩ v4).setCell ⟨w.heap.size, 5, none⟩ v5).setCell ⟨w.heap.size, 6, none⟩ v6).setCell ⟨w.heap.size, 7, none⟩ v7).cell? ⟨w1.heap.size, 6, none⟩ = some (.slice Y6 yn6 yc6) ∧ ((((((((X.setCell ⟨w.heap.size, 0, none⟩ v0).setCell ⟨w.heap.size, 1, none⟩ v1).setCell ⟨w.heap.size, 2, none⟩ v2).setCell ⟨w.heap.size, 3, none⟩ v3).setCell ⟨w.heap.size, 4, none⟩ v4).setCell ⟨w.heap.size, 5, none⟩ v5).setCell ⟨w.heap.size, 6, none⟩ v6).setCell ⟨w.heap.size, 7, none⟩ v7).cell? ⟨w1.heap.size, 7, none⟩ = some (.int .i64 0))) from fun X v0 v1 v2 v3 v4 v5 v6 v7 hX => (cells8 ((far8b hne _ _ _ _ _ _ _ _).trans (blk_below zE hX.2))).1)
  have R5 := Lib.hid (ROf _ xs HL.out W.drew (SW.below (Below.refl W.heap.size W).drew))
  have Z5 := Lib.hid ZW
  have B5W := Lib.hid BWW
  clear zE ZW SW BWW Z1
  go_region_held3 (fun X => X.cell? ⟨w1.heap.size, 0, none⟩ = some (.string k) ∧ X.cell? ⟨w1.heap.size, 1, none⟩ = some (.int .i64 2) ∧ X.cell? ⟨w1.heap.size, 2, none⟩ = some (.string ⟨#[]⟩) ∧ X.cell? ⟨w1.heap.size, 3, none⟩ = some (.slice Y3 yn3 yc3) ∧ X.cell? ⟨w1.heap.size, 4, none⟩ = some (.slice Y4 yn4 yc4) ∧ X.cell? ⟨w1.heap.size, 5, none⟩ = some (.slice Y5 yn5 yc5) ∧ X.cell? ⟨w1.heap.size, 6, none⟩ = some (.slice Y6 yn6 yc6) ∧ X.cell? ⟨w1.heap.size, 7, none⟩ = some (.int .i64 0)) (first | (with_reducible exact S0.1) | (with_reducible exact S5.out.1) | (refine ST.out _ _ _ _ _ _ _ _ _ ?_; with_reducible exact S5.out))
    (first | (go_at_call 55; (with_reducible refine (R5.out).mono ?_); rintro e w5 ⟨p, l, rfl, hR5, hb5⟩; have B5 := belT (Below.refl W.heap.size W).drew hb5; have S5 := Lib.hid (K.out _ B5); obtain ⟨⟨c0, c1, c2, c3, c4, c5, c6, c7⟩, ⟨f0, f1, f2, f3, f4, f5, f6, f7⟩, zz⟩ := cells8 (blk_below Z5.out B5)))
  have hR6 := Lib.hid hR5
  have B6 := Lib.hid (B5W.out.trans (B5.mono (Below.size B5W.out)))
  have hw5 := Lib.hid (show w.heap.size < W.drew.heap.size from lt_blk Z5.out)
  clear hR5 hb5 B5
  go_wp2
  exact bodyPost_ret (v := .tuple #[.agg #[.string k, .int .i64 2, .string ⟨#[]⟩, .slice Y3 yn3 yc3, .slice Y4 yn4 yc4, .slice Y5 yn5 yc5, .slice Y6 yn6 yc6, .int .i64 0], .pointer (some ⟨p, 0, none⟩), .bool b]) (by simp [results, Tryz.results35, go_sem, c0, c1, c2, c3, c4, c5, c6, c7]) rfl ⟨Y3, Y4, Y5, Y6, yn3, yc3, yn4, yc4, yn5, yc5, yn6, yc6, p, l, rfl, (hR6.out.kept (fun i hi _ => far8b (by have := hw5.out; omega) _ _ _ _ _ _ _ _)).mono (Nat.le_of_lt hw5.out), ((((((((B6.out.setCell (Nat.le_refl _) _).setCell (Nat.le_refl _) _).setCell (Nat.le_refl _) _).setCell (Nat.le_refl _) _).setCell (Nat.le_refl _) _).setCell (Nat.le_refl _) _).setCell (Nat.le_refl _) _).setCell (Nat.le_refl _) _)⟩
end Go.Proofs.YtjljljjmdlddkaaGreat
