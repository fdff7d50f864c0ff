/- Contracts of Queue. -/
import Derived.Test.YtnfflkappbjoeaaDoorSe8
namespace Go.Proofs.YtnfflkappbjoeaaDoor
open Go.ChangeShapes Go.WideShapes Go.ChangeAt Go.RowKit Go.Resp

theorem Tryd.info26 : (Tryd.prog.info? 26).map (fun i => (i.zero, i.size, i.bytes)) = some (some (.slice none 0 0), 1, 24) := by kernel_rfl
theorem lt_of_cell {w : World} {b i : Nat} {v : Value} (h : w.cell? ⟨b, i, none⟩ = some v) : b < w.heap.size := by
  rcases Nat.lt_or_ge b w.heap.size with hb | hb
  · exact hb
  · unfold World.cell? at h
    simp only [Array.getElem?_eq_none hb] at h
    cases h
theorem Blk.setFar {w : World} {g : Nat} {t : TypeId} {cs : Array Value} (h : Blk w g t cs) {b : Nat} (hb : g ≠ b) (i : Nat) (u : Value) : Blk (w.setCell ⟨b, i, none⟩ u) g t cs := (Below.heap_setCell w ⟨b, i, none⟩ u g hb).trans h
theorem QSl.four {c : Nat} {w : World} {q : Value} {n : Nat} (h : QSl c w q n) {g : Nat} (hg : Blk w g 40 rep0) (v0 v1 v2 v3 : Value) : QSl c ((((w.setCell ⟨g, 0, none⟩ v0).setCell ⟨g, 1, none⟩ v1).setCell ⟨g, 2, none⟩ v2).setCell ⟨g, 3, none⟩ v3) q n := by
  obtain ⟨xs, h1, h2⟩ := h
  refine ⟨xs, h1, ?_⟩
  rcases h2 with h2 | ⟨g', cap, cur, r1, r2, r3, r4⟩
  · exact .inl h2
  · have hne : g' ≠ g := by
      rintro rfl
      unfold Blk at hg
      rw [hg] at r3
      injection r3 with r3
      injection r3 with _ r3
      cases r3
    refine .inr ⟨g', cap, cur, r1, r2, ?_, r4⟩
    rw [Below.heap_setCell _ ⟨g, 3, none⟩ v3 g' hne, Below.heap_setCell _ ⟨g, 2, none⟩ v2 g' hne, Below.heap_setCell _ ⟨g, 1, none⟩ v1 g' hne, Below.heap_setCell _ ⟨g, 0, none⟩ v0 g' hne]
    exact r3
/-- The queue is full. -/
theorem Queue_full (b c ab ao n cap : Nat) (hbc : b < c) (q0 k2 k3 k4 vin vout br mu sp : Value) (w : World) (h : Ses w b #[vin, vout, br, mu, sp, q0, k2, k3, k4]) (hq : QSl c w q0 n) (hn : 256 ≤ n) (ha : w.cell? ⟨ab, ao, none⟩ = some (.string GET)) (hc : c ≤ w.heap.size) :
    Calls Tryd.prog 13 #[.pointer (some ⟨b, 0, none⟩), .slice (some ⟨ab, ao, none⟩) 2 cap] w fun e w' => e = .returned (replyV 2 8 ⟨#[]⟩) ∧ Ses w' b #[vin, vout, br, mu, .bool true, q0, k2, k3, k4] ∧ QSl c w' q0 n ∧ But b c w w' := by
  have hlt := h.lt
  have O := Lib.hid (fun w => Err14 8 w)
  unfold replyV at O
  have hab : ab < w.heap.size := lt_of_cell ha
  have FG0 := Fits_get ⟨ab, ao, none⟩ (.slice (some ⟨ab, ao, none⟩) 2 cap) 2 cap rfl (w.alloc (.cells rep0 40)) rfl (by rw [World.cell?_alloc_lt w _ ⟨ab, ao, none⟩ hab]; exact ha)
  unfold rep0 at FG0
  have FG := Lib.hid FG0
  have HS := Lib.hid h
  have HQ := Lib.hid hq
  obtain ⟨A, qc, rfl⟩ := hq.form
  have hn' : (256 : Int) ≤ (n : Int) := by omega
  clear h hq ha FG0
  go_enter Tryd.func13, Tryd.ntmps13
  go_wp2_with (first | (go_at_call 21; (with_reducible refine FG.out.mono ?_); rintro e w1 ⟨rfl, hb1⟩; refine Hid.out ?_))
  have HR := Blk.below (blk_new w w.heap.size rfl 40 rep0) hb1
  have hrl := HR.lt
  have HS1 := Lib.hid ((HS.out.alloc _).below hb1)
  have HQ1 := Lib.hid ((HQ.out.below ((Below.refl _ _).alloc (Nat.le_refl _) _)).below hb1)
  have HB1 := Lib.hid ((But.refl b c w).allocFar hc _ |>.trans (But.of (hb1.mono (by simp; omega))))
  obtain ⟨_, _, _, _, c4, c5, _, _, _, _, f4, f5⟩ := HS1.out.all
  clear hb1
  refine Lib.hid ?_
  go_wp2_with (first | (go_at_call 19; (with_reducible refine (O.out _).mono ?_); rintro e w2 ⟨rfl, hb2⟩; refine Hid.out ?_))
  have HS2 := Lib.hid ((HS1.out.set_ 4 (.bool true)).below hb2)
  have HQ2 := Lib.hid ((HQ1.out.set_ hbc 4 (.bool true)).below hb2)
  have HR2 := (HR.setFar (b := b) (by omega) 4 (.bool true)).below hb2
  have HRH := Lib.hid HR2
  have hrl2 := HR2.lt
  have HB2 := Lib.hid ((HB1.out.set_ 4 (.bool true)).trans (But.of (hb2.mono (by simp; omega))))
  obtain ⟨r0, r1, r2, r3, s0, s1, s2, s3⟩ := HR2.all4
  clear hb2 HR HR2 c4 c5 f4 f5
  refine Lib.hid ?_
  go_wp2
  exact bodyPost_ret (v := replyV 2 8 ⟨#[]⟩) (by simp [results, Tryd.results13, go_sem, r0, r1, r2, r3]; rfl) rfl ⟨rfl, HS2.out.four (by omega) _ _ _ _, HQ2.out.four HRH.out _ _ _ _, HB2.out.four hc _ _ _ _⟩
/-- A command that does not fit. -/
theorem Queue_one (b c ab ao n cap : Nat) (hbc : b < c) (q0 k2 k3 k4 vin vout br mu sp : Value) (w : World) (h : Ses w b #[vin, vout, br, mu, sp, q0, k2, k3, k4]) (hq : QSl c w q0 n) (ha : w.cell? ⟨ab, ao, none⟩ = some (.string GET)) (hc : c ≤ w.heap.size) :
    Calls Tryd.prog 13 #[.pointer (some ⟨b, 0, none⟩), .slice (some ⟨ab, ao, none⟩) 1 cap] w fun e w' => e = .returned (replyV 2 2 ⟨#[]⟩) ∧ Ses w' b #[vin, vout, br, mu, .bool true, q0, k2, k3, k4] ∧ QSl c w' q0 n ∧ But b c w w' := by
  have hlt := h.lt
  have O := Lib.hid (fun w => Err14 2 w)
  unfold replyV at O
  have hab : ab < w.heap.size := lt_of_cell ha
  have FG0 := Fits_one ⟨ab, ao, none⟩ (.slice (some ⟨ab, ao, none⟩) 1 cap) 1 cap rfl (w.alloc (.cells rep0 40)) rfl (by rw [World.cell?_alloc_lt w _ ⟨ab, ao, none⟩ hab]; exact ha)
  unfold rep0 at FG0
  have FG := Lib.hid FG0
  have HS := Lib.hid h
  have HQ := Lib.hid hq
  obtain ⟨A, qc, rfl⟩ := hq.form
  clear h hq ha FG0
  go_enter Tryd.func13, Tryd.ntmps13
  go_wp2_with (first | (go_at_call 21; (with_reducible refine FG.out.mono ?_); rintro e w1 ⟨rfl, hb1⟩; refine Hid.out ?_))
  have HR := Blk.below (blk_new w w.heap.size rfl 40 rep0) hb1
  have hrl := HR.lt
  have HS1 := Lib.hid ((HS.out.alloc _).below hb1)
  have HQ1 := Lib.hid ((HQ.out.below ((Below.refl _ _).alloc (Nat.le_refl _) _)).below hb1)
  have HB1 := Lib.hid ((But.refl b c w).allocFar hc _ |>.trans (But.of (hb1.mono (by simp; omega))))
  obtain ⟨_, _, _, _, c4, c5, _, _, _, _, f4, f5⟩ := HS1.out.all
  clear hb1
  refine Lib.hid ?_
  go_wp2_with (first | (go_at_call 19; (with_reducible refine (O.out _).mono ?_); rintro e w2 ⟨rfl, hb2⟩; refine Hid.out ?_))
  have HS2 := Lib.hid ((HS1.out.set_ 4 (.bool true)).below hb2)
  have HQ2 := Lib.hid ((HQ1.out.set_ hbc 4 (.bool true)).below hb2)
  have HR2 := (HR.setFar (b := b) (by omega) 4 (.bool true)).below hb2
  have HRH := Lib.hid HR2
  have hrl2 := HR2.lt
  have HB2 := Lib.hid ((HB1.out.set_ 4 (.bool true)).trans (But.of (hb2.mono (by simp; omega))))
  obtain ⟨r0, r1, r2, r3, s0, s1, s2, s3⟩ := HR2.all4
  clear hb2 HR HR2 c4 c5 f4 f5
  refine Lib.hid ?_
  go_wp2
  exact bodyPost_ret (v := replyV 2 2 ⟨#[]⟩) (by simp [results, Tryd.results13, go_sem, r0, r1, r2, r3]; rfl) rfl ⟨rfl, HS2.out.four (by omega) _ _ _ _, HQ2.out.four HRH.out _ _ _ _, HB2.out.four hc _ _ _ _⟩
set_option maxRecDepth 100000 in
set_option maxHeartbeats 1000000 in
/-- There is room. -/
theorem Queue_ok (b c ab ao n cap : Nat) (hbc : b < c) (q0 k2 k3 k4 vin vout br mu sp : Value) (w : World) (h : Ses w b #[vin, vout, br, mu, sp, q0, k2, k3, k4]) (hq : QSl c w q0 n) (hn : n < 256) (ha : w.cell? ⟨ab, ao, none⟩ = some (.string GET)) (ha2 : w.cell? ⟨ab, ao + 1, none⟩ = some (.string ⟨#[107]⟩)) (hc : c ≤ w.heap.size) :
    Calls Tryd.prog 13 #[.pointer (some ⟨b, 0, none⟩), .slice (some ⟨ab, ao, none⟩) 2 cap] w fun e w' => e = .returned (replyV 1 0 ⟨#[81, 85, 69, 85, 69, 68]⟩) ∧ ∃ q1, Ses w' b #[vin, vout, br, mu, sp, q1, k2, k3, k4] ∧ QSl c w' q1 (n + 1) ∧ But b c w w' := by
  have hlt := h.lt
  have O := Lib.hid (fun w => Simple18 ⟨#[81, 85, 69, 85, 69, 68]⟩ w)
  unfold replyV at O
  have hab : ab < w.heap.size := lt_of_cell ha
  have FG0 := Fits_get ⟨ab, ao, none⟩ (.slice (some ⟨ab, ao, none⟩) 2 cap) 2 cap rfl (w.alloc (.cells rep0 40)) rfl (by rw [World.cell?_alloc_lt w _ ⟨ab, ao, none⟩ hab]; exact ha)
  unfold rep0 at FG0
  have FG := Lib.hid FG0
  have HS := Lib.hid h
  have HQ := Lib.hid hq
  obtain ⟨A, qc, rfl⟩ := hq.form
  have hn' : (n : Int) < 256 := by omega
  have HA := Lib.hid (And.intro ha ha2)
  clear h hq ha ha2 FG0
  go_enter Tryd.func13, Tryd.ntmps13
  go_wp2_with (first | (go_at_call 21; (with_reducible refine FG.out.mono ?_); rintro e w1 ⟨rfl, hb1⟩; refine Hid.out ?_))
  have HR := Blk.below (blk_new w w.heap.size rfl 40 rep0) hb1
  have hrl := HR.lt
  have HS1 := Lib.hid ((HS.out.alloc _).below hb1)
  have HQ1 := Lib.hid ((HQ.out.below ((Below.refl _ _).alloc (Nat.le_refl _) _)).below hb1)
  have HB1 := Lib.hid ((But.refl b c w).allocFar hc _ |>.trans (But.of (hb1.mono (by simp; omega))))
  have AB := Lib.hid (show w1.cell? ⟨ab, ao, none⟩ = some (.string GET) ∧ w1.cell? ⟨ab, ao + 1, none⟩ = some (.string ⟨#[107]⟩) from ⟨(hb1.cell (p := ⟨ab, ao, none⟩) (by show ab < _; simp; omega)).trans (by rw [World.cell?_alloc_lt w _ ⟨ab, ao, none⟩ hab]; exact HA.out.1), (hb1.cell (p := ⟨ab, ao + 1, none⟩) (by show ab < _; simp; omega)).trans (by rw [World.cell?_alloc_lt w _ ⟨ab, ao + 1, none⟩ hab]; exact HA.out.2)⟩)
  obtain ⟨_, _, _, _, c4, c5, _, _, _, _, f4, f5⟩ := HS1.out.all
  clear hb1
  refine Lib.hid ?_
  go_wp2_with fail
  obtain ⟨i0, hi, hz0, hz1, hz2⟩ := info_parts Tryd.info26
  obtain ⟨xs, hxs⟩ := HQ1.out
  have hcw : c ≤ w1.heap.size := Nat.le_trans hc (Nat.le_of_lt hrl)
  have hbw : b < w1.heap.size := HS1.out.lt
  have S0 : w1.drew.cell? ⟨b, 5, none⟩ = some (.slice A n qc) := c5
  have SK := Lib.hid (show ∀ wb : World, Below w1.drew.heap.size w1.drew wb → wb.cell? ⟨b, 5, none⟩ = some (.slice A n qc) from fun wb q3 => (q3.cell (p := ⟨b, 5, none⟩) hbw).trans c5)
  have SA := Lib.hid (show ∀ (wa : World) o, wa.cell? ⟨b, 5, none⟩ = some (.slice A n qc) → (wa.alloc o).cell? ⟨b, 5, none⟩ = some (.slice A n qc) from
    fun wa o h => (World.cell?_alloc_lt wa o ⟨b, 5, none⟩ (lt_of_cell h)).trans h)
  have hob : some b ≠ (Value.slice A n qc).ownBlock := by
    rcases hxs.2 with ⟨h, _⟩ | ⟨g, cap, cur, r1, r2, r3, r4⟩
    · rw [h]; simp [Value.ownBlock]
    · rw [r1]; simp [Value.ownBlock]; omega
  have SG := Lib.hid (show ∀ (wa wz : World), wa.grownBy wz (Value.slice A n qc).ownBlock → wa.cell? ⟨b, 5, none⟩ = some (.slice A n qc) → wz.cell? ⟨b, 5, none⟩ = some (.slice A n qc) from
    fun wa wz hg h => (hg.cell_far ⟨b, 5, none⟩ (lt_of_cell h) hob).trans h)
  have OWN := Lib.hid (show ∀ X, Below w1.drew.heap.size w1.drew X → ∀ o, (X.alloc o).ownsRow c 26 1 (.slice A n qc) n xs from fun X hX o => by
    refine ⟨hxs.1, ?_⟩
    rcases hxs.2 with h | ⟨g, cap, cur, r1, r2, r3, r4⟩
    · exact .inl h
    · have hg := lt_of_block r3
      exact .inr ⟨g, cap, cur, r1, r2, ((Below.heap_alloc X o g (Nat.lt_of_lt_of_le hg hX.size)).trans (hX.block g hg)).trans r3, r4⟩)
  have HBX := Lib.hid (show ∀ X, Below w1.drew.heap.size w1.drew X → ∀ o, c ≤ (X.alloc o).heap.size from fun X hX o => by
    have := hX.size
    have e : w1.drew.heap.size = w1.heap.size := rfl
    simp
    omega)
  have CL := Lib.hid (Clone17 ab ao 2 cap [.string GET, .string ⟨#[107]⟩] (by omega) (by omega) rfl w1.drew (by show ab < w1.heap.size; omega) (fun j u hj => by
      have h1 := AB.out
      match j, hj with
      | 0, hj => cases hj; exact h1.1
      | 1, hj => cases hj; exact h1.2) (fun u hu => by
      simp at hu
      rcases hu with rfl | rfl <;> rfl))
  have SF := Lib.hid (show ∀ X, Below w1.drew.heap.size w1.drew X → ∀ o (wz : World), (X.alloc o).grownBy wz (Value.slice A n qc).ownBlock → wz.frozen? ⟨b, 5, none⟩ = false from fun X hX o wz hg => by
    have e : w1.drew.heap.size = w1.heap.size := rfl
    have hs := hX.size
    rw [hg.frozen_far ⟨b, 5, none⟩ (by simp; omega) hob]
    refine (World.frozen?_of_block (Below.heap_alloc X o b (by omega))).trans ?_
    exact (World.frozen?_of_block (hX.block b (by omega))).trans f5)
  have WK := Lib.hid (show ∀ X, Below w1.drew.heap.size w1.drew X → ∀ o (wz : World) (v : Value) (ys : List Value), wz.ownsRow c 26 1 v (n + 1) ys → (X.alloc o).grownBy wz (Value.slice A n qc).ownBlock → QSl c wz v (n + 1) ∧ But b c w1 wz ∧ Ses wz b #[vin, vout, br, mu, sp, .slice A n qc, k2, k3, k4] ∧ Blk wz w.heap.size 40 rep0 from fun X hX o wz v ys hown hg => by
    have e : w1.drew.heap.size = w1.heap.size := rfl
    have hs := hX.size
    have hkeep : ∀ k, k < w1.heap.size → some k ≠ (Value.slice A n qc).ownBlock → wz.heap[k]? = w1.heap[k]? := fun k hk hne =>
      ((hg.block k (by simp; omega) hne).trans (Below.heap_alloc X o k (by omega))).trans (hX.block k (by omega))
    refine ⟨⟨ys, hown⟩, ⟨hg.os.trans hX.os, hg.tape.trans hX.tape, hg.output.trans hX.output, by have := hg.size; simp at this; omega, fun k hk hne => hkeep k (by omega) ?_⟩, HS1.out.far (hkeep b hbw hob), (hkeep w.heap.size hrl ?_).trans HR⟩
    · rcases hxs.2 with ⟨h, _⟩ | ⟨g, cap, cur, r1, r2, r3, r4⟩
      · rw [h]; simp [Value.ownBlock]
      · rw [r1]; simp [Value.ownBlock]; omega
    · rcases hxs.2 with ⟨h, _⟩ | ⟨g, cap, cur, r1, r2, r3, r4⟩
      · rw [h]; simp [Value.ownBlock]
      · rw [r1]
        simp only [Value.ownBlock]
        intro e2
        injection e2 with e2
        unfold Blk at HR
        rw [e2, r3] at HR
        injection HR with HR
        injection HR with _ HR
        cases HR)
  have HI := Lib.hid (And.intro hi (And.intro hz0 (And.intro hz1 hz2)))
  have HX := Lib.hid (And.intro hxs hob)
  have hm1 : 0 < 1 := Nat.one_pos
  have h63 : n + 1 ≤ maxLen := by unfold maxLen; omega
  have hby : (n + 1) * 24 ≤ 140737488355328 := by omega
  have HONE := Lib.hid (show ∀ (g k : Nat), ∀ u ∈ [Value.slice (some ⟨g, 0, none⟩) 2 k], u.oneCell' = true from fun g k u hu => by simp at hu; subst hu; rfl)
  clear hi hz0 hz1 hz2 hxs hob
  go_region_law (first | (refine step_append_lies _ rfl _ _ 22 rfl c 26 i0 (.slice none 0 0) 1 24 Tryd.underlying22 HI.out.1 HI.out.2.1 HI.out.2.2.1 HI.out.2.2.2 rfl hm1 _ n xs rfl (OWN.out _ hb5 _) ⟨_, 0, none⟩ 1 1 [.slice (some ⟨g5, 0, none⟩) 2 cap5] rfl rfl (World.news_of_block (heap_alloc_new _ _)) (HONE.out g5 cap5) hm1 h63 hby (HBX.out _ hb5 _) _ rfl ?_; intro g6 cap6 w6 hown6 hgrow6 hat6 hlt6; have f6 := SF.out _ hb5 _ _ hgrow6; have c6 := SG.out _ _ hgrow6 (SA.out _ _ (SK.out _ hb5)); have HW6 := Lib.hid (WK.out _ hb5 _ _ _ _ hown6 hgrow6); clear hown6 hat6) | (go_simp; go_at_call 22; refine CL.out.mono ?_; rintro e w5 ⟨g5, cap5, rfl, hb5⟩; have c5w := SK.out _ hb5; have z5 := lt_of_cell c5w))
  all_goals (clear hgrow6 hb5 c5w z5 SF SG SA SK OWN HBX WK CL HONE h63 hby S0)
  all_goals
    go_wp2_with (first | (go_at_call 23; (with_reducible refine (O.out _).mono ?_); rintro e w7 ⟨rfl, hb7⟩; refine Hid.out ?_))
    have hc6 : c ≤ w6.heap.size := Nat.le_trans hcw HW6.out.2.1.size
    have HS7 := Lib.hid ((HW6.out.2.2.1.set_ 5 _).below hb7)
    have HQ7 := Lib.hid ((HW6.out.1.set_ hbc 5 _).below hb7)
    have HR7 := (HW6.out.2.2.2.setFar (b := b) (by omega) 5 _).below hb7
    have HRH := Lib.hid HR7
    have HB7 := Lib.hid (HB1.out.trans ((HW6.out.2.1.set_ 5 _).trans (But.of (hb7.mono (by simp; omega)))))
    obtain ⟨r0, r1, r2, r3, s0, s1, s2, s3⟩ := HR7.all4
    clear hb7 HR7 c6 f6 c5 f5 c4 f4
    refine Lib.hid ?_
    go_wp2
    exact bodyPost_ret (v := replyV 1 0 ⟨#[81, 85, 69, 85, 69, 68]⟩) (by simp [results, Tryd.results13, go_sem, r0, r1, r2, r3]; rfl) rfl ⟨rfl, _, HS7.out.four (by omega) _ _ _ _, HQ7.out.four HRH.out _ _ _ _, HB7.out.four hc _ _ _ _⟩
end Go.Proofs.YtnfflkappbjoeaaDoor
