/- Texts joined: Sb, Sc, Sd, V2S -/
import Derived.Test.YticlacjpgjkhcaaGreatDoorQs22
import Derived.Test.YticlacjpgjkhcaaGreatDoorQs19
import Derived.Test.YticlacjpgjkhcaaGreatDoorQs9
import Derived.Test.YticlacjpgjkhcaaGreatDoorQs13
import Derived.Sort.Walk0
set_option linter.unusedVariables false
set_option linter.unusedSimpArgs false

/- A skip list: one node less. -/
namespace Go.Proofs.YticlacjpgjkhcaaGreatDoor
open Go.ChangeShapes Go.WideShapes Go.ChangeAt Go.RowKit

/-- In the midst of taking a node out. -/
structure InR (W wk : World) (c : Nat) (hd nd : Nd) (A B : List Nd) (k : Nat) : Prop where
  nodes : ∀ z ∈ hd :: (A ++ nd :: B), NdIn wk c z
  done : ∀ j, j < k → LvM wk j (hd :: (A ++ B))
  rest : ∀ j, k ≤ j → j < 20 → LvM wk j (hd :: (A ++ nd :: B))
  far : FarN W wk
  below : Below c W wk
theorem InR.drew {W wk : World} {c : Nat} {hd nd : Nd} {A B : List Nd} {k : Nat} (h : InR W wk c hd nd A B k) : InR W wk.drew c hd nd A B k :=
  ⟨fun z hz => (h.nodes z hz).below (Below.refl _ _).drew, fun j hj => (h.done j hj).congr fun y hy => ⟨rfl, rfl⟩, fun j h1 h2 => (h.rest j h1 h2).congr fun y hy => ⟨rfl, rfl⟩, h.far, h.below.drew⟩
/-- Nodes other than two stand in other blocks. -/
theorem far_of {wr : World} {c : Nat} {hd y nd : Nd} {A B P T : List Nd} (hN : ∀ z ∈ hd :: (A ++ nd :: B), NdIn wr c z) (hap : Apart (hd :: (A ++ nd :: B))) (e : hd :: A = P ++ y :: T) : ∀ z ∈ P ++ (T ++ B), z.nx ≠ y.nx ∧ z.wd ≠ y.wd ∧ z.nx ≠ y.wd ∧ z.wd ≠ y.nx := fun z hz => by
  have eN9 : hd :: (A ++ nd :: B) = P ++ y :: (T ++ nd :: B) := by rw [← List.cons_append, e]; simp
  have hzN : z ∈ hd :: (A ++ nd :: B) := by
    rw [eN9]
    simp only [List.mem_append, List.mem_cons] at hz ⊢
    rcases hz with hz | hz | hz
    · exact .inl hz
    · exact .inr (.inr (.inl hz))
    · exact .inr (.inr (.inr (.inr hz)))
  obtain ⟨es1, u1, _⟩ := (hN z hzN).nxb
  obtain ⟨es2, u2, _⟩ := (hN z hzN).wdb
  have hyN : y ∈ hd :: (A ++ nd :: B) := by rw [eN9]; simp
  obtain ⟨cs1, q1, _⟩ := (hN y hyN).nxb
  obtain ⟨cs2, q2, _⟩ := (hN y hyN).wdb
  unfold Apart at hap
  rw [eN9] at hap
  obtain ⟨p1, p2, p3⟩ := List.pairwise_append.1 hap
  have hzy : z.nx ≠ y.nx ∧ z.wd ≠ y.wd := by
    simp only [List.mem_append] at hz
    rcases hz with hz | hz | hz
    · exact (p3 z hz y (by simp)).2
    · have := ((List.pairwise_cons.1 p2).1 z (by simp [hz])).2
      exact ⟨this.1.symm, this.2.symm⟩
    · have := ((List.pairwise_cons.1 p2).1 z (by simp [hz])).2
      exact ⟨this.1.symm, this.2.symm⟩
  exact ⟨hzy.1, hzy.2, fun e => (by rw [e, q2] at u1; cases u1), fun e => (by rw [e, q1] at u2; cases u2)⟩
theorem wz2 (d f : Nat) (h : d ≤ 100000) (g : f ≤ 100000) : wrap64 ((d : Int) + (f : Int)) = (d : Int) + (f : Int) ∧ wrap64 ((d : Int) + (f : Int) - 1) = (d : Int) + (f : Int) - 1 ∧ wrap64 ((d : Int) - 1) = (d : Int) - 1 := by
  unfold wrap64
  omega
set_option maxRecDepth 100000 in
set_option maxHeartbeats 40000000 in
theorem remove_any (c sp bM : Nat) (hd nd : Nd) (A B : List Nd) (made : Nat) (high : Int) (w : World) (hc : c ≤ w.heap.size) (hs : w.heap[sp]? = some (.cells #[.pointer (some ⟨hd.a, 0, none⟩), .map (some bM), .int .u64 (made : Nat), .int .i64 high] 197)) (h : SKm w c hd (A ++ nd :: B)) (hlen : (A ++ nd :: B).length ≤ 100000) (hA : ∀ y ∈ A, ltZ (y.name, y.score) (nd.name, nd.score) = true) (hB : ∀ y ∈ B, ltZ (y.name, y.score) (nd.name, nd.score) = false) : Calls Tryz.prog 175 #[.pointer (some ⟨sp, 0, none⟩), .agg #[.string nd.name, .int .i64 nd.score]] w fun e w' => e = .returned (.tuple #[]) ∧ SKm w' c hd (A ++ B) ∧ w'.heap[sp]? = some (.cells #[.pointer (some ⟨hd.a, 0, none⟩), .map (some bM), .int .u64 (made : Nat), .int .i64 high] 197) ∧ FarS w w' ∧ Below c w w' := by
  obtain ⟨W2, hW2⟩ : ∃ W2, w.alloc (.cells #[.string nd.name, .int .i64 nd.score] 52) = W2 := ⟨_, rfl⟩
  have b0 : Below w.heap.size w W2 := by rw [← hW2]; exact alloc_old
  have X2 := Lib.hid (show W2.heap[w.heap.size]? = some (.cells #[.string nd.name, .int .i64 nd.score] 52) by rw [← hW2]; exact heap_alloc_new w _)
  have B2 := Lib.hid b0
  have H2 := Lib.hid (h.below b0)
  have hnB : ∀ y ∈ nd :: B, ltZ (y.name, y.score) (nd.name, nd.score) = false := fun y hy => by
    rcases List.mem_cons.1 hy with rfl | hy
    · exact ltZ_irrefl _
    · exact hB y hy
  have AH := Lib.hid (show Calls Tryz.prog 179 #[.pointer (some ⟨sp, 0, none⟩), .agg #[.string nd.name, .int .i64 nd.score]] W2 _ from ahead_any c sp bM hd (A ++ nd :: B) A (nd :: B) made high (nd.name, nd.score) W2 (blk_below hs b0) H2.out rfl (by omega) hA hnB)
  have HS2 := Lib.hid (blk_below hs b0)
  obtain ⟨c0, c1⟩ := cells2z X2.out
  clear hnB b0 h hs
  go_enter Tryz.func175, Tryz.ntmps175
  go_wp2_with (first | (go_at_call 179; (with_reducible refine (AH.out).mono ?_); rintro e w3 ⟨LA, RA, rfl, hAL, h3⟩; have AL := Lib.hid hAL; have B3 := Lib.hid h3; clear hAL h3; refine Hid.out ?_))
  refine Lib.hid ?_
  obtain ⟨w4, wc, st1, st2, f1, f2, f3, f4⟩ := store_two w3 LA RA AL.out.1 AL.out.2.1 AL.out.one.1 AL.out.one.2
  have B5 := Lib.hid (B3.out.trans (f3.mono (Below.size B3.out)))
  have L6 := Lib.hid f1
  have R6 := Lib.hid f2
  have H6 := H2.out.below B5.out
  obtain ⟨y0, n0, hy0, _, hLast0⟩ := AL.out.2.2 0 (by decide)
  obtain ⟨P0, T0, e0, _, hyk0, hT0⟩ := hLast0
  have hT0n : T0 = [] := by
    cases T0 with
    | nil => rfl
    | cons z T => exact absurd (Nat.lt_of_lt_of_le Nat.zero_lt_one ((H6.nodes z (by
        rw [← List.cons_append, e0]; simp)).h1)) (hT0 z (by simp))
  subst hT0n
  have eN0 : hd :: (A ++ nd :: B) = P0 ++ y0 :: (nd :: B) := by rw [← List.cons_append, e0]; simp
  have hy0N : y0 ∈ hd :: (A ++ nd :: B) := by rw [eN0]; simp
  obtain ⟨a1, _⟩ := LvM.at (eN0 ▸ H6.lv 0 (by decide)) hyk0
  have hnd1 : 1 ≤ nd.h := (H6.nodes nd (by simp)).h1
  replace a1 : wc.cell? ⟨y0.nx, 0, none⟩ = some (.pointer (some ⟨nd.a, 0, none⟩)) := by
    rw [a1]
    unfold fstN
    rw [if_pos (by omega)]
    rfl
  obtain ⟨_, _, y2, _⟩ := ptr_cell (H6.nodes y0 hy0N)
  have hy0i : (0 : Int) < (y0.h : Int) := by omega
  have cl0 : wc.cell? ⟨w3.heap.size, 0, none⟩ = some (.pointer (some ⟨y0.a, 0, none⟩)) := (cell_of_row _ _ _ _ _ (0, 0) f1).trans hy0
  have I0 := Lib.hid (show InR wc wc c hd nd A B 0 from ⟨H6.nodes, fun j hj => by omega, fun j _ hj => H6.lv j hj, FarN.refl _, Below.refl _ _⟩)
  have HAP := Lib.hid H6.apart
  have HHD := Lib.hid H6.head
  have HLEN := Lib.hid hlen
  have zL := AL.out.1
  have zR := AL.out.2.1
  clear c0 c1 f1 f2 f3 f4 hT0 e0 eN0 hy0N hy0 hyk0 H6 hlen
  go_wp2
  clear zL zR a1 y2 hy0i cl0 st1 st2
  go_loopw [21] (fun kv wr => ∃ k : Nat, k ≤ 20 ∧ kv = .int .i64 k ∧ Hid (InR wc wr c hd nd A B k)) (fun kv _ => 20 - (intOf kv).toNat)
  case atStart => exact ⟨0, Nat.zero_le _, rfl, I0⟩
  case round =>
    obtain ⟨k, hk, rfl, HI⟩ := hrel
    by_cases hk20 : k < 20
    · obtain ⟨y, n, hy1, _, hLast⟩ := AL.out.2.2 k hk20
      obtain ⟨P, T, e, hPn, hyk, hT⟩ := hLast
      have eN : hd :: (A ++ nd :: B) = P ++ y :: (T ++ nd :: B) := by rw [← List.cons_append, e]; simp
      have L7 := HI.out.far _ _ L6.out (fun cs t e => by cases e; exact ⟨by decide, by decide⟩)
      have R7 := HI.out.far _ _ R6.out (fun cs t e => by cases e; exact ⟨by decide, by decide⟩)
      have cl : wr.cell? ⟨w3.heap.size, k, none⟩ = some (.pointer (some ⟨y.a, 0, none⟩)) := (cell_of_row _ _ _ _ _ (0, 0) L7).trans hy1
      have hyN : y ∈ hd :: (A ++ nd :: B) := by rw [eN]; simp
      have NY := HI.out.nodes y hyN
      have NN := HI.out.nodes nd (by simp)
      obtain ⟨_, _, y2, y3⟩ := ptr_cell NY
      obtain ⟨_, _, n2, n3⟩ := ptr_cell NN
      have hlv := HI.out.rest k (Nat.le_refl _) hk20
      obtain ⟨a1, a2⟩ := LvM.at (eN ▸ hlv) hyk
      obtain ⟨cs1, q1, z1⟩ := NY.nxb
      obtain ⟨cs2, q2, z2⟩ := NY.wdb
      have fa1 := frozen_of_row wr y.nx k _ _ q1
      have fa2 := frozen_of_row wr y.wd k _ _ q2
      obtain ⟨qa, hqa⟩ : ∃ q, ptrN (fstN k (T ++ nd :: B)) = .pointer q := by cases fstN k (T ++ nd :: B) <;> exact ⟨_, rfl⟩
      obtain ⟨d, hd9⟩ : ∃ d : Nat, dstN k (T ++ nd :: B) = d := ⟨_, rfl⟩
      rw [hqa] at a1
      rw [hd9] at a2
      have hself := far_of HI.out.nodes HAP.out e
      have ynn : y.nx ≠ nd.nx ∧ y.wd ≠ nd.wd := by
        have h9 := HAP.out
        unfold Apart at h9
        rw [eN] at h9
        have h8 := (List.pairwise_cons.1 (List.pairwise_append.1 h9).2.1).1 nd (by simp)
        exact ⟨h8.2.1, h8.2.2⟩
      have yyx : y.wd ≠ y.nx := fun e => by rw [e, q1] at q2; cases q2
      have hyi : (k : Int) < (y.h : Int) := by omega
      have k0 : (0 : Int) ≤ (k : Int) := by omega
      have k2 : (k : Int) < 20 := by omega
      have hdl : d ≤ 100000 := by
        have h8 := HLEN.out
        have h7 := dstN_le k (T ++ nd :: B)
        have h6 := congrArg List.length eN
        simp at h6 h7 h8
        omega
      have S0 : InS wr c w3.heap.size (hd :: (A ++ nd :: B)) LA RA := ⟨HI.out.nodes, L7, R7⟩
      by_cases hkn : k < nd.h
      · have hlvn : LvM wr k ((hd :: A) ++ nd :: B) := hlv
        obtain ⟨b1, b2⟩ := LvM.at hlvn hkn
        obtain ⟨q, hq⟩ : ∃ q, ptrN (fstN k B) = .pointer q := by cases fstN k B <;> exact ⟨_, rfl⟩
        obtain ⟨f, hf9⟩ : ∃ f : Nat, dstN k B = f := ⟨_, rfl⟩
        rw [hq] at b1
        rw [hf9] at b2
        have hki : (k : Int) < (nd.h : Int) := by omega
        have hfl : f ≤ 100000 := by
          have h8 := HLEN.out
          have h7 := dstN_le k B
          simp at h8
          omega
        obtain ⟨w1, w2, _⟩ := wz2 d f hdl hfl
        have nxt : nd.nx ≠ y.wd ∧ y.nx ≠ y.wd := ⟨fun e => (by obtain ⟨cs3, q3, _⟩ := NN.nxb; rw [e, q2] at q3; cases q3), yyx.symm⟩
        obtain ⟨X1, hX1⟩ : ∃ X1, wr.setCell ⟨y.wd, k, none⟩ (.int .i64 ((d : Int) + (f : Int) - 1)) = X1 := ⟨_, rfl⟩
        have S1 : InS X1 c w3.heap.size (hd :: (A ++ nd :: B)) LA RA := hX1 ▸ S0.set k _ q2 (.inr rfl)
        have q11 : X1.heap[y.nx]? = some (.cells cs1 195) := by rw [← hX1, Below.heap_setCell wr ⟨y.wd, k, none⟩ _ y.nx yyx.symm]; exact q1
        obtain ⟨X2, hX2⟩ : ∃ X2, X1.setCell ⟨y.nx, k, none⟩ (.pointer q) = X2 := ⟨_, rfl⟩
        have a11 : X1.cell? ⟨y.nx, k, none⟩ = some (.pointer qa) := (by rw [← hX1, cell_far yyx.symm]; exact a1)
        have I2 : InR wc X2 c hd nd A B (k + 1) := by
          refine ⟨(hX2 ▸ S1.set k _ q11 (.inl rfl)).nodes, fun j hj => ?_, fun j hj hj2 => ?_, ?_, ?_⟩
          · by_cases hjk : j = k
            · subst hjk
              have far4 : ∀ z ∈ P ++ (T ++ B), X2.cell? ⟨z.nx, j, none⟩ = wr.cell? ⟨z.nx, j, none⟩ ∧ X2.cell? ⟨z.wd, j, none⟩ = wr.cell? ⟨z.wd, j, none⟩ := fun z hz => by
                obtain ⟨g1, g2, g3, g4⟩ := hself z hz
                rw [← hX2, ← hX1]
                exact ⟨by rw [cell_far g1, cell_far g3], by rw [cell_far g4, cell_far g2]⟩
              have eN9 : hd :: (A ++ B) = P ++ y :: (T ++ B) := by rw [← List.cons_append, e]; simp
              rw [eN9]
              refine LvM.rem (w := wr) (x := nd) hT hyk (fun z hz => far4 z (by simp [hz])) (fun _ => ⟨?_, ?_⟩) (fun hn => absurd hkn hn) (fun z hz => far4 z (by simp [hz])) (eN ▸ hlv)
              · rw [← hX2, hq]
                exact cell_here a11
              · rw [← hX2, cell_far yyx, ← hX1, hd9, hf9]
                exact cell_here a2
            · rw [← hX2, ← hX1]
              exact ((HI.out.done j (by omega)).set hjk).set hjk
          · have hjk : j ≠ k := by omega
            rw [← hX2, ← hX1]
            exact ((HI.out.rest j (by omega) hj2).set hjk).set hjk
          · rw [← hX2]
            refine FarN.set2 ?_ q11 (.inl rfl)
            rw [← hX1]
            exact FarN.set2 HI.out.far q2 (.inr rfl)
          · rw [← hX2, ← hX1]
            exact (HI.out.below.setCell (p := ⟨y.wd, k, none⟩) NY.lw _).setCell (p := ⟨y.nx, k, none⟩) NY.ln _
        have I2 := Lib.hid I2
        obtain ⟨_, _, yb2, yb3⟩ := ptr_cell (S1.nodes y hyN)
        obtain ⟨_, _, nb2, nb3⟩ := ptr_cell (S1.nodes nd (by simp))
        have clb : X1.cell? ⟨w3.heap.size, k, none⟩ = some (.pointer (some ⟨y.a, 0, none⟩)) := (cell_of_row _ _ _ _ _ (0, 0) S1.la).trans hy1
        have b11 : X1.cell? ⟨nd.nx, k, none⟩ = some (.pointer q) := (by rw [← hX1, cell_far nxt.1]; exact b1)
        have g11 := frozen_of_row X1 y.nx k _ _ q11
        clear hqa hq hd9 hf9 hy1 eN e hyN NY NN hPn hyk hT q1 q2 z1 z2 L7 R7 S0 S1 q11 ynn nxt hlv hlvn hself yyx hdl hfl
        as_aux_lemma =>
        go_wp2
        go_region
        go_wp2_with fail
        go_region
        go_wp2_with fail
        exact ⟨⟨k + 1, by omega, by go_num, Lib.hid (by first | exact I2.out | exact I2.out.drew | exact I2.out.drew.drew | exact I2.out.drew.drew.drew)⟩, by simp [intOf]; omega⟩
      · have hki2 : ¬ (k : Int) < (nd.h : Int) := by omega
        obtain ⟨_, _, w1⟩ := wz2 d 0 hdl (by decide)
        obtain ⟨X1, hX1⟩ : ∃ X1, wr.setCell ⟨y.wd, k, none⟩ (.int .i64 ((d : Int) - 1)) = X1 := ⟨_, rfl⟩
        have I2 : InR wc X1 c hd nd A B (k + 1) := by
          refine ⟨(hX1 ▸ S0.set k _ q2 (.inr rfl)).nodes, fun j hj => ?_, fun j hj hj2 => ?_, ?_, ?_⟩
          · by_cases hjk : j = k
            · subst hjk
              have far4 : ∀ z ∈ P ++ (T ++ B), X1.cell? ⟨z.nx, j, none⟩ = wr.cell? ⟨z.nx, j, none⟩ ∧ X1.cell? ⟨z.wd, j, none⟩ = wr.cell? ⟨z.wd, j, none⟩ := fun z hz => by
                obtain ⟨g1, g2, g3, g4⟩ := hself z hz
                rw [← hX1]
                exact ⟨cell_far g3, cell_far g2⟩
              have eN9 : hd :: (A ++ B) = P ++ y :: (T ++ B) := by rw [← List.cons_append, e]; simp
              rw [eN9]
              refine LvM.rem (w := wr) (x := nd) hT hyk (fun z hz => far4 z (by simp [hz])) (fun hn => absurd hn hkn) (fun _ => ⟨?_, ?_⟩) (fun z hz => far4 z (by simp [hz])) (eN ▸ hlv)
              · rw [← hX1]
                exact cell_far yyx.symm
              · rw [← hX1, hd9]
                exact cell_here a2
            · rw [← hX1]
              exact (HI.out.done j (by omega)).set hjk
          · rw [← hX1]
            exact (HI.out.rest j (by omega) hj2).set (by omega)
          · rw [← hX1]
            exact FarN.set2 HI.out.far q2 (.inr rfl)
          · rw [← hX1]
            exact HI.out.below.setCell (p := ⟨y.wd, k, none⟩) NY.lw _
        have I2 := Lib.hid I2
        clear hqa hd9 hy1 eN e hyN NY NN hPn hyk hT q1 q2 z1 z2 L7 R7 S0 ynn hlv hself yyx hdl
        as_aux_lemma =>
        go_wp2
        exact ⟨⟨k + 1, by omega, by go_num, I2⟩, by simp [intOf]; omega⟩
    · obtain rfl : k = 20 := by omega
      go_wp2
      go_end0
      have hS6 := HI.out.far sp _ (blk_below HS2.out B5.out) (fun cs t e => by cases e; exact ⟨by decide, by decide⟩)
      have hz2 := Below.size B2.out
      have hA9 : Apart (hd :: (A ++ B)) := by
        have h9 := HAP.out
        unfold Apart at h9 ⊢
        exact h9.sublist (List.Sublist.cons_cons _ (List.Sublist.append (List.Sublist.refl _) (List.sublist_cons_self _ _)))
      exact ⟨rfl, ⟨fun z hz => HI.out.nodes z (by
        simp only [List.mem_cons, List.mem_append] at hz ⊢
        rcases hz with hz | hz | hz
        · exact .inl hz
        · exact .inr (.inl hz)
        · exact .inr (.inr (.inr hz))), hA9, HHD.out, fun j hj => HI.out.done j hj⟩, hS6, ((FarS.of B2.out).trans (FarS.of B5.out)).trans HI.out.far.toS, (((B2.out.mono hc)).trans (B5.out.mono (by omega))).trans HI.out.below⟩
end Go.Proofs.YticlacjpgjkhcaaGreatDoor

/- A set of names by scores: a name's score is set, a name is taken away. -/
namespace Go.Proofs.YticlacjpgjkhcaaGreatDoor
open Go.ChangeShapes Go.WideShapes Go.ChangeAt Go.RowKit

theorem DB.low {w w' : World} {c : Nat} (h : DB w) (hb : Below c w w') (h3 : 3 < c) : DB w' := fun j hj => (hb.cell (p := ⟨3, j, none⟩) h3).trans (h j hj)
/-- A name that is there stands at a node. -/
theorem split_at {L : List Nd} (hO : Ord (zN L)) {k : ByteArray} {s : Int} (hf : findD k (zN L) = some s) : ∃ A nd B, L = A ++ nd :: B ∧ nd.name = k ∧ nd.score = s ∧ (∀ y ∈ A, ltZ (y.name, y.score) (k, s) = true) ∧ (∀ y ∈ B, ltZ (y.name, y.score) (k, s) = false) := by
  have hm := findD_mem hf
  obtain ⟨nd, hnd, he⟩ := List.mem_map.1 hm
  obtain ⟨A, B, rfl⟩ := List.append_of_mem hnd
  have e1 : nd.name = k := congrArg Prod.fst he
  have e2 : nd.score = s := congrArg Prod.snd he
  have hO' : (zN A ++ (nd.name, nd.score) :: zN B).Pairwise fun a b => ltZ a b = true := by
    have : zN (A ++ nd :: B) = zN A ++ (nd.name, nd.score) :: zN B := by simp [zN]
    rw [← this]
    exact hO
  obtain ⟨_, p2, p3⟩ := List.pairwise_append.1 hO'
  rw [e1, e2] at p2 p3
  refine ⟨A, nd, B, rfl, e1, e2, fun y hy => p3 _ (List.mem_map.2 ⟨y, hy, rfl⟩) _ (by simp), fun y hy => ltZ_asymm ((List.pairwise_cons.1 p2).1 _ (List.mem_map.2 ⟨y, hy, rfl⟩))⟩
theorem zN_del {A B : List Nd} {nd : Nd} (hn : (namesD (zN (A ++ nd :: B))).Nodup) : zN (A ++ B) = delD nd.name (zN (A ++ nd :: B)) := by
  have e : zN (A ++ nd :: B) = zN A ++ (nd.name, nd.score) :: zN B := by simp [zN]
  have e2 : zN (A ++ B) = zN A ++ zN B := by simp [zN]
  rw [e] at hn ⊢
  rw [e2]
  clear e e2
  generalize zN A = X at hn ⊢
  induction X with
  | nil => simp [delD]
  | cons p r ih =>
    obtain ⟨a, b⟩ := p
    have h1 : a ≠ nd.name := by
      unfold namesD at hn
      rw [List.cons_append, List.map_cons, List.nodup_cons] at hn
      intro e
      exact hn.1 (by simp [e])
    have h2 : (namesD (r ++ (nd.name, nd.score) :: zN B)).Nodup := by
      unfold namesD at hn ⊢
      rw [List.cons_append, List.map_cons, List.nodup_cons] at hn
      exact hn.2
    rw [List.cons_append, List.cons_append]
    unfold delD
    rw [if_neg h1, ← ih h2]
theorem delZ_none (k : ByteArray) : ∀ (D : List (ByteArray × Int)), findD k D = none → delD k D = D
  | [], _ => rfl
  | (y, v) :: r, h => by
    by_cases hy : y = k
    · simp [findD, hy] at h
    · simp [findD, hy] at h
      simp [delD, hy, delZ_none k r h]
/-- A map alone has turned. -/
theorem SKm.grown {w w' : World} {c b : Nat} {hd : Nd} {L : List Nd} {es : Array MapEntry} {cl : Nat} (h : SKm w c hd L) (hb : w.heap[b]? = some (.map es cl)) (hg : ∀ i, i ≠ b → w'.heap[i]? = w.heap[i]?) : SKm w' c hd L := h.move fun i cs t hi _ => by
  by_cases e : i = b
  · subst e
    rw [hb] at hi
    cases hi
  · exact (hg i e).trans hi
/-- What a command's call on a set leaves: all cells but those of sets, rows of nodes, rows of numbers. -/
def FarP (w w' : World) : Prop := ∀ (i : Nat) (cs : Array Value) (t : TypeId), w.heap[i]? = some (.cells cs t) → t ≠ 197 → t ≠ 195 → t ≠ 3 → w'.heap[i]? = some (.cells cs t)
theorem FarP.refl (w : World) : FarP w w := fun _ _ _ h _ _ _ => h
theorem FarP.trans {w1 w2 w3 : World} (h : FarP w1 w2) (g : FarP w2 w3) : FarP w1 w3 := fun i cs t h1 a b d => g i cs t (h i cs t h1 a b d) a b d
theorem FarS.toP {w w' : World} (h : FarS w w') : FarP w w' := fun i cs t h1 a b d => h i _ h1 fun cs' t' e => by cases e; exact ⟨a, b, d⟩
theorem FarP.of {w w' : World} (h : Below w.heap.size w w') : FarP w w' := fun _ _ _ h1 _ _ _ => blk_below h1 h
theorem FarP.map {w w' : World} {b : Nat} {es : Array MapEntry} {cl : Nat} (hb : w.heap[b]? = some (.map es cl)) (hg : ∀ i, i ≠ b → w'.heap[i]? = w.heap[i]?) : FarP w w' := fun i cs t hi _ _ _ => by
  by_cases e : i = b
  · subst e
    rw [hb] at hi
    cases hi
  · exact (hg i e).trans hi
/-- The set with one name more, from its parts. -/
theorem SK.ins {w w' : World} {c sp bM : Nat} {hd nd : Nd} {A B : List Nd} {E : List (ByteArray × Int)} {made : Nat} {high : Int} {k : ByteArray} {s : Int} {Z : List (ByteArray × Int)} (hZ : Ord Z) (hZn : (namesD Z).Nodup) (hAB : zN (A ++ B) = delD k Z) (hsp : c ≤ sp) (hbM : c ≤ bM) (hE : (namesD E).Nodup) (hEs : ∀ n, findD n E = findD n Z) (hm : MapT.MB w bM ((putD k s E).map fun p => (p.1, .int .i64 p.2))) (hF : FarS w w') (hA : ∀ y ∈ A, ltZ (y.name, y.score) (k, s) = true) (hB : ∀ y ∈ B, ltZ (y.name, y.score) (k, s) = false) (h1 : nd.name = k) (h2 : nd.score = s) (h3 : made < 18446744073709551616) (hs : w'.heap[sp]? = some (.cells #[.pointer (some ⟨hd.a, 0, none⟩), .map (some bM), .int .u64 (made : Nat), .int .i64 high] 197)) (hk : SKm w' c hd (A ++ nd :: B)) : SK w' c sp (putZ k s Z) := by
  have e : zN (A ++ nd :: B) = putZ k s Z := by
    obtain ⟨e1, e2⟩ := split_lo hA hB
    unfold putZ insZ
    rw [← hAB, e1, e2]
    simp [zN, h1, h2]
  obtain ⟨o1, o2⟩ := hZ.put (k := k) (s := s) hZn
  refine ⟨bM, hd, A ++ nd :: B, putD k s E, made, high, ⟨hs, hsp, hbM, hF.map hm, nd_putD hE, fun n => ?_, hk, by rw [e]; exact o1, by rw [e]; exact o2, by omega⟩, e⟩
  rw [e, findD_putD, find_putZ n hZ hZn, hEs]
/-- A map's entry is set. -/
theorem map_put {w : World} {c bM : Nat} {E : List (ByteArray × Int)} (hc : c ≤ w.heap.size) (hM : c ≤ bM) (h : MapT.MB w bM (E.map fun p => (p.1, .int .i64 p.2))) (k : ByteArray) (s : Int) : ∃ w1, (Instr.mapUpdate 49 (.map (some bM)) (.string k) (.int .i64 s)).run Tryz.prog w = .ok () w1 ∧ MapT.MB w1 bM ((putD k s E).map fun p => (p.1, .int .i64 p.2)) ∧ (∀ i, i ≠ bM → w1.heap[i]? = w.heap[i]?) ∧ FarP w w1 ∧ Below c w w1 ∧ w1.heap.size = w.heap.size := by
  obtain ⟨w1, hrun, m1, g1, z1⟩ := MapT.run_update (P := Tryz.prog) Tryz.underlying49 Tryz.underlying9 h k (.int .i64 s)
  rw [putE] at m1
  have same1 : ∀ i, i ≠ bM → w1.heap[i]? = w.heap[i]? := fun i hi => by
    by_cases hil : i < w.heap.size
    · exact grown_block g1 hil hi
    · rw [Array.getElem?_eq_none (by omega), Array.getElem?_eq_none (by omega)]
  obtain ⟨es, cl, gm, _⟩ := h
  exact ⟨w1, hrun, m1, same1, FarP.map gm same1, (Below.refl c w).grown g1 hc (fun q hq => by cases hq; exact hM), z1⟩
/-- A map's entry is taken away. -/
theorem map_del {w : World} {c bM : Nat} {E : List (ByteArray × Int)} (hc : c ≤ w.heap.size) (hM : c ≤ bM) (h : MapT.MB w bM (E.map fun p => (p.1, .int .i64 p.2))) (k : ByteArray) : ∃ w1, (Builtin.delete_ #[49, 9] 0 #[.map (some bM), .string k]).run Tryz.prog w = .ok (.tuple #[]) w1 ∧ MapT.MB w1 bM ((delD k E).map fun p => (p.1, .int .i64 p.2)) ∧ (∀ i, i ≠ bM → w1.heap[i]? = w.heap[i]?) ∧ FarP w w1 ∧ Below c w w1 ∧ w1.heap.size = w.heap.size := by
  obtain ⟨w1, hrun, m1, g1, z1⟩ := MapT.run_delete (P := Tryz.prog) Tryz.underlying49 Tryz.underlying9 h k #[49, 9] rfl 0
  rw [delE] at m1
  have same1 : ∀ i, i ≠ bM → w1.heap[i]? = w.heap[i]? := fun i hi => by
    by_cases hil : i < w.heap.size
    · exact grown_block g1 hil hi
    · rw [Array.getElem?_eq_none (by omega), Array.getElem?_eq_none (by omega)]
  obtain ⟨es, cl, gm, _⟩ := h
  exact ⟨w1, hrun, m1, same1, FarP.map gm same1, (Below.refl c w).grown g1 hc (fun q hq => by cases hq; exact hM), z1⟩
theorem set_ne {w : World} {sp bM : Nat} {cs : Array Value} {t : TypeId} {l : MapT.Ents} (h : w.heap[sp]? = some (.cells cs t)) (hm : MapT.MB w bM l) : sp ≠ bM := fun e => by
  obtain ⟨es, cl, g1, _⟩ := hm
  rw [e, g1] at h
  cases h
set_option maxRecDepth 100000 in
set_option maxHeartbeats 8000000 in
/-- skip.Put. -/
theorem Put_any (c sp : Nat) (Z : List (ByteArray × Int)) (k : ByteArray) (s : Int) (w : World) (hc : c ≤ w.heap.size) (hc3 : 3 < c) (hD : DB w) (hlen : Z.length ≤ 10000) (h : SK w c sp Z) : Calls Tryz.prog 115 #[.pointer (some ⟨sp, 0, none⟩), .string k, .int .i64 s] w fun e w' => e = .returned (.bool (findD k Z).isNone) ∧ SK w' c sp (putZ k s Z) ∧ FarP w w' ∧ Below c w w' := by
  obtain ⟨bM, hd, L, E, made, high, h, rfl⟩ := h
  obtain ⟨mn, rfl⟩ : ∃ mn : Nat, made = mn := ⟨made.toNat, by have := h.mad.1; omega⟩
  have hl : L.length ≤ 10000 := by simpa [zN] using hlen
  have hmn : mn < 18446744073709551616 := by have := h.mad.2; omega
  have LK := MapT.run_lookup (P := Tryz.prog) Tryz.underlying49 Tryz.underlying9 h.map k true (.int .i64 0) (by kernel_rfl)
  rw [findE, h.same] at LK
  obtain ⟨⟨c0, c1, c2, c3⟩, _⟩ := cells4 h.set
  cases hf : findD k (zN L) with
  | none =>
    rw [hf] at LK
    simp only [Option.map_none, Option.getD_none, Option.isSome_none, if_true] at LK
    obtain ⟨A, B, rfl, hA, hB⟩ := splitN (k, s) h.ord
    obtain ⟨w1, hrun, m1, same1, fp1, bc1, z1⟩ := map_put hc h.lom h.map k s
    obtain ⟨es, cl, gm, _⟩ := h.map
    have hs1 := (same1 sp (set_ne h.set h.map)).trans h.set
    have IN := Lib.hid (show Calls Tryz.prog 176 #[.pointer (some ⟨sp, 0, none⟩), .agg #[.string k, .int .i64 s]] w1 _ from insert_any c sp bM hd (A ++ B) A B mn high (k, s) w1 (hD.low bc1 hc3) (by omega) h.lo hs1 (h.mem.grown gm same1) rfl (by omega) hA hB hmn)
    have FIN := Lib.hid (fun (w2 : World) (nd : Nd) (made' : Nat) (high' : Int) (e1 : nd.name = k) (e2 : nd.score = s) (e3 : made' < 18446744073709551616) (e4 : w2.heap[sp]? = some (.cells #[.pointer (some ⟨hd.a, 0, none⟩), .map (some bM), .int .u64 (made' : Nat), .int .i64 high'] 197)) (e5 : SKm w2 c hd (A ++ nd :: B)) (e6 : FarS w1 w2) => SK.ins h.ord h.ndZ (by rw [delZ_none k _ hf]) h.lo h.lom h.nd h.same m1 e6 hA hB e1 e2 e3 e4 e5)
    have BC1 := Lib.hid bc1
    have FP1 := Lib.hid fp1
    obtain ⟨⟨d0, d1, d2, d3⟩, _⟩ := cells4 hs1
    clear h hf hA hB m1 same1 gm hs1 bc1 fp1 hD hlen hl z1
    go_enter Tryz.func115, Tryz.ntmps115
    go_wp2_with (first | (go_at_call 176; (with_reducible refine (IN.out).mono ?_); rintro e w2 ⟨rfl, ⟨nd, made', high', e1, e2, e3, e4, e5⟩, e6, e7⟩; have HF := Lib.hid (FIN.out w2 nd made' high' e1 e2 e3 e4 e5 e6); have HB2 := Lib.hid (BC1.out.trans e7); have HG := Lib.hid (FP1.out.trans e6.toP); clear e1 e2 e3 e4 e5 e6 e7))
    go_ret
    exact ⟨rfl, HF.out, HG.out, HB2.out⟩
  | some was =>
    rw [hf] at LK
    simp only [Option.map_some, Option.getD_some, Option.isSome_some, if_true] at LK
    obtain ⟨A, nd0, B, rfl, hn1, hn2, hA, hB⟩ := split_at h.ord hf
    subst hn1 hn2
    have RM := Lib.hid (remove_any c sp bM hd nd0 A B mn high w hc h.set h.mem (by omega) hA hB)
    have e0 := zN_del h.ndZ
    have hO1 : Ord (zN (A ++ B)) := by rw [e0]; exact h.ord.sub (del_subZ _ _)
    obtain ⟨A1, B1, hAB, hA1, hB1⟩ := splitN (nd0.name, s) hO1
    have hl1 : (A ++ B).length ≤ 10000 := by simp at hl ⊢; omega
    have STEP := Lib.hid (fun (w1 : World) (g1 : SKm w1 c hd (A ++ B)) (g2 : w1.heap[sp]? = some (.cells #[.pointer (some ⟨hd.a, 0, none⟩), .map (some bM), .int .u64 (mn : Nat), .int .i64 high] 197)) (g3 : FarS w w1) (g4 : Below c w w1) => show ∃ w2, (Instr.mapUpdate 49 (.map (some bM)) (.string nd0.name) (.int .i64 s)).run Tryz.prog w1 = .ok () w2 ∧ w2.heap[sp]? = some (.cells #[.pointer (some ⟨hd.a, 0, none⟩), .map (some bM), .int .u64 (mn : Nat), .int .i64 high] 197) ∧ Hid (FarP w w2 ∧ Below c w w2 ∧ Calls Tryz.prog 176 #[.pointer (some ⟨sp, 0, none⟩), .agg #[.string nd0.name, .int .i64 s]] w2 fun e w' => e = .returned (.tuple #[]) ∧ SK w' c sp (putZ nd0.name s (zN (A ++ nd0 :: B))) ∧ FarS w2 w' ∧ Below c w2 w') from by
      have hc1 : c ≤ w1.heap.size := Nat.le_trans hc (Below.size g4)
      have hmap := g3.map h.map
      obtain ⟨w2, hrun, m1, same1, fp1, bc1, z1⟩ := map_put hc1 h.lom hmap nd0.name s
      have hmap2 := hmap
      obtain ⟨es, cl, gm, _⟩ := hmap2
      have hs1 := (same1 sp (set_ne g2 hmap)).trans g2
      refine ⟨w2, hrun, hs1, Lib.hid ⟨g3.toP.trans fp1, g4.trans bc1, ?_⟩⟩
      have g5 := g1.grown gm same1
      rw [hAB] at g5 hl1
      refine (insert_any c sp bM hd (A1 ++ B1) A1 B1 mn high (nd0.name, s) w2 (hD.low (g4.trans bc1) hc3) (by omega) h.lo hs1 g5 rfl (by omega) hA1 hB1 hmn).mono ?_
      rintro e w' ⟨rfl, ⟨nd, made', high', e1, e2, e3, e4, e5⟩, e6, e7⟩
      exact ⟨rfl, SK.ins h.ord h.ndZ (by rw [← hAB, e0]) h.lo h.lom h.nd h.same m1 e6 hA1 hB1 e1 e2 e3 e4 e5, e6, e7⟩)
    clear h hf hA hB hD hlen hl e0 hO1 hAB hA1 hB1 hl1
    go_enter Tryz.func115, Tryz.ntmps115
    go_wp2_with (first | (go_at_call 175; (with_reducible refine (RM.out).mono ?_); rintro e w1 ⟨rfl, g1, g2, g3, g4⟩; obtain ⟨w2, hrun, hs2, HX⟩ := STEP.out w1 g1 g2 g3 g4; obtain ⟨⟨b0, b1, b2, b3⟩, _⟩ := cells4 g2; obtain ⟨⟨d0, d1, d2, d3⟩, _⟩ := cells4 hs2; clear g1 g2 g3 g4 hs2) | (go_at_call 176; (with_reducible refine (HX.out.2.2).mono ?_); rintro e w3 ⟨rfl, e4, e5, e6⟩; have HF := Lib.hid e4; have HG := Lib.hid (HX.out.1.trans e5.toP); have HB2 := Lib.hid (HX.out.2.1.trans e6); clear e4 e5 e6))
    go_ret
    exact ⟨rfl, HF.out, HG.out, HB2.out⟩
set_option maxRecDepth 100000 in
set_option maxHeartbeats 8000000 in
/-- skip.Del of a name that is there. -/
theorem Del_any (c sp : Nat) (Z : List (ByteArray × Int)) (k : ByteArray) (was : Int) (hf : findD k Z = some was) (w : World) (hc : c ≤ w.heap.size) (hlen : Z.length ≤ 10000) (h : SK w c sp Z) : Calls Tryz.prog 121 #[.pointer (some ⟨sp, 0, none⟩), .string k] w fun e w' => e = .returned (.bool true) ∧ SK w' c sp (delD k Z) ∧ FarP w w' ∧ Below c w w' := by
  obtain ⟨bM, hd, L, E, made, high, h, rfl⟩ := h
  obtain ⟨mn, rfl⟩ : ∃ mn : Nat, made = mn := ⟨made.toNat, by have := h.mad.1; omega⟩
  have hl : L.length ≤ 10000 := by simpa [zN] using hlen
  have LK := MapT.run_lookup (P := Tryz.prog) Tryz.underlying49 Tryz.underlying9 h.map k true (.int .i64 0) (by kernel_rfl)
  rw [findE, h.same, hf] at LK
  obtain ⟨⟨c0, c1, c2, c3⟩, _⟩ := cells4 h.set
  simp only [Option.map_some, Option.getD_some, Option.isSome_some, if_true] at LK
  obtain ⟨A, nd0, B, rfl, hn1, hn2, hA, hB⟩ := split_at h.ord hf
  subst hn1 hn2
  have RM := Lib.hid (remove_any c sp bM hd nd0 A B mn high w hc h.set h.mem (by omega) hA hB)
  have e0 := zN_del h.ndZ
  have STEP := Lib.hid (fun (w1 : World) (g1 : SKm w1 c hd (A ++ B)) (g2 : w1.heap[sp]? = some (.cells #[.pointer (some ⟨hd.a, 0, none⟩), .map (some bM), .int .u64 (mn : Nat), .int .i64 high] 197)) (g3 : FarS w w1) (g4 : Below c w w1) => show ∃ w2, (Builtin.delete_ #[49, 9] 0 #[.map (some bM), .string nd0.name]).run Tryz.prog w1 = .ok (.tuple #[]) w2 ∧ Hid (SK w2 c sp (delD nd0.name (zN (A ++ nd0 :: B))) ∧ FarP w w2 ∧ Below c w w2) from by
    have hc1 : c ≤ w1.heap.size := Nat.le_trans hc (Below.size g4)
    have hmap := g3.map h.map
    obtain ⟨w2, hrun, m1, same1, fp1, bc1, z1⟩ := map_del hc1 h.lom hmap nd0.name
    have hmap2 := hmap
    obtain ⟨es, cl, gm, _⟩ := hmap2
    have hs1 := (same1 sp (set_ne g2 hmap)).trans g2
    have g5 := g1.grown gm same1
    refine ⟨w2, hrun, Lib.hid ⟨⟨bM, hd, A ++ B, delD nd0.name E, mn, high, ⟨hs1, h.lo, h.lom, m1, nd_delD h.nd, fun n => ?_, g5, by rw [e0]; exact h.ord.sub (del_subZ _ _), by rw [e0]; exact nd_delD h.ndZ, h.mad⟩, e0⟩, g3.toP.trans fp1, g4.trans bc1⟩⟩
    rw [e0, findD_delD n h.nd, findD_delD n h.ndZ, h.same])
  clear h hf hA hB hlen hl e0
  go_enter Tryz.func121, Tryz.ntmps121
  go_wp2_with (first | (go_at_call 175; (with_reducible refine (RM.out).mono ?_); rintro e w1 ⟨rfl, g1, g2, g3, g4⟩; obtain ⟨w2, hrun, HX⟩ := STEP.out w1 g1 g2 g3 g4; obtain ⟨⟨b0, b1, b2, b3⟩, _⟩ := cells4 g2; clear g1 g2 g3 g4))
  go_ret
  exact ⟨rfl, HX.out.1, HX.out.2.1, HX.out.2.2⟩
end Go.Proofs.YticlacjpgjkhcaaGreatDoor

/- skip.Of: a set of scores that rise. -/
namespace Go.Proofs.YticlacjpgjkhcaaGreatDoor
open Go.ChangeShapes Go.WideShapes Go.ChangeAt Go.RowKit

theorem findD_out {k : ByteArray} {Z : List (ByteArray × Int)} (h : k ∉ Z.map Prod.fst) : findD k Z = none := findD_none_of h
/-- A score behind all. -/
theorem putZ_last {k : ByteArray} {s : Int} {Z : List (ByteArray × Int)} (h : k ∉ Z.map Prod.fst) (hl : ∀ p ∈ Z, ltZ p (k, s) = true) : putZ k s Z = Z ++ [(k, s)] := by
  unfold putZ
  rw [delZ_none k _ (findD_out h)]
  unfold insZ loZ hiZ
  rw [List.filter_eq_self.2 hl, List.filter_eq_nil_iff.2 (fun p hp => by simp [hl p hp])]
/-- Scores that rise one by one are in order. -/
theorem ord_of_rise : ∀ {Z : List (ByteArray × Int)}, (∀ (i : Nat) (p q : ByteArray × Int), Z[i]? = some p → Z[i + 1]? = some q → ltZ p q = true) → Ord Z
  | [], _ => List.Pairwise.nil
  | [a], _ => List.pairwise_singleton _ _
  | a :: b :: r, h => by
    have ih : Ord (b :: r) := ord_of_rise (fun i p q hp hq => h (i + 1) p q (by simpa using hp) (by simpa using hq))
    have hab := h 0 a b rfl rfl
    refine List.pairwise_cons.2 ⟨fun c hc => ?_, ih⟩
    rcases List.mem_cons.1 hc with rfl | hc
    · exact hab
    · exact ltZ_trans hab ((List.pairwise_cons.1 ih).1 c hc)
theorem rise_of_ord {Z : List (ByteArray × Int)} (h : Ord Z) : ∀ (i : Nat) (p q : ByteArray × Int), Z[i]? = some p → Z[i + 1]? = some q → ltZ p q = true := fun i p q hp hq => by
  obtain ⟨h1, rfl⟩ := List.getElem?_eq_some_iff.1 hp
  obtain ⟨h2, rfl⟩ := List.getElem?_eq_some_iff.1 hq
  exact List.pairwise_iff_getElem.1 h i (i + 1) h1 h2 (by omega)
set_option maxRecDepth 100000 in
set_option maxHeartbeats 8000000 in
theorem skOf_any (A : Option Addr) (n C c0 : Nat) (l : List (ByteArray × Int)) (hn : l.length = n) (hm : n ≤ 1000) (hO : Ord l) (hnd : (l.map Prod.fst).Nodup) (w : World) (hD : DB w) (h3 : 3 < w.heap.size) (h : RS w c0 (.slice A n C) l) : Calls Tryz.prog 131 #[.slice A n C] w fun e w' => ∃ sp, e = .returned (.pointer (some ⟨sp, 0, none⟩)) ∧ SK w' w.heap.size sp l ∧ Below w.heap.size w w' := by
  have NW := Lib.hid (New_any w)
  have HR := Lib.hid h
  have HN := Lib.hid hn
  have HO := Lib.hid hO
  have HD := Lib.hid hnd
  have HDB := Lib.hid hD
  clear h hn hO hnd hD
  go_enter Tryz.func131, Tryz.ntmps131
  go_wp2_with (first | (go_at_call 182; (with_reducible refine (NW.out).mono ?_); rintro e w1 ⟨sp, rfl, h1, h2⟩; have S1 := Lib.hid h1; have B1 := Lib.hid h2; clear h1 h2; refine Hid.out ?_))
  refine Lib.hid ?_
  go_wp2
  go_loopw [9] (fun kv wr => ∃ k : Nat, k ≤ n ∧ kv = .int .i64 k ∧ Hid (SK wr w.heap.size sp (l.take k) ∧ Below w.heap.size w wr)) (fun kv _ => n - (iOfL kv).toNat)
  case atStart => exact ⟨0, Nat.zero_le _, rfl, Lib.hid ⟨by rw [List.take_zero]; exact S1.out, B1.out⟩⟩
  case round =>
    obtain ⟨k, hk, rfl, HQ⟩ := hrel
    by_cases hlt : k < n
    · have i0 : (k : Int) < (n : Int) := by omega
      obtain ⟨p, hp⟩ : ∃ p, l[k]? = some p := ⟨_, List.getElem?_eq_getElem (by rw [HN.out]; exact hlt)⟩
      obtain ⟨g, C', hA, _⟩ := HR.out.form (by intro e; have := HN.out; rw [e] at this; simp at this; omega)
      have hA' : A = some ⟨g, 0, none⟩ := by injection hA
      subst hA'
      obtain ⟨d0, d1⟩ := (HR.out.below HQ.out.2).at HN.out k p hp
      have ht : l.take (k + 1) = l.take k ++ [p] := by rw [List.take_add_one, hp]; rfl
      have e9 : l = l.take k ++ p :: l.drop (k + 1) := by
        obtain ⟨hi, he⟩ := List.getElem?_eq_some_iff.1 hp
        rw [← he, List.getElem_cons_drop, List.take_append_drop]
      have hni : p.1 ∉ (l.take k).map Prod.fst := fun hmem => by
        have h9 := HD.out
        rw [e9, List.map_append, List.nodup_append] at h9
        exact h9.2.2 _ hmem _ (by simp) rfl
      have hlo : ∀ q ∈ l.take k, ltZ q (p.1, p.2) = true := fun q hq => by
        have h9 := HO.out
        unfold Ord at h9
        rw [e9, List.pairwise_append] at h9
        exact h9.2.2 q hq p (by simp)
      have bX : Below wr.heap.size wr (wr.alloc (.cells #[.string p.1, .int .i64 p.2] 52)) := alloc_old
      have hsz := Below.size HQ.out.2
      have PT := Put_any w.heap.size sp (l.take k) p.1 p.2 (wr.alloc (.cells #[.string p.1, .int .i64 p.2] 52)) (by have := Below.size bX; omega) h3 (HDB.out.at_ (HQ.out.2.trans (bX.mono hsz))) (by rw [List.length_take]; omega) (HQ.out.1.below bX)
      rw [putZ_last hni hlo, ← ht] at PT
      obtain ⟨bb, hbb⟩ : ∃ bb, (findD p.1 (l.take k)).isNone = bb := ⟨_, rfl⟩
      rw [hbb] at PT
      have PT := Lib.hid PT
      have BX := Lib.hid (HQ.out.2.trans (bX.mono hsz))
      clear ht e9 hni hlo hp hA bX hsz hbb
      go_wp2_with (first | (go_at_call 115; (with_reducible refine (PT.out).mono ?_); rintro e w3 ⟨rfl, g1, _, g3⟩; have HX := Lib.hid (And.intro g1 (BX.out.trans g3)); clear g1 g3))
      exact ⟨⟨k + 1, hlt, by go_num, HX⟩, by simp [iOfL]; omega⟩
    · obtain rfl : k = n := by omega
      have i0 : ¬ (k : Int) < (k : Int) := by omega
      go_wp2
      go_ret
      exact ⟨sp, rfl, by have := HQ.out.1; rw [List.take_of_length_le (by rw [HN.out]; exact Nat.le_refl _)] at this; exact this, HQ.out.2⟩
end Go.Proofs.YticlacjpgjkhcaaGreatDoor

/- Values of kind S: how many, how long; when one element is ahead of another. -/
namespace Go.Proofs.YticlacjpgjkhcaaGreatDoor
open Go.ChangeShapes Go.WideShapes Go.ChangeAt Go.RowKit

set_option maxRecDepth 100000 in
set_option maxHeartbeats 4000000 in
theorem countS (A : Option Addr) (n C : Nat) (w : World) : Calls Tryz.prog 167 #[.agg #[.int .i64 4, .string ⟨#[]⟩, .slice none 0 0, .slice none 0 0, .slice A n C, .slice none 0 0]] w fun e w' => e = .returned (.agg #[.int .i64 0, .int .i64 0, .int .i64 (n : Int), .int .i64 0]) ∧ Below w.heap.size w w' := by
  go_enter Tryz.func167, Tryz.ntmps167
  go_wp2
  exact bodyPost_ret (v := .agg #[.int .i64 0, .int .i64 0, .int .i64 (n : Int), .int .i64 0]) (by simp [results, Tryz.results167, go_sem]) rfl ⟨rfl, ((Below.refl _ _).alloc (Nat.le_refl _) _).alloc (by simp) _⟩
set_option maxRecDepth 100000 in
set_option maxHeartbeats 4000000 in
theorem LenS (A : Option Addr) (n C : Nat) (w : World) : Calls Tryz.prog 165 #[.agg #[.int .i64 4, .string ⟨#[]⟩, .slice none 0 0, .slice none 0 0, .slice A n C, .slice none 0 0]] w fun e w' => e = .returned (.int .i64 (n : Int)) ∧ Below w.heap.size w w' := by
  go_enter Tryz.func165, Tryz.ntmps165
  go_wp2
  go_ret
  exact ⟨by simp, alloc_old⟩
theorem less_bl (a b : ByteArray) : Op.bytesLess a.toList b.toList = decide (bl a < bl b) := by
  rw [Go.Proofs.bytesLess_eq, ByteArray.toList_eq, ByteArray.toList_eq]
  rfl
set_option maxRecDepth 100000 in
set_option maxHeartbeats 4000000 in
/-- Elements that rise. -/
theorem riseS (A : Option Addr) (C : Nat) (l : List (ByteArray × Int)) (n : Nat) (hn : l.length = n) (h1 : 1 ≤ n) (hm : n ≤ 1000000) (c : Nat) (w : World) (h : RS w c (.slice A n C) l)
    (hl : ∀ (i : Nat) (p q : ByteArray × Int), l[i]? = some p → l[i + 1]? = some q → ∀ X, Calls Tryz.prog 173 #[.agg #[.string p.1, .int .i64 p.2], .agg #[.string q.1, .int .i64 q.2]] X fun e w' => e = .returned (.bool true) ∧ Below X.heap.size X w') : Calls Tryz.prog 172 #[.slice A n C, .func (.func 173) #[] #[]] w fun e w' => e = .returned (.bool true) ∧ Below w.heap.size w w' := by
  obtain ⟨g, C', hA, hC⟩ := h.form (by intro e; rw [e] at hn; simp at hn; omega)
  have hA' : A = some ⟨g, 0, none⟩ := by injection hA
  subst hA'
  clear hA hC
  have HR := Lib.hid h
  have HN := Lib.hid hn
  have HL := Lib.hid hl
  clear h hl hn
  go_enter Tryz.func172, Tryz.ntmps172
  go_wp2
  go_loopw [5] (fun iv wr => ∃ i : Nat, 1 ≤ i ∧ i ≤ n ∧ iv = .int .i64 i ∧ Hid (Below w.heap.size w wr)) (fun iv _ => n - (iOfL iv).toNat)
  case atStart => exact ⟨1, Nat.le_refl _, h1, rfl, Lib.hid (Below.refl _ _)⟩
  case round =>
    obtain ⟨i, hi1, hi, rfl, HB⟩ := hrel
    by_cases hlt : i < n
    · obtain ⟨m, rfl⟩ : ∃ m, i = m + 1 := ⟨i - 1, by omega⟩
      obtain ⟨p, hp⟩ : ∃ p, l[m]? = some p := ⟨_, List.getElem?_eq_getElem (by rw [HN.out]; omega)⟩
      obtain ⟨q, hq⟩ : ∃ q, l[m + 1]? = some q := ⟨_, List.getElem?_eq_getElem (by rw [HN.out]; omega)⟩
      have SX := Lib.hid (show ∀ X, Below w.heap.size w X → (X.cell? ⟨g, m * 2, none⟩ = some (.string p.1) ∧ X.cell? ⟨g, m * 2 + 1, none⟩ = some (.int .i64 p.2) ∧ X.cell? ⟨g, (m + 1) * 2, none⟩ = some (.string q.1) ∧ X.cell? ⟨g, (m + 1) * 2 + 1, none⟩ = some (.int .i64 q.2)) from fun X hb => by
        obtain ⟨d0, d1⟩ := (HR.out.below hb).at HN.out m p hp
        obtain ⟨e0, e1⟩ := (HR.out.below hb).at HN.out (m + 1) q hq
        exact ⟨d0, d1, e0, e1⟩)
      have LS := Lib.hid (HL.out m p q hp hq wr.drew)
      have S0 := SX.out wr.drew HB.out.drew
      have q3 : (m : Int) + 1 < (n : Int) := by omega
      have q4 : (m : Int) < (n : Int) := by omega
      have w1 : IntKind.i64.wrap (m : Int) = (m : Int) := IntWalk.i64_in _ (by omega)
      have w2 : IntKind.i64.wrap ((m : Int) + 1) = (m : Int) + 1 := IntWalk.i64_in _ (by omega)
      have w3 : (0 : Int) ≤ (m : Int) + 1 := by omega
      have w4 : ((m : Int) + 1).toNat = m + 1 := by omega
      clear hp hq
      go_wp2
      go_region_held3 (fun X => X.cell? ⟨g, m * 2, none⟩ = some (.string p.1) ∧ X.cell? ⟨g, m * 2 + 1, none⟩ = some (.int .i64 p.2) ∧ X.cell? ⟨g, (m + 1) * 2, none⟩ = some (.string q.1) ∧ X.cell? ⟨g, (m + 1) * 2 + 1, none⟩ = some (.int .i64 q.2)) (first | (with_reducible exact S0) | (with_reducible exact S2.out))
        (first | (go_at_call 173; (with_reducible refine (LS.out).mono ?_); rintro e w5 ⟨rfl, h1⟩; have HB1 := Lib.hid (belT HB.out.drew h1); have S2 := Lib.hid (SX.out _ HB1.out); clear h1))
      clear w1 w2 w3 w4 S0 S2
      go_wp2
      exact ⟨⟨m + 1 + 1, by omega, by omega, by go_num, HB1⟩, by simp [iOfL]; omega⟩
    · obtain rfl : n = i := by omega
      have q1 : ¬ (n : Int) < (n : Int) := by omega
      go_wp2
      go_ret
      exact ⟨by simp, HB.out⟩
end Go.Proofs.YticlacjpgjkhcaaGreatDoor
