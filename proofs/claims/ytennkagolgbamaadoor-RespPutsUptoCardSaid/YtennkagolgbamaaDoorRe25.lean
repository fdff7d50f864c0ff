/- What a reply that comes in reads as. -/
import Derived.Test.YtennkagolgbamaaDoorRe22
import Derived.Test.YtennkagolgbamaaDoorCards
namespace Go.Proofs.YtennkagolgbamaaDoor
open Go.ChangeShapes Go.WideShapes Go.ChangeAt Go.RowKit Go.Resp Go.Joins Go.Deep

section
variable {H : Type} {enc : TypeId × Value → H} {W : World}
theorem bulk_pos (d : DataW H) : 1 ≤ Rows.uptoBulk d := by
  cases d with
  | lit l => cases l <;> simp [Rows.uptoBulk]
  | _ => simp [Rows.uptoBulk]
theorem bulk_range (D : Nat → DataW H) (n : Nat) : Rows.uptoBulkAll ((List.range n).map D) = ((List.range n).map fun i => Rows.uptoBulk (D i)).sum := by
  generalize List.range n = l
  induction l with
  | nil => rfl
  | cons x r ih => simp [Rows.uptoBulkAll, ih]
theorem cells24 : Tryd.prog.cellsOf 24 = 4 := by kernel_rfl
theorem cells3 : Tryd.prog.cellsOf 3 = 1 := by kernel_rfl
theorem cells2 : Tryd.prog.cellsOf 2 = 1 := by kernel_rfl
theorem cells9 : Tryd.prog.cellsOf 9 = 1 := by kernel_rfl
theorem cells22 : Tryd.prog.cellsOf 22 = 1 := by kernel_rfl
theorem fits_of {a : Int} (h : (Lit.int .i64 a).wf = true) : Fits a := by
  have := bounds_i64 h
  unfold Fits
  omega
theorem RV.of_trod : ∀ (B fuel : Nat) (cs : List Value) (d : DataW H) (ps : List MemPlace), Rows.uptoBulk d ≤ B → DataW.trod enc Tryd.prog W 0 (fun _ => true) true fuel 24 cs = some (d, ps) →
    ∃ k n s l out, cs = repC k n s l ∧ RV W k n s l (Rows.uptoBulk d) out := by
  intro B
  induction B with
  | zero => intro fuel cs d ps hB; have := bulk_pos d; omega
  | succ B ih =>
    intro fuel cs d ps hB h
    obtain ⟨y0, y1, y2, y3, n', hx, hcl, h0, h1, h2, h3⟩ := trod_struct4 Tryd.underlying24 h
    rw [cells24] at hcl
    match cs, hcl with
    | [c0, c1, c2, c3], _ =>
      simp only [cells3, cells2, cells9, cells22, List.drop_zero, List.drop_succ_cons, List.take_succ_cons, List.take_zero] at h0 h1 h2 h3
      obtain ⟨k, hk, rfl, wk⟩ := DataW.trod_int Tryd.underlying3 h0
      obtain ⟨n, hn, rfl, wn⟩ := DataW.trod_int Tryd.underlying2 h1
      obtain ⟨s, hs, rfl, ws⟩ := DataW.trod_string Tryd.underlying9 h2
      injection hk with hk _; subst hk
      injection hn with hn _; subst hn
      injection hs with hs _; subst hs
      injection hx with hx1 hx2; subst hx1
      have hsl : s.data.toList.length = s.size := by simp
      rcases open_slice Tryd.underlying22 h3 with ⟨hcs, rfl⟩ | ⟨a, len, cap, m, n2, D, Pl, hcs, _, hl, hc, hm, rfl, hrow⟩
      · injection hcs with hcs _; subst hcs
        dsimp only at hB ⊢
        refine ⟨k, n, s, _, _, rfl, RV.mk k n s none 0 0 0 0 (fun _ => 0) (fun _ => 0) (fun _ => ⟨#[]⟩) (fun _ => undef) (fun _ => 0) (fun _ => []) _ (fits_of wk) (fits_of wn) (Nat.le_refl _) (Nat.zero_le _) (fun h => absurd h (by decide)) (fun i h => absurd h (by omega)) (fun i h => absurd h (by omega)) ?_⟩
        simp [Rows.uptoBulk, Rows.uptoBulkAll]
        omega
      · injection hcs with hcs _; subst hcs
        simp only [if_true] at hm
        subst hm
        dsimp only at hB ⊢
        rw [cells24] at hrow
        have hbulk : 1 + s.size + ((List.range len).map fun i => Rows.uptoBulk (D i)).sum + 1 ≤ Rows.uptoBulk (DataW.agg [DataW.lit (Lit.int .i64 k), DataW.lit (Lit.int .i64 n), DataW.lit (Lit.string s.data.toList), DataW.slice ((List.range len).map D) ((List.range (m - len)).map fun j => D (len + j))] : DataW H) := by
          simp only [Rows.uptoBulk, Rows.uptoBulkAll, bulk_range]
          omega
        have hch : ∀ i, i < len → ∃ q : Int × Int × ByteArray × Value × List UInt8, ∃ cs', W.cells? 0 (a.add (i * 4)) 4 = some cs' ∧ cs' = repC q.1 q.2.1 q.2.2.1 q.2.2.2.1 ∧ RV W q.1 q.2.1 q.2.2.1 q.2.2.2.1 (Rows.uptoBulk (D i)) q.2.2.2.2 := by
          intro i hi
          obtain ⟨cs', hc1, hc2⟩ := hrow i (by omega)
          have hDi := le_sum (fun i => Rows.uptoBulk (D i)) len i hi
          obtain ⟨k', n', s', l', out', e1, e2⟩ := ih n2 cs' (D i) (Pl i) (by omega) hc2
          exact ⟨(k', n', s', l', out'), cs', hc1, e1, e2⟩
        obtain ⟨Q, hQ⟩ : ∃ Q : Nat → Int × Int × ByteArray × Value × List UInt8, ∀ i, i < len → ∃ cs', W.cells? 0 (a.add (i * 4)) 4 = some cs' ∧ cs' = repC (Q i).1 (Q i).2.1 (Q i).2.2.1 (Q i).2.2.2.1 ∧ RV W (Q i).1 (Q i).2.1 (Q i).2.2.1 (Q i).2.2.2.1 (Rows.uptoBulk (D i)) (Q i).2.2.2.2 := by
          refine ⟨fun i => if h : i < len then (hch i h).choose else (0, 0, ⟨#[]⟩, undef, []), fun i hi => ?_⟩
          have := (hch i hi).choose_spec
          simp only [dif_pos hi]
          exact this
        have hat : ∀ i, i < len → ∀ j, j < 4 → W.cell? ((a.add (i * 4)).add j) = (repC (Q i).1 (Q i).2.1 (Q i).2.2.1 (Q i).2.2.2.1)[j]? := by
          intro i hi j hj
          obtain ⟨cs', hc1, hc2, _⟩ := hQ i hi
          obtain ⟨_, _, h3⟩ := World.cells?_some hc1
          rw [h3 j hj, hc2]
        by_cases hlen : 0 < len
        · obtain ⟨b, off, rfl, hb, _⟩ := at_of (W := W) (a := a) (n := 1) (f := fun _ => .int .i64 (Q 0).1) (fun i hi => by
            have := hat 0 hlen 0 (by decide)
            have e : (a.add (0 * 4)).add 0 = a.add 0 := by simp [Addr.add]
            rw [e] at this
            obtain rfl : i = 0 := by omega
            exact this) (by decide)
          refine ⟨k, n, s, _, _, rfl, RV.mk k n s (some ⟨b, off, none⟩) len m b off (fun i => (Q i).1) (fun i => (Q i).2.1) (fun i => (Q i).2.2.1) (fun i => (Q i).2.2.2.1) (fun i => Rows.uptoBulk (D i)) (fun i => (Q i).2.2.2.2) _ (fits_of wk) (fits_of wn) hl hc (fun _ => ⟨rfl, hb⟩) ?_ ?_ (by omega)⟩
          · intro i hi j v hv
            have hj : j < 4 := (List.getElem?_eq_some_iff.1 hv).1
            have := hat i hi j hj
            rw [hv, Addr.add_mid, Addr.add_mid] at this
            exact this
          · intro i hi
            obtain ⟨_, _, _, h⟩ := hQ i hi
            exact h
        · obtain rfl : len = 0 := by omega
          refine ⟨k, n, s, _, _, rfl, RV.mk k n s (some a) 0 m 0 0 (fun _ => 0) (fun _ => 0) (fun _ => ⟨#[]⟩) (fun _ => undef) (fun _ => 0) (fun _ => []) _ (fits_of wk) (fits_of wn) hl hc (fun h => absurd h (by decide)) (fun i h => absurd h (by omega)) (fun i h => absurd h (by omega)) ?_⟩
          simp at hbulk ⊢
          omega
end
end Go.Proofs.YtennkagolgbamaaDoor
