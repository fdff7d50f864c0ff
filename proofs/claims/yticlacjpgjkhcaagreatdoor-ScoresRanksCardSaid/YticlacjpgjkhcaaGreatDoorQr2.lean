/- Texts joined: ZR1, ZRL -/
import Derived.Test.YticlacjpgjkhcaaGreatDoorQr1
import Derived.Test.YticlacjpgjkhcaaGreatDoorQs27
set_option linter.unusedVariables false
set_option linter.unusedSimpArgs false

/- The law ScoresRanks: its walk. -/
namespace Go.Proofs.YticlacjpgjkhcaaGreatDoor
open Go.ChangeShapes Go.WideShapes Go.ChangeAt Go.RowKit

set_option maxRecDepth 100000 in
set_option maxHeartbeats 4000000 in
/-- The law's num. -/
theorem znum_any {W0 : World} (hT : Tab W0) (x : Int) (hx : I64 x) (w : World) (hi : Below W0.heap.size W0 w) : Calls Tryz.prog 25 #[.int .i64 x] w fun e w' => e = .returned (.string (numT x)) ∧ Below w.heap.size w w' := by
  have NU := Lib.hid (Number13 hT x hx w hi)
  have u1 : IntKind.i64.wrap x = x := by have h1 := hx.1; have h2 := hx.2; rw [IntKind.wrap_i64]; omega
  clear hT hx hi
  go_enter Tryz.func25, Tryz.ntmps25
  go_wp2_with (first | (go_at_call 13; (with_reducible refine (NU.out).mono ?_); rintro e w1 ⟨rfl, h1⟩; have B1 := Lib.hid h1; clear h1))
  go_ret
  exact ⟨rfl, B1.out⟩
theorem fR_ne (l : List (ByteArray × Int)) {n : Nat} (h : 1 ≤ n) : fR l n ≠ [] := addZ_ne _ _ _ h
theorem RO.mono0 {rs : List (Option ByteArray)} {c : Nat} {X : World} {v : Value} (h : RO rs c X v) : RO rs 0 X v := row_mono h (Nat.zero_le _)
/-- A row of replies that is not empty. -/
theorem RO.own0 {rs : List (Option ByteArray)} {c : Nat} {X : World} {A : Option Addr} {m cc : Nat} (h : RO rs c X (.slice A m cc)) : m = rs.length ∧ (rs ≠ [] → ∃ g, A = some ⟨g, 0, none⟩) := by
  obtain ⟨A', C', e, h2, _⟩ := row_form h
  cases e
  exact ⟨rfl, fun hne => h2.resolve_left fun h => hne (List.eq_nil_of_length_eq_zero h)⟩
set_option linter.unusedSimpArgs false in
set_option linter.unusedVariables false in
set_option maxRecDepth 100000 in
set_option maxHeartbeats 32000000 in
theorem ranks_main (l : List (ByteArray × Int)) (v0 : Value) (lo hi : Int) (w : World) (hT : TZ w) (h0 : SZl w v0 l) (hlo : I64 lo) (hhi : I64 hi) (n : Nat) (hn : l.length = n) (h1 : 1 ≤ n) (h12 : n ≤ 12) : Calls Tryz.prog 9 #[v0, .int .i64 lo, .int .i64 hi] w fun e w' => e = .returned (.bool true) ∧ Below w.heap.size w w' := by
  have NW := Lib.hid (fun X => New9 X)
  obtain ⟨aA, cap, rfl, p1, p2, p3, p4⟩ := h0
  obtain ⟨blk, off, rfl, hblt, hc⟩ := p3 (by intro e; rw [e] at hn; simp at hn; omega)
  simp only [hn]
  have hv : ∀ j, I64 (vR l j) := fun j => by
    unfold vR
    cases e : l[j]? with
    | none => exact ⟨by decide, by decide⟩
    | some p => exact p4 p (List.mem_of_getElem? e)
  have HV := Lib.hid hv
  have C := Lib.hid (show ∀ i, i < n → ∀ X, Below w.heap.size w X → (X.cell? ⟨blk, off + i * 2, none⟩ = some (.string (nmR l i)) ∧ X.cell? ⟨blk, off + i * 2 + 1, none⟩ = some (.int .i64 (vR l i))) from fun i hi X hX => by
    obtain ⟨p, hp⟩ : ∃ p, l[i]? = some p := ⟨_, List.getElem?_eq_getElem (by omega)⟩
    obtain ⟨g1, g2⟩ := hc i p hp
    have e1 : nmR l i = p.1 := by unfold nmR; rw [hp]; rfl
    have e2 : vR l i = p.2 := by unfold vR; rw [hp]; rfl
    rw [e1, e2]
    exact ⟨(hX.cell (p := ⟨blk, off + i * 2, none⟩) hblt).trans g1, (hX.cell (p := ⟨blk, off + i * 2 + 1, none⟩) hblt).trans g2⟩)
  have hmm := @run_makeMap Tryz.prog
  have hfd1 : ∀ (a b : Int) (c : ByteArray) (A : Option Addr) (m cc : Nat) (w : World), (Instr.field 29 (.agg #[.int .i64 a, .int .i64 b, .string c, .slice A m cc]) 1).run Tryz.prog w = .ok (.int .i64 b) w := fun _ _ _ _ _ _ _ => by kernel_rfl
  have hfd2 : ∀ (a b : Int) (c : ByteArray) (A : Option Addr) (m cc : Nat) (w : World), (Instr.field 29 (.agg #[.int .i64 a, .int .i64 b, .string c, .slice A m cc]) 2).run Tryz.prog w = .ok (.string c) w := fun _ _ _ _ _ _ _ => by kernel_rfl
  have HT := Lib.hid hT
  have NU := Lib.hid (fun (x : Int) (hx : I64 x) X (hX : Below w.heap.size w X) => znum_any hT.1 x hx X hX)
  have TL := Lib.hid (fun X (hX : Below w.heap.size w X) => toldZ (hT.at_ hX))
  have H12 := Lib.hid (And.intro h1 h12)
  have HLH := Lib.hid (And.intro hlo hhi)
  have q1 : ¬ ((n : Int) = 0) := by omega
  have q1n : n ≠ 0 := by omega
  have q2 : ¬ (12 : Int) < (n : Int) := by omega
  clear p1 p2 p3 p4 hn hv hc hT h1 h12 hlo hhi hblt
  go_enter Tryz.func9, Tryz.ntmps9
  go_wp2_with (first | (go_at_call 11; (with_reducible refine (NW.out _).mono ?_); rintro e v0 ⟨bS, bM, rfl, hS0, hbS, hbM, hB0⟩; have HL0 := Lib.hid (SPG.lt KS okS (LD.mk0 KS okS hS0 hB0 hbS hbM).sp); have L0 := Lib.hid (LD.mk0 KS okS hS0 hB0 hbS hbM); clear hS0 hbS hbM hB0; refine Hid.out ?_))
  refine Lib.hid ?_
  have M0 : Hid (LDZ w (v0.alloc (.map #[] 0)) bS bM (dZ (fR l 0))) := Lib.hid (by rw [show fR l 0 = [] from rfl, dZ_nil]; exact L0.out.old alloc_old)
  have MB0 : Hid (MapT.MB (v0.alloc (.map #[] 0)) v0.heap.size ((eR l 0).map fun p => (p.1, Value.int .i64 p.2))) := Lib.hid (MapT.MB.made v0)
  have HNE := Lib.hid (show v0.heap.size ≠ bS ∧ v0.heap.size ≠ bM from by have h9 := HL0.out; exact ⟨by omega, by omega⟩)
  have HSB := Lib.hid (Below.size L0.out.below)
  go_wp2
  clear L0 HL0 hmm q1 q1n q2
  generalize v0.alloc (.map #[] 0) = y at M0 MB0 ⊢
  generalize v0.heap.size = hm at MB0 HNE HSB ⊢
  go_loopw [10] (fun iv wr => ∃ i : Nat, i ≤ n ∧ iv = .int .i64 i ∧ Hid (LDZ w wr bS bM (dZ (fR l i)) ∧ MapT.MB wr hm ((eR l i).map fun p => (p.1, Value.int .i64 p.2)) ∧ ∀ j, j < i → (nmR l j).size ≤ 50)) (fun iv _ => n - (intOf iv).toNat)
  case atStart => exact ⟨0, Nat.zero_le _, rfl, Lib.hid ⟨M0.out, MB0.out, fun j hj => absurd hj (Nat.not_lt_zero j)⟩⟩
  case round =>
    obtain ⟨i, hin, rfl, HQ⟩ := hrel
    by_cases hlt : i < n
    · as_aux_lemma =>
        have q0 : (i : Int) < (n : Int) := by omega
        have n12 := H12.out.2
        obtain ⟨ca, cb⟩ := C.out i hlt wr HQ.out.1.below
        have CC := Lib.hid (C.out i hlt)
        obtain ⟨nm, hnm⟩ : ∃ nm, nmR l i = nm := ⟨_, rfl⟩
        obtain ⟨s, hs⟩ : ∃ s, vR l i = s := ⟨_, rfl⟩
        rw [hnm] at ca
        rw [hs] at cb
        rw [hnm, hs] at CC
        by_cases h50 : nm.size ≤ 50
        · have q3 : ¬ (50 : Int) < (nm.size : Int) := by omega
          have hsI : I64 s := by rw [← hs]; exact HV.out i
          have hN : ∀ j, j < i + 1 → (nmR l j).size ≤ 50 := fun j hj => by
            rcases Nat.lt_or_ge j i with g | g
            · exact HQ.out.2.2 j g
            · rw [show j = i by omega, hnm]; exact h50
          have hbd := fR_bd l HV.out (i + 1) (by omega) hN
          have hF : putZ nm s (fR l i) = fR l (i + 1) := by rw [← hnm, ← hs]; rfl
          have hE : putD nm s (eR l i) = eR l (i + 1) := by rw [← hnm, ← hs]; rfl
          have DA := fun X hL q hq => l_zadd w bS bM HT.out (fR l i) nm s hsI (by rw [hF]; exact hbd) _ rfl X hL q hq
          rw [hF] at DA
          obtain ⟨nn, hnn⟩ : ∃ nn, ((addN (fun _ => nm) (fun _ => s) (fR l i) 1 : Nat) : Int) = nn := ⟨_, rfl⟩
          rw [hnn] at DA
          have DA := Lib.hid DA
          have NX := Lib.hid (fun X hX => NU.out s hsI X hX)
          have HN := Lib.hid hN
          have HE := Lib.hid hE
          have L2 := Lib.hid (HQ.out.1.old (Below.refl _ _).drew)
          have MB2 : Hid (MapT.MB wr.drew hm ((eR l i).map fun p => (p.1, Value.int .i64 p.2))) := Lib.hid (MapT.MB.kept HQ.out.2.1 rfl)
          have S0 := CC.out wr.drew L2.out.below
          clear hnm hs hsI hN hbd hF hE hnn h50 hin HQ
          go_wp2
          go_region_held3 (fun X => X.cell? ⟨blk, off + i * 2, none⟩ = some (.string nm) ∧ X.cell? ⟨blk, off + i * 2 + 1, none⟩ = some (.int .i64 s)) (first | (with_reducible exact S0) | (with_reducible exact S1.out) | (with_reducible exact S2.out) | (with_reducible exact S3.out)) (first | (go_at_call 25; (with_reducible refine (NX.out _ L2.out.below).mono ?_); rintro ee x1 ⟨rfl, h1⟩; have L3 := Lib.hid (L2.out.old h1); have MB3 := Lib.hid (MB2.out.below h1); have S1 := Lib.hid (CC.out x1 L3.out.below); have S2 := Lib.hid (CC.out (x1.alloc (.cells #[.string ⟨#[90, 65, 68, 68]⟩, .string ⟨#[107]⟩, .string (numT s), .string nm] 9)) (L3.out.old alloc_old).below); have D1 := Lib.hid (DA.out x1 L3.out _ rfl); clear h1) | (go_at_call 17; (with_reducible refine (D1.out).mono ?_); rintro ee x2 ⟨rfl, h1, h2⟩; have MB4 := Lib.hid (MB3.out.kept (h2.block _ MB3.out.lt HNE.out)); have L4 := Lib.hid h1; have S3 := Lib.hid (CC.out x2 L4.out.below); clear h1 h2))
          all_goals (
            have L5 := Lib.hid (L4.out.old (Below.refl _ _).drew)
            have MB5 : Hid (MapT.MB x2.drew hm ((eR l i).map fun p => (p.1, Value.int .i64 p.2))) := Lib.hid (MapT.MB.kept MB4.out rfl)
            obtain ⟨y1, hrun, m1, same1, _, bc1, _⟩ := map_put (c := w.heap.size) (Below.size L5.out.below) HSB.out MB5.out nm s
            rw [HE.out] at m1
            have M1 := Lib.hid m1
            have L6 := Lib.hid (L5.out.farG (fun e => HNE.out.1 e.symm) (fun e => HNE.out.2 e.symm) (fun cs e => by
              obtain ⟨es, cl, g, _⟩ := MB5.out
              rw [g] at e
              cases e) same1 (L5.out.below.trans bc1))
            obtain ⟨ca, cb⟩ := S3.out
            clear m1 same1 bc1 S0
            go_wp2
            go_region
            go_wp2_with fail
            exact ⟨⟨i + 1, hlt, by go_num, Lib.hid ⟨L6.out, M1.out, HN.out⟩⟩, by simp [intOf]; omega⟩)
        · have q3 : (50 : Int) < (nm.size : Int) := by omega
          have TLc := Lib.hid (TL.out wr HQ.out.1.below)
          have L2 := Lib.hid HQ.out.1
          clear hnm hs h50 HQ
          go_wp2_with (first | (go_at_call 18; (with_reducible refine (TLc.out).mono ?_); rintro ee x1 ⟨rfl, h1⟩; have L3 := Lib.hid (L2.out.old h1); clear h1))
          go_ret
          exact ⟨rfl, L3.out.below⟩
    · have q0 : ¬ (i : Int) < (n : Int) := by omega
      obtain rfl : i = n := by omega
      obtain ⟨h1, h12⟩ := H12.out
      obtain ⟨hlo, hhi⟩ := HLH.out
      have hN := HQ.out.2.2
      have hbd := fR_bd l HV.out i h12 hN
      have hne := fR_ne l h1
      have hEl := eR_len l HV.out i h12 hN
      have hEf := fun k => eR_find l HV.out k i h12 hN
      have L0 := Lib.hid HQ.out.1
      have MB1 := Lib.hid HQ.out.2.1
      obtain ⟨F, hF⟩ : ∃ F, fR l i = F := ⟨_, rfl⟩
      obtain ⟨E, hE⟩ : ∃ E, eR l i = E := ⟨_, rfl⟩
      rw [hF] at hbd hne hEl L0
      simp only [hF] at hEf
      rw [hE] at hEl MB1
      simp only [hE] at hEf
      obtain ⟨N, hFN⟩ : ∃ N : Nat, F.length = N := ⟨_, rfl⟩
      rw [hFN] at hEl
      have hN1 : 1 ≤ N := by rw [← hFN]; exact List.length_pos_iff.2 hne
      have hN12 : N ≤ 12 := by rw [← hFN]; exact hbd.few
      obtain ⟨f, hf⟩ : ∃ f : ByteArray × Int → Bool, (fun p => decide (lo ≤ p.2) && decide (p.2 ≤ hi)) = f := ⟨_, rfl⟩
      have hbt : btZ lo hi F = F.filter f := by rw [btZ_filter lo hi hbd.ord, hf]
      have HFF := Lib.hid (show ∀ p : ByteArray × Int, f p = (decide (lo ≤ p.2) && decide (p.2 ≤ hi)) from fun p => by rw [← hf])
      obtain ⟨G, hG⟩ : ∃ G, F.filter f = G := ⟨_, rfl⟩
      obtain ⟨B, hB⟩ : ∃ B : Nat, G.length = B := ⟨_, rfl⟩
      have hBN : B ≤ N := by rw [← hB, ← hG, ← hFN]; exact List.length_filter_le _ _
      have D1 := Lib.hid (l_zall w bS bM HT.out F wr L0.out wr.heap.size rfl)
      have DV := Lib.hid (fun X hL q hq => l_zrev w bS bM HT.out F hne X hL q hq)
      have DY := fun X hL q hq => l_zby w bS bM HT.out F lo hi hlo hhi X hL q hq
      rw [hbt, hG] at DY
      have DY := Lib.hid DY
      have DC := Lib.hid (fun X hL q hq => l_zcard w bS bM HT.out F (N : Int) (by rw [hFN]) X hL q hq)
      have DN := Lib.hid (fun X hL q hq => l_zcount w bS bM HT.out F lo hi hlo hhi (B : Int) (by rw [hbt, hG, hB]) X hL q hq)
      have NL := Lib.hid (fun X hX => NU.out lo hlo X hX)
      have NH := Lib.hid (fun X hX => NU.out hi hhi X hX)
      have HF := Lib.hid (show F.length = N ∧ ZBd F ∧ 1 ≤ N ∧ N ≤ 12 ∧ B ≤ N from ⟨hFN, hbd, hN1, hN12, hBN⟩)
      have HE := Lib.hid (And.intro hEl hEf)
      have HG := Lib.hid (And.intro hG hB)
      clear hN hbd hne hEl hEf hF hE hFN hN1 hN12 hf hbt hG hB hBN hin hlt h1 h12 hlo hhi HQ C HV
      go_wp2_with (first | (go_at_call 17; (with_reducible refine (D1.out).mono ?_); rintro ee x1 ⟨A1, m1, c1, rfl, h1, h2, h3⟩; have L1 := Lib.hid h2; have R1 := Lib.hid h1.mono0; have MB2 := Lib.hid (MB1.out.kept (h3.block _ MB1.out.lt HNE.out)); clear h1 h2 h3; refine Hid.out ?_))
      refine Lib.hid ?_
      have hm1 : m1 = N := by rw [R1.out.own0.1, List.length_map, List.length_map, HF.out.1]
      subst hm1
      have K1 := Lib.hid (heap_alloc_new x1 (.cells #[.int .i64 6, .int .i64 0, .string ⟨#[]⟩, .slice A1 m1 c1] 29))
      have L2 := Lib.hid (L1.out.old (alloc_old (o := .cells #[.int .i64 6, .int .i64 0, .string ⟨#[]⟩, .slice A1 m1 c1] 29)))
      have R1b := Lib.hid (RO.below R1.out (alloc_old (o := .cells #[.int .i64 6, .int .i64 0, .string ⟨#[]⟩, .slice A1 m1 c1] 29)))
      have MB3 := Lib.hid (MB2.out.below (alloc_old (o := .cells #[.int .i64 6, .int .i64 0, .string ⟨#[]⟩, .slice A1 m1 c1] 29)))
      have D2 := Lib.hid (DV.out (x1.alloc (.cells #[.int .i64 6, .int .i64 0, .string ⟨#[]⟩, .slice A1 m1 c1] 29)) L2.out (x1.heap.size + 1) (by simp))
      go_wp2_with (first | (go_at_call 17; (with_reducible refine (D2.out).mono ?_); rintro ee x2 ⟨A2, m2, c2, rfl, h1, h2, h3⟩; have L3 := Lib.hid h2; have R2 := Lib.hid h1.mono0; have MB4 := Lib.hid (MB3.out.kept (h3.block _ MB3.out.lt HNE.out)); have K1b := Lib.hid (keepL h3 L2.out K1.out (by decide)); have R1c := Lib.hid (RO.keepD h3 L2.out R1b.out); clear h1 h2 h3; refine Hid.out ?_))
      refine Lib.hid ?_
      have hm2 : m2 = m1 := by rw [R2.out.own0.1, List.length_map, List.length_reverse, List.length_map, HF.out.1]
      subst hm2
      have K2 := Lib.hid (heap_alloc_new x2 (.cells #[.int .i64 6, .int .i64 0, .string ⟨#[]⟩, .slice A2 m2 c2] 29))
      have L4 := Lib.hid (L3.out.old (alloc_old (o := .cells #[.int .i64 6, .int .i64 0, .string ⟨#[]⟩, .slice A2 m2 c2] 29)))
      have R2b := Lib.hid (RO.below R2.out (alloc_old (o := .cells #[.int .i64 6, .int .i64 0, .string ⟨#[]⟩, .slice A2 m2 c2] 29)))
      have MB5 := Lib.hid (MB4.out.below (alloc_old (o := .cells #[.int .i64 6, .int .i64 0, .string ⟨#[]⟩, .slice A2 m2 c2] 29)))
      have K1c := Lib.hid (blk_below K1b.out (alloc_old (o := .cells #[.int .i64 6, .int .i64 0, .string ⟨#[]⟩, .slice A2 m2 c2] 29)))
      have R1d := Lib.hid (RO.below R1c.out (alloc_old (o := .cells #[.int .i64 6, .int .i64 0, .string ⟨#[]⟩, .slice A2 m2 c2] 29)))
      go_wp2_with (first | (go_at_call 25; (with_reducible refine (NL.out _ L4.out.below).mono ?_); rintro ee x3 ⟨rfl, h1⟩; have L5 := Lib.hid (L4.out.old h1); have MB6 := Lib.hid (MB5.out.below h1); have K1d := Lib.hid (blk_below K1c.out h1); have R1e := Lib.hid (RO.below R1d.out h1); have K2b := Lib.hid (blk_below K2.out h1); have R2c := Lib.hid (RO.below R2b.out h1); clear h1; refine Hid.out ?_))
      refine Lib.hid ?_
      go_wp2_with (first | (go_at_call 25; (with_reducible refine (NH.out _ L5.out.below).mono ?_); rintro ee x4 ⟨rfl, h1⟩; have L6 := Lib.hid (L5.out.old h1); have MB7 := Lib.hid (MB6.out.below h1); have K1e := Lib.hid (blk_below K1d.out h1); have R1f := Lib.hid (RO.below R1e.out h1); have K2c := Lib.hid (blk_below K2b.out h1); have R2d := Lib.hid (RO.below R2c.out h1); have D3 := Lib.hid (DY.out x4 L6.out _ rfl); clear h1; refine Hid.out ?_))
      refine Lib.hid ?_
      go_wp2_with (first | (go_at_call 17; (with_reducible refine (D3.out).mono ?_); rintro ee x5 ⟨A3, m3, c3, rfl, h1, h2, h3⟩; have L7 := Lib.hid h2; have R3 := Lib.hid h1.mono0; have MB8 := Lib.hid (MB7.out.kept (h3.block _ MB7.out.lt HNE.out)); have K1f := Lib.hid (keepL h3 L6.out K1e.out (by decide)); have R1g := Lib.hid (RO.keepD h3 L6.out R1f.out); have K2d := Lib.hid (keepL h3 L6.out K2c.out (by decide)); have R2e := Lib.hid (RO.keepD h3 L6.out R2d.out); clear h1 h2 h3; refine Hid.out ?_))
      refine Lib.hid ?_
      have hm3 : m3 = B := by rw [R3.out.own0.1, List.length_map, List.length_map, HG.out.2]
      subst hm3
      have RK0 := Lib.hid (show RK w bS bM hm E ((F.map Prod.fst).map some) ((F.map Prod.fst).reverse.map some) ((G.map Prod.fst).map some) x1.heap.size x2.heap.size x5.heap.size A1 A2 A3 c1 c2 c3 m2 m2 m3 (dZ F) (x5.alloc (.cells #[.int .i64 6, .int .i64 0, .string ⟨#[]⟩, .slice A3 m3 c3] 29)) from ⟨L7.out.old alloc_old, HNE.out, MB8.out.below alloc_old, blk_below K1f.out alloc_old, RO.below R1g.out alloc_old, blk_below K2d.out alloc_old, RO.below R2e.out alloc_old, heap_alloc_new x5 _, RO.below R3.out alloc_old⟩)
      have LN := MapT.run_len Tryz.underlying49 RK0.out.mb
      rw [List.length_map, HE.out.1] at LN
      go_wp2
      clear LN
      generalize x1.heap.size = b1 at RK0 ⊢
      generalize x2.heap.size = b2 at RK0 ⊢
      generalize x5.alloc (.cells #[.int .i64 6, .int .i64 0, .string ⟨#[]⟩, .slice A3 m3 c3] 29) = y at RK0 ⊢
      generalize x5.heap.size = b3 at RK0 ⊢
      clear L0 L1 L2 L3 L4 L5 L6 L7 R1 R1b R1c R1d R1e R1f R1g R2 R2b R2c R2d R2e R3 MB1 MB2 MB3 MB4 MB5 MB6 MB7 MB8 K1 K1b K1c K1d K1e K1f K2 K2b K2c K2d D1 D2 D3 DV DY q0
      have SX := Lib.hid (show ∀ X, RK w bS bM hm E ((F.map Prod.fst).map some) ((F.map Prod.fst).reverse.map some) ((G.map Prod.fst).map some) b1 b2 b3 A1 A2 A3 c1 c2 c3 m2 m2 m3 (dZ F) X → (X.cell? ⟨b1, 3, none⟩ = some (.slice A1 m2 c1) ∧ X.cell? ⟨b2, 3, none⟩ = some (.slice A2 m2 c2) ∧ X.cell? ⟨b3, 3, none⟩ = some (.slice A3 m3 c3)) from fun X h => ⟨(cells4 h.k1).1.2.2.2, (cells4 h.k2).1.2.2.2, (cells4 h.k3).1.2.2.2⟩)
      have SXD := Lib.hid (show ∀ (D : List (ByteArray × List (ByteArray × Int))) (X : World), RK w bS bM hm E ((F.map Prod.fst).map some) ((F.map Prod.fst).reverse.map some) ((G.map Prod.fst).map some) b1 b2 b3 A1 A2 A3 c1 c2 c3 m2 m2 m3 (D) X → (X.cell? ⟨b1, 3, none⟩ = some (.slice A1 m2 c1) ∧ X.cell? ⟨b2, 3, none⟩ = some (.slice A2 m2 c2) ∧ X.cell? ⟨b3, 3, none⟩ = some (.slice A3 m3 c3)) from fun D X h => ⟨(cells4 h.k1).1.2.2.2, (cells4 h.k2).1.2.2.2, (cells4 h.k3).1.2.2.2⟩)
      have Y0 := Lib.hid (RK0.out.below (Below.refl _ _).drew)
      have S0 := SX.out _ Y0.out
      have S0b := Lib.hid (SX.out (y.drew.alloc (.cells #[.string ⟨#[90, 67, 65, 82, 68]⟩, .string ⟨#[107]⟩] 9)) (Y0.out.below alloc_old))
      have S0c := Lib.hid (SX.out ((y.alloc (.cells #[.string ⟨#[90, 67, 65, 82, 68]⟩, .string ⟨#[107]⟩] 9)).drew) (RK0.out.below alloc_old.drew))
      have D4 : Hid (Calls Tryz.prog 17 #[.pointer (some ⟨bS, 0, none⟩), .slice (some ⟨y.heap.size, 0, none⟩) 2 2] ((y.alloc (.cells #[.string ⟨#[90, 67, 65, 82, 68]⟩, .string ⟨#[107]⟩] 9)).drew) fun e w' => e = .returned (.agg #[.int .i64 3, .int .i64 (m2 : Nat), .string ⟨#[]⟩, .slice none 0 0]) ∧ LDZ w w' bS bM (dZ F) ∧ Kp y.heap.size (fun i => i ≠ bS ∧ i ≠ bM) y.drew w') := Lib.hid (DC.out y.drew Y0.out.ld y.heap.size rfl)
      go_region_held3 (fun X => X.cell? ⟨b1, 3, none⟩ = some (.slice A1 m2 c1) ∧ X.cell? ⟨b2, 3, none⟩ = some (.slice A2 m2 c2) ∧ X.cell? ⟨b3, 3, none⟩ = some (.slice A3 m3 c3)) (first | (with_reducible exact S0) | (with_reducible exact S0b.out) | (with_reducible exact S0c.out) | (with_reducible exact S1.out) | (with_reducible exact S2.out) | (with_reducible exact S3.out) | (with_reducible exact S3b.out) | (with_reducible exact S4.out)) (first | (go_at_call 17; (first | ((with_reducible refine (D4.out).mono ?_); rintro ee z1 ⟨rfl, h1, h2⟩; have Y1 := Lib.hid (Y0.out.call h2 h1); have S1 := Lib.hid (SX.out _ Y1.out); clear h1 h2) | ((with_reducible refine (D5.out).mono ?_); rintro ee z4 ⟨rfl, h1, h2⟩; have Y4 := Lib.hid (Y3.out.call h2 h1); have S4 := Lib.hid (SX.out _ Y4.out); clear h1 h2))) | (go_at_call 25; (first | ((with_reducible refine (NL.out _ Y1.out.ld.below).mono ?_); rintro ee z2 ⟨rfl, h1⟩; have Y2 := Lib.hid (Y1.out.below h1); have S2 := Lib.hid (SX.out _ Y2.out); clear h1) | ((with_reducible refine (NH.out _ Y2.out.ld.below).mono ?_); rintro ee z3 ⟨rfl, h1⟩; have Y3 := Lib.hid (Y2.out.below h1); have S3 := Lib.hid (SX.out _ Y3.out); have S3b := Lib.hid (SX.out (z3.alloc (.cells #[.string ⟨#[90, 67, 79, 85, 78, 84]⟩, .string ⟨#[107]⟩, .string (numT lo), .string (numT hi)] 9)) (Y3.out.below alloc_old)); have D5 := Lib.hid (DN.out z3 Y3.out.ld _ rfl); clear h1))))
      go_wp2
      clear S0 S0b S0c S1 S2 S3 S3b S4 D4 D5 Y0 Y1 Y2 Y3 RK0
      obtain ⟨g1, rfl⟩ : ∃ g, A1 = some ⟨g, 0, none⟩ := Y4.out.r1.own0.2 (fun e => by have h9 := HF.out; have e2 := congrArg List.length e; simp only [List.length_map, List.length_nil] at e2; omega)
      obtain ⟨g2, rfl⟩ : ∃ g, A2 = some ⟨g, 0, none⟩ := Y4.out.r2.own0.2 (fun e => by have h9 := HF.out; have e2 := congrArg List.length e; simp only [List.length_map, List.length_reverse, List.length_nil] at e2; omega)
      as_aux_lemma =>
        go_loopw [15, 16] (fun av iv wr => ∃ j : Nat, j ≤ m2 ∧ av = .int .i64 (cntR f F j : Nat) ∧ iv = .int .i64 j ∧ Hid (RK w bS bM hm E ((F.map Prod.fst).map some) ((F.map Prod.fst).reverse.map some) ((G.map Prod.fst).map some) b1 b2 b3 (some ⟨g1, 0, none⟩) (some ⟨g2, 0, none⟩) A3 c1 c2 c3 m2 m2 m3 (dZ F) wr)) (fun _ iv _ => m2 - (intOf iv).toNat)
        case atStart => exact ⟨0, Nat.zero_le _, rfl, rfl, Y4⟩
        case round =>
          obtain ⟨j, hj, rfl, rfl, HQ⟩ := hrel
          by_cases hlt : j < m2
          · as_aux_lemma =>
              have q0 : (j : Int) < (m2 : Int) := by omega
              obtain ⟨ct, hct⟩ : ∃ ct, cntR f F j = ct := ⟨_, rfl⟩
              rw [hct]
              have HCT := Lib.hid hct
              clear hct
              obtain ⟨hFN, hbd, hN1, hN12, hBN⟩ := HF.out
              obtain ⟨⟨nm, x⟩, hp⟩ : ∃ p, F[j]? = some p := ⟨_, List.getElem?_eq_getElem (by omega)⟩
              have hfp : findD nm F = some x := find_atZ hbd.nd hp
              have hsI : I64 x := hbd.sc (nm, x) (List.mem_of_getElem? hp)
              obtain ⟨a1, a2, a3⟩ := SX.out wr HQ.out
              have ca : wr.cell? ⟨g1, j * 4 + 2, none⟩ = some (.string nm) := RO.cellZ HQ.out.r1 j nm (by rw [List.getElem?_map, List.getElem?_map, hp]; rfl)
              have cb : wr.cell? ⟨g2, (m2 - 1 - j) * 4 + 2, none⟩ = some (.string nm) := RO.cellZ HQ.out.r2 (m2 - 1 - j) nm (rev_atZ hFN hp)
              have LK := MapT.run_lookup (P := Tryz.prog) Tryz.underlying49 Tryz.underlying9 HQ.out.mb nm true (.int .i64 0) (by kernel_rfl)
              rw [findE, HE.out.2, hfp] at LK
              simp only [Option.map_some, Option.getD_some, Option.isSome_some, if_true] at LK
              obtain ⟨d, hd⟩ : ∃ d : Nat, m2 - 1 = d := ⟨_, rfl⟩
              obtain ⟨r, hr⟩ : ∃ r : Nat, d - j = r := ⟨_, rfl⟩
              rw [hd, hr] at cb
              have y1 : wrap64 ((m2 : Int) - 1) = (d : Int) := by unfold wrap64; omega
              have y2 : wrap64 ((d : Int) - (j : Int)) = (r : Int) := by unfold wrap64; omega
              have y3 : (r : Int) < (m2 : Int) := by omega
              have hrk := rank_at hbd.ord hp
              have D1 := Lib.hid (l_zrank w bS bM HT.out F nm x hfp (j : Int) (by rw [hrk]) wr HQ.out.ld _ rfl)
              have DV := Lib.hid (fun X hL q hq => l_zrevrank w bS bM HT.out F nm x hfp (r : Int) (by rw [hrk, hFN]; omega) X hL q hq)
              have DS := Lib.hid (fun X hL q hq => l_zscore w bS bM HT.out F nm x hsI hfp X hL q hq)
              have NX := Lib.hid (fun X hX => NU.out x hsI X hX)
              have hPV : j = 0 ∨ ∃ (c : Nat) (qn : ByteArray) (qx : Int), j = c + 1 ∧ F[c]? = some (qn, qx) ∧ (qx < x ∨ (qx = x ∧ bl qn < bl nm)) := by
                cases j with
                | zero => exact .inl rfl
                | succ c =>
                  obtain ⟨⟨qn, qx⟩, hq⟩ : ∃ q, F[c]? = some q := ⟨_, List.getElem?_eq_getElem (by omega)⟩
                  exact .inr ⟨c, qn, qx, rfl, hq, ltZ_iff.1 (ord_next hbd.ord hq hp)⟩
              have HPV := Lib.hid hPV
              have hfnd := fun (c : Nat) (qn : ByteArray) (qx : Int) (hq : F[c]? = some (qn, qx)) => find_atZ hbd.nd hq
              have HFD := Lib.hid hfnd
              have HP := Lib.hid (show F[j]? = some (nm, x) from hp)
              have HM := Lib.hid (And.intro hN12 hBN)
              clear hFN hbd hN1 hN12 hBN hp hfp hsI hd hr hrk hPV hfnd hj
              go_wp2_with (first | (go_at_call 17; (with_reducible refine (D1.out).mono ?_); rintro ee z1 ⟨rfl, h1, h2⟩; have Y1 := Lib.hid (HQ.out.call h2 h1); have D2 := Lib.hid (DV.out z1 Y1.out.ld _ rfl); clear h1 h2; refine Hid.out ?_))
              refine Lib.hid ?_
              clear a1 a2 a3 ca cb LK
              go_wp2_with (first | (go_at_call 17; (with_reducible refine (D2.out).mono ?_); rintro ee z2 ⟨rfl, h1, h2⟩; have Y2 := Lib.hid (Y1.out.call h2 h1); have D3 := Lib.hid (DS.out z2 Y2.out.ld _ rfl); clear h1 h2; refine Hid.out ?_))
              refine Lib.hid ?_
              go_wp2_with (first | (go_at_call 17; (with_reducible refine (D3.out).mono ?_); rintro ee z3 ⟨rfl, h1, h2⟩; have Y3 := Lib.hid (Y2.out.call h2 h1); clear h1 h2; refine Hid.out ?_))
              refine Lib.hid ?_
              go_wp2_with (first | (go_at_call 25; (with_reducible refine (NX.out _ Y3.out.ld.below).mono ?_); rintro ee z5 ⟨rfl, h1⟩; have Y5 := Lib.hid (Y3.out.below h1); clear h1; refine Hid.out ?_))
              refine Lib.hid ?_
              clear y1 y2 y3 D1 D2 D3 DV DS NX Y1 Y2 Y3 HQ q0
              obtain ⟨a1, a2, a3⟩ := SX.out z5 Y5.out
              have n12 := HM.out
              rcases HPV.out with e1 | ⟨c, qn, qx, e1, hq, e2⟩
              · have q5 : ¬ (0 : Int) < (j : Int) := by omega
                clear e1
                by_cases d1 : lo ≤ x
                · by_cases d2 : x ≤ hi
                  · have hfT : f (nm, x) = true := by rw [HFF.out]; simp [d1, d2]
                    have hcnt := cntR_at f HP.out hfT
                    rw [HG.out.1, HCT.out] at hcnt
                    have hcl : ct < m3 := by rw [← HG.out.2]; exact (List.getElem?_eq_some_iff.1 hcnt).1
                    obtain ⟨g3, rfl⟩ : ∃ g, A3 = some ⟨g, 0, none⟩ := Y5.out.r3.own0.2 (fun e => by have e2 := congrArg List.length e; simp only [List.length_map, List.length_nil, HG.out.2] at e2; omega)
                    have cy : z5.cell? ⟨g3, ct * 4 + 2, none⟩ = some (.string nm) := RO.cellZ Y5.out.r3 ct nm (by rw [List.getElem?_map, List.getElem?_map, hcnt]; rfl)
                    have hsu := cntR_succ f HP.out
                    rw [if_pos hfT, HCT.out] at hsu
                    have HSU := Lib.hid hsu
                    have d3 : ¬ (m3 : Int) ≤ (ct : Int) := by omega
                    have d4 : (ct : Int) < (m3 : Int) := by omega
                    have d5 : ct ≤ 12 := by omega
                    clear hfT hcnt hcl hsu
                    as_aux_lemma =>
                      go_wp2_with fail
                      exact ⟨⟨j + 1, hlt, by rw [HSU.out]; go_num, by go_num, Y5⟩, by simp [intOf]; omega⟩
                  · have hfT : f (nm, x) = false := by rw [HFF.out]; simp [d2]
                    have hsu := cntR_succ f HP.out
                    rw [if_neg (by rw [hfT]; decide), HCT.out] at hsu
                    have HSU := Lib.hid hsu
                    clear hfT hsu
                    as_aux_lemma =>
                      go_wp2_with fail
                      exact ⟨⟨j + 1, hlt, by rw [HSU.out], by go_num, Y5⟩, by simp [intOf]; omega⟩
                · have hfT : f (nm, x) = false := by rw [HFF.out]; simp [d1]
                  have hsu := cntR_succ f HP.out
                  rw [if_neg (by rw [hfT]; decide), HCT.out] at hsu
                  have HSU := Lib.hid hsu
                  clear hfT hsu
                  as_aux_lemma =>
                    go_wp2_with fail
                    exact ⟨⟨j + 1, hlt, by rw [HSU.out], by go_num, Y5⟩, by simp [intOf]; omega⟩
              · have q5 : (0 : Int) < (j : Int) := by omega
                have y4 : wrap64 ((j : Int) - 1) = (c : Int) := by unfold wrap64; omega
                have q6 : (c : Int) < (m2 : Int) := by omega
                have cq : z5.cell? ⟨g1, c * 4 + 2, none⟩ = some (.string qn) := RO.cellZ Y5.out.r1 c qn (by rw [List.getElem?_map, List.getElem?_map, hq]; rfl)
                have cq2 : z5.cell? ⟨g1, (j - 1) * 4 + 2, none⟩ = some (.string qn) := by rw [show j - 1 = c by omega]; exact cq
                have LQ := MapT.run_lookup (P := Tryz.prog) Tryz.underlying49 Tryz.underlying9 Y5.out.mb qn false (.int .i64 0) (by kernel_rfl)
                rw [findE, HE.out.2, HFD.out c qn qx hq] at LQ
                simp only [Option.map_some, Option.getD_some, Bool.false_eq_true, if_false] at LQ
                clear e1 hq
                rcases e2 with e2 | ⟨e2, e3⟩
                · have q7 : ¬ x < qx := by omega
                  have q8 : ¬ qx = x := by omega
                  clear e2
                  by_cases d1 : lo ≤ x
                  · by_cases d2 : x ≤ hi
                    · have hfT : f (nm, x) = true := by rw [HFF.out]; simp [d1, d2]
                      have hcnt := cntR_at f HP.out hfT
                      rw [HG.out.1, HCT.out] at hcnt
                      have hcl : ct < m3 := by rw [← HG.out.2]; exact (List.getElem?_eq_some_iff.1 hcnt).1
                      obtain ⟨g3, rfl⟩ : ∃ g, A3 = some ⟨g, 0, none⟩ := Y5.out.r3.own0.2 (fun e => by have e2 := congrArg List.length e; simp only [List.length_map, List.length_nil, HG.out.2] at e2; omega)
                      have cy : z5.cell? ⟨g3, ct * 4 + 2, none⟩ = some (.string nm) := RO.cellZ Y5.out.r3 ct nm (by rw [List.getElem?_map, List.getElem?_map, hcnt]; rfl)
                      have hsu := cntR_succ f HP.out
                      rw [if_pos hfT, HCT.out] at hsu
                      have HSU := Lib.hid hsu
                      have d3 : ¬ (m3 : Int) ≤ (ct : Int) := by omega
                      have d4 : (ct : Int) < (m3 : Int) := by omega
                      have d5 : ct ≤ 12 := by omega
                      clear hfT hcnt hcl hsu
                      as_aux_lemma =>
                        go_wp2_with fail
                        exact ⟨⟨j + 1, hlt, by rw [HSU.out]; go_num, by go_num, Y5⟩, by simp [intOf]; omega⟩
                    · have hfT : f (nm, x) = false := by rw [HFF.out]; simp [d2]
                      have hsu := cntR_succ f HP.out
                      rw [if_neg (by rw [hfT]; decide), HCT.out] at hsu
                      have HSU := Lib.hid hsu
                      clear hfT hsu
                      as_aux_lemma =>
                        go_wp2_with fail
                        exact ⟨⟨j + 1, hlt, by rw [HSU.out], by go_num, Y5⟩, by simp [intOf]; omega⟩
                  · have hfT : f (nm, x) = false := by rw [HFF.out]; simp [d1]
                    have hsu := cntR_succ f HP.out
                    rw [if_neg (by rw [hfT]; decide), HCT.out] at hsu
                    have HSU := Lib.hid hsu
                    clear hfT hsu
                    as_aux_lemma =>
                      go_wp2_with fail
                      exact ⟨⟨j + 1, hlt, by rw [HSU.out], by go_num, Y5⟩, by simp [intOf]; omega⟩
                · subst e2
                  have q7 : ¬ qx < qx := by omega
                  have hlb : Op.bytesLess qn.toList nm.toList = true := by rw [less_bl]; exact decide_eq_true e3
                  clear e3
                  by_cases d1 : lo ≤ qx
                  · by_cases d2 : qx ≤ hi
                    · have hfT : f (nm, qx) = true := by rw [HFF.out]; simp [d1, d2]
                      have hcnt := cntR_at f HP.out hfT
                      rw [HG.out.1, HCT.out] at hcnt
                      have hcl : ct < m3 := by rw [← HG.out.2]; exact (List.getElem?_eq_some_iff.1 hcnt).1
                      obtain ⟨g3, rfl⟩ : ∃ g, A3 = some ⟨g, 0, none⟩ := Y5.out.r3.own0.2 (fun e => by have e2 := congrArg List.length e; simp only [List.length_map, List.length_nil, HG.out.2] at e2; omega)
                      have cy : z5.cell? ⟨g3, ct * 4 + 2, none⟩ = some (.string nm) := RO.cellZ Y5.out.r3 ct nm (by rw [List.getElem?_map, List.getElem?_map, hcnt]; rfl)
                      have hsu := cntR_succ f HP.out
                      rw [if_pos hfT, HCT.out] at hsu
                      have HSU := Lib.hid hsu
                      have d3 : ¬ (m3 : Int) ≤ (ct : Int) := by omega
                      have d4 : (ct : Int) < (m3 : Int) := by omega
                      have d5 : ct ≤ 12 := by omega
                      clear hfT hcnt hcl hsu
                      as_aux_lemma =>
                        go_wp2_with fail
                        exact ⟨⟨j + 1, hlt, by rw [HSU.out]; go_num, by go_num, Y5⟩, by simp [intOf]; omega⟩
                    · have hfT : f (nm, qx) = false := by rw [HFF.out]; simp [d2]
                      have hsu := cntR_succ f HP.out
                      rw [if_neg (by rw [hfT]; decide), HCT.out] at hsu
                      have HSU := Lib.hid hsu
                      clear hfT hsu
                      as_aux_lemma =>
                        go_wp2_with fail
                        exact ⟨⟨j + 1, hlt, by rw [HSU.out], by go_num, Y5⟩, by simp [intOf]; omega⟩
                  · have hfT : f (nm, qx) = false := by rw [HFF.out]; simp [d1]
                    have hsu := cntR_succ f HP.out
                    rw [if_neg (by rw [hfT]; decide), HCT.out] at hsu
                    have HSU := Lib.hid hsu
                    clear hfT hsu
                    as_aux_lemma =>
                      go_wp2_with fail
                      exact ⟨⟨j + 1, hlt, by rw [HSU.out], by go_num, Y5⟩, by simp [intOf]; omega⟩
          · have q0 : ¬ (j : Int) < (m2 : Int) := by omega
            obtain rfl : j = m2 := by omega
            have hcnt : cntR f F j = m3 := by
              have h := cntR_all f F
              rw [HF.out.1, HG.out.1, HG.out.2] at h
              exact h
            rw [hcnt]
            obtain ⟨a1, a2, a3⟩ := SX.out wr HQ.out
            have S0 : Hid (RK w bS bM hm E ((F.map Prod.fst).map some) ((F.map Prod.fst).reverse.map some) ((G.map Prod.fst).map some) b1 b2 b3 (some ⟨g1, 0, none⟩) (some ⟨g2, 0, none⟩) A3 c1 c2 c3 j j m3 (dZ (F.drop 0)) wr) := Lib.hid (by rw [List.drop_zero]; exact HQ.out)
            clear hcnt HQ hlt hj Y4
            go_wp2
            clear a1 a2 a3 q0
            as_aux_lemma =>
              go_loopw [20] (fun iv wr => ∃ c : Nat, c ≤ j ∧ iv = .int .i64 c ∧ Hid (RK w bS bM hm E ((F.map Prod.fst).map some) ((F.map Prod.fst).reverse.map some) ((G.map Prod.fst).map some) b1 b2 b3 (some ⟨g1, 0, none⟩) (some ⟨g2, 0, none⟩) A3 c1 c2 c3 j j m3 (dZ (F.drop c)) wr)) (fun iv _ => j - (intOf iv).toNat)
              case atStart => exact ⟨0, Nat.zero_le _, rfl, S0⟩
              case round =>
                obtain ⟨c, hc, rfl, HQ⟩ := hrel
                by_cases hlt : c < j
                · as_aux_lemma =>
                    have q0 : (c : Int) < (j : Int) := by omega
                    obtain ⟨hFN, hbd, hN1, hN12, hBN⟩ := HF.out
                    obtain ⟨⟨nm, x⟩, hp⟩ : ∃ p, F[c]? = some p := ⟨_, List.getElem?_eq_getElem (by omega)⟩
                    have D1 := Lib.hid (l_zpop w bS bM HT.out (F.drop c) (nm, x) (F.drop (c + 1)) (drop_atZ hp) (hbd.sub (List.drop_sublist _ _)) wr HQ.out.ld _ rfl)
                    have HP := Lib.hid (show F[c]? = some (nm, x) from hp)
                    clear hFN hbd hN1 hBN hp
                    go_wp2_with (first | (go_at_call 17; (with_reducible refine (D1.out).mono ?_); rintro ee z1 ⟨A4, m4, c4, rfl, h1, h2, h3⟩; have Y1 := Lib.hid (HQ.out.call h3 h2); have R4 := Lib.hid h1.mono0; clear h1 h2 h3; refine Hid.out ?_))
                    refine Lib.hid ?_
                    obtain ⟨g4, rfl⟩ : ∃ g, A4 = some ⟨g, 0, none⟩ := R4.out.own0.2 (by simp)
                    have hm4 : m4 = 2 := R4.out.own0.1
                    subst hm4
                    have Y2 := Lib.hid (Y1.out.below (alloc_old (o := .cells #[.int .i64 6, .int .i64 0, .string ⟨#[]⟩, .slice (some ⟨g4, 0, none⟩) 2 c4] 29)))
                    have Y3 := Lib.hid (Y2.out.below (Below.refl _ _).drew)
                    have R4b := Lib.hid (RO.below R4.out (alloc_old (o := .cells #[.int .i64 6, .int .i64 0, .string ⟨#[]⟩, .slice (some ⟨g4, 0, none⟩) 2 c4] 29)))
                    have k4 := (cells4 (heap_alloc_new z1 (.cells #[.int .i64 6, .int .i64 0, .string ⟨#[]⟩, .slice (some ⟨g4, 0, none⟩) 2 c4] 29))).1.2.2.2
                    have cz : (z1.alloc (.cells #[.int .i64 6, .int .i64 0, .string ⟨#[]⟩, .slice (some ⟨g4, 0, none⟩) 2 c4] 29)).cell? ⟨g4, 2, none⟩ = some (.string nm) := RO.cellZ R4b.out 0 nm rfl
                    obtain ⟨a1, _, _⟩ := SXD.out _ _ Y2.out
                    have ca : (z1.alloc (.cells #[.int .i64 6, .int .i64 0, .string ⟨#[]⟩, .slice (some ⟨g4, 0, none⟩) 2 c4] 29)).cell? ⟨g1, c * 4 + 2, none⟩ = some (.string nm) := RO.cellZ Y2.out.r1 c nm (by rw [List.getElem?_map, List.getElem?_map, HP.out]; rfl)
                    go_wp2
                    go_region
                    go_wp2_with fail
                    exact ⟨⟨c + 1, hlt, by go_num, Y3⟩, by simp [intOf]; omega⟩
                · have q0 : ¬ (c : Int) < (j : Int) := by omega
                  obtain rfl : c = j := by omega
                  have hdr : F.drop c = [] := List.drop_eq_nil_of_le (by rw [HF.out.1]; exact Nat.le_refl _)
                  have TLc := Lib.hid (TL.out wr HQ.out.ld.below)
                  have L0 : Hid (LDZ w wr bS bM []) := Lib.hid (by have h := HQ.out.ld; rw [hdr, dZ_nil] at h; exact h)
                  clear hdr HQ hc hlt
                  go_wp2_with (first | (go_at_call 18; (with_reducible refine (TLc.out).mono ?_); rintro ee x1 ⟨rfl, h1⟩; have L1 := Lib.hid (L0.out.old h1); have AL := Lib.hid (All0 bS bM x1 (LD.sp0 L1.out)); clear h1; refine Hid.out ?_))
                  refine Lib.hid ?_
                  go_wp2_with (first | (go_at_call 24; (with_reducible refine (AL.out).mono ?_); rintro ee x2 ⟨rfl, h1⟩; have L2 := Lib.hid (L1.out.old h1); clear h1))
                  go_ret
                  exact ⟨by first | rfl | simp, L2.out.below⟩
end Go.Proofs.YticlacjpgjkhcaaGreatDoor

/- The law ScoresRanks, whole. -/
namespace Go.Proofs.YticlacjpgjkhcaaGreatDoor
open Go.ChangeShapes Go.WideShapes Go.ChangeAt Go.RowKit

theorem I64.of_wfZ {x : Int} (h : (Lit.int .i64 x).wf = true) : I64 x := by
  have h2 : (IntKind.i64.min ≤ x) ∧ x ≤ IntKind.i64.max := by simpa [Lit.wf] using h
  exact ⟨h2.1, h2.2⟩
set_option maxRecDepth 100000 in
set_option maxHeartbeats 8000000 in
theorem ranks_none (l : List (ByteArray × Int)) (v0 : Value) (lo hi : Int) (w : World) (hT : TZ w) (h0 : SZl w v0 l) (h : l.length = 0 ∨ 12 < l.length) : Calls Tryz.prog 9 #[v0, .int .i64 lo, .int .i64 hi] w fun e w' => e = .returned (.bool true) ∧ Below w.heap.size w w' := by
  have TL := Lib.hid (toldZ hT)
  obtain ⟨aA, cap, rfl, _⟩ := h0
  obtain ⟨n, hn⟩ : ∃ n : Nat, l.length = n := ⟨_, rfl⟩
  rw [hn] at h
  rw [hn]
  clear hn hT
  by_cases h1 : n = 0
  · subst h1
    clear h
    go_enter Tryz.func9, Tryz.ntmps9
    go_wp2_with (first | (go_at_call 18; (with_reducible refine (TL.out).mono ?_); rintro e w7 ⟨rfl, h7⟩; have B7 := Lib.hid h7; clear h7))
    go_ret
    exact ⟨rfl, B7.out⟩
  · have q1 : ¬ ((n : Int) = 0) := by omega
    have q2 : (12 : Int) < (n : Int) := by omega
    clear h
    go_enter Tryz.func9, Tryz.ntmps9
    go_wp2_with (first | (go_at_call 18; (with_reducible refine (TL.out).mono ?_); rintro e w7 ⟨rfl, h7⟩; have B7 := Lib.hid h7; clear h7))
    go_ret
    exact ⟨rfl, B7.out⟩
theorem ranks_law {W : World} (hT : TZ W) (v0 : Value) (l : List (ByteArray × Int)) (h0 : SZl W v0 l) (lo hi : Int) (hlo : I64 lo) (hhi : I64 hi) : Calls Tryz.prog 9 #[v0, .int .i64 lo, .int .i64 hi] W fun e w' => e = .returned (.bool true) ∧ Below W.heap.size W w' := by
  by_cases h : 1 ≤ l.length ∧ l.length ≤ 12
  · exact ranks_main l v0 lo hi W hT h0 hlo hhi _ rfl h.1 h.2
  · exact ranks_none l v0 lo hi W hT h0 (by omega)
end Go.Proofs.YticlacjpgjkhcaaGreatDoor
