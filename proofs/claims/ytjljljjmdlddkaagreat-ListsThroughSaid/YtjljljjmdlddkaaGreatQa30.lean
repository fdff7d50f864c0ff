/- Texts joined: T2 -/
import Derived.Test.YtjljljjmdlddkaaGreatQa29

/- The law ListsThrough: its walk. -/
namespace Go.Proofs.YtjljljjmdlddkaaGreat
open Go.ChangeShapes Go.WideShapes Go.ChangeAt Go.RowKit

/-- Texts pushed one by one. -/
def pushed (f : Bool) (l : List ByteArray) : List ByteArray := if f then l.reverse else l
theorem pushed_len (f : Bool) (l : List ByteArray) : (pushed f l).length = l.length := by cases f <;> simp [pushed]
theorem mem_pushed (f : Bool) (l : List ByteArray) (t : ByteArray) : t ∈ pushed f l ↔ t ∈ l := by cases f <;> simp [pushed]
theorem pushed_snoc (f : Bool) (l : List ByteArray) (s : ByteArray) : pushed f (l ++ [s]) = pushT f (pushed f l) [s] := by cases f <;> simp [pushed, pushT]
set_option maxRecDepth 100000 in
set_option maxHeartbeats 8000000 in
theorem through_FF (l P Q : List ByteArray) (v0 : Value) (w : World) (h0 : SSl w v0 l) (h1 : 1 ≤ l.length) (h15 : l.length ≤ 15) (hP : pushed false l = P) (hQ : l = Q) : Calls Tryz.prog 3 #[v0, .bool false, .bool false] w fun e w' => e = .returned (.bool true) ∧ Below w.heap.size w w' := by
  have NW := Lib.hid (fun X => New9 X)
  have TL := Lib.hid (fun X => told X)
  obtain ⟨aA, cap, rfl, p1, p2, p3⟩ := h0
  obtain ⟨blk, off, rfl, hblt, hc⟩ := p3 (by intro e; rw [e] at h1; simp at h1)
  have CA := Lib.hid (show ∀ Y, Below w.heap.size w Y → ∀ (i : Nat) (s : ByteArray), l[i]? = some s → Y.cell? ⟨blk, off + i, none⟩ = some (.string s) from fun Y hY i s hs => (hY.cell (p := ⟨blk, off + i, none⟩) hblt).trans (hc i s hs))
  obtain ⟨n, hn⟩ : ∃ n : Nat, l.length = n := ⟨_, rfl⟩
  rw [hn] at h1 h15
  simp only [hn]
  have HN := Lib.hid hn
  have HP := Lib.hid hP
  have HPL := Lib.hid (show P.length = n by rw [← hP, pushed_len]; exact hn)
  have HQL := Lib.hid (show Q.length = n from (congrArg List.length hQ).symm.trans hn)
  have HQA := Lib.hid (show ∀ i, i < n → Q[i]? = l[i]? from fun i hi => by rw [hQ])
  have HPQ := Lib.hid (show P = Q by rw [← hQ, ← hP]; simp [pushed])
  have q1 : ¬ (n : Int) = 0 := by omega
  have q2 : ¬ (15 : Int) < (n : Int) := by omega
  have q1b : ((n : Int) == 0) = false := by rw [beq_eq_false_iff_ne]; exact q1
  have q2b : decide ((15 : Int) < (n : Int)) = false := decide_eq_false q2
  clear p1 p2 p3 hc hn hblt hP hQ
  go_enter Tryz.func3, Tryz.ntmps3
  go_wp2_with (first | (go_at_call 5; (with_reducible refine (NW.out _).mono ?_); rintro e v0 ⟨bS, bM, rfl, hS0, hbS, hbM, hB0⟩; have L0 := Lib.hid (LD.mk0 hS0 hB0 hbS hbM); clear hS0 hbS hbM hB0; refine Hid.out ?_))
  refine Lib.hid ?_
  go_wp2
  go_loopw [10] (fun iv wr => ∃ i : Nat, i ≤ n ∧ iv = .int .i64 i ∧ Hid (LD w wr bS bM (ne2 ⟨#[107]⟩ ⟨#[106]⟩ (pushed false (l.take i)) []) ∧ ∀ s ∈ l.take i, s.size ≤ 100)) (fun iv _ => n - (intOf iv).toNat)
  case atStart => exact ⟨0, Nat.zero_le _, rfl, Lib.hid ⟨by cases false <;> exact L0.out, fun s hs => by simp at hs⟩⟩
  case round =>
    obtain ⟨i, hi, rfl, HQ⟩ := hrel
    by_cases hlt : i < n
    · obtain ⟨s, hs⟩ : ∃ s, l[i]? = some s := ⟨_, List.getElem?_eq_getElem (by rw [HN.out]; exact hlt)⟩
      have q3 : (i : Int) < (n : Int) := by omega
      have ca := CA.out _ HQ.out.1.below i s hs
      by_cases h50 : s.size ≤ 100
      · have q4 : ¬ (100 : Int) < (s.size : Int) := by omega
        have q4b : decide ((100 : Int) < (s.size : Int)) = false := decide_eq_false q4
        have HTK := Lib.hid (take_at l i s hs)
        have HPS := Lib.hid (show pushed false (l.take (i + 1)) = pushT false (pushed false (l.take i)) [s] by rw [HTK.out]; exact pushed_snoc _ _ _)
        have HF := Lib.hid (show ∀ t ∈ l.take (i + 1), t.size ≤ 100 from fun t ht => by
          rw [HTK.out] at ht
          rcases List.mem_append.1 ht with ht | ht
          · exact HQ.out.2 t ht
          · simp at ht
            subst ht
            exact h50)
        have hfw : few 15 (pushT false (pushed false (l.take i)) [s]) := by
          rw [← HPS.out]
          exact ⟨by rw [pushed_len, List.length_take]; omega, Nat.le_refl _, fun t ht => HF.out t ((mem_pushed _ _ _).1 ht)⟩
        have D5 := Lib.hid (p_pushF w bS bM (pushed false (l.take i)) s i (by rw [pushed_len, List.length_take, HN.out]; omega) hfw wr HQ.out.1 _ rfl)
        have fN : ∀ X, (Instr.field 28 (.agg #[.int .i64 3, .int .i64 ((i + 1 : Nat) : Int), .string ⟨#[]⟩, .slice none 0 0]) 1).run Tryz.prog X = .ok (.int .i64 ((i + 1 : Nat) : Int)) X := fun X => by kernel_rfl
        have z0 : ((i + 1 : Nat) : Int) = (i : Int) + 1 := by omega
        have z1 : IntKind.i64.wrap ((i : Int) + 1) = (i : Int) + 1 := IntWalk.i64_in _ (by omega)
        rw [z0] at D5 fN
        clear hs hfw z0
        go_wp2_with (first | (go_at_call 6; (with_reducible refine (D5.out).mono ?_); rintro e w4 ⟨rfl, h4, _⟩; have L4 := Lib.hid h4; clear h4))
        exact ⟨⟨i + 1, by omega, by go_num, Lib.hid ⟨by rw [HPS.out]; exact L4.out, HF.out⟩⟩, by simp [intOf]; omega⟩
      · have q4 : (100 : Int) < (s.size : Int) := by omega
        clear hs
        have LW := Lib.hid HQ.out.1
        go_wp2_with (first | (go_at_call 4; (with_reducible refine (TL.out _).mono ?_); rintro e w7 ⟨rfl, h7⟩; have B7 := Lib.hid (LW.out.old h7).below; clear h7))
        exact bodyPost_ret (v := .bool true) (by simp [results, Tryz.results3, go_sem]) rfl ⟨rfl, B7.out⟩
    · obtain rfl : n = i := by omega
      have q3 : ¬ (n : Int) < (n : Int) := by omega
      obtain ⟨w2, rfl⟩ : ∃ w2, w2 = wr := ⟨_, rfl⟩
      have hQ := HQ.out
      rw [List.take_of_length_le (by rw [HN.out]; exact Nat.le_refl _), HP.out] at hQ
      have L2 := Lib.hid (show LD w w2 bS bM (ne2 ⟨#[107]⟩ ⟨#[106]⟩ (P.drop 0) (Q.take 0)) by simpa [] using hQ.1)
      have H100 := Lib.hid (show ∀ t ∈ Q, t.size ≤ 100 from fun t ht => by
        obtain ⟨i, hi, he⟩ := List.mem_iff_getElem.1 ht
        have h1 := HQA.out i (by rw [← HQL.out]; exact hi)
        rw [List.getElem?_eq_getElem hi, he] at h1
        exact hQ.2 t (List.mem_of_getElem? h1.symm))
      clear HQ hQ hi hlt q3
      go_wp2
      go_loopw [11] (fun iv wr => ∃ i : Nat, i ≤ n ∧ iv = .int .i64 i ∧ Hid (LD w wr bS bM (ne2 ⟨#[107]⟩ ⟨#[106]⟩ (P.drop i) (Q.take i)))) (fun iv _ => n - (intOf iv).toNat)
      case atStart => exact ⟨0, Nat.zero_le _, rfl, L2⟩
      case round =>
        obtain ⟨i, hi, rfl, HL⟩ := hrel
        by_cases hlt : i < n
        · obtain ⟨s, hs⟩ : ∃ s, Q[i]? = some s := ⟨_, List.getElem?_eq_getElem (by rw [HQL.out]; exact hlt)⟩
          have q3 : (i : Int) < (n : Int) := by omega
          have hsl := (HQA.out i hlt).symm.trans hs
          have HSL := Lib.hid hsl
          have hrest : (P.drop i)[0]? = some s ∧ (P.drop i).eraseIdx 0 = P.drop (i + 1) := by
            have h2 := drop_at P i s (by rw [HPQ.out]; exact hs)
            rw [h2]
            exact ⟨rfl, rfl⟩
          have D4 := Lib.hid (p_popF w bS bM (P.drop i) (Q.take i) s hrest.1 wr HL.out _ rfl)
          rw [hrest.2] at D4
          have HTK := Lib.hid (take_at Q i s hs)
          have HFW := Lib.hid (show few 15 (Q.take i ++ [s]) from ⟨by rw [← HTK.out, List.length_take]; omega, Nat.le_refl _, fun t ht => H100.out t (List.mem_of_mem_take (by rw [← HTK.out] at ht; exact ht))⟩)

          clear hsl hrest hs
          go_wp2_with (first | (go_at_call 6; (with_reducible refine (D4.out).mono ?_); rintro e v4 ⟨rfl, hL4, _⟩; refine Hid.out ?_))
          refine Lib.hid ?_
          have L4 := Lib.hid (hL4.old (alloc_old (o := .cells #[.int .i64 4, .int .i64 0, .string s, .slice none 0 0] 28)))
          have g4 := heap_alloc_new v4 (.cells #[.int .i64 4, .int .i64 0, .string s, .slice none 0 0] 28)
          have ca := CA.out _ L4.out.below i s HSL.out
          go_wp2
          generalize (v4.alloc (.cells #[.int .i64 4, .int .i64 0, .string s, .slice none 0 0] 28)) = v5 at L4 g4 ca ⊢
          have g5 : v5.drew.heap[v4.heap.size]? = _ := g4
          have ca5 : v5.drew.cell? ⟨blk, off + i, none⟩ = some (.string s) := ca
          obtain ⟨⟨c0, c1, c2, c3⟩, _⟩ := cells4 g4
          obtain ⟨⟨d0, d1, d2, d3⟩, _⟩ := cells4 g5
          clear hL4
          go_region
          have L5 := Lib.hid (L4.out.old (Below.refl _ _).drew)
          have D6 := Lib.hid (p_pushj w bS bM (P.drop (i + 1)) (Q.take i) s i (by rw [List.length_take, HQL.out]; omega) HFW.out v5.drew L5.out v5.heap.size rfl)
          rw [show v5.drew.alloc (.cells #[.string ⟨#[82, 80, 85, 83, 72]⟩, .string ⟨#[106]⟩, .string s] 9) = (v5.alloc (.cells #[.string ⟨#[82, 80, 85, 83, 72]⟩, .string ⟨#[106]⟩, .string s] 9)).drew from rfl] at D6
          go_wp2_with (first | (go_at_call 6; (with_reducible refine (D6.out).mono ?_); rintro e v6 ⟨rfl, hL6, _⟩; have L6 := Lib.hid hL6; clear hL6))
          exact ⟨⟨i + 1, by omega, by go_num, by rw [HTK.out]; exact L6⟩, by simp [intOf]; omega⟩
        · obtain rfl : n = i := by omega
          have q3 : ¬ (n : Int) < (n : Int) := by omega
          obtain ⟨w3, rfl⟩ : ∃ w3, w3 = wr := ⟨_, rfl⟩
          have L3 := Lib.hid (show LD w w3 bS bM (ne2 ⟨#[106]⟩ ⟨#[105]⟩ (Q.take (n - 0)) (Q.drop (n - 0))) by
            have h := HL.out
            rw [show (P.drop n) = [] from by exact List.drop_eq_nil_of_le (Nat.le_of_eq HPL.out), ne2_b0 ⟨#[107]⟩ ⟨#[106]⟩ ⟨#[105]⟩] at h
            rw [Nat.sub_zero, List.drop_eq_nil_of_le (Nat.le_of_eq HQL.out)]
            exact h)
          clear HL hi hlt q3
          go_wp2
          go_loopw [14] (fun iv wr => ∃ i : Nat, i ≤ n ∧ iv = .int .i64 i ∧ Hid (LD w wr bS bM (ne2 ⟨#[106]⟩ ⟨#[105]⟩ (Q.take (n - i)) (Q.drop (n - i))))) (fun iv _ => n - (intOf iv).toNat)
          case atStart => exact ⟨0, Nat.zero_le _, rfl, L3⟩
          case round =>
            obtain ⟨i, hi, rfl, HL⟩ := hrel
            by_cases hlt : i < n
            · obtain ⟨s, hs⟩ : ∃ s, Q[n - (i + 1)]? = some s := ⟨_, List.getElem?_eq_getElem (by rw [HQL.out]; omega)⟩
              have q3 : (i : Int) < (n : Int) := by omega
              have htl := take_last Q (n - (i + 1)) s hs
              have hdr := drop_at Q (n - (i + 1)) s hs
              have hni : n - (i + 1) + 1 = n - i := by omega
              rw [hni] at htl hdr
              have D7 := Lib.hid (p_over w bS bM (Q.take (n - i)) (Q.drop (n - i)) s htl.1 (by rw [← hdr]; exact ⟨by rw [List.length_drop]; have := HQL.out; omega, Nat.le_refl _, fun t ht => H100.out t (List.mem_of_mem_drop ht)⟩) wr HL.out _ rfl)
              rw [htl.2, ← hdr] at D7
              clear htl hdr hni hs
              go_wp2_with (first | (go_at_call 6; (with_reducible refine (D7.out).mono ?_); rintro e v7 ⟨rfl, hL7, _⟩; have L7 := Lib.hid hL7; clear hL7))
              exact ⟨⟨i + 1, by omega, by go_num, L7⟩, by simp [intOf]; omega⟩
            · obtain rfl : n = i := by omega
              have q3 : ¬ (n : Int) < (n : Int) := by omega
              obtain ⟨w4, rfl⟩ : ∃ w4, w4 = wr := ⟨_, rfl⟩
              have hQne : Q ≠ [] := by intro e; have := HQL.out; rw [e] at this; simp at this; omega
              have L4 := Lib.hid (show LD w w4 bS bM [(⟨#[105]⟩, Q)] by
                have h := HL.out
                rw [Nat.sub_self, List.take_zero, List.drop_zero, ne2_b1 _ _ _ hQne] at h
                exact h)
              clear HL hi hlt q3
              have D8 := Lib.hid (p_allI w bS bM Q (by rw [HQL.out]; exact h15) w4 L4.out _ rfl)
              go_wp2_with (first | (go_at_call 6; (with_reducible refine (D8.out).mono ?_); rintro e v8 ⟨A, m, cc, rfl, hR8, hL8, _⟩; refine Hid.out ?_))
              refine Lib.hid ?_
              have L9 := Lib.hid (hL8.old (alloc_old (o := .cells #[.int .i64 6, .int .i64 0, .string ⟨#[]⟩, .slice A m cc] 28)))
              have g9 := Lib.hid (heap_alloc_new v8 (.cells #[.int .i64 6, .int .i64 0, .string ⟨#[]⟩, .slice A m cc] 28))
              have R9 := Lib.hid (RO.below hR8 (alloc_old (o := .cells #[.int .i64 6, .int .i64 0, .string ⟨#[]⟩, .slice A m cc] 28)))
              clear hL8 hR8
              obtain ⟨hmm, ⟨gq, rfl⟩, hcc⟩ := R9.out.form (by simpa using hQne)
              rw [List.length_map, HQL.out] at hmm
              subst hmm
              have m15 := h15
              go_wp2
              generalize hv9 : (v8.alloc (.cells #[.int .i64 6, .int .i64 0, .string ⟨#[]⟩, .slice (some ⟨gq, 0, none⟩) m cc] 28)) = v9 at L9 g9 R9 ⊢
              go_loopw [16] (fun iv wr => ∃ i : Nat, i ≤ m ∧ iv = .int .i64 i ∧ Hid (Below v9.heap.size v9 wr)) (fun iv _ => m - (intOf iv).toNat)
              case atStart => exact ⟨0, Nat.zero_le _, rfl, Lib.hid (Below.refl _ _)⟩
              case round =>
                obtain ⟨i, hi, rfl, HB⟩ := hrel
                have BWr := Lib.hid (L9.out.below.trans (HB.out.mono (Below.size L9.out.below)))
                obtain ⟨⟨e0, e1, e2, e3⟩, _⟩ := cells4 (blk_below g9.out HB.out)
                by_cases hlt : i < m
                · have q3 : (i : Int) < (m : Int) := by omega
                  obtain ⟨s, hs⟩ : ∃ s, Q[i]? = some s := ⟨_, List.getElem?_eq_getElem (by rw [HQL.out]; exact hlt)⟩
                  have hsl := (HQA.out i hlt).symm.trans hs

                  have R10 := R9.out.below HB.out
                  have hm : m = (Q.map some).length := by rw [List.length_map, HQL.out]
                  have R11 : wr.ownsRow w4.heap.size 28 4 (.slice (some ⟨gq, 0, none⟩) (Q.map some).length cc) (Q.map some).length ((Q.map some).flatMap repC) := by
                    have h := R10
                    unfold RO at h
                    rw [hm] at h
                    exact h
                  have rc := row_cell R11 (i * 4 + 2) (.string s) (repC_at (Q.map some) i 2 (some s) _ (by simp [hs]) rfl)
                  have ca := CA.out _ BWr.out i s hsl
                  have rcD : wr.drew.cell? ⟨gq, i * 4 + 2, none⟩ = some (.string s) := rc
                  have caD : wr.drew.cell? ⟨blk, off + i, none⟩ = some (.string s) := ca
                  have e3D : wr.drew.cell? ⟨v8.heap.size, 3, none⟩ = some (.slice (some ⟨gq, 0, none⟩) m cc) := e3

                  clear hsl hs R10 R11 hm
                  go_wp2
                  go_region
                  go_wp2
                  exact ⟨⟨i + 1, by omega, by go_num, Lib.hid HB.out.drew⟩, by simp [intOf]; omega⟩
                · obtain rfl : m = i := by omega
                  have q3 : ¬ (m : Int) < (m : Int) := by omega
                  obtain ⟨w9, rfl⟩ : ∃ w9, w9 = wr := ⟨_, rfl⟩
                  have L10 := Lib.hid (L9.out.old HB.out)
                  go_wp2_with (first | (go_at_call 4; (with_reducible refine (TL.out _).mono ?_); rintro e v10 ⟨rfl, h10⟩; have L11 := Lib.hid (L10.out.old h10); clear h10; refine Hid.out ?_))
                  refine Lib.hid ?_
                  have AL := Lib.hid (All1G KL okL KLok bS bM ⟨#[105]⟩ Q (by decide) v10 L11.out.sp)
                  go_wp2_with (first | (go_at_call 7; (with_reducible refine (AL.out).mono ?_); rintro e v11 ⟨⟨g11, C11, rfl⟩, h11⟩; have L12 := Lib.hid (L11.out.old h11); clear h11; refine Hid.out ?_))
                  refine Lib.hid ?_
                  have D13 := Lib.hid (p_lenk w bS bM Q v11 L12.out _ rfl)
                  have fN : ∀ X, (Instr.field 28 (.agg #[.int .i64 3, .int .i64 0, .string ⟨#[]⟩, .slice none 0 0]) 1).run Tryz.prog X = .ok (.int .i64 0) X := fun X => by kernel_rfl
                  go_wp2_with (first | (go_at_call 6; (with_reducible refine (D13.out).mono ?_); rintro e v13 ⟨rfl, hL13, _⟩; have L13 := Lib.hid hL13; clear hL13; refine Hid.out ?_))
                  refine Lib.hid ?_
                  have D14 := Lib.hid (p_lenj w bS bM Q v13 L13.out _ rfl)
                  go_wp2_with (first | (go_at_call 6; (with_reducible refine (D14.out).mono ?_); rintro e v14 ⟨rfl, hL14, _⟩; have L14 := Lib.hid hL14; clear hL14))
                  go_ret
                  exact ⟨by simp, L14.out.below⟩
set_option maxRecDepth 100000 in
set_option maxHeartbeats 8000000 in
theorem through_FT (l P Q : List ByteArray) (v0 : Value) (w : World) (h0 : SSl w v0 l) (h1 : 1 ≤ l.length) (h15 : l.length ≤ 15) (hP : pushed false l = P) (hQ : l.reverse = Q) : Calls Tryz.prog 3 #[v0, .bool false, .bool true] w fun e w' => e = .returned (.bool true) ∧ Below w.heap.size w w' := by
  have NW := Lib.hid (fun X => New9 X)
  have TL := Lib.hid (fun X => told X)
  obtain ⟨aA, cap, rfl, p1, p2, p3⟩ := h0
  obtain ⟨blk, off, rfl, hblt, hc⟩ := p3 (by intro e; rw [e] at h1; simp at h1)
  have CA := Lib.hid (show ∀ Y, Below w.heap.size w Y → ∀ (i : Nat) (s : ByteArray), l[i]? = some s → Y.cell? ⟨blk, off + i, none⟩ = some (.string s) from fun Y hY i s hs => (hY.cell (p := ⟨blk, off + i, none⟩) hblt).trans (hc i s hs))
  obtain ⟨n, hn⟩ : ∃ n : Nat, l.length = n := ⟨_, rfl⟩
  rw [hn] at h1 h15
  simp only [hn]
  have HN := Lib.hid hn
  have HP := Lib.hid hP
  have HPL := Lib.hid (show P.length = n by rw [← hP, pushed_len]; exact hn)
  have HQL := Lib.hid (show Q.length = n from by rw [← hQ, List.length_reverse]; exact hn)
  have HQA := Lib.hid (show ∀ i, i < n → Q[i]? = l[n - 1 - i]? from fun i hi => by rw [← hQ]; exact rev_at l n i hn hi)
  have HPQ := Lib.hid (show P.reverse = Q by rw [← hQ, ← hP]; simp [pushed])
  have q1 : ¬ (n : Int) = 0 := by omega
  have q2 : ¬ (15 : Int) < (n : Int) := by omega
  have q1b : ((n : Int) == 0) = false := by rw [beq_eq_false_iff_ne]; exact q1
  have q2b : decide ((15 : Int) < (n : Int)) = false := decide_eq_false q2
  clear p1 p2 p3 hc hn hblt hP hQ
  go_enter Tryz.func3, Tryz.ntmps3
  go_wp2_with (first | (go_at_call 5; (with_reducible refine (NW.out _).mono ?_); rintro e v0 ⟨bS, bM, rfl, hS0, hbS, hbM, hB0⟩; have L0 := Lib.hid (LD.mk0 hS0 hB0 hbS hbM); clear hS0 hbS hbM hB0; refine Hid.out ?_))
  refine Lib.hid ?_
  go_wp2
  go_loopw [10] (fun iv wr => ∃ i : Nat, i ≤ n ∧ iv = .int .i64 i ∧ Hid (LD w wr bS bM (ne2 ⟨#[107]⟩ ⟨#[106]⟩ (pushed false (l.take i)) []) ∧ ∀ s ∈ l.take i, s.size ≤ 100)) (fun iv _ => n - (intOf iv).toNat)
  case atStart => exact ⟨0, Nat.zero_le _, rfl, Lib.hid ⟨by cases false <;> exact L0.out, fun s hs => by simp at hs⟩⟩
  case round =>
    obtain ⟨i, hi, rfl, HQ⟩ := hrel
    by_cases hlt : i < n
    · obtain ⟨s, hs⟩ : ∃ s, l[i]? = some s := ⟨_, List.getElem?_eq_getElem (by rw [HN.out]; exact hlt)⟩
      have q3 : (i : Int) < (n : Int) := by omega
      have ca := CA.out _ HQ.out.1.below i s hs
      by_cases h50 : s.size ≤ 100
      · have q4 : ¬ (100 : Int) < (s.size : Int) := by omega
        have q4b : decide ((100 : Int) < (s.size : Int)) = false := decide_eq_false q4
        have HTK := Lib.hid (take_at l i s hs)
        have HPS := Lib.hid (show pushed false (l.take (i + 1)) = pushT false (pushed false (l.take i)) [s] by rw [HTK.out]; exact pushed_snoc _ _ _)
        have HF := Lib.hid (show ∀ t ∈ l.take (i + 1), t.size ≤ 100 from fun t ht => by
          rw [HTK.out] at ht
          rcases List.mem_append.1 ht with ht | ht
          · exact HQ.out.2 t ht
          · simp at ht
            subst ht
            exact h50)
        have hfw : few 15 (pushT false (pushed false (l.take i)) [s]) := by
          rw [← HPS.out]
          exact ⟨by rw [pushed_len, List.length_take]; omega, Nat.le_refl _, fun t ht => HF.out t ((mem_pushed _ _ _).1 ht)⟩
        have D5 := Lib.hid (p_pushF w bS bM (pushed false (l.take i)) s i (by rw [pushed_len, List.length_take, HN.out]; omega) hfw wr HQ.out.1 _ rfl)
        have fN : ∀ X, (Instr.field 28 (.agg #[.int .i64 3, .int .i64 ((i + 1 : Nat) : Int), .string ⟨#[]⟩, .slice none 0 0]) 1).run Tryz.prog X = .ok (.int .i64 ((i + 1 : Nat) : Int)) X := fun X => by kernel_rfl
        have z0 : ((i + 1 : Nat) : Int) = (i : Int) + 1 := by omega
        have z1 : IntKind.i64.wrap ((i : Int) + 1) = (i : Int) + 1 := IntWalk.i64_in _ (by omega)
        rw [z0] at D5 fN
        clear hs hfw z0
        go_wp2_with (first | (go_at_call 6; (with_reducible refine (D5.out).mono ?_); rintro e w4 ⟨rfl, h4, _⟩; have L4 := Lib.hid h4; clear h4))
        exact ⟨⟨i + 1, by omega, by go_num, Lib.hid ⟨by rw [HPS.out]; exact L4.out, HF.out⟩⟩, by simp [intOf]; omega⟩
      · have q4 : (100 : Int) < (s.size : Int) := by omega
        clear hs
        have LW := Lib.hid HQ.out.1
        go_wp2_with (first | (go_at_call 4; (with_reducible refine (TL.out _).mono ?_); rintro e w7 ⟨rfl, h7⟩; have B7 := Lib.hid (LW.out.old h7).below; clear h7))
        exact bodyPost_ret (v := .bool true) (by simp [results, Tryz.results3, go_sem]) rfl ⟨rfl, B7.out⟩
    · obtain rfl : n = i := by omega
      have q3 : ¬ (n : Int) < (n : Int) := by omega
      obtain ⟨w2, rfl⟩ : ∃ w2, w2 = wr := ⟨_, rfl⟩
      have hQ := HQ.out
      rw [List.take_of_length_le (by rw [HN.out]; exact Nat.le_refl _), HP.out] at hQ
      have L2 := Lib.hid (show LD w w2 bS bM (ne2 ⟨#[107]⟩ ⟨#[106]⟩ (P.take (n - 0)) (Q.take 0)) by simpa [List.take_of_length_le (Nat.le_of_eq HPL.out)] using hQ.1)
      have H100 := Lib.hid (show ∀ t ∈ Q, t.size ≤ 100 from fun t ht => by
        obtain ⟨i, hi, he⟩ := List.mem_iff_getElem.1 ht
        have h1 := HQA.out i (by rw [← HQL.out]; exact hi)
        rw [List.getElem?_eq_getElem hi, he] at h1
        exact hQ.2 t (List.mem_of_getElem? h1.symm))
      clear HQ hQ hi hlt q3
      go_wp2
      go_loopw [11] (fun iv wr => ∃ i : Nat, i ≤ n ∧ iv = .int .i64 i ∧ Hid (LD w wr bS bM (ne2 ⟨#[107]⟩ ⟨#[106]⟩ (P.take (n - i)) (Q.take i)))) (fun iv _ => n - (intOf iv).toNat)
      case atStart => exact ⟨0, Nat.zero_le _, rfl, L2⟩
      case round =>
        obtain ⟨i, hi, rfl, HL⟩ := hrel
        by_cases hlt : i < n
        · obtain ⟨s, hs⟩ : ∃ s, Q[i]? = some s := ⟨_, List.getElem?_eq_getElem (by rw [HQL.out]; exact hlt)⟩
          have q3 : (i : Int) < (n : Int) := by omega
          have hsl := (HQA.out i hlt).symm.trans hs
          obtain ⟨kk, hkk⟩ : ∃ kk : Nat, kk = n - 1 - i := ⟨_, rfl⟩
          have hkl : kk < n := by omega
          rw [← hkk] at hsl
          have HSL := Lib.hid hsl
          have hrest : (P.take (n - i))[(P.take (n - i)).length - 1]? = some s ∧ (P.take (n - i)).eraseIdx ((P.take (n - i)).length - 1) = P.take (n - (i + 1)) := by
            have h2 : P[n - (i + 1)]? = some s := by
              have := hs
              rw [← HPQ.out, rev_at P n i HPL.out hlt] at this
              rw [show n - (i + 1) = n - 1 - i from by omega]
              exact this
            rw [show n - i = n - (i + 1) + 1 from by omega]
            exact take_last P _ s h2
          have D4 := Lib.hid (p_popT w bS bM (P.take (n - i)) (Q.take i) s hrest.1 wr HL.out _ rfl)
          rw [hrest.2] at D4
          have HTK := Lib.hid (take_at Q i s hs)
          have HFW := Lib.hid (show few 15 (Q.take i ++ [s]) from ⟨by rw [← HTK.out, List.length_take]; omega, Nat.le_refl _, fun t ht => H100.out t (List.mem_of_mem_take (by rw [← HTK.out] at ht; exact ht))⟩)
          have w4 : ((n : Int) - 1 - (i : Int)).toNat = kk := by omega
          have w1 : wrap64 ((n : Int) - 1) = (n : Int) - 1 := by unfold wrap64; omega
          have w5 : wrap64 ((n : Int) - 1 - (i : Int)) = (n : Int) - 1 - (i : Int) := by unfold wrap64; omega
          have w6 : 0 ≤ (n : Int) - 1 - (i : Int) := by omega
          have w7 : (n : Int) - 1 - (i : Int) < (n : Int) := by omega
          have w8 : (i : Int) ≤ (n : Int) - 1 := by omega
          clear hkk hsl hrest hs
          go_wp2_with (first | (go_at_call 6; (with_reducible refine (D4.out).mono ?_); rintro e v4 ⟨rfl, hL4, _⟩; refine Hid.out ?_))
          refine Lib.hid ?_
          have L4 := Lib.hid (hL4.old (alloc_old (o := .cells #[.int .i64 4, .int .i64 0, .string s, .slice none 0 0] 28)))
          have g4 := heap_alloc_new v4 (.cells #[.int .i64 4, .int .i64 0, .string s, .slice none 0 0] 28)
          have ca := CA.out _ L4.out.below kk s HSL.out
          go_wp2
          generalize (v4.alloc (.cells #[.int .i64 4, .int .i64 0, .string s, .slice none 0 0] 28)) = v5 at L4 g4 ca ⊢
          have g5 : v5.drew.heap[v4.heap.size]? = _ := g4
          have ca5 : v5.drew.cell? ⟨blk, off + kk, none⟩ = some (.string s) := ca
          obtain ⟨⟨c0, c1, c2, c3⟩, _⟩ := cells4 g4
          obtain ⟨⟨d0, d1, d2, d3⟩, _⟩ := cells4 g5
          clear hL4
          go_region
          have L5 := Lib.hid (L4.out.old (Below.refl _ _).drew)
          have D6 := Lib.hid (p_pushj w bS bM (P.take (n - (i + 1))) (Q.take i) s i (by rw [List.length_take, HQL.out]; omega) HFW.out v5.drew L5.out v5.heap.size rfl)
          rw [show v5.drew.alloc (.cells #[.string ⟨#[82, 80, 85, 83, 72]⟩, .string ⟨#[106]⟩, .string s] 9) = (v5.alloc (.cells #[.string ⟨#[82, 80, 85, 83, 72]⟩, .string ⟨#[106]⟩, .string s] 9)).drew from rfl] at D6
          go_wp2_with (first | (go_at_call 6; (with_reducible refine (D6.out).mono ?_); rintro e v6 ⟨rfl, hL6, _⟩; have L6 := Lib.hid hL6; clear hL6))
          exact ⟨⟨i + 1, by omega, by go_num, by rw [HTK.out]; exact L6⟩, by simp [intOf]; omega⟩
        · obtain rfl : n = i := by omega
          have q3 : ¬ (n : Int) < (n : Int) := by omega
          obtain ⟨w3, rfl⟩ : ∃ w3, w3 = wr := ⟨_, rfl⟩
          have L3 := Lib.hid (show LD w w3 bS bM (ne2 ⟨#[106]⟩ ⟨#[105]⟩ (Q.take (n - 0)) (Q.drop (n - 0))) by
            have h := HL.out
            rw [show (P.take (n - n)) = [] from by simp, ne2_b0 ⟨#[107]⟩ ⟨#[106]⟩ ⟨#[105]⟩] at h
            rw [Nat.sub_zero, List.drop_eq_nil_of_le (Nat.le_of_eq HQL.out)]
            exact h)
          clear HL hi hlt q3
          go_wp2
          go_loopw [14] (fun iv wr => ∃ i : Nat, i ≤ n ∧ iv = .int .i64 i ∧ Hid (LD w wr bS bM (ne2 ⟨#[106]⟩ ⟨#[105]⟩ (Q.take (n - i)) (Q.drop (n - i))))) (fun iv _ => n - (intOf iv).toNat)
          case atStart => exact ⟨0, Nat.zero_le _, rfl, L3⟩
          case round =>
            obtain ⟨i, hi, rfl, HL⟩ := hrel
            by_cases hlt : i < n
            · obtain ⟨s, hs⟩ : ∃ s, Q[n - (i + 1)]? = some s := ⟨_, List.getElem?_eq_getElem (by rw [HQL.out]; omega)⟩
              have q3 : (i : Int) < (n : Int) := by omega
              have htl := take_last Q (n - (i + 1)) s hs
              have hdr := drop_at Q (n - (i + 1)) s hs
              have hni : n - (i + 1) + 1 = n - i := by omega
              rw [hni] at htl hdr
              have D7 := Lib.hid (p_over w bS bM (Q.take (n - i)) (Q.drop (n - i)) s htl.1 (by rw [← hdr]; exact ⟨by rw [List.length_drop]; have := HQL.out; omega, Nat.le_refl _, fun t ht => H100.out t (List.mem_of_mem_drop ht)⟩) wr HL.out _ rfl)
              rw [htl.2, ← hdr] at D7
              clear htl hdr hni hs
              go_wp2_with (first | (go_at_call 6; (with_reducible refine (D7.out).mono ?_); rintro e v7 ⟨rfl, hL7, _⟩; have L7 := Lib.hid hL7; clear hL7))
              exact ⟨⟨i + 1, by omega, by go_num, L7⟩, by simp [intOf]; omega⟩
            · obtain rfl : n = i := by omega
              have q3 : ¬ (n : Int) < (n : Int) := by omega
              obtain ⟨w4, rfl⟩ : ∃ w4, w4 = wr := ⟨_, rfl⟩
              have hQne : Q ≠ [] := by intro e; have := HQL.out; rw [e] at this; simp at this; omega
              have L4 := Lib.hid (show LD w w4 bS bM [(⟨#[105]⟩, Q)] by
                have h := HL.out
                rw [Nat.sub_self, List.take_zero, List.drop_zero, ne2_b1 _ _ _ hQne] at h
                exact h)
              clear HL hi hlt q3
              have D8 := Lib.hid (p_allI w bS bM Q (by rw [HQL.out]; exact h15) w4 L4.out _ rfl)
              go_wp2_with (first | (go_at_call 6; (with_reducible refine (D8.out).mono ?_); rintro e v8 ⟨A, m, cc, rfl, hR8, hL8, _⟩; refine Hid.out ?_))
              refine Lib.hid ?_
              have L9 := Lib.hid (hL8.old (alloc_old (o := .cells #[.int .i64 6, .int .i64 0, .string ⟨#[]⟩, .slice A m cc] 28)))
              have g9 := Lib.hid (heap_alloc_new v8 (.cells #[.int .i64 6, .int .i64 0, .string ⟨#[]⟩, .slice A m cc] 28))
              have R9 := Lib.hid (RO.below hR8 (alloc_old (o := .cells #[.int .i64 6, .int .i64 0, .string ⟨#[]⟩, .slice A m cc] 28)))
              clear hL8 hR8
              obtain ⟨hmm, ⟨gq, rfl⟩, hcc⟩ := R9.out.form (by simpa using hQne)
              rw [List.length_map, HQL.out] at hmm
              subst hmm
              have m15 := h15
              go_wp2
              generalize hv9 : (v8.alloc (.cells #[.int .i64 6, .int .i64 0, .string ⟨#[]⟩, .slice (some ⟨gq, 0, none⟩) m cc] 28)) = v9 at L9 g9 R9 ⊢
              go_loopw [16] (fun iv wr => ∃ i : Nat, i ≤ m ∧ iv = .int .i64 i ∧ Hid (Below v9.heap.size v9 wr)) (fun iv _ => m - (intOf iv).toNat)
              case atStart => exact ⟨0, Nat.zero_le _, rfl, Lib.hid (Below.refl _ _)⟩
              case round =>
                obtain ⟨i, hi, rfl, HB⟩ := hrel
                have BWr := Lib.hid (L9.out.below.trans (HB.out.mono (Below.size L9.out.below)))
                obtain ⟨⟨e0, e1, e2, e3⟩, _⟩ := cells4 (blk_below g9.out HB.out)
                by_cases hlt : i < m
                · have q3 : (i : Int) < (m : Int) := by omega
                  obtain ⟨s, hs⟩ : ∃ s, Q[i]? = some s := ⟨_, List.getElem?_eq_getElem (by rw [HQL.out]; exact hlt)⟩
                  have hsl := (HQA.out i hlt).symm.trans hs
                  obtain ⟨kk, hkk⟩ : ∃ kk : Nat, kk = m - 1 - i := ⟨_, rfl⟩
                  have hkl : kk < m := by omega
                  rw [← hkk] at hsl

                  have R10 := R9.out.below HB.out
                  have hm : m = (Q.map some).length := by rw [List.length_map, HQL.out]
                  have R11 : wr.ownsRow w4.heap.size 28 4 (.slice (some ⟨gq, 0, none⟩) (Q.map some).length cc) (Q.map some).length ((Q.map some).flatMap repC) := by
                    have h := R10
                    unfold RO at h
                    rw [hm] at h
                    exact h
                  have rc := row_cell R11 (i * 4 + 2) (.string s) (repC_at (Q.map some) i 2 (some s) _ (by simp [hs]) rfl)
                  have ca := CA.out _ BWr.out kk s hsl
                  have rcD : wr.drew.cell? ⟨gq, i * 4 + 2, none⟩ = some (.string s) := rc
                  have caD : wr.drew.cell? ⟨blk, off + kk, none⟩ = some (.string s) := ca
                  have e3D : wr.drew.cell? ⟨v8.heap.size, 3, none⟩ = some (.slice (some ⟨gq, 0, none⟩) m cc) := e3
                  have w4 : ((m : Int) - 1 - (i : Int)).toNat = kk := by omega
                  have w1 : wrap64 ((m : Int) - 1) = (m : Int) - 1 := by unfold wrap64; omega
                  have w5 : wrap64 ((m : Int) - 1 - (i : Int)) = (m : Int) - 1 - (i : Int) := by unfold wrap64; omega
                  have w6 : 0 ≤ (m : Int) - 1 - (i : Int) := by omega
                  have w7 : (m : Int) - 1 - (i : Int) < (m : Int) := by omega
                  have w8 : (i : Int) ≤ (m : Int) - 1 := by omega
                  clear hkk hsl hs R10 R11 hm
                  go_wp2
                  go_region
                  go_wp2
                  exact ⟨⟨i + 1, by omega, by go_num, Lib.hid HB.out.drew⟩, by simp [intOf]; omega⟩
                · obtain rfl : m = i := by omega
                  have q3 : ¬ (m : Int) < (m : Int) := by omega
                  obtain ⟨w9, rfl⟩ : ∃ w9, w9 = wr := ⟨_, rfl⟩
                  have L10 := Lib.hid (L9.out.old HB.out)
                  go_wp2_with (first | (go_at_call 4; (with_reducible refine (TL.out _).mono ?_); rintro e v10 ⟨rfl, h10⟩; have L11 := Lib.hid (L10.out.old h10); clear h10; refine Hid.out ?_))
                  refine Lib.hid ?_
                  have AL := Lib.hid (All1G KL okL KLok bS bM ⟨#[105]⟩ Q (by decide) v10 L11.out.sp)
                  go_wp2_with (first | (go_at_call 7; (with_reducible refine (AL.out).mono ?_); rintro e v11 ⟨⟨g11, C11, rfl⟩, h11⟩; have L12 := Lib.hid (L11.out.old h11); clear h11; refine Hid.out ?_))
                  refine Lib.hid ?_
                  have D13 := Lib.hid (p_lenk w bS bM Q v11 L12.out _ rfl)
                  have fN : ∀ X, (Instr.field 28 (.agg #[.int .i64 3, .int .i64 0, .string ⟨#[]⟩, .slice none 0 0]) 1).run Tryz.prog X = .ok (.int .i64 0) X := fun X => by kernel_rfl
                  go_wp2_with (first | (go_at_call 6; (with_reducible refine (D13.out).mono ?_); rintro e v13 ⟨rfl, hL13, _⟩; have L13 := Lib.hid hL13; clear hL13; refine Hid.out ?_))
                  refine Lib.hid ?_
                  have D14 := Lib.hid (p_lenj w bS bM Q v13 L13.out _ rfl)
                  go_wp2_with (first | (go_at_call 6; (with_reducible refine (D14.out).mono ?_); rintro e v14 ⟨rfl, hL14, _⟩; have L14 := Lib.hid hL14; clear hL14))
                  go_ret
                  exact ⟨by simp, L14.out.below⟩
set_option maxRecDepth 100000 in
set_option maxHeartbeats 8000000 in
theorem through_TF (l P Q : List ByteArray) (v0 : Value) (w : World) (h0 : SSl w v0 l) (h1 : 1 ≤ l.length) (h15 : l.length ≤ 15) (hP : pushed true l = P) (hQ : l.reverse = Q) : Calls Tryz.prog 3 #[v0, .bool true, .bool false] w fun e w' => e = .returned (.bool true) ∧ Below w.heap.size w w' := by
  have NW := Lib.hid (fun X => New9 X)
  have TL := Lib.hid (fun X => told X)
  obtain ⟨aA, cap, rfl, p1, p2, p3⟩ := h0
  obtain ⟨blk, off, rfl, hblt, hc⟩ := p3 (by intro e; rw [e] at h1; simp at h1)
  have CA := Lib.hid (show ∀ Y, Below w.heap.size w Y → ∀ (i : Nat) (s : ByteArray), l[i]? = some s → Y.cell? ⟨blk, off + i, none⟩ = some (.string s) from fun Y hY i s hs => (hY.cell (p := ⟨blk, off + i, none⟩) hblt).trans (hc i s hs))
  obtain ⟨n, hn⟩ : ∃ n : Nat, l.length = n := ⟨_, rfl⟩
  rw [hn] at h1 h15
  simp only [hn]
  have HN := Lib.hid hn
  have HP := Lib.hid hP
  have HPL := Lib.hid (show P.length = n by rw [← hP, pushed_len]; exact hn)
  have HQL := Lib.hid (show Q.length = n from by rw [← hQ, List.length_reverse]; exact hn)
  have HQA := Lib.hid (show ∀ i, i < n → Q[i]? = l[n - 1 - i]? from fun i hi => by rw [← hQ]; exact rev_at l n i hn hi)
  have HPQ := Lib.hid (show P = Q by rw [← hQ, ← hP]; simp [pushed])
  have q1 : ¬ (n : Int) = 0 := by omega
  have q2 : ¬ (15 : Int) < (n : Int) := by omega
  have q1b : ((n : Int) == 0) = false := by rw [beq_eq_false_iff_ne]; exact q1
  have q2b : decide ((15 : Int) < (n : Int)) = false := decide_eq_false q2
  clear p1 p2 p3 hc hn hblt hP hQ
  go_enter Tryz.func3, Tryz.ntmps3
  go_wp2_with (first | (go_at_call 5; (with_reducible refine (NW.out _).mono ?_); rintro e v0 ⟨bS, bM, rfl, hS0, hbS, hbM, hB0⟩; have L0 := Lib.hid (LD.mk0 hS0 hB0 hbS hbM); clear hS0 hbS hbM hB0; refine Hid.out ?_))
  refine Lib.hid ?_
  go_wp2
  go_loopw [10] (fun iv wr => ∃ i : Nat, i ≤ n ∧ iv = .int .i64 i ∧ Hid (LD w wr bS bM (ne2 ⟨#[107]⟩ ⟨#[106]⟩ (pushed true (l.take i)) []) ∧ ∀ s ∈ l.take i, s.size ≤ 100)) (fun iv _ => n - (intOf iv).toNat)
  case atStart => exact ⟨0, Nat.zero_le _, rfl, Lib.hid ⟨by cases true <;> exact L0.out, fun s hs => by simp at hs⟩⟩
  case round =>
    obtain ⟨i, hi, rfl, HQ⟩ := hrel
    by_cases hlt : i < n
    · obtain ⟨s, hs⟩ : ∃ s, l[i]? = some s := ⟨_, List.getElem?_eq_getElem (by rw [HN.out]; exact hlt)⟩
      have q3 : (i : Int) < (n : Int) := by omega
      have ca := CA.out _ HQ.out.1.below i s hs
      by_cases h50 : s.size ≤ 100
      · have q4 : ¬ (100 : Int) < (s.size : Int) := by omega
        have q4b : decide ((100 : Int) < (s.size : Int)) = false := decide_eq_false q4
        have HTK := Lib.hid (take_at l i s hs)
        have HPS := Lib.hid (show pushed true (l.take (i + 1)) = pushT true (pushed true (l.take i)) [s] by rw [HTK.out]; exact pushed_snoc _ _ _)
        have HF := Lib.hid (show ∀ t ∈ l.take (i + 1), t.size ≤ 100 from fun t ht => by
          rw [HTK.out] at ht
          rcases List.mem_append.1 ht with ht | ht
          · exact HQ.out.2 t ht
          · simp at ht
            subst ht
            exact h50)
        have hfw : few 15 (pushT true (pushed true (l.take i)) [s]) := by
          rw [← HPS.out]
          exact ⟨by rw [pushed_len, List.length_take]; omega, Nat.le_refl _, fun t ht => HF.out t ((mem_pushed _ _ _).1 ht)⟩
        have D5 := Lib.hid (p_pushT w bS bM (pushed true (l.take i)) s i (by rw [pushed_len, List.length_take, HN.out]; omega) hfw wr HQ.out.1 _ rfl)
        have fN : ∀ X, (Instr.field 28 (.agg #[.int .i64 3, .int .i64 ((i + 1 : Nat) : Int), .string ⟨#[]⟩, .slice none 0 0]) 1).run Tryz.prog X = .ok (.int .i64 ((i + 1 : Nat) : Int)) X := fun X => by kernel_rfl
        have z0 : ((i + 1 : Nat) : Int) = (i : Int) + 1 := by omega
        have z1 : IntKind.i64.wrap ((i : Int) + 1) = (i : Int) + 1 := IntWalk.i64_in _ (by omega)
        rw [z0] at D5 fN
        clear hs hfw z0
        go_wp2_with (first | (go_at_call 6; (with_reducible refine (D5.out).mono ?_); rintro e w4 ⟨rfl, h4, _⟩; have L4 := Lib.hid h4; clear h4))
        exact ⟨⟨i + 1, by omega, by go_num, Lib.hid ⟨by rw [HPS.out]; exact L4.out, HF.out⟩⟩, by simp [intOf]; omega⟩
      · have q4 : (100 : Int) < (s.size : Int) := by omega
        clear hs
        have LW := Lib.hid HQ.out.1
        go_wp2_with (first | (go_at_call 4; (with_reducible refine (TL.out _).mono ?_); rintro e w7 ⟨rfl, h7⟩; have B7 := Lib.hid (LW.out.old h7).below; clear h7))
        exact bodyPost_ret (v := .bool true) (by simp [results, Tryz.results3, go_sem]) rfl ⟨rfl, B7.out⟩
    · obtain rfl : n = i := by omega
      have q3 : ¬ (n : Int) < (n : Int) := by omega
      obtain ⟨w2, rfl⟩ : ∃ w2, w2 = wr := ⟨_, rfl⟩
      have hQ := HQ.out
      rw [List.take_of_length_le (by rw [HN.out]; exact Nat.le_refl _), HP.out] at hQ
      have L2 := Lib.hid (show LD w w2 bS bM (ne2 ⟨#[107]⟩ ⟨#[106]⟩ (P.drop 0) (Q.take 0)) by simpa [] using hQ.1)
      have H100 := Lib.hid (show ∀ t ∈ Q, t.size ≤ 100 from fun t ht => by
        obtain ⟨i, hi, he⟩ := List.mem_iff_getElem.1 ht
        have h1 := HQA.out i (by rw [← HQL.out]; exact hi)
        rw [List.getElem?_eq_getElem hi, he] at h1
        exact hQ.2 t (List.mem_of_getElem? h1.symm))
      clear HQ hQ hi hlt q3
      go_wp2
      go_loopw [11] (fun iv wr => ∃ i : Nat, i ≤ n ∧ iv = .int .i64 i ∧ Hid (LD w wr bS bM (ne2 ⟨#[107]⟩ ⟨#[106]⟩ (P.drop i) (Q.take i)))) (fun iv _ => n - (intOf iv).toNat)
      case atStart => exact ⟨0, Nat.zero_le _, rfl, L2⟩
      case round =>
        obtain ⟨i, hi, rfl, HL⟩ := hrel
        by_cases hlt : i < n
        · obtain ⟨s, hs⟩ : ∃ s, Q[i]? = some s := ⟨_, List.getElem?_eq_getElem (by rw [HQL.out]; exact hlt)⟩
          have q3 : (i : Int) < (n : Int) := by omega
          have hsl := (HQA.out i hlt).symm.trans hs
          obtain ⟨kk, hkk⟩ : ∃ kk : Nat, kk = n - 1 - i := ⟨_, rfl⟩
          have hkl : kk < n := by omega
          rw [← hkk] at hsl
          have HSL := Lib.hid hsl
          have hrest : (P.drop i)[0]? = some s ∧ (P.drop i).eraseIdx 0 = P.drop (i + 1) := by
            have h2 := drop_at P i s (by rw [HPQ.out]; exact hs)
            rw [h2]
            exact ⟨rfl, rfl⟩
          have D4 := Lib.hid (p_popF w bS bM (P.drop i) (Q.take i) s hrest.1 wr HL.out _ rfl)
          rw [hrest.2] at D4
          have HTK := Lib.hid (take_at Q i s hs)
          have HFW := Lib.hid (show few 15 (Q.take i ++ [s]) from ⟨by rw [← HTK.out, List.length_take]; omega, Nat.le_refl _, fun t ht => H100.out t (List.mem_of_mem_take (by rw [← HTK.out] at ht; exact ht))⟩)
          have w4 : ((n : Int) - 1 - (i : Int)).toNat = kk := by omega
          have w1 : wrap64 ((n : Int) - 1) = (n : Int) - 1 := by unfold wrap64; omega
          have w5 : wrap64 ((n : Int) - 1 - (i : Int)) = (n : Int) - 1 - (i : Int) := by unfold wrap64; omega
          have w6 : 0 ≤ (n : Int) - 1 - (i : Int) := by omega
          have w7 : (n : Int) - 1 - (i : Int) < (n : Int) := by omega
          have w8 : (i : Int) ≤ (n : Int) - 1 := by omega
          clear hkk hsl hrest hs
          go_wp2_with (first | (go_at_call 6; (with_reducible refine (D4.out).mono ?_); rintro e v4 ⟨rfl, hL4, _⟩; refine Hid.out ?_))
          refine Lib.hid ?_
          have L4 := Lib.hid (hL4.old (alloc_old (o := .cells #[.int .i64 4, .int .i64 0, .string s, .slice none 0 0] 28)))
          have g4 := heap_alloc_new v4 (.cells #[.int .i64 4, .int .i64 0, .string s, .slice none 0 0] 28)
          have ca := CA.out _ L4.out.below kk s HSL.out
          go_wp2
          generalize (v4.alloc (.cells #[.int .i64 4, .int .i64 0, .string s, .slice none 0 0] 28)) = v5 at L4 g4 ca ⊢
          have g5 : v5.drew.heap[v4.heap.size]? = _ := g4
          have ca5 : v5.drew.cell? ⟨blk, off + kk, none⟩ = some (.string s) := ca
          obtain ⟨⟨c0, c1, c2, c3⟩, _⟩ := cells4 g4
          obtain ⟨⟨d0, d1, d2, d3⟩, _⟩ := cells4 g5
          clear hL4
          go_region
          have L5 := Lib.hid (L4.out.old (Below.refl _ _).drew)
          have D6 := Lib.hid (p_pushj w bS bM (P.drop (i + 1)) (Q.take i) s i (by rw [List.length_take, HQL.out]; omega) HFW.out v5.drew L5.out v5.heap.size rfl)
          rw [show v5.drew.alloc (.cells #[.string ⟨#[82, 80, 85, 83, 72]⟩, .string ⟨#[106]⟩, .string s] 9) = (v5.alloc (.cells #[.string ⟨#[82, 80, 85, 83, 72]⟩, .string ⟨#[106]⟩, .string s] 9)).drew from rfl] at D6
          go_wp2_with (first | (go_at_call 6; (with_reducible refine (D6.out).mono ?_); rintro e v6 ⟨rfl, hL6, _⟩; have L6 := Lib.hid hL6; clear hL6))
          exact ⟨⟨i + 1, by omega, by go_num, by rw [HTK.out]; exact L6⟩, by simp [intOf]; omega⟩
        · obtain rfl : n = i := by omega
          have q3 : ¬ (n : Int) < (n : Int) := by omega
          obtain ⟨w3, rfl⟩ : ∃ w3, w3 = wr := ⟨_, rfl⟩
          have L3 := Lib.hid (show LD w w3 bS bM (ne2 ⟨#[106]⟩ ⟨#[105]⟩ (Q.take (n - 0)) (Q.drop (n - 0))) by
            have h := HL.out
            rw [show (P.drop n) = [] from by exact List.drop_eq_nil_of_le (Nat.le_of_eq HPL.out), ne2_b0 ⟨#[107]⟩ ⟨#[106]⟩ ⟨#[105]⟩] at h
            rw [Nat.sub_zero, List.drop_eq_nil_of_le (Nat.le_of_eq HQL.out)]
            exact h)
          clear HL hi hlt q3
          go_wp2
          go_loopw [14] (fun iv wr => ∃ i : Nat, i ≤ n ∧ iv = .int .i64 i ∧ Hid (LD w wr bS bM (ne2 ⟨#[106]⟩ ⟨#[105]⟩ (Q.take (n - i)) (Q.drop (n - i))))) (fun iv _ => n - (intOf iv).toNat)
          case atStart => exact ⟨0, Nat.zero_le _, rfl, L3⟩
          case round =>
            obtain ⟨i, hi, rfl, HL⟩ := hrel
            by_cases hlt : i < n
            · obtain ⟨s, hs⟩ : ∃ s, Q[n - (i + 1)]? = some s := ⟨_, List.getElem?_eq_getElem (by rw [HQL.out]; omega)⟩
              have q3 : (i : Int) < (n : Int) := by omega
              have htl := take_last Q (n - (i + 1)) s hs
              have hdr := drop_at Q (n - (i + 1)) s hs
              have hni : n - (i + 1) + 1 = n - i := by omega
              rw [hni] at htl hdr
              have D7 := Lib.hid (p_over w bS bM (Q.take (n - i)) (Q.drop (n - i)) s htl.1 (by rw [← hdr]; exact ⟨by rw [List.length_drop]; have := HQL.out; omega, Nat.le_refl _, fun t ht => H100.out t (List.mem_of_mem_drop ht)⟩) wr HL.out _ rfl)
              rw [htl.2, ← hdr] at D7
              clear htl hdr hni hs
              go_wp2_with (first | (go_at_call 6; (with_reducible refine (D7.out).mono ?_); rintro e v7 ⟨rfl, hL7, _⟩; have L7 := Lib.hid hL7; clear hL7))
              exact ⟨⟨i + 1, by omega, by go_num, L7⟩, by simp [intOf]; omega⟩
            · obtain rfl : n = i := by omega
              have q3 : ¬ (n : Int) < (n : Int) := by omega
              obtain ⟨w4, rfl⟩ : ∃ w4, w4 = wr := ⟨_, rfl⟩
              have hQne : Q ≠ [] := by intro e; have := HQL.out; rw [e] at this; simp at this; omega
              have L4 := Lib.hid (show LD w w4 bS bM [(⟨#[105]⟩, Q)] by
                have h := HL.out
                rw [Nat.sub_self, List.take_zero, List.drop_zero, ne2_b1 _ _ _ hQne] at h
                exact h)
              clear HL hi hlt q3
              have D8 := Lib.hid (p_allI w bS bM Q (by rw [HQL.out]; exact h15) w4 L4.out _ rfl)
              go_wp2_with (first | (go_at_call 6; (with_reducible refine (D8.out).mono ?_); rintro e v8 ⟨A, m, cc, rfl, hR8, hL8, _⟩; refine Hid.out ?_))
              refine Lib.hid ?_
              have L9 := Lib.hid (hL8.old (alloc_old (o := .cells #[.int .i64 6, .int .i64 0, .string ⟨#[]⟩, .slice A m cc] 28)))
              have g9 := Lib.hid (heap_alloc_new v8 (.cells #[.int .i64 6, .int .i64 0, .string ⟨#[]⟩, .slice A m cc] 28))
              have R9 := Lib.hid (RO.below hR8 (alloc_old (o := .cells #[.int .i64 6, .int .i64 0, .string ⟨#[]⟩, .slice A m cc] 28)))
              clear hL8 hR8
              obtain ⟨hmm, ⟨gq, rfl⟩, hcc⟩ := R9.out.form (by simpa using hQne)
              rw [List.length_map, HQL.out] at hmm
              subst hmm
              have m15 := h15
              go_wp2
              generalize hv9 : (v8.alloc (.cells #[.int .i64 6, .int .i64 0, .string ⟨#[]⟩, .slice (some ⟨gq, 0, none⟩) m cc] 28)) = v9 at L9 g9 R9 ⊢
              go_loopw [16] (fun iv wr => ∃ i : Nat, i ≤ m ∧ iv = .int .i64 i ∧ Hid (Below v9.heap.size v9 wr)) (fun iv _ => m - (intOf iv).toNat)
              case atStart => exact ⟨0, Nat.zero_le _, rfl, Lib.hid (Below.refl _ _)⟩
              case round =>
                obtain ⟨i, hi, rfl, HB⟩ := hrel
                have BWr := Lib.hid (L9.out.below.trans (HB.out.mono (Below.size L9.out.below)))
                obtain ⟨⟨e0, e1, e2, e3⟩, _⟩ := cells4 (blk_below g9.out HB.out)
                by_cases hlt : i < m
                · have q3 : (i : Int) < (m : Int) := by omega
                  obtain ⟨s, hs⟩ : ∃ s, Q[i]? = some s := ⟨_, List.getElem?_eq_getElem (by rw [HQL.out]; exact hlt)⟩
                  have hsl := (HQA.out i hlt).symm.trans hs
                  obtain ⟨kk, hkk⟩ : ∃ kk : Nat, kk = m - 1 - i := ⟨_, rfl⟩
                  have hkl : kk < m := by omega
                  rw [← hkk] at hsl

                  have R10 := R9.out.below HB.out
                  have hm : m = (Q.map some).length := by rw [List.length_map, HQL.out]
                  have R11 : wr.ownsRow w4.heap.size 28 4 (.slice (some ⟨gq, 0, none⟩) (Q.map some).length cc) (Q.map some).length ((Q.map some).flatMap repC) := by
                    have h := R10
                    unfold RO at h
                    rw [hm] at h
                    exact h
                  have rc := row_cell R11 (i * 4 + 2) (.string s) (repC_at (Q.map some) i 2 (some s) _ (by simp [hs]) rfl)
                  have ca := CA.out _ BWr.out kk s hsl
                  have rcD : wr.drew.cell? ⟨gq, i * 4 + 2, none⟩ = some (.string s) := rc
                  have caD : wr.drew.cell? ⟨blk, off + kk, none⟩ = some (.string s) := ca
                  have e3D : wr.drew.cell? ⟨v8.heap.size, 3, none⟩ = some (.slice (some ⟨gq, 0, none⟩) m cc) := e3
                  have w4 : ((m : Int) - 1 - (i : Int)).toNat = kk := by omega
                  have w1 : wrap64 ((m : Int) - 1) = (m : Int) - 1 := by unfold wrap64; omega
                  have w5 : wrap64 ((m : Int) - 1 - (i : Int)) = (m : Int) - 1 - (i : Int) := by unfold wrap64; omega
                  have w6 : 0 ≤ (m : Int) - 1 - (i : Int) := by omega
                  have w7 : (m : Int) - 1 - (i : Int) < (m : Int) := by omega
                  have w8 : (i : Int) ≤ (m : Int) - 1 := by omega
                  clear hkk hsl hs R10 R11 hm
                  go_wp2
                  go_region
                  go_wp2
                  exact ⟨⟨i + 1, by omega, by go_num, Lib.hid HB.out.drew⟩, by simp [intOf]; omega⟩
                · obtain rfl : m = i := by omega
                  have q3 : ¬ (m : Int) < (m : Int) := by omega
                  obtain ⟨w9, rfl⟩ : ∃ w9, w9 = wr := ⟨_, rfl⟩
                  have L10 := Lib.hid (L9.out.old HB.out)
                  go_wp2_with (first | (go_at_call 4; (with_reducible refine (TL.out _).mono ?_); rintro e v10 ⟨rfl, h10⟩; have L11 := Lib.hid (L10.out.old h10); clear h10; refine Hid.out ?_))
                  refine Lib.hid ?_
                  have AL := Lib.hid (All1G KL okL KLok bS bM ⟨#[105]⟩ Q (by decide) v10 L11.out.sp)
                  go_wp2_with (first | (go_at_call 7; (with_reducible refine (AL.out).mono ?_); rintro e v11 ⟨⟨g11, C11, rfl⟩, h11⟩; have L12 := Lib.hid (L11.out.old h11); clear h11; refine Hid.out ?_))
                  refine Lib.hid ?_
                  have D13 := Lib.hid (p_lenk w bS bM Q v11 L12.out _ rfl)
                  have fN : ∀ X, (Instr.field 28 (.agg #[.int .i64 3, .int .i64 0, .string ⟨#[]⟩, .slice none 0 0]) 1).run Tryz.prog X = .ok (.int .i64 0) X := fun X => by kernel_rfl
                  go_wp2_with (first | (go_at_call 6; (with_reducible refine (D13.out).mono ?_); rintro e v13 ⟨rfl, hL13, _⟩; have L13 := Lib.hid hL13; clear hL13; refine Hid.out ?_))
                  refine Lib.hid ?_
                  have D14 := Lib.hid (p_lenj w bS bM Q v13 L13.out _ rfl)
                  go_wp2_with (first | (go_at_call 6; (with_reducible refine (D14.out).mono ?_); rintro e v14 ⟨rfl, hL14, _⟩; have L14 := Lib.hid hL14; clear hL14))
                  go_ret
                  exact ⟨by simp, L14.out.below⟩
set_option maxRecDepth 100000 in
set_option maxHeartbeats 8000000 in
theorem through_TT (l P Q : List ByteArray) (v0 : Value) (w : World) (h0 : SSl w v0 l) (h1 : 1 ≤ l.length) (h15 : l.length ≤ 15) (hP : pushed true l = P) (hQ : l = Q) : Calls Tryz.prog 3 #[v0, .bool true, .bool true] w fun e w' => e = .returned (.bool true) ∧ Below w.heap.size w w' := by
  have NW := Lib.hid (fun X => New9 X)
  have TL := Lib.hid (fun X => told X)
  obtain ⟨aA, cap, rfl, p1, p2, p3⟩ := h0
  obtain ⟨blk, off, rfl, hblt, hc⟩ := p3 (by intro e; rw [e] at h1; simp at h1)
  have CA := Lib.hid (show ∀ Y, Below w.heap.size w Y → ∀ (i : Nat) (s : ByteArray), l[i]? = some s → Y.cell? ⟨blk, off + i, none⟩ = some (.string s) from fun Y hY i s hs => (hY.cell (p := ⟨blk, off + i, none⟩) hblt).trans (hc i s hs))
  obtain ⟨n, hn⟩ : ∃ n : Nat, l.length = n := ⟨_, rfl⟩
  rw [hn] at h1 h15
  simp only [hn]
  have HN := Lib.hid hn
  have HP := Lib.hid hP
  have HPL := Lib.hid (show P.length = n by rw [← hP, pushed_len]; exact hn)
  have HQL := Lib.hid (show Q.length = n from (congrArg List.length hQ).symm.trans hn)
  have HQA := Lib.hid (show ∀ i, i < n → Q[i]? = l[i]? from fun i hi => by rw [hQ])
  have HPQ := Lib.hid (show P.reverse = Q by rw [← hQ, ← hP]; simp [pushed])
  have q1 : ¬ (n : Int) = 0 := by omega
  have q2 : ¬ (15 : Int) < (n : Int) := by omega
  have q1b : ((n : Int) == 0) = false := by rw [beq_eq_false_iff_ne]; exact q1
  have q2b : decide ((15 : Int) < (n : Int)) = false := decide_eq_false q2
  clear p1 p2 p3 hc hn hblt hP hQ
  go_enter Tryz.func3, Tryz.ntmps3
  go_wp2_with (first | (go_at_call 5; (with_reducible refine (NW.out _).mono ?_); rintro e v0 ⟨bS, bM, rfl, hS0, hbS, hbM, hB0⟩; have L0 := Lib.hid (LD.mk0 hS0 hB0 hbS hbM); clear hS0 hbS hbM hB0; refine Hid.out ?_))
  refine Lib.hid ?_
  go_wp2
  go_loopw [10] (fun iv wr => ∃ i : Nat, i ≤ n ∧ iv = .int .i64 i ∧ Hid (LD w wr bS bM (ne2 ⟨#[107]⟩ ⟨#[106]⟩ (pushed true (l.take i)) []) ∧ ∀ s ∈ l.take i, s.size ≤ 100)) (fun iv _ => n - (intOf iv).toNat)
  case atStart => exact ⟨0, Nat.zero_le _, rfl, Lib.hid ⟨by cases true <;> exact L0.out, fun s hs => by simp at hs⟩⟩
  case round =>
    obtain ⟨i, hi, rfl, HQ⟩ := hrel
    by_cases hlt : i < n
    · obtain ⟨s, hs⟩ : ∃ s, l[i]? = some s := ⟨_, List.getElem?_eq_getElem (by rw [HN.out]; exact hlt)⟩
      have q3 : (i : Int) < (n : Int) := by omega
      have ca := CA.out _ HQ.out.1.below i s hs
      by_cases h50 : s.size ≤ 100
      · have q4 : ¬ (100 : Int) < (s.size : Int) := by omega
        have q4b : decide ((100 : Int) < (s.size : Int)) = false := decide_eq_false q4
        have HTK := Lib.hid (take_at l i s hs)
        have HPS := Lib.hid (show pushed true (l.take (i + 1)) = pushT true (pushed true (l.take i)) [s] by rw [HTK.out]; exact pushed_snoc _ _ _)
        have HF := Lib.hid (show ∀ t ∈ l.take (i + 1), t.size ≤ 100 from fun t ht => by
          rw [HTK.out] at ht
          rcases List.mem_append.1 ht with ht | ht
          · exact HQ.out.2 t ht
          · simp at ht
            subst ht
            exact h50)
        have hfw : few 15 (pushT true (pushed true (l.take i)) [s]) := by
          rw [← HPS.out]
          exact ⟨by rw [pushed_len, List.length_take]; omega, Nat.le_refl _, fun t ht => HF.out t ((mem_pushed _ _ _).1 ht)⟩
        have D5 := Lib.hid (p_pushT w bS bM (pushed true (l.take i)) s i (by rw [pushed_len, List.length_take, HN.out]; omega) hfw wr HQ.out.1 _ rfl)
        have fN : ∀ X, (Instr.field 28 (.agg #[.int .i64 3, .int .i64 ((i + 1 : Nat) : Int), .string ⟨#[]⟩, .slice none 0 0]) 1).run Tryz.prog X = .ok (.int .i64 ((i + 1 : Nat) : Int)) X := fun X => by kernel_rfl
        have z0 : ((i + 1 : Nat) : Int) = (i : Int) + 1 := by omega
        have z1 : IntKind.i64.wrap ((i : Int) + 1) = (i : Int) + 1 := IntWalk.i64_in _ (by omega)
        rw [z0] at D5 fN
        clear hs hfw z0
        go_wp2_with (first | (go_at_call 6; (with_reducible refine (D5.out).mono ?_); rintro e w4 ⟨rfl, h4, _⟩; have L4 := Lib.hid h4; clear h4))
        exact ⟨⟨i + 1, by omega, by go_num, Lib.hid ⟨by rw [HPS.out]; exact L4.out, HF.out⟩⟩, by simp [intOf]; omega⟩
      · have q4 : (100 : Int) < (s.size : Int) := by omega
        clear hs
        have LW := Lib.hid HQ.out.1
        go_wp2_with (first | (go_at_call 4; (with_reducible refine (TL.out _).mono ?_); rintro e w7 ⟨rfl, h7⟩; have B7 := Lib.hid (LW.out.old h7).below; clear h7))
        exact bodyPost_ret (v := .bool true) (by simp [results, Tryz.results3, go_sem]) rfl ⟨rfl, B7.out⟩
    · obtain rfl : n = i := by omega
      have q3 : ¬ (n : Int) < (n : Int) := by omega
      obtain ⟨w2, rfl⟩ : ∃ w2, w2 = wr := ⟨_, rfl⟩
      have hQ := HQ.out
      rw [List.take_of_length_le (by rw [HN.out]; exact Nat.le_refl _), HP.out] at hQ
      have L2 := Lib.hid (show LD w w2 bS bM (ne2 ⟨#[107]⟩ ⟨#[106]⟩ (P.take (n - 0)) (Q.take 0)) by simpa [List.take_of_length_le (Nat.le_of_eq HPL.out)] using hQ.1)
      have H100 := Lib.hid (show ∀ t ∈ Q, t.size ≤ 100 from fun t ht => by
        obtain ⟨i, hi, he⟩ := List.mem_iff_getElem.1 ht
        have h1 := HQA.out i (by rw [← HQL.out]; exact hi)
        rw [List.getElem?_eq_getElem hi, he] at h1
        exact hQ.2 t (List.mem_of_getElem? h1.symm))
      clear HQ hQ hi hlt q3
      go_wp2
      go_loopw [11] (fun iv wr => ∃ i : Nat, i ≤ n ∧ iv = .int .i64 i ∧ Hid (LD w wr bS bM (ne2 ⟨#[107]⟩ ⟨#[106]⟩ (P.take (n - i)) (Q.take i)))) (fun iv _ => n - (intOf iv).toNat)
      case atStart => exact ⟨0, Nat.zero_le _, rfl, L2⟩
      case round =>
        obtain ⟨i, hi, rfl, HL⟩ := hrel
        by_cases hlt : i < n
        · obtain ⟨s, hs⟩ : ∃ s, Q[i]? = some s := ⟨_, List.getElem?_eq_getElem (by rw [HQL.out]; exact hlt)⟩
          have q3 : (i : Int) < (n : Int) := by omega
          have hsl := (HQA.out i hlt).symm.trans hs
          have HSL := Lib.hid hsl
          have hrest : (P.take (n - i))[(P.take (n - i)).length - 1]? = some s ∧ (P.take (n - i)).eraseIdx ((P.take (n - i)).length - 1) = P.take (n - (i + 1)) := by
            have h2 : P[n - (i + 1)]? = some s := by
              have := hs
              rw [← HPQ.out, rev_at P n i HPL.out hlt] at this
              rw [show n - (i + 1) = n - 1 - i from by omega]
              exact this
            rw [show n - i = n - (i + 1) + 1 from by omega]
            exact take_last P _ s h2
          have D4 := Lib.hid (p_popT w bS bM (P.take (n - i)) (Q.take i) s hrest.1 wr HL.out _ rfl)
          rw [hrest.2] at D4
          have HTK := Lib.hid (take_at Q i s hs)
          have HFW := Lib.hid (show few 15 (Q.take i ++ [s]) from ⟨by rw [← HTK.out, List.length_take]; omega, Nat.le_refl _, fun t ht => H100.out t (List.mem_of_mem_take (by rw [← HTK.out] at ht; exact ht))⟩)

          clear hsl hrest hs
          go_wp2_with (first | (go_at_call 6; (with_reducible refine (D4.out).mono ?_); rintro e v4 ⟨rfl, hL4, _⟩; refine Hid.out ?_))
          refine Lib.hid ?_
          have L4 := Lib.hid (hL4.old (alloc_old (o := .cells #[.int .i64 4, .int .i64 0, .string s, .slice none 0 0] 28)))
          have g4 := heap_alloc_new v4 (.cells #[.int .i64 4, .int .i64 0, .string s, .slice none 0 0] 28)
          have ca := CA.out _ L4.out.below i s HSL.out
          go_wp2
          generalize (v4.alloc (.cells #[.int .i64 4, .int .i64 0, .string s, .slice none 0 0] 28)) = v5 at L4 g4 ca ⊢
          have g5 : v5.drew.heap[v4.heap.size]? = _ := g4
          have ca5 : v5.drew.cell? ⟨blk, off + i, none⟩ = some (.string s) := ca
          obtain ⟨⟨c0, c1, c2, c3⟩, _⟩ := cells4 g4
          obtain ⟨⟨d0, d1, d2, d3⟩, _⟩ := cells4 g5
          clear hL4
          go_region
          have L5 := Lib.hid (L4.out.old (Below.refl _ _).drew)
          have D6 := Lib.hid (p_pushj w bS bM (P.take (n - (i + 1))) (Q.take i) s i (by rw [List.length_take, HQL.out]; omega) HFW.out v5.drew L5.out v5.heap.size rfl)
          rw [show v5.drew.alloc (.cells #[.string ⟨#[82, 80, 85, 83, 72]⟩, .string ⟨#[106]⟩, .string s] 9) = (v5.alloc (.cells #[.string ⟨#[82, 80, 85, 83, 72]⟩, .string ⟨#[106]⟩, .string s] 9)).drew from rfl] at D6
          go_wp2_with (first | (go_at_call 6; (with_reducible refine (D6.out).mono ?_); rintro e v6 ⟨rfl, hL6, _⟩; have L6 := Lib.hid hL6; clear hL6))
          exact ⟨⟨i + 1, by omega, by go_num, by rw [HTK.out]; exact L6⟩, by simp [intOf]; omega⟩
        · obtain rfl : n = i := by omega
          have q3 : ¬ (n : Int) < (n : Int) := by omega
          obtain ⟨w3, rfl⟩ : ∃ w3, w3 = wr := ⟨_, rfl⟩
          have L3 := Lib.hid (show LD w w3 bS bM (ne2 ⟨#[106]⟩ ⟨#[105]⟩ (Q.take (n - 0)) (Q.drop (n - 0))) by
            have h := HL.out
            rw [show (P.take (n - n)) = [] from by simp, ne2_b0 ⟨#[107]⟩ ⟨#[106]⟩ ⟨#[105]⟩] at h
            rw [Nat.sub_zero, List.drop_eq_nil_of_le (Nat.le_of_eq HQL.out)]
            exact h)
          clear HL hi hlt q3
          go_wp2
          go_loopw [14] (fun iv wr => ∃ i : Nat, i ≤ n ∧ iv = .int .i64 i ∧ Hid (LD w wr bS bM (ne2 ⟨#[106]⟩ ⟨#[105]⟩ (Q.take (n - i)) (Q.drop (n - i))))) (fun iv _ => n - (intOf iv).toNat)
          case atStart => exact ⟨0, Nat.zero_le _, rfl, L3⟩
          case round =>
            obtain ⟨i, hi, rfl, HL⟩ := hrel
            by_cases hlt : i < n
            · obtain ⟨s, hs⟩ : ∃ s, Q[n - (i + 1)]? = some s := ⟨_, List.getElem?_eq_getElem (by rw [HQL.out]; omega)⟩
              have q3 : (i : Int) < (n : Int) := by omega
              have htl := take_last Q (n - (i + 1)) s hs
              have hdr := drop_at Q (n - (i + 1)) s hs
              have hni : n - (i + 1) + 1 = n - i := by omega
              rw [hni] at htl hdr
              have D7 := Lib.hid (p_over w bS bM (Q.take (n - i)) (Q.drop (n - i)) s htl.1 (by rw [← hdr]; exact ⟨by rw [List.length_drop]; have := HQL.out; omega, Nat.le_refl _, fun t ht => H100.out t (List.mem_of_mem_drop ht)⟩) wr HL.out _ rfl)
              rw [htl.2, ← hdr] at D7
              clear htl hdr hni hs
              go_wp2_with (first | (go_at_call 6; (with_reducible refine (D7.out).mono ?_); rintro e v7 ⟨rfl, hL7, _⟩; have L7 := Lib.hid hL7; clear hL7))
              exact ⟨⟨i + 1, by omega, by go_num, L7⟩, by simp [intOf]; omega⟩
            · obtain rfl : n = i := by omega
              have q3 : ¬ (n : Int) < (n : Int) := by omega
              obtain ⟨w4, rfl⟩ : ∃ w4, w4 = wr := ⟨_, rfl⟩
              have hQne : Q ≠ [] := by intro e; have := HQL.out; rw [e] at this; simp at this; omega
              have L4 := Lib.hid (show LD w w4 bS bM [(⟨#[105]⟩, Q)] by
                have h := HL.out
                rw [Nat.sub_self, List.take_zero, List.drop_zero, ne2_b1 _ _ _ hQne] at h
                exact h)
              clear HL hi hlt q3
              have D8 := Lib.hid (p_allI w bS bM Q (by rw [HQL.out]; exact h15) w4 L4.out _ rfl)
              go_wp2_with (first | (go_at_call 6; (with_reducible refine (D8.out).mono ?_); rintro e v8 ⟨A, m, cc, rfl, hR8, hL8, _⟩; refine Hid.out ?_))
              refine Lib.hid ?_
              have L9 := Lib.hid (hL8.old (alloc_old (o := .cells #[.int .i64 6, .int .i64 0, .string ⟨#[]⟩, .slice A m cc] 28)))
              have g9 := Lib.hid (heap_alloc_new v8 (.cells #[.int .i64 6, .int .i64 0, .string ⟨#[]⟩, .slice A m cc] 28))
              have R9 := Lib.hid (RO.below hR8 (alloc_old (o := .cells #[.int .i64 6, .int .i64 0, .string ⟨#[]⟩, .slice A m cc] 28)))
              clear hL8 hR8
              obtain ⟨hmm, ⟨gq, rfl⟩, hcc⟩ := R9.out.form (by simpa using hQne)
              rw [List.length_map, HQL.out] at hmm
              subst hmm
              have m15 := h15
              go_wp2
              generalize hv9 : (v8.alloc (.cells #[.int .i64 6, .int .i64 0, .string ⟨#[]⟩, .slice (some ⟨gq, 0, none⟩) m cc] 28)) = v9 at L9 g9 R9 ⊢
              go_loopw [16] (fun iv wr => ∃ i : Nat, i ≤ m ∧ iv = .int .i64 i ∧ Hid (Below v9.heap.size v9 wr)) (fun iv _ => m - (intOf iv).toNat)
              case atStart => exact ⟨0, Nat.zero_le _, rfl, Lib.hid (Below.refl _ _)⟩
              case round =>
                obtain ⟨i, hi, rfl, HB⟩ := hrel
                have BWr := Lib.hid (L9.out.below.trans (HB.out.mono (Below.size L9.out.below)))
                obtain ⟨⟨e0, e1, e2, e3⟩, _⟩ := cells4 (blk_below g9.out HB.out)
                by_cases hlt : i < m
                · have q3 : (i : Int) < (m : Int) := by omega
                  obtain ⟨s, hs⟩ : ∃ s, Q[i]? = some s := ⟨_, List.getElem?_eq_getElem (by rw [HQL.out]; exact hlt)⟩
                  have hsl := (HQA.out i hlt).symm.trans hs

                  have R10 := R9.out.below HB.out
                  have hm : m = (Q.map some).length := by rw [List.length_map, HQL.out]
                  have R11 : wr.ownsRow w4.heap.size 28 4 (.slice (some ⟨gq, 0, none⟩) (Q.map some).length cc) (Q.map some).length ((Q.map some).flatMap repC) := by
                    have h := R10
                    unfold RO at h
                    rw [hm] at h
                    exact h
                  have rc := row_cell R11 (i * 4 + 2) (.string s) (repC_at (Q.map some) i 2 (some s) _ (by simp [hs]) rfl)
                  have ca := CA.out _ BWr.out i s hsl
                  have rcD : wr.drew.cell? ⟨gq, i * 4 + 2, none⟩ = some (.string s) := rc
                  have caD : wr.drew.cell? ⟨blk, off + i, none⟩ = some (.string s) := ca
                  have e3D : wr.drew.cell? ⟨v8.heap.size, 3, none⟩ = some (.slice (some ⟨gq, 0, none⟩) m cc) := e3

                  clear hsl hs R10 R11 hm
                  go_wp2
                  go_region
                  go_wp2
                  exact ⟨⟨i + 1, by omega, by go_num, Lib.hid HB.out.drew⟩, by simp [intOf]; omega⟩
                · obtain rfl : m = i := by omega
                  have q3 : ¬ (m : Int) < (m : Int) := by omega
                  obtain ⟨w9, rfl⟩ : ∃ w9, w9 = wr := ⟨_, rfl⟩
                  have L10 := Lib.hid (L9.out.old HB.out)
                  go_wp2_with (first | (go_at_call 4; (with_reducible refine (TL.out _).mono ?_); rintro e v10 ⟨rfl, h10⟩; have L11 := Lib.hid (L10.out.old h10); clear h10; refine Hid.out ?_))
                  refine Lib.hid ?_
                  have AL := Lib.hid (All1G KL okL KLok bS bM ⟨#[105]⟩ Q (by decide) v10 L11.out.sp)
                  go_wp2_with (first | (go_at_call 7; (with_reducible refine (AL.out).mono ?_); rintro e v11 ⟨⟨g11, C11, rfl⟩, h11⟩; have L12 := Lib.hid (L11.out.old h11); clear h11; refine Hid.out ?_))
                  refine Lib.hid ?_
                  have D13 := Lib.hid (p_lenk w bS bM Q v11 L12.out _ rfl)
                  have fN : ∀ X, (Instr.field 28 (.agg #[.int .i64 3, .int .i64 0, .string ⟨#[]⟩, .slice none 0 0]) 1).run Tryz.prog X = .ok (.int .i64 0) X := fun X => by kernel_rfl
                  go_wp2_with (first | (go_at_call 6; (with_reducible refine (D13.out).mono ?_); rintro e v13 ⟨rfl, hL13, _⟩; have L13 := Lib.hid hL13; clear hL13; refine Hid.out ?_))
                  refine Lib.hid ?_
                  have D14 := Lib.hid (p_lenj w bS bM Q v13 L13.out _ rfl)
                  go_wp2_with (first | (go_at_call 6; (with_reducible refine (D14.out).mono ?_); rintro e v14 ⟨rfl, hL14, _⟩; have L14 := Lib.hid hL14; clear hL14))
                  go_ret
                  exact ⟨by simp, L14.out.below⟩
end Go.Proofs.YtjljljjmdlddkaaGreat
