/- Texts joined: PC3, PC2 -/
import Derived.Test.YticlacjpgjkhcaaGreatDoorQn23
import Derived.Deep.CutRange
set_option linter.unusedVariables false
set_option linter.unusedSimpArgs false

/- points: PADD. -/
namespace Go.Proofs.YticlacjpgjkhcaaGreatDoor
open Go.ChangeShapes Go.WideShapes Go.ChangeAt Go.RowKit Go.Fl

theorem w64s (y : Nat) (c : Int) (h0 : 0 ≤ c) (h : (y : Int) + c ≤ 1000000) : wrap64 ((y : Int) + c) = (y : Int) + c := by
  unfold wrap64
  omega
theorem set2P {w : World} {b : Nat} {a0 a1 : Value} {t : TypeId} (h : w.heap[b]? = some (.cells #[a0, a1] t)) (v0 v1 : Value) : ((w.setCell ⟨b, 0, none⟩ v0).setCell ⟨b, 1, none⟩ v1).heap[b]? = some (.cells #[v0, v1] t) := set_cells2 (set_cells2 h)
theorem w2s (y : Nat) (h : y ≤ 95) : IntKind.i64.wrap ((y : Int) + 2) = (y : Int) + 2 := IntWalk.i64_in _ (by omega)
theorem idx_rowP (blk off Ln cap : Nat) (i : Int) (I : Nat) (hi : i = (I : Int)) (h : I < Ln) (w : World) : (Instr.indexAt 58 (.slice (some ⟨blk, off, none⟩) Ln cap) (.int .i64 i)).run Tryz.prog w = .ok (.pointer (some ⟨blk, off + I, none⟩)) w := by
  subst hi
  simp [Instr.indexAt, asIntOf, go_sem]
  omega
set_option maxRecDepth 100000 in
set_option maxHeartbeats 16000000 in
theorem cPADD (bS bM : Nat) (D : List (ByteArray × List (ByteArray × Int × Int))) (now : Int) (NM k : ByteArray) (T : List ByteArray) (P F : List (ByteArray × Int × Int)) (m : Nat) (hm : P.length = m) (hT : T.length = 3 * m) (hp : ∀ (i : Nat) (p : ByteArray × Int × Int), P[i]? = some p → ∃ s t, T[3 * i]? = some s ∧ T[3 * i + 1]? = some t ∧ T[3 * i + 2]? = some p.1 ∧ s.size ≤ 100000 ∧ t.size ≤ 100000 ∧ okP2 p ∧ parseI s.data.toList = some p.2.1 ∧ parseI t.data.toList = some p.2.2) (hri : ∀ (i : Nat) (p : ByteArray × Int × Int), P[i]? = some p → ∀ q ∈ F ++ P.take i, bl q.1 < bl p.1) (hF : (findD k D).getD [] = F) (hok : okP k (F ++ P)) (ho3 : ∀ p ∈ F ++ P, okP2 p) (hne : F ++ P ≠ []) (w : World) : CmdD KP okP 37 bS bM D now (NM :: k :: T) 3 (m : Nat) ⟨#[]⟩ R0 (dEff k (some (F ++ P)) D) w := by
  intro j vA hS hj hA
  show Calls Tryz.prog 37 #[.pointer (some ⟨j, 0, none⟩)] w _
  have hjw := lt_blk hj
  obtain ⟨blk, off, cap, rfl, hAR⟩ := AR.of hj hA (by simp)
  have A1 := Lib.hid (alloc_old (w := w) (o := .cells #[.int .i64 0, .int .i64 0, .string ⟨#[]⟩, .slice none 0 0] 29))
  have hr := Lib.hid (heap_alloc_new w (.cells #[.int .i64 0, .int .i64 0, .string ⟨#[]⟩, .slice none 0 0] 29))
  obtain ⟨n, hn⟩ : ∃ n, F.length = n := ⟨_, rfl⟩
  obtain ⟨Ln, hl2⟩ : ∃ Ln, (NM :: k :: T).length = Ln := ⟨_, rfl⟩
  have hLn : Ln = 2 + 3 * m := by rw [← hl2, List.length_cons, List.length_cons, hT]; omega
  rw [hl2] at hj hA ⊢
  have hz : (w.alloc (.cells #[.int .i64 0, .int .i64 0, .string ⟨#[]⟩, .slice none 0 0] 29)).heap.size = w.heap.size + 1 := by simp
  have HO := pof_any bS bM j D now blk off cap (NM :: k :: T) Ln hl2 (by omega) k rfl (.slice none 0 0) F hF (w.alloc (.cells #[.int .i64 0, .int .i64 0, .string ⟨#[]⟩, .slice none 0 0] 29)) (SPG.below KP okP hS A1.out) (hj.below A1.out) (hAR.below A1.out)
  simp only [hz, hn] at HO
  have HO := Lib.hid HO
  have HJ := Lib.hid hj
  have HS := Lib.hid hS
  have HA := Lib.hid hA
  have HAR := Lib.hid hAR
  clear hS hj hA hAR hF hz
  have CJ := Lib.hid (show ∀ Y, Below w.heap.size w Y → Y.cell? ⟨j, 2, none⟩ = some (.slice (some ⟨blk, off, none⟩) Ln cap) from fun Y hY => by
    have h := (HAR.out.job Y hY).1
    rw [hl2] at h
    exact h)
  have CA := Lib.hid (fun Y hY i s hs => HAR.out.arg Y hY i s hs)
  have PX := Lib.hid (show ∀ (i : Nat) (p : ByteArray × Int × Int), P[i]? = some p → ∀ y : Nat, y = 2 + 3 * i → ∀ X, Below w.heap.size w X → Calls Tryz.prog 100 #[.pointer (some ⟨j, 0, none⟩), .int .i64 y] X (fun e w' => e = .returned (.complex .f64 (fi p.2.1) (fi p.2.2)) ∧ Below X.heap.size X w') from fun i p hpi y hy X hX => by
    obtain ⟨s, t, t0, t1, t2, s1, s2, ok, p1, p2⟩ := hp i p hpi
    exact pparse_any y j now blk off cap (NM :: k :: T) Ln hl2 y rfl s t s1 s2 p.2.1 p.2.2 ok.1 ok.2 p1 p2 (by rw [hy, show 2 + 3 * i = 3 * i + 1 + 1 by omega]; simpa using t0) (by rw [hy, show 2 + 3 * i + 1 = 3 * i + 1 + 1 + 1 by omega]; simpa using t1) X (HAR.out.below hX))
  have SX := Lib.hid (show ∀ (i : Nat) (p : ByteArray × Int × Int), P[i]? = some p → ∀ y : Nat, y = 2 + 3 * i → ∀ X, Below w.heap.size w X → (X.cell? ⟨j, 2, none⟩ = some (.slice (some ⟨blk, off, none⟩) Ln cap) ∧ X.cell? ⟨blk, off + (y + 2), none⟩ = some (.string p.1)) from fun i p hpi y hy X hX => by
    obtain ⟨s, t, t0, t1, t2, _⟩ := hp i p hpi
    exact ⟨CJ.out X hX, CA.out X hX (y + 2) p.1 (by rw [hy, show 2 + 3 * i + 2 = 3 * i + 2 + 1 + 1 by omega]; simpa using t2)⟩)
  have HRI := Lib.hid hri
  have HO3 := Lib.hid ho3
  have HOK := Lib.hid hok
  have HNE := Lib.hid hne
  have HN := Lib.hid hn
  have HM := Lib.hid hm
  have IN := Lib.hid (fun X => Int75 (m : Int) X)
  have h31 : n + m ≤ 31 := by have := hok.2.2.2.1; rw [List.length_append, hn, hm] at this; exact this
  have HLn := Lib.hid hLn
  clear ho3 hok hp hne hri hn hm HA HAR CA hT hLn hl2
  go_enter Tryz.func37, Tryz.ntmps37
  go_wp2_with (first | (go_at_call 99; (with_reducible refine (HO.out).mono ?_); rintro e w1 ⟨A, C, rfl, hR, h1⟩; have R1 := Lib.hid hR; have B1 := Lib.hid (A1.out.trans (h1.mono (Nat.le_succ _))); have r1 := Lib.hid ((h1.block w.heap.size (Nat.lt_succ_self _)).trans hr.out); clear h1 hR; refine Hid.out ?_))
  refine Lib.hid ?_
  have AE := Lib.hid (alloc_old (w := w1) (o := .cells #[.string k, .int .i64 5, .string ⟨#[]⟩, .slice none 0 0, .slice none 0 0, .slice none 0 0, .slice A n C, .int .i64 0] 66))
  have re := Lib.hid (heap_alloc_new w1 (.cells #[.string k, .int .i64 5, .string ⟨#[]⟩, .slice none 0 0, .slice none 0 0, .slice none 0 0, .slice A n C, .int .i64 0] 66))
  have R2 := Lib.hid (R1.out.below AE.out)
  have r2 := Lib.hid (blk_below r1.out AE.out)
  have B2 := Lib.hid (B1.out.trans (AE.out.mono (Below.size B1.out)))
  have z1 := lt_blk r1.out
  have z2 : w1.heap.size < (w1.alloc (.cells #[.string k, .int .i64 5, .string ⟨#[]⟩, .slice none 0 0, .slice none 0 0, .slice none 0 0, .slice A n C, .int .i64 0] 66)).heap.size := by simp
  go_wp2
  generalize (w1.alloc (.cells #[.string k, .int .i64 5, .string ⟨#[]⟩, .slice none 0 0, .slice none 0 0, .slice none 0 0, .slice A n C, .int .i64 0] 66)) = W2 at AE re R2 r2 B2 z2 ⊢
  clear AE
  go_loopw [6] (fun iv wr => ∃ i y : Nat, Hid (y = 2 + 3 * i) ∧ i ≤ m ∧ iv = .int .i64 y ∧ Hid (Below W2.heap.size W2 wr)) (fun iv _ => Ln - (intOf iv).toNat)
  case atStart => exact ⟨0, 2, Lib.hid rfl, Nat.zero_le _, rfl, Lib.hid (Below.refl _ _)⟩
  case round =>
    obtain ⟨i, y, HY, hi, rfl, HB⟩ := hrel
    have BW := Lib.hid (B2.out.trans (HB.out.mono (Below.size B2.out)))
    have cj := CJ.out _ BW.out
    have hyb : y ≤ 95 := by have := HY.out; omega
    have hy2 : (y : Int) + 2 ≤ 1000000 := by omega
    have hy3 : (y : Int) + 3 ≤ 1000000 := by omega
    have hyL := Lib.hid (show i < m → y + 2 < Ln from fun h => by have := HY.out; have := HLn.out; omega)
    have hyE := Lib.hid (show ¬ i < m → Ln ≤ y + 2 from fun h => by have := HY.out; have := HLn.out; omega)
    by_cases hlt : i < m
    · have i0 : (y : Int) + 2 < (Ln : Int) := by have := hyL.out hlt; omega
      obtain ⟨p, hp⟩ : ∃ p, P[i]? = some p := ⟨_, List.getElem?_eq_getElem (by rw [HM.out]; exact hlt)⟩
      have PP := Lib.hid (PX.out i p hp y HY.out wr BW.out)
      clear hp hyL hyE
      have w1' : wrap64 ((y : Int) + 2) = (y : Int) + 2 := w64s y 2 (by decide) hy2
      go_wp2_with (first | (go_at_call 100; (with_reducible refine (PP.out).mono ?_); rintro e w4 ⟨rfl, h1⟩; have HB2 := Lib.hid (HB.out.trans (h1.mono (Below.size HB.out))); clear h1))
      exact ⟨⟨i + 1, y + 3, Lib.hid (by have := HY.out; omega), by omega, by go_num, HB2⟩, by simp [intOf]; omega⟩
    · have i0 : ¬ (y : Int) + 2 < (Ln : Int) := by have := hyE.out hlt; omega
      have R4 := Lib.hid (R2.out.below HB.out)
      have r4 := Lib.hid (blk_below r2.out HB.out)
      have e4 := Lib.hid (blk_below re.out HB.out)
      have B4 := BW
      clear hyL hyE
      have w1' : wrap64 ((y : Int) + 2) = (y : Int) + 2 := w64s y 2 (by decide) hy2
      go_wp2
      clear cj i0 w1' hlt HY hi hyb
      go_loopw [4, 5, 7] (fun lv nv iv wr => ∃ (i y : Nat) (A' : Option Addr) (C' : Nat), Hid (y = 2 + 3 * i) ∧ i ≤ m ∧ lv = .slice A' (n + i) C' ∧ nv = .int .i64 i ∧ iv = .int .i64 y ∧ Hid (RP wr (w.heap.size + 1) (.slice A' (n + i) C') (F ++ P.take i) ∧ Below w.heap.size w wr ∧ wr.heap[w1.heap.size]? = some (.cells #[.string k, .int .i64 5, .string ⟨#[]⟩, .slice none 0 0, .slice none 0 0, .slice none 0 0, .slice A n C, .int .i64 0] 66) ∧ wr.heap[w.heap.size]? = some (.cells #[.int .i64 0, .int .i64 0, .string ⟨#[]⟩, .slice none 0 0] 29))) (fun _ _ iv _ => Ln - (intOf iv).toNat)
      case atStart => exact ⟨0, 2, A, C, Lib.hid rfl, Nat.zero_le _, rfl, rfl, rfl, Lib.hid ⟨by rw [List.take_zero, List.append_nil]; exact R4.out, B4.out, e4.out, r4.out⟩⟩
      case round =>
        obtain ⟨i, y, A', C', HY, hi, rfl, rfl, rfl, HQ⟩ := hrel
        obtain ⟨N, hN⟩ : ∃ N, n + i = N := ⟨_, rfl⟩
        rw [hN] at HQ ⊢
        have HNN := Lib.hid hN
        clear hN
        have BW := Lib.hid HQ.out.2.1
        have cj := CJ.out _ BW.out
        have hyb : y ≤ 95 := by have := HY.out; omega
        have hy2 : (y : Int) + 2 ≤ 1000000 := by omega
        have hy3 : (y : Int) + 3 ≤ 1000000 := by omega
        have hi1 : (i : Int) + 1 ≤ 1000000 := by omega
        have hyL := Lib.hid (show i < m → y + 2 < Ln from fun h => by have := HY.out; have := HLn.out; omega)
        have hyE := Lib.hid (show ¬ i < m → Ln ≤ y + 2 from fun h => by have := HY.out; have := HLn.out; omega)
        by_cases hlt : i < m
        · have i0 : (y : Int) + 2 < (Ln : Int) := by have := hyL.out hlt; omega
          have i1 : (0 : Int) ≤ (y : Int) + 2 := by omega
          have n1 : ((y : Int) + 2).toNat = y + 2 := by omega
          obtain ⟨p, hp⟩ : ∃ p, P[i]? = some p := ⟨_, List.getElem?_eq_getElem (by rw [HM.out]; exact hlt)⟩
          have Xa := Lib.hid (PX.out i p hp y HY.out wr.drew BW.out.drew)
          have BZ := Lib.hid (BW.out.trans ((alloc_old (w := wr) (o := .cells #[.string ⟨#[]⟩, .complex .f64 0 0] 110)).mono (Below.size BW.out)))
          have Xb := Lib.hid (PX.out i p hp y HY.out (wr.alloc (.cells #[.string ⟨#[]⟩, .complex .f64 0 0] 110)).drew BZ.out.drew)
          have SY := Lib.hid (fun X (hX : Below wr.heap.size wr X) => SX.out i p hp y HY.out X (BW.out.trans (hX.mono (Below.size BW.out))))
          have S0 := SX.out i p hp y HY.out wr.drew BW.out.drew
          have Sa := Lib.hid (SX.out i p hp y HY.out (wr.alloc (.cells #[.string ⟨#[]⟩, .complex .f64 0 0] 110)).drew BZ.out.drew)
          have hx1 := fun X => idx_rowP blk off Ln cap ((y : Int) + 2) (y + 2) (by omega) (by have := hyL.out hlt; omega) X
          have hlen : (F ++ P.take i).length = N := by rw [List.length_append, List.length_take, HN.out, HM.out, ← HNN.out]; omega
          have hN31 : N ≤ 31 := by have := HNN.out; omega
          have HTK := Lib.hid (show F ++ P.take (i + 1) = (F ++ P.take i) ++ [p] by rw [List.take_add_one, hp, List.append_assoc]; rfl)
          have HLE := Lib.hid hlen
          have PL := PlN.last (HRI.out i p hp)
          rw [hlen] at PL
          have FI := Lib.hid (fun X (hX : Below wr.heap.size wr X) => pfind_any A' N C' (w.heap.size + 1) (F ++ P.take i) HLE.out p.1 N PL false (by
            constructor
            · intro h; cases h
            · rintro ⟨q, hq, _⟩; have := (List.getElem?_eq_some_iff.1 hq).1; omega) (by omega) X (HQ.out.1.below hX))
          have hc1 : w.heap.size + 1 ≤ wr.heap.size := by have := lt_blk HQ.out.2.2.2; omega
          have HLT := Lib.hid (show i + 1 ≤ m from hlt)
          have HYL := Lib.hid (show y < Ln from by have := HY.out; have := HLn.out; omega)
          have HI1 := Lib.hid hi1
          have HY3 := Lib.hid hy3
          clear hp hlen PL hyL hyE
          have w1' : wrap64 ((y : Int) + 2) = (y : Int) + 2 := w64s y 2 (by decide) hy2
          have w2' : IntKind.i64.wrap ((y : Int) + 2) = (y : Int) + 2 := w2s y hyb
          go_wp2_with fail
          clear w1' i0 hyb hy2 hy3 hi1 hi hlt h31
          have HN31 := Lib.hid hN31
          clear hN31
          go_cut [8] from 39 to 50 (fun r wx => ∃ b, r = .pointer (some ⟨b, 0, none⟩) ∧ Hid (wx.heap[b]? = some (.cells #[.string p.1, .complex .f64 (fi p.2.1) (fi p.2.2)] 110) ∧ Below wr.heap.size wr wx))
          case first =>
            go_region_held3 (fun X => X.cell? ⟨j, 2, none⟩ = some (.slice (some ⟨blk, off, none⟩) Ln cap) ∧ X.cell? ⟨blk, off + (y + 2), none⟩ = some (.string p.1)) (first | (with_reducible exact S0) | (with_reducible exact Sa.out) | (with_reducible exact S1.out) | (with_reducible exact S1z.out _) | (with_reducible exact S1s.out _ _))
              (first | (go_at_call 100; (first | ((with_reducible refine (Xa.out).mono ?_); rintro e w4 ⟨rfl, h1⟩; have B4 := Lib.hid ((Below.refl wr.heap.size wr).drew.trans h1); have S1 := Lib.hid (SY.out _ B4.out); have S1z := Lib.hid (fun o => SY.out (w4.alloc o) (B4.out.trans (alloc_old.mono (Below.size B4.out)))); clear h1) | ((with_reducible refine (Xb.out).mono ?_); rintro e w4 ⟨rfl, h1⟩; have B4 := Lib.hid ((alloc_old (w := wr) (o := .cells #[.string ⟨#[]⟩, .complex .f64 0 0] 110)).drew.trans (h1.mono (by simp))); have S1 := Lib.hid (SY.out _ B4.out); have C4 := Lib.hid (blk_below (show ((wr.alloc (.cells #[.string ⟨#[]⟩, .complex .f64 0 0] 110)).drew).heap[wr.heap.size]? = some (.cells #[.string ⟨#[]⟩, .complex .f64 0 0] 110) from heap_alloc_new wr _) h1); obtain ⟨g0, g1⟩ := cells_of C4.out; have z0 := frozen_of_row w4 wr.heap.size 0 _ 110 C4.out; have z1 := frozen_of_row w4 wr.heap.size 1 _ 110 C4.out; have S1s := Lib.hid (fun v0 v1 => SY.out ((w4.setCell ⟨wr.heap.size, 0, none⟩ v0).setCell ⟨wr.heap.size, 1, none⟩ v1) ((B4.out.setCell (Nat.le_refl _) _).setCell (Nat.le_refl _) _)); clear h1))))
            all_goals (go_wp2_with fail)
            all_goals go_meet
            all_goals (first | exact ⟨_, rfl, Lib.hid ⟨heap_alloc_new w4 _, B4.out.trans (alloc_old.mono (Below.size B4.out))⟩⟩ | exact ⟨_, rfl, Lib.hid ⟨set2P C4.out _ _, (B4.out.setCell (Nat.le_refl _) _).setCell (Nat.le_refl _) _⟩⟩)
          case rest =>
            obtain ⟨b, rfl, HC⟩ := hcut
            have BC := Lib.hid HC.out.2
            obtain ⟨x0, x1⟩ := cells_of HC.out.1
            have FC := Lib.hid (FI.out _ BC.out)
            clear S0 w2' i1 n1
            go_wp2_with (first | (go_at_call 101; (with_reducible refine (FC.out).mono ?_); rintro e w5 ⟨rfl, h5⟩; have B5 := Lib.hid (BC.out.trans (h5.mono (Below.size BC.out))); obtain ⟨y0, y1⟩ := cells_of (blk_below HC.out.1 h5); clear h5; refine Hid.out ?_))
            refine Lib.hid ?_
            have AP := Lib.hid (alloc_old (w := w5) (o := .cells #[.string p.1, .complex .f64 (fi p.2.1) (fi p.2.2)] 110))
            have B6 := Lib.hid (B5.out.trans (AP.out.mono (Below.size B5.out)))
            have RW := Lib.hid (HQ.out.1.below B6.out)
            have ew := Lib.hid (blk_below HQ.out.2.2.1 B6.out)
            have rw' := Lib.hid (blk_below HQ.out.2.2.2 B6.out)
            have hz6 := Below.size B6.out
            have IE := Lib.hid (insertP_end A' N C' (w.heap.size + 1) w5.heap.size (F ++ P.take i) HLE.out p (Nat.le_trans HN31.out (by decide)) (w5.alloc (.cells #[.string p.1, .complex .f64 (fi p.2.1) (fi p.2.2)] 110)) (by omega) RW.out (heap_alloc_new w5 _))
            go_wp2_with (first | (go_at_call 102; (with_reducible refine (IE.out).mono ?_); rintro e w7 ⟨g7, c7, rfl, h1, h2, h3⟩; have R7 := Lib.hid h1; have B7 := Lib.hid h2; have K7 := Lib.hid h3; clear h1 h2 h3))
            have hown : ∀ (b : Nat) (cs : Array Value) (ty : TypeId), (w5.alloc (.cells #[.string p.1, .complex .f64 (fi p.2.1) (fi p.2.2)] 110)).heap[b]? = some (.cells cs ty) → ty ≠ 110 → w7.heap[b]? = some (.cells cs ty) := fun b cs ty hb hty => (K7.out.block b (lt_blk hb) (fun e => by
              obtain ⟨cs2, hc2⟩ := row_typ RW.out b e.symm
              rw [hb] at hc2
              cases hc2
              exact hty rfl)).trans hb
            have BW7 : Below w.heap.size w w7 := (BW.out.trans (B6.out.mono (Below.size BW.out))).trans (B7.out.mono (Nat.le_succ _))
            have hi1 := HI1.out
            have hy3 := HY3.out
            simp only [w64s i 1 (by decide) hi1, w64s y 3 (by decide) hy3]
            exact ⟨⟨i + 1, y + 3, some ⟨g7, 0, none⟩, c7, Lib.hid (by have := HY.out; omega), HLT.out, by rw [← HNN.out]; rfl, by go_num, by go_num, Lib.hid ⟨by have h := R7.out; rw [← HNN.out] at h; rw [HTK.out]; exact h, BW7, hown _ _ _ ew.out (by decide), hown _ _ _ rw'.out (by decide)⟩⟩, by have := HYL.out; simp [intOf]; omega⟩
        · obtain rfl : i = m := by omega
          have i0 : ¬ (y : Int) + 2 < (Ln : Int) := by have := hyE.out hlt; omega
          have hQ := HQ.out.1
          rw [List.take_of_length_le (by rw [HM.out]; exact Nat.le_refl _)] at hQ
          have RE := Lib.hid HQ.out.2.2.2
          obtain ⟨⟨k0, k1, k2, k3, k4, k5, k6, k7⟩, _, _⟩ := cells8 HQ.out.2.2.1
          have PU := Lib.hid (pput_any bS bM j D k now _ w.heap.size A' A N C' n C (F ++ P) (by rw [List.length_append, HN.out, HM.out]; exact HNN.out) HNE.out HOK.out HO3.out wr (SPG.below KP okP HS.out BW.out) (HJ.out.below BW.out) (Below.size BW.out) (hQ.mono (Nat.le_succ _)))
          have w1' : wrap64 ((y : Int) + 2) = (y : Int) + 2 := w64s y 2 (by decide) hy2
          clear hQ HQ hyL hyE hyb hy2 hy3 hi1
          go_wp2_with (first | (go_at_call 103; (with_reducible refine (PU.out).mono ?_); rintro e w5 ⟨rfl, ⟨vl5, hJ5⟩, hK5⟩; have J5 := Lib.hid hJ5; have K5 := Lib.hid hK5; have r5 := Lib.hid ((hK5.block w.heap.size (lt_blk RE.out) (by omega)).trans RE.out); clear hJ5 hK5) | (go_at_call 69; (with_reducible refine (IN.out _).mono ?_); rintro e w7 ⟨rfl, h1⟩; have B7 := Lib.hid h1; have r7 := Lib.hid (blk_below r5.out h1); obtain ⟨⟨c0, c1, c2, c3⟩, ⟨f0, f1, f2, f3⟩⟩ := cells4 (blk_below r5.out h1); clear h1))
          exact bodyPost_ret (v := .agg #[.int .i64 3, .int .i64 (i : Int), .string ⟨#[]⟩, .slice none 0 0]) (by simp [results, Tryz.results37, go_sem, c0, c1, c2, c3]) rfl (endT KP hjw (JD.below KP J5.out B7.out) r7.out (((Kp.of BW.out).trans (K5.out.mono (Below.size BW.out) (fun _ h => h))).below_after B7.out (Nat.le_trans (Below.size BW.out) K5.out.size)) _ _ _ _)
end Go.Proofs.YticlacjpgjkhcaaGreatDoor

/- points: PMOVE, PSCALE. -/
namespace Go.Proofs.YticlacjpgjkhcaaGreatDoor
open Go.ChangeShapes Go.WideShapes Go.ChangeAt Go.RowKit Go.Fl

def mvP (a b x y : Int) : Int × Int := (x + a, y + b)
def mlP (a b x y : Int) : Int × Int := (x * a - y * b, x * b + y * a)
set_option maxRecDepth 100000 in
set_option maxHeartbeats 8000000 in
theorem eachPMOVE (bS bM : Nat) (D : List (ByteArray × List (ByteArray × Int × Int))) (now : Int) (NM k : ByteArray) (s t : ByteArray) (hs : s.size ≤ 100000) (ht : t.size ≤ 100000) (a b : Int) (ha : okI a = true) (hb : okI b = true) (hp1 : parseI s.data.toList = some a) (hp2 : parseI t.data.toList = some b) (F : List (ByteArray × Int × Int)) (hne : F ≠ []) (hF : (findD k D).getD [] = F) (ho2 : ∀ p ∈ F, okP2 p) (hok : okP k (mapP (mvP a b) F)) (ho3 : ∀ p ∈ mapP (mvP a b) F, okP2 p) (w : World) (j : Nat) (vA : Value) (hS : SPG KP okP w bS bM D) (hj : JB w j bS now vA (.slice none 0 0)) (hA : SSl w vA [NM, k, s, t]) : Calls Tryz.prog 46 #[.pointer (some ⟨j, 0, none⟩), .func (.func 47) #[] #[]] w fun e w' => ∃ A m c, e = .returned (.agg #[.int .i64 3, .int .i64 (F.length : Nat), .string ⟨#[]⟩, .slice A m c]) ∧ R0 w.heap.size w' (.slice A m c) ∧ (∃ vl, JD KP w' j bS now vA w.heap.size vl (dEff k (some (mapP (mvP a b) F)) D)) ∧ Kp w.heap.size (fun i => i ≠ j) w w' := by
  have hjw := lt_blk hj
  obtain ⟨blk, off, cap, rfl, hAR⟩ := AR.of hj hA (by simp)
  have A1 := Lib.hid (alloc_old (w := w) (o := .cells #[.int .i64 0, .int .i64 0, .string ⟨#[]⟩, .slice none 0 0] 29))
  have hr := Lib.hid (heap_alloc_new w (.cells #[.int .i64 0, .int .i64 0, .string ⟨#[]⟩, .slice none 0 0] 29))
  obtain ⟨n, hn⟩ : ∃ n, F.length = n := ⟨_, rfl⟩
  have hl2 : ([NM, k, s, t]).length = 4 := rfl
  rw [hl2] at hj hA ⊢
  have hz : (w.alloc (.cells #[.int .i64 0, .int .i64 0, .string ⟨#[]⟩, .slice none 0 0] 29)).heap.size = w.heap.size + 1 := by simp
  have HO := pof_any bS bM j D now blk off cap ([NM, k, s, t]) 4 hl2 (by omega) k rfl (.slice none 0 0) F hF (w.alloc (.cells #[.int .i64 0, .int .i64 0, .string ⟨#[]⟩, .slice none 0 0] 29)) (SPG.below KP okP hS A1.out) (hj.below A1.out) (hAR.below A1.out)
  simp only [hz, hn] at HO
  have HO := Lib.hid HO
  have HJ := Lib.hid hj
  have HS := Lib.hid hS
  have HA := Lib.hid hA
  have HAR := Lib.hid hAR
  clear hS hj hA hAR hF hz
  have PP := Lib.hid (fun X (hX : Below w.heap.size w X) => pparse_any 2 j now blk off cap _ 4 hl2 2 rfl s t hs ht a b ha hb hp1 hp2 rfl rfl X (HAR.out.below hX))
  have hn0 : 0 < n := by rw [← hn]; exact List.length_pos_iff.2 hne
  have h31 : n ≤ 31 := by have := hok.2.2.2.1; rw [map_len, hn] at this; exact this
  have HO3 := Lib.hid ho3
  have HOK := Lib.hid hok
  have IN := Lib.hid (fun X => Int75 (n : Int) X)
  rw [hn]
  clear ho3 hok
  have HO2 := Lib.hid ho2
  have HNE := Lib.hid hne
  have HN := Lib.hid hn
  clear ho2 hne hn hs ht hp1 hp2
  go_enter Tryz.func46, Tryz.ntmps46
  go_wp2_with (first | (go_at_call 99; (with_reducible refine (HO.out).mono ?_); rintro e w1 ⟨A, C, rfl, hR, h1⟩; have R1 := Lib.hid hR; have B1 := Lib.hid (A1.out.trans (h1.mono (Nat.le_succ _))); have r1 := Lib.hid ((h1.block w.heap.size (Nat.lt_succ_self _)).trans hr.out); clear h1 hR; refine Hid.out ?_))
  refine Lib.hid ?_
  have AE := Lib.hid (alloc_old (w := w1) (o := .cells #[.string k, .int .i64 5, .string ⟨#[]⟩, .slice none 0 0, .slice none 0 0, .slice none 0 0, .slice A n C, .int .i64 0] 66))
  have re := Lib.hid (heap_alloc_new w1 (.cells #[.string k, .int .i64 5, .string ⟨#[]⟩, .slice none 0 0, .slice none 0 0, .slice none 0 0, .slice A n C, .int .i64 0] 66))
  have R2 := Lib.hid (R1.out.below AE.out)
  have r2 := Lib.hid (blk_below r1.out AE.out)
  have B2 := Lib.hid (B1.out.trans (AE.out.mono (Below.size B1.out)))
  have z1 := lt_blk r1.out
  have z2 : w1.heap.size < (w1.alloc (.cells #[.string k, .int .i64 5, .string ⟨#[]⟩, .slice none 0 0, .slice none 0 0, .slice none 0 0, .slice A n C, .int .i64 0] 66)).heap.size := by simp
  have P2 := Lib.hid (PP.out _ B2.out)
  go_wp2_with (first | (go_at_call 100; (with_reducible refine (P2.out).mono ?_); rintro e w3 ⟨rfl, h3⟩; have B3 := Lib.hid (B2.out.trans (h3.mono (Below.size B2.out))); have R3 := Lib.hid (R2.out.below h3); have r3 := Lib.hid (blk_below r2.out h3); have e3 := Lib.hid (blk_below re.out h3); clear h3; refine Hid.out ?_))
  refine Lib.hid ?_
  obtain ⟨g, C', eA, _⟩ := R3.out.form HNE.out
  rw [HN.out] at eA
  cases eA
  have hg := R3.out.own
  have hgr : g ≠ w.heap.size := by omega
  have hgq : g ≠ w1.heap.size := by
    intro e
    obtain ⟨cs, hc⟩ := row_typ R3.out g rfl
    have := e3.out
    rw [← e, hc] at this
    cases this
  have l3 := lt_blk e3.out
  go_wp2
  go_loopw [21] (fun iv wr => ∃ i : Nat, i ≤ n ∧ iv = .int .i64 i ∧ Hid (RP wr (w.heap.size + 1) (.slice (some ⟨g, 0, none⟩) n C) (mixP (mvP a b) F i) ∧ Kp w3.heap.size (fun b => b ≠ g) w3 wr)) (fun iv _ => n - (intOf iv).toNat)
  case atStart => exact ⟨0, Nat.zero_le _, rfl, Lib.hid ⟨by rw [mix_0]; exact R3.out, Kp.refl _ _ _⟩⟩
  case round =>
    obtain ⟨i, hi, rfl, HQ⟩ := hrel
    have BW := Lib.hid (B3.out.trans (HQ.out.2.below (fun b hb => ⟨Nat.lt_of_lt_of_le hb (Below.size B3.out), by omega⟩)))
    have hl9 : (mixP (mvP a b) F i).length = n := by rw [mix_len, HN.out]
    by_cases hlt : i < n
    · have q0 : (i : Int) < (n : Int) := by omega
      obtain ⟨p, hp⟩ : ∃ p, F[i]? = some p := ⟨_, List.getElem?_eq_getElem (by rw [HN.out]; omega)⟩
      obtain ⟨o1, o2⟩ := HO2.out p (List.mem_of_getElem? hp)
      have hpm := mix_at (mvP a b) F i p hp
      obtain ⟨d0, d1⟩ := HQ.out.1.at hl9 i p hpm
      have AP := Lib.hid (alloc_old (w := wr) (o := .cells #[.string p.1, .complex .f64 (fi p.2.1) (fi p.2.2)] 110))
      obtain ⟨e0, e1⟩ := cells_of (heap_alloc_new wr (.cells #[.string p.1, .complex .f64 (fi p.2.1) (fi p.2.2)] 110))
      have RA := Lib.hid (HQ.out.1.below AP.out)
      obtain ⟨d2, d3⟩ := RA.out.at hl9 i p hpm
      obtain ⟨cs, hcs⟩ := row_typ RA.out g rfl
      have fz := frozen_of_row _ g (i * 2 + 1) cs 110 hcs
      have TN := fun X => Add_any p.2.1 p.2.2 a b o1 o2 ha hb X
      unfold ptI at TN
      obtain ⟨o3, o4⟩ : okI ((mvP a b p.2.1 p.2.2).1) = true ∧ okI ((mvP a b p.2.1 p.2.2).2) = true := HO3.out (p.1, mvP a b p.2.1 p.2.2) (List.mem_map.2 ⟨p, List.mem_of_getElem? hp, rfl⟩)
      obtain ⟨x9, hx9⟩ : ∃ x9, ((mvP a b p.2.1 p.2.2).1) = x9 := ⟨_, rfl⟩
      obtain ⟨y9, hy9⟩ : ∃ y9, ((mvP a b p.2.1 p.2.2).2) = y9 := ⟨_, rfl⟩
      have RS := Lib.hid (RA.out.setAt hl9 i p hpm x9 y9)
      have MS := mix_set (mvP a b) F i p hp
      rw [hx9, hy9] at MS
      have MS := Lib.hid MS
      have KQ := Lib.hid ((HQ.out.2.alloc (HQ.out.2.size) (.cells #[.string p.1, .complex .f64 (fi p.2.1) (fi p.2.2)] 110)).setCell (p := ⟨g, i * 2 + 1, none⟩) (fun h => h.2 rfl) (.complex .f64 (fi x9) (fi y9)))
      have TN := Lib.hid (show ∀ X, Calls Tryz.prog 47 #[.complex .f64 (fi p.2.1) (fi p.2.2), .complex .f64 (fi a) (fi b)] X fun e w' => e = .returned (.tuple #[.complex .f64 (fi x9) (fi y9), .bool true]) ∧ X = w' from fun X => by have h := TN X; rw [show okI (p.2.1 + a) = true from o3, show okI (p.2.2 + b) = true from o4] at h; rw [← hx9, ← hy9]; exact h)
      clear hp hpm hcs hl9 hx9 hy9 o1 o2 o3 o4
      go_wp2_with (first | (go_at_call 47; (with_reducible refine (TN.out _).mono ?_); rintro e w4 ⟨rfl, rfl⟩))
      exact ⟨⟨i + 1, by omega, by go_num, Lib.hid ⟨by rw [← MS.out]; exact RS.out, KQ.out⟩⟩, by simp [intOf]; omega⟩
    · obtain rfl : i = n := by omega
      have q0 : ¬ (i : Int) < (i : Int) := by omega
      have hm := mix_full (mvP a b) F i HN.out
      have hQ := HQ.out.1
      rw [hm] at hQ
      have RE := Lib.hid ((HQ.out.2.block w.heap.size (by omega) (by omega)).trans r3.out)
      obtain ⟨⟨k0, k1, k2, k3, k4, k5, k6, k7⟩, _, _⟩ := cells8 ((HQ.out.2.block w1.heap.size l3 (by omega)).trans e3.out)
      have PU := Lib.hid (pput_any bS bM j D k now _ w.heap.size (some ⟨g, 0, none⟩) (some ⟨g, 0, none⟩) i C i C (mapP (mvP a b) F) (by rw [map_len, HN.out]) (map_ne HNE.out) HOK.out HO3.out wr (SPG.below KP okP HS.out BW.out) (HJ.out.below BW.out) (Below.size BW.out) (hQ.mono (Nat.le_succ _)))
      clear hQ hm hl9 HQ
      go_wp2_with (first | (go_at_call 103; (with_reducible refine (PU.out).mono ?_); rintro e w5 ⟨rfl, ⟨vl5, hJ5⟩, hK5⟩; have J5 := Lib.hid hJ5; have K5 := Lib.hid hK5; have r5 := Lib.hid ((hK5.block w.heap.size (lt_blk RE.out) (by omega)).trans RE.out); clear hJ5 hK5) | (go_at_call 69; (with_reducible refine (IN.out _).mono ?_); rintro e w7 ⟨rfl, h1⟩; have B7 := Lib.hid h1; have r7 := Lib.hid (blk_below r5.out h1); obtain ⟨⟨c0, c1, c2, c3⟩, ⟨f0, f1, f2, f3⟩⟩ := cells4 (blk_below r5.out h1); clear h1))
      exact bodyPost_ret (v := .agg #[.int .i64 3, .int .i64 (i : Int), .string ⟨#[]⟩, .slice none 0 0]) (by simp [results, Tryz.results46, go_sem, c0, c1, c2, c3]) rfl (endT KP hjw (JD.below KP J5.out B7.out) r7.out (((Kp.of BW.out).trans (K5.out.mono (Below.size BW.out) (fun _ h => h))).below_after B7.out (Nat.le_trans (Below.size BW.out) K5.out.size)) _ _ _ _)
set_option maxRecDepth 100000 in
set_option maxHeartbeats 8000000 in
theorem cPMOVE (bS bM : Nat) (D : List (ByteArray × List (ByteArray × Int × Int))) (now : Int) (NM k : ByteArray) (s t : ByteArray) (hs : s.size ≤ 100000) (ht : t.size ≤ 100000) (a b : Int) (ha : okI a = true) (hb : okI b = true) (hp1 : parseI s.data.toList = some a) (hp2 : parseI t.data.toList = some b) (F : List (ByteArray × Int × Int)) (hne : F ≠ []) (hF : (findD k D).getD [] = F) (ho2 : ∀ p ∈ F, okP2 p) (hok : okP k (mapP (mvP a b) F)) (ho3 : ∀ p ∈ mapP (mvP a b) F, okP2 p) (w : World) : CmdD KP okP 45 bS bM D now [NM, k, s, t] 3 (F.length : Nat) ⟨#[]⟩ R0 (dEff k (some (mapP (mvP a b) F)) D) w := by
  intro j vA hS hj hA
  show Calls Tryz.prog 45 #[.pointer (some ⟨j, 0, none⟩)] w _
  have hjw := lt_blk hj
  have A1 := Lib.hid (alloc_old (w := w) (o := .cells #[.int .i64 0, .int .i64 0, .string ⟨#[]⟩, .slice none 0 0] 29))
  have hr := Lib.hid (heap_alloc_new w (.cells #[.int .i64 0, .int .i64 0, .string ⟨#[]⟩, .slice none 0 0] 29))
  have hz : (w.alloc (.cells #[.int .i64 0, .int .i64 0, .string ⟨#[]⟩, .slice none 0 0] 29)).heap.size = w.heap.size + 1 := by simp
  have EA := eachPMOVE bS bM D now NM k s t hs ht a b ha hb hp1 hp2 F hne hF ho2 hok ho3 (w.alloc (.cells #[.int .i64 0, .int .i64 0, .string ⟨#[]⟩, .slice none 0 0] 29)) j vA (SPG.below KP okP hS A1.out) (hj.below A1.out) (hA.below A1.out)
  rw [hz] at EA
  have EA := Lib.hid EA
  obtain ⟨n, hn⟩ : ∃ n, F.length = n := ⟨_, rfl⟩
  simp only [hn] at EA ⊢
  clear hS hj hA hok ho3 ho2 hF hs ht hp1 hp2 hz
  go_enter Tryz.func45, Tryz.ntmps45
  go_wp2_with (first | (go_at_call 46; (with_reducible refine (EA.out).mono ?_); rintro e w5 ⟨A, m, c, rfl, hR, ⟨vl5, hJ5⟩, hK5⟩; cases hR; have J5 := Lib.hid hJ5; have K5 := Lib.hid hK5; have r5 := Lib.hid ((hK5.block w.heap.size (Nat.lt_succ_self _) (by omega)).trans hr.out); obtain ⟨⟨c0, c1, c2, c3⟩, ⟨f0, f1, f2, f3⟩⟩ := cells4 r5.out; clear hJ5 hK5))
  exact bodyPost_ret (v := .agg #[.int .i64 3, .int .i64 (n : Int), .string ⟨#[]⟩, .slice none 0 0]) (by simp [results, Tryz.results45, go_sem, c0, c1, c2, c3]) rfl (endT KP hjw (J5.out.mono KP (Nat.le_succ _)) r5.out ((Kp.of A1.out).trans (K5.out.mono (Nat.le_succ _) (fun _ h => h))) _ _ _ _)
set_option maxRecDepth 100000 in
set_option maxHeartbeats 8000000 in
theorem eachPSCALE (bS bM : Nat) (D : List (ByteArray × List (ByteArray × Int × Int))) (now : Int) (NM k : ByteArray) (s t : ByteArray) (hs : s.size ≤ 100000) (ht : t.size ≤ 100000) (a b : Int) (ha : okI a = true) (hb : okI b = true) (hp1 : parseI s.data.toList = some a) (hp2 : parseI t.data.toList = some b) (F : List (ByteArray × Int × Int)) (hne : F ≠ []) (hF : (findD k D).getD [] = F) (ho2 : ∀ p ∈ F, okP2 p) (hok : okP k (mapP (mlP a b) F)) (ho3 : ∀ p ∈ mapP (mlP a b) F, okP2 p) (w : World) (j : Nat) (vA : Value) (hS : SPG KP okP w bS bM D) (hj : JB w j bS now vA (.slice none 0 0)) (hA : SSl w vA [NM, k, s, t]) : Calls Tryz.prog 46 #[.pointer (some ⟨j, 0, none⟩), .func (.func 49) #[] #[]] w fun e w' => ∃ A m c, e = .returned (.agg #[.int .i64 3, .int .i64 (F.length : Nat), .string ⟨#[]⟩, .slice A m c]) ∧ R0 w.heap.size w' (.slice A m c) ∧ (∃ vl, JD KP w' j bS now vA w.heap.size vl (dEff k (some (mapP (mlP a b) F)) D)) ∧ Kp w.heap.size (fun i => i ≠ j) w w' := by
  have hjw := lt_blk hj
  obtain ⟨blk, off, cap, rfl, hAR⟩ := AR.of hj hA (by simp)
  have A1 := Lib.hid (alloc_old (w := w) (o := .cells #[.int .i64 0, .int .i64 0, .string ⟨#[]⟩, .slice none 0 0] 29))
  have hr := Lib.hid (heap_alloc_new w (.cells #[.int .i64 0, .int .i64 0, .string ⟨#[]⟩, .slice none 0 0] 29))
  obtain ⟨n, hn⟩ : ∃ n, F.length = n := ⟨_, rfl⟩
  have hl2 : ([NM, k, s, t]).length = 4 := rfl
  rw [hl2] at hj hA ⊢
  have hz : (w.alloc (.cells #[.int .i64 0, .int .i64 0, .string ⟨#[]⟩, .slice none 0 0] 29)).heap.size = w.heap.size + 1 := by simp
  have HO := pof_any bS bM j D now blk off cap ([NM, k, s, t]) 4 hl2 (by omega) k rfl (.slice none 0 0) F hF (w.alloc (.cells #[.int .i64 0, .int .i64 0, .string ⟨#[]⟩, .slice none 0 0] 29)) (SPG.below KP okP hS A1.out) (hj.below A1.out) (hAR.below A1.out)
  simp only [hz, hn] at HO
  have HO := Lib.hid HO
  have HJ := Lib.hid hj
  have HS := Lib.hid hS
  have HA := Lib.hid hA
  have HAR := Lib.hid hAR
  clear hS hj hA hAR hF hz
  have PP := Lib.hid (fun X (hX : Below w.heap.size w X) => pparse_any 2 j now blk off cap _ 4 hl2 2 rfl s t hs ht a b ha hb hp1 hp2 rfl rfl X (HAR.out.below hX))
  have hn0 : 0 < n := by rw [← hn]; exact List.length_pos_iff.2 hne
  have h31 : n ≤ 31 := by have := hok.2.2.2.1; rw [map_len, hn] at this; exact this
  have HO3 := Lib.hid ho3
  have HOK := Lib.hid hok
  have IN := Lib.hid (fun X => Int75 (n : Int) X)
  rw [hn]
  clear ho3 hok
  have HO2 := Lib.hid ho2
  have HNE := Lib.hid hne
  have HN := Lib.hid hn
  clear ho2 hne hn hs ht hp1 hp2
  go_enter Tryz.func46, Tryz.ntmps46
  go_wp2_with (first | (go_at_call 99; (with_reducible refine (HO.out).mono ?_); rintro e w1 ⟨A, C, rfl, hR, h1⟩; have R1 := Lib.hid hR; have B1 := Lib.hid (A1.out.trans (h1.mono (Nat.le_succ _))); have r1 := Lib.hid ((h1.block w.heap.size (Nat.lt_succ_self _)).trans hr.out); clear h1 hR; refine Hid.out ?_))
  refine Lib.hid ?_
  have AE := Lib.hid (alloc_old (w := w1) (o := .cells #[.string k, .int .i64 5, .string ⟨#[]⟩, .slice none 0 0, .slice none 0 0, .slice none 0 0, .slice A n C, .int .i64 0] 66))
  have re := Lib.hid (heap_alloc_new w1 (.cells #[.string k, .int .i64 5, .string ⟨#[]⟩, .slice none 0 0, .slice none 0 0, .slice none 0 0, .slice A n C, .int .i64 0] 66))
  have R2 := Lib.hid (R1.out.below AE.out)
  have r2 := Lib.hid (blk_below r1.out AE.out)
  have B2 := Lib.hid (B1.out.trans (AE.out.mono (Below.size B1.out)))
  have z1 := lt_blk r1.out
  have z2 : w1.heap.size < (w1.alloc (.cells #[.string k, .int .i64 5, .string ⟨#[]⟩, .slice none 0 0, .slice none 0 0, .slice none 0 0, .slice A n C, .int .i64 0] 66)).heap.size := by simp
  have P2 := Lib.hid (PP.out _ B2.out)
  go_wp2_with (first | (go_at_call 100; (with_reducible refine (P2.out).mono ?_); rintro e w3 ⟨rfl, h3⟩; have B3 := Lib.hid (B2.out.trans (h3.mono (Below.size B2.out))); have R3 := Lib.hid (R2.out.below h3); have r3 := Lib.hid (blk_below r2.out h3); have e3 := Lib.hid (blk_below re.out h3); clear h3; refine Hid.out ?_))
  refine Lib.hid ?_
  obtain ⟨g, C', eA, _⟩ := R3.out.form HNE.out
  rw [HN.out] at eA
  cases eA
  have hg := R3.out.own
  have hgr : g ≠ w.heap.size := by omega
  have hgq : g ≠ w1.heap.size := by
    intro e
    obtain ⟨cs, hc⟩ := row_typ R3.out g rfl
    have := e3.out
    rw [← e, hc] at this
    cases this
  have l3 := lt_blk e3.out
  go_wp2
  go_loopw [21] (fun iv wr => ∃ i : Nat, i ≤ n ∧ iv = .int .i64 i ∧ Hid (RP wr (w.heap.size + 1) (.slice (some ⟨g, 0, none⟩) n C) (mixP (mlP a b) F i) ∧ Kp w3.heap.size (fun b => b ≠ g) w3 wr)) (fun iv _ => n - (intOf iv).toNat)
  case atStart => exact ⟨0, Nat.zero_le _, rfl, Lib.hid ⟨by rw [mix_0]; exact R3.out, Kp.refl _ _ _⟩⟩
  case round =>
    obtain ⟨i, hi, rfl, HQ⟩ := hrel
    have BW := Lib.hid (B3.out.trans (HQ.out.2.below (fun b hb => ⟨Nat.lt_of_lt_of_le hb (Below.size B3.out), by omega⟩)))
    have hl9 : (mixP (mlP a b) F i).length = n := by rw [mix_len, HN.out]
    by_cases hlt : i < n
    · have q0 : (i : Int) < (n : Int) := by omega
      obtain ⟨p, hp⟩ : ∃ p, F[i]? = some p := ⟨_, List.getElem?_eq_getElem (by rw [HN.out]; omega)⟩
      obtain ⟨o1, o2⟩ := HO2.out p (List.mem_of_getElem? hp)
      have hpm := mix_at (mlP a b) F i p hp
      obtain ⟨d0, d1⟩ := HQ.out.1.at hl9 i p hpm
      have AP := Lib.hid (alloc_old (w := wr) (o := .cells #[.string p.1, .complex .f64 (fi p.2.1) (fi p.2.2)] 110))
      obtain ⟨e0, e1⟩ := cells_of (heap_alloc_new wr (.cells #[.string p.1, .complex .f64 (fi p.2.1) (fi p.2.2)] 110))
      have RA := Lib.hid (HQ.out.1.below AP.out)
      obtain ⟨d2, d3⟩ := RA.out.at hl9 i p hpm
      obtain ⟨cs, hcs⟩ := row_typ RA.out g rfl
      have fz := frozen_of_row _ g (i * 2 + 1) cs 110 hcs
      have TN := fun X => Mul_any p.2.1 p.2.2 a b o1 o2 ha hb X
      unfold ptI at TN
      obtain ⟨o3, o4⟩ : okI ((mlP a b p.2.1 p.2.2).1) = true ∧ okI ((mlP a b p.2.1 p.2.2).2) = true := HO3.out (p.1, mlP a b p.2.1 p.2.2) (List.mem_map.2 ⟨p, List.mem_of_getElem? hp, rfl⟩)
      obtain ⟨x9, hx9⟩ : ∃ x9, ((mlP a b p.2.1 p.2.2).1) = x9 := ⟨_, rfl⟩
      obtain ⟨y9, hy9⟩ : ∃ y9, ((mlP a b p.2.1 p.2.2).2) = y9 := ⟨_, rfl⟩
      have RS := Lib.hid (RA.out.setAt hl9 i p hpm x9 y9)
      have MS := mix_set (mlP a b) F i p hp
      rw [hx9, hy9] at MS
      have MS := Lib.hid MS
      have KQ := Lib.hid ((HQ.out.2.alloc (HQ.out.2.size) (.cells #[.string p.1, .complex .f64 (fi p.2.1) (fi p.2.2)] 110)).setCell (p := ⟨g, i * 2 + 1, none⟩) (fun h => h.2 rfl) (.complex .f64 (fi x9) (fi y9)))
      have TN := Lib.hid (show ∀ X, Calls Tryz.prog 49 #[.complex .f64 (fi p.2.1) (fi p.2.2), .complex .f64 (fi a) (fi b)] X fun e w' => e = .returned (.tuple #[.complex .f64 (fi x9) (fi y9), .bool true]) ∧ X = w' from fun X => by have h := TN X; rw [show okI (p.2.1 * a - p.2.2 * b) = true from o3, show okI (p.2.1 * b + p.2.2 * a) = true from o4] at h; rw [← hx9, ← hy9]; exact h)
      clear hp hpm hcs hl9 hx9 hy9 o1 o2 o3 o4
      go_wp2_with (first | (go_at_call 49; (with_reducible refine (TN.out _).mono ?_); rintro e w4 ⟨rfl, rfl⟩))
      exact ⟨⟨i + 1, by omega, by go_num, Lib.hid ⟨by rw [← MS.out]; exact RS.out, KQ.out⟩⟩, by simp [intOf]; omega⟩
    · obtain rfl : i = n := by omega
      have q0 : ¬ (i : Int) < (i : Int) := by omega
      have hm := mix_full (mlP a b) F i HN.out
      have hQ := HQ.out.1
      rw [hm] at hQ
      have RE := Lib.hid ((HQ.out.2.block w.heap.size (by omega) (by omega)).trans r3.out)
      obtain ⟨⟨k0, k1, k2, k3, k4, k5, k6, k7⟩, _, _⟩ := cells8 ((HQ.out.2.block w1.heap.size l3 (by omega)).trans e3.out)
      have PU := Lib.hid (pput_any bS bM j D k now _ w.heap.size (some ⟨g, 0, none⟩) (some ⟨g, 0, none⟩) i C i C (mapP (mlP a b) F) (by rw [map_len, HN.out]) (map_ne HNE.out) HOK.out HO3.out wr (SPG.below KP okP HS.out BW.out) (HJ.out.below BW.out) (Below.size BW.out) (hQ.mono (Nat.le_succ _)))
      clear hQ hm hl9 HQ
      go_wp2_with (first | (go_at_call 103; (with_reducible refine (PU.out).mono ?_); rintro e w5 ⟨rfl, ⟨vl5, hJ5⟩, hK5⟩; have J5 := Lib.hid hJ5; have K5 := Lib.hid hK5; have r5 := Lib.hid ((hK5.block w.heap.size (lt_blk RE.out) (by omega)).trans RE.out); clear hJ5 hK5) | (go_at_call 69; (with_reducible refine (IN.out _).mono ?_); rintro e w7 ⟨rfl, h1⟩; have B7 := Lib.hid h1; have r7 := Lib.hid (blk_below r5.out h1); obtain ⟨⟨c0, c1, c2, c3⟩, ⟨f0, f1, f2, f3⟩⟩ := cells4 (blk_below r5.out h1); clear h1))
      exact bodyPost_ret (v := .agg #[.int .i64 3, .int .i64 (i : Int), .string ⟨#[]⟩, .slice none 0 0]) (by simp [results, Tryz.results46, go_sem, c0, c1, c2, c3]) rfl (endT KP hjw (JD.below KP J5.out B7.out) r7.out (((Kp.of BW.out).trans (K5.out.mono (Below.size BW.out) (fun _ h => h))).below_after B7.out (Nat.le_trans (Below.size BW.out) K5.out.size)) _ _ _ _)
set_option maxRecDepth 100000 in
set_option maxHeartbeats 8000000 in
theorem cPSCALE (bS bM : Nat) (D : List (ByteArray × List (ByteArray × Int × Int))) (now : Int) (NM k : ByteArray) (s t : ByteArray) (hs : s.size ≤ 100000) (ht : t.size ≤ 100000) (a b : Int) (ha : okI a = true) (hb : okI b = true) (hp1 : parseI s.data.toList = some a) (hp2 : parseI t.data.toList = some b) (F : List (ByteArray × Int × Int)) (hne : F ≠ []) (hF : (findD k D).getD [] = F) (ho2 : ∀ p ∈ F, okP2 p) (hok : okP k (mapP (mlP a b) F)) (ho3 : ∀ p ∈ mapP (mlP a b) F, okP2 p) (w : World) : CmdD KP okP 48 bS bM D now [NM, k, s, t] 3 (F.length : Nat) ⟨#[]⟩ R0 (dEff k (some (mapP (mlP a b) F)) D) w := by
  intro j vA hS hj hA
  show Calls Tryz.prog 48 #[.pointer (some ⟨j, 0, none⟩)] w _
  have hjw := lt_blk hj
  have A1 := Lib.hid (alloc_old (w := w) (o := .cells #[.int .i64 0, .int .i64 0, .string ⟨#[]⟩, .slice none 0 0] 29))
  have hr := Lib.hid (heap_alloc_new w (.cells #[.int .i64 0, .int .i64 0, .string ⟨#[]⟩, .slice none 0 0] 29))
  have hz : (w.alloc (.cells #[.int .i64 0, .int .i64 0, .string ⟨#[]⟩, .slice none 0 0] 29)).heap.size = w.heap.size + 1 := by simp
  have EA := eachPSCALE bS bM D now NM k s t hs ht a b ha hb hp1 hp2 F hne hF ho2 hok ho3 (w.alloc (.cells #[.int .i64 0, .int .i64 0, .string ⟨#[]⟩, .slice none 0 0] 29)) j vA (SPG.below KP okP hS A1.out) (hj.below A1.out) (hA.below A1.out)
  rw [hz] at EA
  have EA := Lib.hid EA
  obtain ⟨n, hn⟩ : ∃ n, F.length = n := ⟨_, rfl⟩
  simp only [hn] at EA ⊢
  clear hS hj hA hok ho3 ho2 hF hs ht hp1 hp2 hz
  go_enter Tryz.func48, Tryz.ntmps48
  go_wp2_with (first | (go_at_call 46; (with_reducible refine (EA.out).mono ?_); rintro e w5 ⟨A, m, c, rfl, hR, ⟨vl5, hJ5⟩, hK5⟩; cases hR; have J5 := Lib.hid hJ5; have K5 := Lib.hid hK5; have r5 := Lib.hid ((hK5.block w.heap.size (Nat.lt_succ_self _) (by omega)).trans hr.out); obtain ⟨⟨c0, c1, c2, c3⟩, ⟨f0, f1, f2, f3⟩⟩ := cells4 r5.out; clear hJ5 hK5))
  exact bodyPost_ret (v := .agg #[.int .i64 3, .int .i64 (n : Int), .string ⟨#[]⟩, .slice none 0 0]) (by simp [results, Tryz.results48, go_sem, c0, c1, c2, c3]) rfl (endT KP hjw (J5.out.mono KP (Nat.le_succ _)) r5.out ((Kp.of A1.out).trans (K5.out.mono (Nat.le_succ _) (fun _ h => h))) _ _ _ _)
end Go.Proofs.YticlacjpgjkhcaaGreatDoor
