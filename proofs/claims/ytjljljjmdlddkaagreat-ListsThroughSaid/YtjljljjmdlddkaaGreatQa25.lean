/- Texts joined: St27, L12, L13 -/
import Derived.Test.YtjljljjmdlddkaaGreatQa4
import Derived.Test.YtjljljjmdlddkaaGreatQa24

/- command.Upper at any text. -/
namespace Go.Proofs.YtjljljjmdlddkaaGreat
open Go.ChangeShapes Go.WideShapes Go.ChangeAt Go.RowKit

/-- k bytes are turned. -/
def mixF (s : ByteArray) (g : Nat → UInt8) (k : Nat) : Nat → UInt8 := fun j => if j < k then g j else byteAt s j
theorem mixF_store {w : World} {B : Nat} {s : ByteArray} {g : Nat → UInt8} {k : Nat} (h : OB w B s.size (mixF s g k)) (hk : k < s.size) (c : Value) (hc : c = .int .u8 ((g k).toNat : Int)) : OB (w.setCell ⟨B, k, none⟩ c) B s.size (mixF s g (k + 1)) := by
  subst hc
  refine (h.store k hk (g k)).congr fun j _ => ?_
  unfold mixF
  by_cases e : j = k
  · subst e; rw [if_pos rfl, if_pos (by omega)]
  · rw [if_neg e]
    by_cases e2 : j < k
    · rw [if_pos e2, if_pos (by omega)]
    · rw [if_neg e2, if_neg (by omega)]
theorem mixF_same {w : World} {B : Nat} {s : ByteArray} {g : Nat → UInt8} {k : Nat} (h : OB w B s.size (mixF s g k)) (hg : g k = byteAt s k) : OB w B s.size (mixF s g (k + 1)) := by
  refine h.congr fun j _ => ?_
  unfold mixF
  by_cases e : j = k
  · subst e; rw [if_neg (by omega), if_pos (by omega), hg]
  · by_cases e2 : j < k
    · rw [if_pos e2, if_pos (by omega)]
    · rw [if_neg e2, if_neg (by omega)]
theorem mixF_all {w : World} {B : Nat} {s : ByteArray} {g : Nat → UInt8} (h : OB w B s.size (mixF s g s.size)) : OB w B s.size g := h.congr fun j hj => by unfold mixF; rw [if_pos hj]
def upB (c : UInt8) : UInt8 := if 97 ≤ c.toNat ∧ c.toNat ≤ 122 then UInt8.ofNat (c.toNat - 32) else c
def upAt (s : ByteArray) (j : Nat) : UInt8 := upB (byteAt s j)
/-- A text with great letters. -/
def upT (s : ByteArray) : ByteArray := ⟨((List.range s.size).map (upAt s)).toArray⟩
set_option maxHeartbeats 2000000 in
theorem UpperG (s : ByteArray) (hs : s.size ≤ 100) (w : World) : Calls Tryz.prog 44 #[.string s] w fun e w' => e = .returned (.string (upT s)) ∧ Below w.heap.size w w' := by
  have hcv := conv_sb
  have H0 := Lib.hid (OB.new w s)
  have HB := Lib.hid (Lib.bytesWorld_below w 5 s)
  have hc1 := grownCap_ge w s.size 0 5
  have hc2 := grownCap_le_maxLen w s.size 0 5 (by unfold maxLen; omega)
  unfold maxLen at hc2
  go_enter Tryz.func44, Tryz.ntmps44
  go_wp2_with fail
  generalize grownCap w s.size 0 5 = C at hc1 hc2 ⊢
  generalize Lib.bytesWorld w 5 s = W1 at H0 HB ⊢
  go_loopw [10] (fun i wr => ∃ k : Nat, k ≤ s.size ∧ i = .int .i64 k ∧ Hid (OB wr w.heap.size s.size (mixF s (upAt s) k) ∧ Below w.heap.size w wr)) (fun i _ => s.size - (intOf i).toNat)
  case atStart => exact ⟨0, Nat.zero_le _, rfl, Lib.hid ⟨H0.out.congr fun j _ => by unfold mixF; rw [if_neg (by omega)], HB.out⟩⟩
  case round =>
    obtain ⟨k, hk, rfl, HR⟩ := hrel
    by_cases hlt : k < s.size
    · obtain ⟨d0, d1⟩ := HR.out.1.2 k hlt
      have e0 : mixF s (upAt s) k k = byteAt s k := by unfold mixF; rw [if_neg (by omega)]
      rw [e0] at d0
      clear e0
      have i0 : (k : Int) < (s.size : Int) := by omega
      have hb := (byteAt s k).toNat_lt
      by_cases h1 : 97 ≤ (byteAt s k).toNat
      · by_cases h2 : (byteAt s k).toNat ≤ 122
        · have hu : ((upAt s k).toNat : Int) = ((byteAt s k).toNat : Int) - 32 := by
            unfold upAt upB
            rw [if_pos ⟨h1, h2⟩, UInt8.toNat_ofNat']; omega
          have HU := Lib.hid hu
          have i1 : (97 : Int) ≤ ((byteAt s k).toNat : Int) := by omega
          have i2 : ((byteAt s k).toNat : Int) ≤ 122 := by omega
          have q1 : IntKind.u8.wrap (((byteAt s k).toNat : Int) - 32) = ((byteAt s k).toNat : Int) - 32 := IntWalk.u8_in _ (by omega)
          clear hu
          generalize ((byteAt s k).toNat : Int) = c at d0 i1 i2 q1 HU h1 h2
          go_wp2
          exact ⟨⟨k + 1, by omega, by go_num, Lib.hid ⟨mixF_store HR.out.1 hlt _ (by rw [HU.out]), HR.out.2.setCell (Nat.le_refl _) _⟩⟩, by simp [intOf]; omega⟩
        · have hu : upAt s k = byteAt s k := by unfold upAt upB; rw [if_neg (by omega)]
          have HU := Lib.hid hu
          have i1 : (97 : Int) ≤ ((byteAt s k).toNat : Int) := by omega
          have i2 : ¬ ((byteAt s k).toNat : Int) ≤ 122 := by omega
          clear hu
          generalize ((byteAt s k).toNat : Int) = c at d0 i1 i2 h1 h2
          go_wp2
          exact ⟨⟨k + 1, by omega, by go_num, Lib.hid ⟨mixF_same HR.out.1 HU.out, HR.out.2⟩⟩, by simp [intOf]; omega⟩
      · have hu : upAt s k = byteAt s k := by unfold upAt upB; rw [if_neg (by omega)]
        have HU := Lib.hid hu
        have i1 : ¬ (97 : Int) ≤ ((byteAt s k).toNat : Int) := by omega
        clear hu
        generalize ((byteAt s k).toNat : Int) = c at d0 i1 h1
        go_wp2
        exact ⟨⟨k + 1, by omega, by go_num, Lib.hid ⟨mixF_same HR.out.1 HU.out, HR.out.2⟩⟩, by simp [intOf]; omega⟩
    · have hkl : k = s.size := by omega
      subst hkl
      have hcb := (mixF_all HR.out.1).back C
      have i0 : ¬ (s.size : Int) < (s.size : Int) := by omega
      go_wp2
      go_ret
      exact ⟨by simp [upT], HR.out.2⟩
end Go.Proofs.YtjljljjmdlddkaaGreat

/- Commands of lists: LINSERT behind a text. -/
namespace Go.Proofs.YtjljljjmdlddkaaGreat
open Go.ChangeShapes Go.WideShapes Go.ChangeAt Go.RowKit

theorem okL_ins {k : ByteArray} {ys : List ByteArray} (i : Nat) (s : ByteArray) (h : okL k ys) (hi : i ≤ ys.length) (hn : ys.length + 1 ≤ 31) (hs : s.size ≤ 4096) : okL k (insT i s ys) := by
  obtain ⟨h1, h2, _, h4, h5⟩ := h
  refine ⟨h1, h2, fun e => ?_, by rw [insT_len i s ys hi]; exact hn, fun t ht => ?_⟩
  · have := insT_len i s ys hi
    rw [e] at this
    simp at this
  · unfold insT at ht
    rcases List.mem_append.1 ht with h | h
    · exact h5 t (List.mem_of_mem_take h)
    · rcases List.mem_cons.1 h with rfl | h
      · exact hs
      · exact h5 t (List.mem_of_mem_drop h)
set_option maxRecDepth 100000 in
set_option maxHeartbeats 8000000 in
/-- LINSERT behind the first text that is the same. -/
theorem cLINSERT (bS bM : Nat) (D : List (ByteArray × List ByteArray)) (now : Int) (NM k wh pv s : ByteArray) (hup : ∀ X, Calls Tryz.prog 44 #[.string wh] X fun e w' => e = .returned (.string ⟨#[65, 70, 84, 69, 82]⟩) ∧ Below X.heap.size X w') (ys : List ByteArray) (hf : findD k D = some ys) (m : Nat) (hm : ys[m]? = some pv) (hfirst : ∀ q t, q < m → ys[q]? = some t → t ≠ pv) (hn30 : ys.length + 1 ≤ 31) (hs : s.size ≤ 4096) (w : World) : CmdD 27 #[] bS bM D now [NM, k, wh, pv, s] 3 (ys.length + 1 : Nat) ⟨#[]⟩ R0 (dEff k (some (insT (m + 1) s ys)) D) w := by
  intro j vA hS hj hA
  show Calls Tryz.prog 27 #[.pointer (some ⟨j, 0, none⟩)] w _
  have hok := hS.okOf hf
  have hml : m < ys.length := (List.getElem?_eq_some_iff.1 hm).1
  have hok2 := okL_ins (m + 1) s hok (by omega) hn30 hs
  have hne := hok.2.2.1
  obtain ⟨blk, off, cap, rfl, hAR⟩ := AR.of hj hA (by simp)
  have HJ := Lib.hid hj
  have hjw := lt_blk hj
  have A1 := Lib.hid (alloc_old (w := w) (o := .cells #[.int .i64 0, .int .i64 0, .string ⟨#[]⟩, .slice none 0 0] 28))
  have hr := Lib.hid (heap_alloc_new w (.cells #[.int .i64 0, .int .i64 0, .string ⟨#[]⟩, .slice none 0 0] 28))
  have RW := fun Y (hY : Below w.heap.size w Y) => RowD bS bM j D k now _ _ Y (SPG.below KL okL hS hY) (hj.below hY)
  simp only [hf, Option.getD_some, Option.isSome_some] at RW
  have RW := Lib.hid RW
  have hl2 : ([NM, k, wh, pv, s] : List ByteArray).length = 5 := rfl
  rw [hl2] at HJ ⊢
  have CJ := Lib.hid (fun Y hY => (hAR.job Y hY).1)
  rw [hl2] at CJ
  have c1 := CJ.out _ A1.out
  have c2 := hAR.arg _ A1.out 2 wh rfl
  have CA1 := Lib.hid (fun Y hY => hAR.arg Y hY 1 k rfl)
  have CA3 := Lib.hid (fun Y hY => hAR.arg Y hY 3 pv rfl)
  have CA4 := Lib.hid (fun Y hY => hAR.arg Y hY 4 s rfl)
  have AL := fun c p l w h => RAll1 c p l ys hne (by omega) w h
  have IN := fun c p l w h => RIns c p l ys (by omega) (m + 1) (by omega) s w h
  simp only [show ((m + 1 : Nat) : Int) = (m : Int) + 1 from by omega] at IN
  obtain ⟨zs, hzs⟩ : ∃ zs, insT (m + 1) s ys = zs := ⟨_, rfl⟩
  have hzl : zs.length = ys.length + 1 := by rw [← hzs]; exact insT_len _ _ _ (by omega)
  simp only [hzs] at IN hok2 ⊢
  obtain ⟨n, hnn⟩ : ∃ n : Nat, ys.length = n := ⟨_, rfl⟩
  rw [hnn] at hzl hml hn30
  simp only [hnn] at AL ⊢
  simp only [show ((n + 1 : Nat) : Int) = (n : Int) + 1 from by omega]
  have AL := Lib.hid AL
  have IN := Lib.hid IN
  have HS := Lib.hid hS
  have HO := Lib.hid hok2
  have HM := Lib.hid hm
  have HFI := Lib.hid hfirst
  have HZ := Lib.hid hzl
  have UP := Lib.hid hup
  have HNN := Lib.hid hnn
  have TT := Lib.hid (fun (X : World) (cr p : Nat) (l : Value) (A3 A4 A5 A6 : Option Addr) (an3 ac3 an4 ac4 an5 ac5 an6 ac6 : Nat) (hX : Below w.heap.size w X) (hR : RowL cr X p l zs) => TurnL bS bM j D [] k zs now (.slice (some ⟨blk, off, none⟩) 5 cap) (.slice none 0 0) w.heap.size cr p l 2 ⟨#[]⟩ A3 A4 A5 A6 an3 ac3 an4 ac4 an5 ac5 an6 ac6 (fun _ => HO.out) (by have := HZ.out; omega) X (SPG.below KL okL HS.out hX) (JD.below KL (JD.nil KL w.heap.size HJ.out) hX) (Below.size hX) (by simp) hR)
  simp only [show xoL zs = some zs from if_neg hok2.2.2.1, List.nil_append] at TT
  clear hS hj hA hAR hok hok2 hzs hm hs hnn hf hne hup hfirst hzl
  go_enter Tryz.func27, Tryz.ntmps27
  go_wp2_with (first | (go_at_call 44; (with_reducible refine (UP.out _).mono ?_); rintro e w0 ⟨rfl, h1⟩; have A1 := Lib.hid (A1.out.trans (h1.mono (Below.size A1.out))); have hr := Lib.hid (blk_below hr.out h1); have c1 := CJ.out _ A1.out; have c2 := CA1.out _ A1.out; clear h1) | (go_at_call 35; (with_reducible refine (RW.out _ A1.out).mono ?_); rintro e w1 ⟨A3, A4, A5, A6, an3, ac3, an4, ac4, an5, ac5, an6, ac6, p, l, rfl, hR1, h1⟩; have B1 := Lib.hid ((A1.out.trans (h1.mono (Below.size A1.out))).trans ((alloc_old (w := w1) (o := .cells #[.string k, .int .i64 2, .string ⟨#[]⟩, .slice A3 an3 ac3, .slice A4 an4 ac4, .slice A5 an5 ac5, .slice A6 an6 ac6, .int .i64 0] 45)).mono (by have := Below.size A1.out; have := Below.size h1; omega))); have R1 := Lib.hid (hR1.below (alloc_old (w := w1) (o := .cells #[.string k, .int .i64 2, .string ⟨#[]⟩, .slice A3 an3 ac3, .slice A4 an4 ac4, .slice A5 an5 ac5, .slice A6 an6 ac6, .int .i64 0] 45))); have r1 := Lib.hid (blk_below (blk_below hr.out h1) (alloc_old (w := w1) (o := .cells #[.string k, .int .i64 2, .string ⟨#[]⟩, .slice A3 an3 ac3, .slice A4 an4 ac4, .slice A5 an5 ac5, .slice A6 an6 ac6, .int .i64 0] 45))); have z1 := Lib.hid (heap_alloc_new w1 (.cells #[.string k, .int .i64 2, .string ⟨#[]⟩, .slice A3 an3 ac3, .slice A4 an4 ac4, .slice A5 an5 ac5, .slice A6 an6 ac6, .int .i64 0] 45)); have hw1 := Lib.hid (lt_blk (blk_below hr.out h1)); clear h1 hR1; refine Hid.out ?_))
  refine Lib.hid ?_
  have AL1 := Lib.hid (AL.out _ p l _ R1.out)
  go_wp2_with (first | (go_at_call 56; (with_reducible refine (AL1.out).mono ?_); rintro e w3 ⟨g3, C3, rfl, hT3, hg3, h1⟩; have T3 := Lib.hid hT3; have R3 := Lib.hid (R1.out.below h1); have B3 := Lib.hid (B1.out.trans (h1.mono (Below.size B1.out))); have r3 := Lib.hid (blk_below r1.out h1); have z3 := Lib.hid (blk_below z1.out h1); clear h1 hT3 hg3))
  have I4 := Lib.hid (IN.out _ p l _ R3.out)
  go_loopw [7, 8, 39] (fun _ _ iv wr => ∃ (i : Nat), i ≤ m ∧ iv = .int .i64 i ∧ w3 = wr) (fun _ _ iv _ => m + 1 - (intOf iv).toNat)
  case atStart => exact ⟨0, Nat.zero_le _, rfl, rfl⟩
  case round =>
    obtain ⟨i, hi, rfl, rfl⟩ := hrel
    have q0 : (i : Int) < (n : Int) := by omega
    have c3 := CA3.out _ B3.out
    have c4 := CA4.out _ B3.out
    have cj := CJ.out _ B3.out
    by_cases hlt : i < m
    · obtain ⟨t, ht⟩ : ∃ t, ys[i]? = some t := ⟨_, List.getElem?_eq_getElem (by rw [HNN.out]; omega)⟩
      have hq := bytes_ne (HFI.out i t hlt ht)
      have hqb : decide (t.toList = pv.toList) = false := decide_eq_false hq
      have hqc : (t.toList == pv.toList) = false := by rw [beq_eq_false_iff_ne]; exact hq
      have hqe : decide (t = pv) = false := decide_eq_false (HFI.out i t hlt ht)
      have ca := T3.out.cell i t ht
      clear ht
      go_wp2
      exact ⟨⟨i + 1, by omega, by go_num, trivial⟩, by simp [intOf]; omega⟩
    · obtain rfl : m = i := by omega
      have ca := T3.out.cell m pv HM.out
      have wm : wrap64 ((m : Int) + 1) = (m : Int) + 1 := by unfold wrap64; omega
      clear hi hlt
      go_wp2_with (first | (go_at_call 58; (with_reducible refine (I4.out).mono ?_); rintro e w5 ⟨l5, rfl, hR5, _, hK5⟩; refine Hid.out ?_))
      refine Lib.hid ?_
      have R3' := R3.out
      have hlt0 := lt_blk hr.out
      have B5 := R3'.own _ _ (Below.refl _ _) hK5
      have BW := Lib.hid (B3.out.trans (B5.mono (Nat.le_of_lt hlt0)))
      have r5 := Lib.hid ((B5.block w.heap.size hlt0).trans r3.out)
      have z5 := (hK5.block w1.heap.size (lt_blk z3.out) ⟨fun e => by
        have h1 := z3.out
        rw [e, R3'.2.1] at h1
        simp at h1, R3'.ne_own z3.out (by decide)⟩).trans z3.out
      obtain ⟨⟨p0, p1, p2, p3, p4, p5, p6, p7⟩, _, _⟩ := cells8 z5
      have TU := Lib.hid (TT.out w5 _ p l5 A3 A4 A5 A6 an3 ac3 an4 ac4 an5 ac5 an6 ac6 BW.out hR5)
      have RL := fun X (hX : RowL w0.heap.size X p l5 zs) => RLen w0.heap.size p l5 zs X hX
      simp only [HZ.out, show ((n + 1 : Nat) : Int) = (n : Int) + 1 from by omega] at RL
      have RL := Lib.hid RL
      have NI := Lib.hid (fun X => Int75 ((n : Int) + 1) X)
      have RR := Lib.hid hR5
      clear hR5 hK5 R3' B5 z5
      go_wp2_with (first | (go_at_call 38; (with_reducible refine (TU.out).mono ?_); rintro e w6 ⟨rfl, ⟨vl5, hJ5⟩, hK5⟩; have J5 := Lib.hid hJ5; have K5 := Lib.hid hK5; have L6 := Lib.hid (RL.out _ (RR.out.kept (fun i hi hl => hK5.block i hl ⟨by omega, by simp [Value.ownBlock]⟩))); have r6 := Lib.hid ((hK5.block w.heap.size (lt_blk r5.out) ⟨by omega, by simp [Value.ownBlock]⟩).trans r5.out); clear hJ5 hK5) | (go_at_call 39; (with_reducible refine (L6.out).mono ?_); rintro e w7 ⟨rfl, h1⟩; have B7 := Lib.hid h1; have r7 := Lib.hid (blk_below r6.out h1); clear h1) | (go_at_call 36; (with_reducible refine (NI.out _).mono ?_); rintro e w8 ⟨rfl, h1⟩; have B8 := Lib.hid (belT B7.out h1); have r8 := Lib.hid (blk_below r7.out h1); obtain ⟨⟨c0, c1, c2, c3⟩, ⟨f0, f1, f2, f3⟩⟩ := cells4 (blk_below r7.out h1); clear h1))
      exact bodyPost_ret (v := .agg #[.int .i64 3, .int .i64 ((n : Int) + 1), .string ⟨#[]⟩, .slice none 0 0]) (by simp [results, Tryz.results27, go_sem, c0, c1, c2, c3]) rfl (endT hjw (JD.below KL J5.out B8.out) r8.out (((Kp.of BW.out).trans (K5.out.mono (Below.size BW.out) (fun i hi => ⟨hi, by simp [Value.ownBlock]⟩))).below_after B8.out (Nat.le_trans (Below.size BW.out) K5.out.size)) _ _ _ _)
end Go.Proofs.YtjljljjmdlddkaaGreat

/- Commands of lists: RPOPLPUSH. -/
namespace Go.Proofs.YtjljljjmdlddkaaGreat
open Go.ChangeShapes Go.WideShapes Go.ChangeAt Go.RowKit

/-- A row stays where another one is turned. -/
theorem RowL.two {c c2 : Nat} {w w' : World} {p1 p2 : Nat} {l1 l2 : Value} {xs1 xs2 : List ByteArray} (h1 : RowL c w p1 l1 xs1) (h2 : RowL c2 w p2 l2 xs2) (hp : p1 < c2) (ho : ∀ q, l1.ownBlock = some q → q < c2) (hK : Kp w.heap.size (fun k => k ≠ p2 ∧ l2.ownBlock ≠ some k) w w') : RowL c w' p1 l1 xs1 := by
  have hl2 := h2.lt
  have low : ∀ b, b < c2 → b < w.heap.size → w'.heap[b]? = w.heap[b]? := fun b hb hb2 => hK.block b hb2 ⟨by have := hl2.1; omega, fun e => by have := (hl2.2.2 b e).1; omega⟩
  obtain ⟨g1, g2, g3⟩ := h1
  refine ⟨g1, (low p1 hp (lt_blk g2)).trans g2, ?_⟩
  rcases g3 with ⟨g4, g5 | ⟨q, C, cs, g5, g6, g7, r⟩⟩ | ⟨g4, q, C, cs, g, C2, g5, g6, g7, g8, g9, g10, g11, g12, g13⟩
  · exact .inl ⟨g4, .inl g5⟩
  · exact .inl ⟨g4, .inr ⟨q, C, cs, g5, g6, (low q (ho q (by rw [g6]; rfl)) (lt_blk g7)).trans g7, r⟩⟩
  · refine .inr ⟨g4, q, C, cs, g, C2, g5, g6, g7, (low q (ho q (by rw [g7]; rfl)) (lt_blk g8)).trans g8, g9, g10, g11, g12, g13.kept (hK.block g g13.lt ⟨?_, ?_⟩)⟩
    · exact (g13.ne h2.2.1 (by decide)).symm
    · obtain ⟨cs', t1, _⟩ := g13
      exact h2.ne_own t1 (by decide)
theorem dEff_len (k : ByteArray) (xo : Option (List ByteArray)) (D : List (ByteArray × List ByteArray)) : (dEff k xo D).length ≤ 1 := by
  unfold dEff
  split
  · simp
  · simp
  · simp
  · split <;> simp
theorem JD.ne {w : World} {j bS : Nat} {now : Int} {vA : Value} {c : Nat} {vl : Value} {des : List (ByteArray × Option (List ByteArray))} (h : JD KL w j bS now vA c vl des) {b : Nat} {cs : Array Value} {t : TypeId} (hb : w.heap[b]? = some (.cells cs t)) (ht : t ≠ 47) : vl.ownBlock ≠ some b := by
  intro e
  obtain ⟨_, _, css, h3, _⟩ := h
  obtain ⟨_, cur, hh⟩ := h3.own b e
  rw [hb] at hh
  cases hh
  exact ht rfl
theorem JD.ge {w : World} {j bS : Nat} {now : Int} {vA : Value} {c : Nat} {vl : Value} {des : List (ByteArray × Option (List ByteArray))} (h : JD KL w j bS now vA c vl des) {b : Nat} (hb : vl.ownBlock = some b) : c ≤ b := by
  obtain ⟨_, _, css, h3, _⟩ := h
  exact (h3.own b hb).1
/-- The space stays where a job is turned. -/
theorem SPG.job {w w' : World} {bS bM : Nat} {D : List (ByteArray × List ByteArray)} (h : SPG KL okL w bS bM D) {j bS' : Nat} {now : Int} {vA vl : Value} (hj : JB w j bS' now vA vl) (hK : ∀ i, i < w.heap.size → i ≠ j → w'.heap[i]? = w.heap[i]?) : SPG KL okL w' bS bM D := by
  have hjb : w.heap[j]? = _ := hj
  have hn := SPG.ne KL okL h hjb (by decide)
  obtain ⟨⟨l, h1, h2⟩, h3⟩ := h
  refine ⟨⟨l, h1.kept (hK _ h1.lt.1 (fun e => hn.1 e.symm)) (hK _ h1.lt.2 (fun e => hn.2 e.symm)), AllE.kept2 KL (fun x a b d e hV g hg => hK g (KL.lt hV hg) (fun e => ?_)) h2⟩, h3⟩
  subst e
  obtain ⟨cs, t, g1, _, _, g2, _⟩ := KL.typ hV hg
  rw [hjb] at g1
  cases g1
  exact g2 rfl
set_option maxRecDepth 100000 in
set_option maxHeartbeats 8000000 in
/-- RPOPLPUSH from a list to another one. -/
theorem cOVER (bS bM : Nat) (D : List (ByteArray × List ByteArray)) (now : Int) (NM k k2 : ByteArray) (hkk : k ≠ k2) (ys : List ByteArray) (hf : findD k D = some ys) (s : ByteArray) (hs : ys[ys.length - 1]? = some s) (hs2 : s.size ≤ 4096) (hk21 : 1 ≤ k2.size) (hk22 : k2.size ≤ 512) (xs : List ByteArray) (hxs : (findD k2 D).getD [] = xs) (hlen : xs.length + 1 ≤ 31) (w : World) : CmdD 28 #[] bS bM D now [NM, k, k2] 4 0 s R0 (dEff k (xoL (ys.eraseIdx (ys.length - 1))) D ++ dEff k2 (some (s :: xs)) D) w := by
  intro j vA hS hj hA
  show Calls Tryz.prog 28 #[.pointer (some ⟨j, 0, none⟩)] w _
  have hok := hS.okOf hf
  have hok1 := fun h => okL_erase hok (ys.length - 1) h
  have hln := hok.2.2.2.1
  have hok2 : okL k2 (s :: xs) := by
    refine ⟨hk21, hk22, by simp, by simpa using hlen, fun t ht => ?_⟩
    rcases List.mem_cons.1 ht with rfl | ht
    · exact hs2
    · cases hf2 : findD k2 D with
      | none => rw [hf2] at hxs; simp at hxs; subst hxs; cases ht
      | some us =>
        rw [hf2] at hxs
        simp at hxs
        subst hxs
        exact (hS.okOf hf2).2.2.2.2 t ht
  obtain ⟨blk, off, cap, rfl, hAR⟩ := AR.of hj hA (by simp)
  have HJ := Lib.hid hj
  have hjw := lt_blk hj
  have A1 := Lib.hid (alloc_old (w := w) (o := .cells #[.int .i64 0, .int .i64 0, .string ⟨#[]⟩, .slice none 0 0] 28))
  have hr := Lib.hid (heap_alloc_new w (.cells #[.int .i64 0, .int .i64 0, .string ⟨#[]⟩, .slice none 0 0] 28))
  have RW := fun Y (hY : Below w.heap.size w Y) => RowD bS bM j D k now _ _ Y (SPG.below KL okL hS hY) (hj.below hY)
  have RW2 := fun Y (hY : Below w.heap.size w Y) => RowD bS bM j D k2 now _ _ Y (SPG.below KL okL hS hY) (hj.below hY)
  simp only [hf, Option.getD_some, Option.isSome_some] at RW
  simp only [hxs] at RW2
  have RW := Lib.hid RW
  have RW2 := Lib.hid RW2
  have PO := fun c p l X hX => RPop c p l ys hok.2.2.1 (by omega) false s hs X hX
  simp only [Bool.false_eq_true, if_false] at PO
  obtain ⟨zs, hzs⟩ : ∃ zs, ys.eraseIdx (ys.length - 1) = zs := ⟨_, rfl⟩
  have hzl : zs.length ≤ 31 := by rw [← hzs]; have := List.length_eraseIdx_le ys (ys.length - 1); omega
  simp only [hzs] at PO hok1 ⊢
  have PO := Lib.hid PO
  have PU := fun c p l X hX => RPush c p l xs (by omega) true s X hX
  simp only [if_true] at PU
  have PU := Lib.hid PU
  have hl2 : ([NM, k, k2] : List ByteArray).length = 3 := rfl
  rw [hl2] at HJ ⊢
  have CJ := Lib.hid (fun Y hY => (hAR.job Y hY).1)
  rw [hl2] at CJ
  have CA1 := Lib.hid (fun Y hY => hAR.arg Y hY 1 k rfl)
  have CA2 := Lib.hid (fun Y hY => hAR.arg Y hY 2 k2 rfl)
  have c1 := CJ.out _ A1.out
  have c2 := CA1.out _ A1.out
  have HS := Lib.hid hS
  have HO1 := Lib.hid hok1
  have HO2 := Lib.hid hok2
  have TT1 := Lib.hid (fun (X : World) (cr p : Nat) (l : Value) (A3 A4 A5 A6 : Option Addr) (an3 ac3 an4 ac4 an5 ac5 an6 ac6 : Nat) (hX : Below w.heap.size w X) (hR : RowL cr X p l zs) => TurnL bS bM j D [] k zs now (.slice (some ⟨blk, off, none⟩) 3 cap) (.slice none 0 0) w.heap.size cr p l 2 ⟨#[]⟩ A3 A4 A5 A6 an3 ac3 an4 ac4 an5 ac5 an6 ac6 HO1.out (by omega) X (SPG.below KL okL HS.out hX) (JD.below KL (JD.nil KL w.heap.size HJ.out) hX) (Below.size hX) (by simp) hR)
  have TT2 := Lib.hid (fun (X : World) (cr p : Nat) (l vl : Value) (Y3 Y4 Y5 Y6 : Option Addr) (yn3 yc3 yn4 yc4 yn5 yc5 yn6 yc6 : Nat) (hsp : SPG KL okL X bS bM D) (hJ : JD KL X j bS now (.slice (some ⟨blk, off, none⟩) 3 cap) w.heap.size vl (dEff k (xoL zs) D)) (hz : w.heap.size ≤ X.heap.size) (hR : RowL cr X p l (s :: xs)) => TurnL bS bM j D _ k2 (s :: xs) now (.slice (some ⟨blk, off, none⟩) 3 cap) vl w.heap.size cr p l 2 ⟨#[]⟩ Y3 Y4 Y5 Y6 yn3 yc3 yn4 yc4 yn5 yc5 yn6 yc6 (fun _ => HO2.out) (by have := HO2.out.2.2.2.1; omega) X hsp hJ hz (by have := dEff_len k (xoL zs) D; omega) hR)
  simp only [show xoL (s :: xs) = some (s :: xs) from if_neg (by simp)] at TT2
  simp only [List.nil_append] at TT1
  have BU := Lib.hid (fun X => Bulk67 s X)
  have hq := bytes_ne hkk
  have hqb : decide (k.toList = k2.toList) = false := decide_eq_false hq
  have hqc : (k.toList == k2.toList) = false := by rw [beq_eq_false_iff_ne]; exact hq
  have hqe : decide (k = k2) = false := decide_eq_false hkk
  clear hS hj hA hAR hok hok1 hok2 hs hzs hf hln hxs
  go_enter Tryz.func28, Tryz.ntmps28
  go_wp2_with (first | (go_at_call 35; (with_reducible refine (RW.out _ A1.out).mono ?_); rintro e w1 ⟨A3, A4, A5, A6, an3, ac3, an4, ac4, an5, ac5, an6, ac6, p, l, rfl, hR1, h1⟩; have B1 := Lib.hid ((A1.out.trans (h1.mono (Below.size A1.out))).trans ((alloc_old (w := w1) (o := .cells #[.string k, .int .i64 2, .string ⟨#[]⟩, .slice A3 an3 ac3, .slice A4 an4 ac4, .slice A5 an5 ac5, .slice A6 an6 ac6, .int .i64 0] 45)).mono (by have := Below.size A1.out; have := Below.size h1; omega))); have R1 := Lib.hid (hR1.below (alloc_old (w := w1) (o := .cells #[.string k, .int .i64 2, .string ⟨#[]⟩, .slice A3 an3 ac3, .slice A4 an4 ac4, .slice A5 an5 ac5, .slice A6 an6 ac6, .int .i64 0] 45))); have r1 := Lib.hid (blk_below (blk_below hr.out h1) (alloc_old (w := w1) (o := .cells #[.string k, .int .i64 2, .string ⟨#[]⟩, .slice A3 an3 ac3, .slice A4 an4 ac4, .slice A5 an5 ac5, .slice A6 an6 ac6, .int .i64 0] 45))); have z1 := Lib.hid (heap_alloc_new w1 (.cells #[.string k, .int .i64 2, .string ⟨#[]⟩, .slice A3 an3 ac3, .slice A4 an4 ac4, .slice A5 an5 ac5, .slice A6 an6 ac6, .int .i64 0] 45)); have hw1 := Lib.hid (lt_blk (blk_below hr.out h1)); clear h1 hR1; refine Hid.out ?_))
  refine Lib.hid ?_
  have c3 := CJ.out _ B1.out
  have c4 := CA2.out _ B1.out
  go_wp2_with (first | (go_at_call 35; (with_reducible refine (RW2.out _ B1.out).mono ?_); rintro e w2 ⟨Y3, Y4, Y5, Y6, yn3, yc3, yn4, yc4, yn5, yc5, yn6, yc6, p2, l2, rfl, hR2, h2⟩; refine Hid.out ?_))
  refine Lib.hid ?_
  have hN1 : (w1.alloc (.cells #[.string k, .int .i64 2, .string ⟨#[]⟩, .slice A3 an3 ac3, .slice A4 an4 ac4, .slice A5 an5 ac5, .slice A6 an6 ac6, .int .i64 0] 45)).heap.size = w1.heap.size + 1 := by simp
  have hc1 : (w.alloc (.cells #[.int .i64 0, .int .i64 0, .string ⟨#[]⟩, .slice none 0 0] 28)).heap.size = w.heap.size + 1 := by simp
  have hw1 := hw1.out
  have hR1 := R1.out
  have hlt1 := hR1.lt
  rw [hN1] at hlt1 hR2
  have h2' := h2
  rw [hN1] at h2'
  have hs2 := Below.size h2'
  have BE2 := alloc_old (w := w2) (o := .cells #[.string k2, .int .i64 2, .string ⟨#[]⟩, .slice Y3 yn3 yc3, .slice Y4 yn4 yc4, .slice Y5 yn5 yc5, .slice Y6 yn6 yc6, .int .i64 0] 45)
  have B2 := Lib.hid ((B1.out.trans (h2'.mono (by omega))).trans (BE2.mono (by omega)))
  have R1b := Lib.hid ((hR1.below h2).below BE2)
  have R2b := Lib.hid (hR2.below BE2)
  have z1b := Lib.hid (blk_below (blk_below z1.out h2) BE2)
  have r1b := Lib.hid (blk_below (blk_below r1.out h2) BE2)
  have z2b := Lib.hid (heap_alloc_new w2 (.cells #[.string k2, .int .i64 2, .string ⟨#[]⟩, .slice Y3 yn3 yc3, .slice Y4 yn4 yc4, .slice Y5 yn5 yc5, .slice Y6 yn6 yc6, .int .i64 0] 45))
  have Q1 := Lib.hid (PO.out _ p l _ R1b.out)
  clear h2 h2' hR2 BE2 hR1
  go_wp2_with (first | (go_at_call 40; (with_reducible refine (Q1.out).mono ?_); rintro e w3 ⟨rfl, ⟨l3, hR3, ho3⟩, hK3⟩; refine Hid.out ?_))
  refine Lib.hid ?_
  have B3c := R1b.out.own _ _ (Below.refl _ _) hK3
  rw [hc1] at B3c hR3
  have B3 := Lib.hid (B2.out.trans (B3c.mono (Nat.le_succ _)))
  have R23 := Lib.hid (R2b.out.kept (fun i hi hl => hK3.block i hl ⟨by have := hlt1.2.1; omega, fun e => by have := (hlt1.2.2 i e).2.1; omega⟩))
  have z13 := Lib.hid ((hK3.block w1.heap.size (lt_blk z1b.out) ⟨fun e => by
    have h1 := z1b.out
    rw [e, R1b.out.2.1] at h1
    simp at h1, R1b.out.ne_own z1b.out (by decide)⟩).trans z1b.out)
  have z23 := Lib.hid ((hK3.block w2.heap.size (lt_blk z2b.out) ⟨by have := hlt1.2.1; omega, fun e => by have := (hlt1.2.2 _ e).2.1; omega⟩).trans z2b.out)
  have r3 := Lib.hid ((B3c.block w.heap.size (Nat.lt_succ_self _)).trans r1b.out)
  have R13 := Lib.hid hR3
  have B3 := Lib.hid B3.out.drew
  have R23 := Lib.hid (R23.out.kept (w' := w3.drew) (fun _ _ _ => rfl))
  have R13 := Lib.hid (R13.out.kept (w' := w3.drew) (fun _ _ _ => rfl))
  have z13 := Lib.hid (show w3.drew.heap[w1.heap.size]? = some (.cells #[.string k, .int .i64 2, .string ⟨#[]⟩, .slice A3 an3 ac3, .slice A4 an4 ac4, .slice A5 an5 ac5, .slice A6 an6 ac6, .int .i64 0] 45) from z13.out)
  have z23 := Lib.hid (show w3.drew.heap[w2.heap.size]? = some (.cells #[.string k2, .int .i64 2, .string ⟨#[]⟩, .slice Y3 yn3 yc3, .slice Y4 yn4 yc4, .slice Y5 yn5 yc5, .slice Y6 yn6 yc6, .int .i64 0] 45) from z23.out)
  have r3 := Lib.hid (show w3.drew.heap[w.heap.size]? = some (.cells #[.int .i64 0, .int .i64 0, .string ⟨#[]⟩, .slice none 0 0] 28) from r3.out)
  have c5 := CJ.out _ B3.out
  have c6 := CA1.out _ B3.out
  have c7 := CA2.out _ B3.out
  have hl3 : ∀ q, l3.ownBlock = some q → q < w1.heap.size + 1 := fun q hq => (hlt1.2.2 q (by rw [← ho3]; exact hq)).2.1
  have HL3 := Lib.hid hl3
  clear hR3 hK3 B3c hl3 ho3
  go_wp2
  go_region
  clear c5 c6 c7
  generalize w3.drew = w3 at B3 R23 R13 z13 z23 r3 ⊢
  have Q3 := Lib.hid (PU.out _ p2 l2 _ R23.out)
  go_wp2_with (first | (go_at_call 37; (with_reducible refine (Q3.out).mono ?_); rintro e w4 ⟨l4, rfl, hR4, _, hK4⟩; refine Hid.out ?_))
  refine Lib.hid ?_
  have B4 := Lib.hid (B3.out.trans ((R23.out.own _ _ (Below.refl _ _) hK4).mono (by omega)))
  have R14 := Lib.hid (R13.out.two R23.out hlt1.2.1 HL3.out hK4)
  have nb : ∀ (b : Nat) (cs : Array Value) (t : TypeId), w3.heap[b]? = some (.cells cs t) → t ≠ 118 → t ≠ 22 → w4.heap[b]? = some (.cells cs t) := fun b cs t hb h1 h2 => (hK4.block b (lt_blk hb) ⟨fun e => by
    subst e
    have h3 := R23.out.2.1
    rw [hb] at h3
    cases h3
    exact h1 rfl, R23.out.ne_own hb h2⟩).trans hb
  have z14 := Lib.hid (nb _ _ _ z13.out (by decide) (by decide))
  have z24 := Lib.hid (nb _ _ _ z23.out (by decide) (by decide))
  have r4 := Lib.hid (nb _ _ _ r3.out (by decide) (by decide))
  have R24 := Lib.hid hR4
  have TU1 := Lib.hid (TT1.out w4 _ p l3 A3 A4 A5 A6 an3 ac3 an4 ac4 an5 ac5 an6 ac6 B4.out R14.out)
  obtain ⟨⟨p0, p1, p2', p3, p4, p5, p6, p7⟩, _, _⟩ := cells8 z14.out
  have J4 := Lib.hid (HJ.out.below B4.out)
  have S4 := Lib.hid (SPG.below KL okL HS.out B4.out)
  clear hR4 hK4 nb
  go_wp2_with (first | (go_at_call 38; (with_reducible refine (TU1.out).mono ?_); rintro e w5 ⟨rfl, ⟨vl5, hJ5⟩, hK5⟩; refine Hid.out ?_))
  refine Lib.hid ?_
  have J5 := Lib.hid hJ5
  have K5 := Lib.hid hK5
  have z25 := Lib.hid ((hK5.block w2.heap.size (lt_blk z24.out) ⟨by omega, by simp [Value.ownBlock]⟩).trans z24.out)
  have r5 := Lib.hid ((hK5.block w.heap.size (lt_blk r4.out) ⟨by omega, by simp [Value.ownBlock]⟩).trans r4.out)
  have R25 := R24.out.kept (fun i hi hl => hK5.block i hl ⟨by omega, by simp [Value.ownBlock]⟩)
  have S5 := S4.out.job J4.out (fun i hi hn => hK5.block i hi ⟨hn, by simp [Value.ownBlock]⟩)
  have TU2 := Lib.hid (TT2.out w5 _ p2 l4 vl5 Y3 Y4 Y5 Y6 yn3 yc3 yn4 yc4 yn5 yc5 yn6 yc6 S5 hJ5 (Nat.le_trans (Below.size B4.out) hK5.size) R25)
  obtain ⟨⟨q0, q1, q2, q3, q4, q5, q6, q7⟩, _, _⟩ := cells8 z25.out
  clear hJ5 hK5 R25 S5
  go_wp2_with (first | (go_at_call 38; (with_reducible refine (TU2.out).mono ?_); rintro e w6 ⟨rfl, ⟨vl6, hJ6⟩, hK6⟩; have J6 := Lib.hid hJ6; have K6 := Lib.hid hK6; have r6 := Lib.hid ((hK6.block w.heap.size (lt_blk r5.out) ⟨by omega, JD.ne J5.out r5.out (by decide)⟩).trans r5.out); clear hJ6 hK6) | (go_at_call 42; (with_reducible refine (BU.out _).mono ?_); rintro e w7 ⟨rfl, h1⟩; have B7 := Lib.hid h1; have r7 := Lib.hid (blk_below r6.out h1); obtain ⟨⟨c0, c1, c2, c3⟩, ⟨f0, f1, f2, f3⟩⟩ := cells4 (blk_below r6.out h1); clear h1))
  have hz5 := Nat.le_trans (Below.size B4.out) K5.out.size
  have K56 : Kp w.heap.size (fun i => i ≠ j) w5 w6 := ⟨K6.out.os, K6.out.tape, K6.out.output, K6.out.size, fun i hi hn => K6.out.block i (by omega) ⟨hn, fun e => by have := JD.ge J5.out e; omega⟩⟩
  exact bodyPost_ret (v := .agg #[.int .i64 4, .int .i64 0, .string s, .slice none 0 0]) (by simp [results, Tryz.results28, go_sem, c0, c1, c2, c3]) rfl (endT hjw (JD.below KL J6.out B7.out) r7.out ((((Kp.of B4.out).trans (K5.out.mono (Below.size B4.out) (fun i hi => ⟨hi, by simp [Value.ownBlock]⟩))).trans K56).below_after B7.out (Nat.le_trans hz5 K6.out.size)) _ _ _ _)
set_option maxRecDepth 100000 in
set_option maxHeartbeats 8000000 in
/-- RPOPLPUSH of a list to itself. -/
theorem cTURN (bS bM : Nat) (D : List (ByteArray × List ByteArray)) (now : Int) (NM k : ByteArray) (ys : List ByteArray) (hf : findD k D = some ys) (s : ByteArray) (hs : ys[ys.length - 1]? = some s) (w : World) : CmdD 28 #[] bS bM D now [NM, k, k] 4 0 s R0 (dEff k (some (s :: ys.eraseIdx (ys.length - 1))) D) w := by
  intro j vA hS hj hA
  show Calls Tryz.prog 28 #[.pointer (some ⟨j, 0, none⟩)] w _
  have hok := hS.okOf hf
  have hln := hok.2.2.2.1
  have hpos := List.length_pos_iff.2 hok.2.2.1
  have hok2 : okL k (s :: ys.eraseIdx (ys.length - 1)) := by
    obtain ⟨h1, h2, _, h4, h5⟩ := hok
    refine ⟨h1, h2, by simp, ?_, fun t ht => ?_⟩
    · rw [List.length_cons, List.length_eraseIdx_of_lt (by omega)]
      omega
    · rcases List.mem_cons.1 ht with rfl | ht
      · exact h5 t (List.mem_of_getElem? hs)
      · exact h5 t (List.mem_of_mem_eraseIdx ht)
  obtain ⟨blk, off, cap, rfl, hAR⟩ := AR.of hj hA (by simp)
  have HJ := Lib.hid hj
  have hjw := lt_blk hj
  have A1 := Lib.hid (alloc_old (w := w) (o := .cells #[.int .i64 0, .int .i64 0, .string ⟨#[]⟩, .slice none 0 0] 28))
  have hr := Lib.hid (heap_alloc_new w (.cells #[.int .i64 0, .int .i64 0, .string ⟨#[]⟩, .slice none 0 0] 28))
  have RW := fun Y (hY : Below w.heap.size w Y) => RowD bS bM j D k now _ _ Y (SPG.below KL okL hS hY) (hj.below hY)
  simp only [hf, Option.getD_some, Option.isSome_some] at RW
  have RW := Lib.hid RW
  have PO := fun c p l X hX => RPop c p l ys hok.2.2.1 (by omega) false s hs X hX
  simp only [Bool.false_eq_true, if_false] at PO
  obtain ⟨zs, hzs⟩ : ∃ zs, ys.eraseIdx (ys.length - 1) = zs := ⟨_, rfl⟩
  have hzl : zs.length ≤ 30 := by rw [← hzs, List.length_eraseIdx_of_lt (by omega)]; omega
  simp only [hzs] at PO hok2 ⊢
  have PO := Lib.hid PO
  have PU := fun c p l X hX => RPush c p l zs (by omega) true s X hX
  simp only [if_true] at PU
  have PU := Lib.hid PU
  have hl2 : ([NM, k, k] : List ByteArray).length = 3 := rfl
  rw [hl2] at HJ ⊢
  have CJ := Lib.hid (fun Y hY => (hAR.job Y hY).1)
  rw [hl2] at CJ
  have CA1 := Lib.hid (fun Y hY => hAR.arg Y hY 1 k rfl)
  have CA2 := Lib.hid (fun Y hY => hAR.arg Y hY 2 k rfl)
  have c1 := CJ.out _ A1.out
  have c2 := CA1.out _ A1.out
  have HS := Lib.hid hS
  have HO2 := Lib.hid hok2
  have TT1 := Lib.hid (fun (X : World) (cr p : Nat) (l : Value) (A3 A4 A5 A6 : Option Addr) (an3 ac3 an4 ac4 an5 ac5 an6 ac6 : Nat) (hX : Below w.heap.size w X) (hR : RowL cr X p l (s :: zs)) => TurnL bS bM j D [] k (s :: zs) now (.slice (some ⟨blk, off, none⟩) 3 cap) (.slice none 0 0) w.heap.size cr p l 2 ⟨#[]⟩ A3 A4 A5 A6 an3 ac3 an4 ac4 an5 ac5 an6 ac6 (fun _ => HO2.out) (by simp; omega) X (SPG.below KL okL HS.out hX) (JD.below KL (JD.nil KL w.heap.size HJ.out) hX) (Below.size hX) (by simp) hR)
  simp only [show xoL (s :: zs) = some (s :: zs) from if_neg (by simp), List.nil_append] at TT1
  have BU := Lib.hid (fun X => Bulk67 s X)
  clear hS hj hA hAR hok hok2 hs hzs hf hln
  go_enter Tryz.func28, Tryz.ntmps28
  go_wp2_with (first | (go_at_call 35; (with_reducible refine (RW.out _ A1.out).mono ?_); rintro e w1 ⟨A3, A4, A5, A6, an3, ac3, an4, ac4, an5, ac5, an6, ac6, p, l, rfl, hR1, h1⟩; have B1 := Lib.hid ((A1.out.trans (h1.mono (Below.size A1.out))).trans ((alloc_old (w := w1) (o := .cells #[.string k, .int .i64 2, .string ⟨#[]⟩, .slice A3 an3 ac3, .slice A4 an4 ac4, .slice A5 an5 ac5, .slice A6 an6 ac6, .int .i64 0] 45)).mono (by have := Below.size A1.out; have := Below.size h1; omega))); have R1 := Lib.hid (hR1.below (alloc_old (w := w1) (o := .cells #[.string k, .int .i64 2, .string ⟨#[]⟩, .slice A3 an3 ac3, .slice A4 an4 ac4, .slice A5 an5 ac5, .slice A6 an6 ac6, .int .i64 0] 45))); have r1 := Lib.hid (blk_below (blk_below hr.out h1) (alloc_old (w := w1) (o := .cells #[.string k, .int .i64 2, .string ⟨#[]⟩, .slice A3 an3 ac3, .slice A4 an4 ac4, .slice A5 an5 ac5, .slice A6 an6 ac6, .int .i64 0] 45))); have z1 := Lib.hid (heap_alloc_new w1 (.cells #[.string k, .int .i64 2, .string ⟨#[]⟩, .slice A3 an3 ac3, .slice A4 an4 ac4, .slice A5 an5 ac5, .slice A6 an6 ac6, .int .i64 0] 45)); have hw1 := Lib.hid (lt_blk (blk_below hr.out h1)); clear h1 hR1; refine Hid.out ?_))
  refine Lib.hid ?_
  have c3 := CJ.out _ B1.out
  have c4 := CA2.out _ B1.out
  go_wp2_with (first | (go_at_call 35; (with_reducible refine (RW.out _ B1.out).mono ?_); rintro e w2 ⟨Y3, Y4, Y5, Y6, yn3, yc3, yn4, yc4, yn5, yc5, yn6, yc6, p2, l2, rfl, _, h2⟩; refine Hid.out ?_))
  refine Lib.hid ?_
  have hN1 : (w1.alloc (.cells #[.string k, .int .i64 2, .string ⟨#[]⟩, .slice A3 an3 ac3, .slice A4 an4 ac4, .slice A5 an5 ac5, .slice A6 an6 ac6, .int .i64 0] 45)).heap.size = w1.heap.size + 1 := by simp
  have hc1 : (w.alloc (.cells #[.int .i64 0, .int .i64 0, .string ⟨#[]⟩, .slice none 0 0] 28)).heap.size = w.heap.size + 1 := by simp
  have hw1 := hw1.out
  have h2' := h2
  rw [hN1] at h2'
  have hs2 := Below.size h2'
  have BE2 := alloc_old (w := w2) (o := .cells #[.string k, .int .i64 2, .string ⟨#[]⟩, .slice Y3 yn3 yc3, .slice Y4 yn4 yc4, .slice Y5 yn5 yc5, .slice Y6 yn6 yc6, .int .i64 0] 45)
  have B2 := Lib.hid ((B1.out.trans (h2'.mono (by omega))).trans (BE2.mono (by omega)))
  have R1b := Lib.hid ((R1.out.below h2).below BE2)
  have z1b := Lib.hid (blk_below (blk_below z1.out h2) BE2)
  have r1b := Lib.hid (blk_below (blk_below r1.out h2) BE2)
  have Q1 := Lib.hid (PO.out _ p l _ R1b.out)
  clear h2 h2' BE2
  go_wp2_with (first | (go_at_call 40; (with_reducible refine (Q1.out).mono ?_); rintro e w3 ⟨rfl, ⟨l3, hR3, ho3⟩, hK3⟩; refine Hid.out ?_))
  refine Lib.hid ?_
  have B3c := R1b.out.own _ _ (Below.refl _ _) hK3
  rw [hc1] at B3c hR3
  have B3 := Lib.hid (B2.out.trans (B3c.mono (Nat.le_succ _)))
  have z13 := Lib.hid ((hK3.block w1.heap.size (lt_blk z1b.out) ⟨fun e => by
    have h1 := z1b.out
    rw [e, R1b.out.2.1] at h1
    simp at h1, R1b.out.ne_own z1b.out (by decide)⟩).trans z1b.out)
  have r3 := Lib.hid ((B3c.block w.heap.size (Nat.lt_succ_self _)).trans r1b.out)
  have B3 := Lib.hid B3.out.drew
  have R13 := Lib.hid (hR3.kept (w' := w3.drew) (fun _ _ _ => rfl))
  have z13 := Lib.hid (show w3.drew.heap[w1.heap.size]? = some (.cells #[.string k, .int .i64 2, .string ⟨#[]⟩, .slice A3 an3 ac3, .slice A4 an4 ac4, .slice A5 an5 ac5, .slice A6 an6 ac6, .int .i64 0] 45) from z13.out)
  have r3 := Lib.hid (show w3.drew.heap[w.heap.size]? = some (.cells #[.int .i64 0, .int .i64 0, .string ⟨#[]⟩, .slice none 0 0] 28) from r3.out)
  have c5 := CJ.out _ B3.out
  have c6 := CA1.out _ B3.out
  have c7 := CA2.out _ B3.out
  clear hR3 hK3 B3c ho3
  go_wp2
  go_region
  clear c5 c6 c7
  generalize w3.drew = w3 at B3 R13 z13 r3 ⊢
  have Q3 := Lib.hid (PU.out _ p l3 _ R13.out)
  go_wp2_with (first | (go_at_call 37; (with_reducible refine (Q3.out).mono ?_); rintro e w4 ⟨l4, rfl, hR4, _, hK4⟩; refine Hid.out ?_))
  refine Lib.hid ?_
  have B4 := Lib.hid (B3.out.trans ((R13.out.own _ _ (Below.refl _ _) hK4).mono (by omega)))
  have nb : ∀ (b : Nat) (cs : Array Value) (t : TypeId), w3.heap[b]? = some (.cells cs t) → t ≠ 118 → t ≠ 22 → w4.heap[b]? = some (.cells cs t) := fun b cs t hb h1 h2 => (hK4.block b (lt_blk hb) ⟨fun e => by
    subst e
    have h3 := R13.out.2.1
    rw [hb] at h3
    cases h3
    exact h1 rfl, R13.out.ne_own hb h2⟩).trans hb
  have z14 := Lib.hid (nb _ _ _ z13.out (by decide) (by decide))
  have r4 := Lib.hid (nb _ _ _ r3.out (by decide) (by decide))
  have TU1 := Lib.hid (TT1.out w4 _ p l4 A3 A4 A5 A6 an3 ac3 an4 ac4 an5 ac5 an6 ac6 B4.out hR4)
  obtain ⟨⟨p0, p1, p2', p3, p4, p5, p6, p7⟩, _, _⟩ := cells8 z14.out
  clear hR4 hK4 nb
  go_wp2_with (first | (go_at_call 38; (with_reducible refine (TU1.out).mono ?_); rintro e w5 ⟨rfl, ⟨vl5, hJ5⟩, hK5⟩; have J5 := Lib.hid hJ5; have K5 := Lib.hid hK5; have r6 := Lib.hid ((hK5.block w.heap.size (lt_blk r4.out) ⟨by omega, by simp [Value.ownBlock]⟩).trans r4.out); clear hJ5 hK5) | (go_at_call 42; (with_reducible refine (BU.out _).mono ?_); rintro e w7 ⟨rfl, h1⟩; have B7 := Lib.hid h1; have r7 := Lib.hid (blk_below r6.out h1); obtain ⟨⟨c0, c1, c2, c3⟩, ⟨f0, f1, f2, f3⟩⟩ := cells4 (blk_below r6.out h1); clear h1))
  exact bodyPost_ret (v := .agg #[.int .i64 4, .int .i64 0, .string s, .slice none 0 0]) (by simp [results, Tryz.results28, go_sem, c0, c1, c2, c3]) rfl (endT hjw (JD.below KL J5.out B7.out) r7.out (((Kp.of B4.out).trans (K5.out.mono (Below.size B4.out) (fun i hi => ⟨hi, by simp [Value.ownBlock]⟩))).below_after B7.out (Nat.le_trans (Below.size B4.out) K5.out.size)) _ _ _ _)
end Go.Proofs.YtjljljjmdlddkaaGreat
