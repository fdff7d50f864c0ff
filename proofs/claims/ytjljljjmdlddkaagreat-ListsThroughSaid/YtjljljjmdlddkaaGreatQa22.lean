/- Texts joined: L7, L8 -/
import Derived.Test.YtjljljjmdlddkaaGreatQa21

/- Commands of lists: LPUSH, RPUSH. -/
namespace Go.Proofs.YtjljljjmdlddkaaGreat
open Go.ChangeShapes Go.WideShapes Go.ChangeAt Go.RowKit

/-- Texts pushed one by one. -/
def pushT (f : Bool) (ys ts : List ByteArray) : List ByteArray := if f then ts.reverse ++ ys else ys ++ ts
theorem pushT_len (f : Bool) (ys ts : List ByteArray) : (pushT f ys ts).length = ys.length + ts.length := by
  cases f <;> simp [pushT, Nat.add_comm]
theorem pushT_step (f : Bool) (ys ts : List ByteArray) (i : Nat) (s : ByteArray) (h : ts[i]? = some s) : pushT f ys (ts.take (i + 1)) = if f then s :: pushT f ys (ts.take i) else pushT f ys (ts.take i) ++ [s] := by
  rw [List.take_add_one, h]
  cases f <;> simp [pushT]
/-- What a command leaves that laid effects. -/
theorem endT {w w3 : World} {j bS : Nat} {now : Int} {vA vl : Value} {k n : Int} {s : ByteArray} {des : List (ByteArray × Option (List ByteArray))} {cs : Array Value} (hjw : j < w.heap.size) (hJ : JD KL w3 j bS now vA w.heap.size vl des) (hr : w3.heap[w.heap.size]? = some (.cells cs 28)) (hK : Kp w.heap.size (fun i => i ≠ j) w w3) (v0 v1 v2 v3 : Value) :
    ∃ A m c, (Ending.returned (.agg #[.int .i64 k, .int .i64 n, .string s, .slice none 0 0]) = .returned (.agg #[.int .i64 k, .int .i64 n, .string s, .slice A m c])) ∧ R0 w.heap.size ((((w3.setCell ⟨w.heap.size, 0, none⟩ v0).setCell ⟨w.heap.size, 1, none⟩ v1).setCell ⟨w.heap.size, 2, none⟩ v2).setCell ⟨w.heap.size, 3, none⟩ v3) (.slice A m c) ∧ (∃ vl, JD KL ((((w3.setCell ⟨w.heap.size, 0, none⟩ v0).setCell ⟨w.heap.size, 1, none⟩ v1).setCell ⟨w.heap.size, 2, none⟩ v2).setCell ⟨w.heap.size, 3, none⟩ v3) j bS now vA w.heap.size vl des) ∧ Kp w.heap.size (fun i => i ≠ j) w ((((w3.setCell ⟨w.heap.size, 0, none⟩ v0).setCell ⟨w.heap.size, 1, none⟩ v1).setCell ⟨w.heap.size, 2, none⟩ v2).setCell ⟨w.heap.size, 3, none⟩ v3) := by
  obtain ⟨h1, h2, css, h3, h4⟩ := hJ
  refine ⟨none, 0, 0, rfl, rfl, ⟨vl, h1, h2.kept (far4 _ _ _ _ (by omega)), css, h3.kept (fun g hg => far4 _ _ _ _ (fun e => ?_)), ALC.kept KL (fun x a b d e hV _ g hg => far4 _ _ _ _ (fun e => ?_)) h4⟩, ?_⟩
  · subst e
    obtain ⟨_, cur, hh⟩ := h3.own _ hg
    rw [hr] at hh
    simp at hh
  · subst e
    obtain ⟨cs', t, g1, _, _, _, _, g6⟩ := KL.typ hV hg
    rw [hr] at g1
    cases g1
    exact g6 rfl
  · exact ((((hK.setCell (p := ⟨w.heap.size, 0, none⟩) (by simp) v0).setCell (p := ⟨w.heap.size, 1, none⟩) (by simp) v1).setCell (p := ⟨w.heap.size, 2, none⟩) (by simp) v2).setCell (p := ⟨w.heap.size, 3, none⟩) (by simp) v3)
/-- No block of another type holds a row's chunks. -/
theorem RowL.ne_own {c : Nat} {w : World} {p : Nat} {l : Value} {xs : List ByteArray} (h : RowL c w p l xs) {b : Nat} {cs : Array Value} {t : TypeId} (hb : w.heap[b]? = some (.cells cs t)) (ht : t ≠ 22) : l.ownBlock ≠ some b := by
  intro e
  obtain ⟨_, _, ⟨_, rfl | ⟨q, C, cs', _, rfl, h7, _⟩⟩ | ⟨_, q, C, cs', g, C2, _, _, rfl, h7, _⟩⟩ := h
  · cases e
  · cases e
    rw [hb] at h7
    cases h7
    exact ht rfl
  · cases e
    rw [hb] at h7
    cases h7
    exact ht rfl
set_option maxRecDepth 100000 in
set_option maxHeartbeats 8000000 in
theorem PUSHED (f : Bool) (bS bM j : Nat) (D : List (ByteArray × List ByteArray)) (now : Int) (NM k : ByteArray) (ts : List ByteArray) (vA : Value) (w : World) (hlen : ((findD k D).getD []).length + ts.length ≤ 31) (hne : ts ≠ []) (hok : okL k (pushT f ((findD k D).getD []) ts)) (hS : SPG KL okL w bS bM D) (hj : JB w j bS now vA (.slice none 0 0)) (hA : SSl w vA (NM :: k :: ts)) : Calls Tryz.prog 16 #[.pointer (some ⟨j, 0, none⟩), .bool f, .bool false] w fun e w' => ∃ A m c, e = .returned (.agg #[.int .i64 3, .int .i64 (((findD k D).getD []).length + ts.length : Nat), .string ⟨#[]⟩, .slice A m c]) ∧ R0 w.heap.size w' (.slice A m c) ∧
      (∃ vl, JD KL w' j bS now vA w.heap.size vl (dEff k (some (pushT f ((findD k D).getD []) ts)) D)) ∧ Kp w.heap.size (fun i => i ≠ j) w w' := by
  have hmf : ∀ (fn : Fn) (first cap : Array Value) (w : World), (Instr.makeFunc fn first cap).run Tryz.prog w = .ok (.func fn first cap) w := fun _ _ _ _ => rfl
  obtain ⟨blk, off, cap, rfl, hAR⟩ := AR.of hj hA (by simp)
  have HJ := Lib.hid hj
  have hjw := lt_blk hj
  have A1 := Lib.hid (alloc_old (w := w) (o := .cells #[.int .i64 0, .int .i64 0, .string ⟨#[]⟩, .slice none 0 0] 28))
  have hr := Lib.hid (heap_alloc_new w (.cells #[.int .i64 0, .int .i64 0, .string ⟨#[]⟩, .slice none 0 0] 28))
  have RW := fun Y (hY : Below w.heap.size w Y) => RowD bS bM j D k now _ _ Y (SPG.below KL okL hS hY) (hj.below hY)
  obtain ⟨ys, hys⟩ : ∃ ys, (findD k D).getD [] = ys := ⟨_, rfl⟩
  simp only [hys] at RW hlen hok ⊢
  have RW := Lib.hid RW
  have hl2 : (NM :: k :: ts).length = ts.length + 2 := rfl
  rw [hl2] at HJ ⊢
  have c1 := (hAR.job _ A1.out).1
  have c2 := hAR.arg _ A1.out 1 k rfl
  rw [hl2] at c1
  have CJ := Lib.hid (fun Y hY => (hAR.job Y hY).1)
  rw [hl2] at CJ
  have CA := Lib.hid (fun Y hY i s (hs : ts[i]? = some s) => hAR.arg Y hY (i + 2) s (by simpa using hs))
  have hcap := hAR.len
  rw [hl2] at hcap
  have hcap2 := hAR.cap
  have i1 : (1 : Int) < ((ts.length + 2 : Nat) : Int) := by omega
  have hpos := List.length_pos_iff.2 hne
  have hc2 : ¬ cap = 2 := by omega
  have hl3 := pushT_len f ys ts
  obtain ⟨zs, hzs⟩ : ∃ zs, pushT f ys ts = zs := ⟨_, rfl⟩
  obtain ⟨m, hm⟩ : ∃ m : Nat, ys.length + ts.length = m := ⟨_, rfl⟩
  rw [hzs, hm] at hl3
  rw [hzs] at hok
  simp only [hzs, hm]
  have HZ := Lib.hid hzs
  have HL3 := Lib.hid hl3
  have HS := Lib.hid hS
  have HO := Lib.hid hok
  have HY := Lib.hid hlen
  clear hA hAR hys hj hS hok hzs hl3 hm
  go_enter Tryz.func16, Tryz.ntmps16
  go_wp2_with (first | (go_at_call 35; (with_reducible refine (RW.out _ A1.out).mono ?_); rintro e w1 ⟨A3, A4, A5, A6, an3, ac3, an4, ac4, an5, ac5, an6, ac6, p, l, rfl, hR1, h1⟩; have B1 := Lib.hid ((A1.out.trans (h1.mono (Below.size A1.out))).trans ((alloc_old (w := w1) (o := .cells #[.string k, .int .i64 2, .string ⟨#[]⟩, .slice A3 an3 ac3, .slice A4 an4 ac4, .slice A5 an5 ac5, .slice A6 an6 ac6, .int .i64 0] 45)).mono (by have := Below.size A1.out; have := Below.size h1; omega))); have R1 := Lib.hid (hR1.below (alloc_old (w := w1) (o := .cells #[.string k, .int .i64 2, .string ⟨#[]⟩, .slice A3 an3 ac3, .slice A4 an4 ac4, .slice A5 an5 ac5, .slice A6 an6 ac6, .int .i64 0] 45))); have r1 := Lib.hid (blk_below (blk_below hr.out h1) (alloc_old (w := w1) (o := .cells #[.string k, .int .i64 2, .string ⟨#[]⟩, .slice A3 an3 ac3, .slice A4 an4 ac4, .slice A5 an5 ac5, .slice A6 an6 ac6, .int .i64 0] 45))); have z1 := Lib.hid (heap_alloc_new w1 (.cells #[.string k, .int .i64 2, .string ⟨#[]⟩, .slice A3 an3 ac3, .slice A4 an4 ac4, .slice A5 an5 ac5, .slice A6 an6 ac6, .int .i64 0] 45)); have hw1 := Lib.hid (lt_blk (blk_below hr.out h1)); clear h1 hR1; refine Hid.out ?_))
  refine Lib.hid ?_
  have hcz : (w.alloc (.cells #[.int .i64 0, .int .i64 0, .string ⟨#[]⟩, .slice none 0 0] 28)).heap.size = w.heap.size + 1 := by simp
  have R1' := R1.out
  rw [hcz] at R1'
  have R1' := Lib.hid R1'
  clear R1 hcz
  have c3 := CJ.out _ B1.out
  go_wp2
  clear c3
  generalize (w1.alloc (.cells #[.string k, .int .i64 2, .string ⟨#[]⟩, .slice A3 an3 ac3, .slice A4 an4 ac4, .slice A5 an5 ac5, .slice A6 an6 ac6, .int .i64 0] 45)) = W1 at B1 R1' r1 z1 ⊢
  go_loopw [12, 39] (fun _ iv wr => ∃ (i : Nat) (l2 : Value), i ≤ ts.length ∧ iv = .int .i64 i ∧ Hid (RowL (w.heap.size + 1) wr p l2 (pushT f ys (ts.take i)) ∧ Below (w.heap.size + 1) W1 wr ∧ wr.heap[w1.heap.size]? = some (.cells #[.string k, .int .i64 2, .string ⟨#[]⟩, .slice A3 an3 ac3, .slice A4 an4 ac4, .slice A5 an5 ac5, .slice A6 an6 ac6, .int .i64 0] 45))) (fun _ iv _ => ts.length - (intOf iv).toNat)
  case atStart => exact ⟨0, l, Nat.zero_le _, rfl, Lib.hid ⟨by rw [List.take_zero, show pushT f ys [] = ys from by cases f <;> simp [pushT]]; exact R1'.out, Below.refl _ _, z1.out⟩⟩
  case round =>
    obtain ⟨i, l2, hi, rfl, HQ⟩ := hrel
    have BWr := Lib.hid (B1.out.trans (HQ.out.2.1.mono (Nat.le_succ _)))
    by_cases hlt : i < ts.length
    · obtain ⟨s, hs⟩ : ∃ s, ts[i]? = some s := ⟨_, List.getElem?_eq_getElem hlt⟩
      have ca := CA.out _ BWr.out i s hs
      rw [show off + (i + 2) = off + 2 + i by omega] at ca
      have q0 : (i : Int) < (ts.length : Int) := by omega
      have PU := RPush (w.heap.size + 1) p l2 (pushT f ys (ts.take i)) (by rw [pushT_len, List.length_take]; omega) f s wr HQ.out.1
      rw [← pushT_step f ys ts i s hs] at PU
      have PU := Lib.hid PU
      clear hs
      go_wp2_with (first | (go_at_call 37; (with_reducible refine (PU.out).mono ?_); rintro e w4 ⟨l4, rfl, h4, h5, h6⟩; have R4 := Lib.hid h4; have K4 := Lib.hid h6; clear h4 h5 h6))
      refine ⟨⟨i + 1, l4, by omega, by go_num, Lib.hid ⟨R4.out, HQ.out.1.own _ _ HQ.out.2.1 K4.out, ?_⟩⟩, by simp [intOf]; omega⟩
      refine (K4.out.block _ (lt_blk HQ.out.2.2) ⟨fun e => ?_, fun e => ?_⟩).trans HQ.out.2.2
      · have h1 := HQ.out.2.2
        rw [e, HQ.out.1.2.1] at h1
        simp at h1
      · exact HQ.out.1.ne_own HQ.out.2.2 (by decide) e
    · obtain rfl : i = ts.length := by omega
      have q0 : ¬ (ts.length : Int) < (ts.length : Int) := by omega
      have hQ := HQ.out
      rw [List.take_length] at hQ
      obtain ⟨hR, hB, hz⟩ := hQ
      rw [HZ.out] at hR
      have hl3 := HL3.out
      have TU := TurnL bS bM j D [] k zs now (.slice (some ⟨blk, off, none⟩) (ts.length + 2) cap) (.slice none 0 0) w.heap.size (w.heap.size + 1) p l2 2 ⟨#[]⟩ A3 A4 A5 A6 an3 ac3 an4 ac4 an5 ac5 an6 ac6 (fun _ => HO.out) (by have := HO.out.2.2.2.1; omega) wr (SPG.below KL okL HS.out BWr.out) (JD.below KL (JD.nil KL w.heap.size HJ.out) BWr.out) (Below.size BWr.out) (by simp) hR
      rw [List.nil_append, show xoL zs = some zs from if_neg HO.out.2.2.1] at TU
      have hre := (hB.block w.heap.size (Nat.lt_succ_self _)).trans r1.out
      have RL := fun X (hX : RowL (w.heap.size + 1) X p l2 zs) => RLen (w.heap.size + 1) p l2 zs X hX
      rw [hl3] at RL
      have RL := Lib.hid RL
      have TU := Lib.hid TU
      have RR := Lib.hid hR
      have RE := Lib.hid hre
      have IN := Lib.hid (fun X => Int75 (m : Int) X)
      obtain ⟨⟨p0, p1, p2, p3, p4, p5, p6, p7⟩, _, _⟩ := cells8 hz
      clear hR hB hz hre HQ hl3 hi hlt
      go_wp2_with (first | (go_at_call 38; (with_reducible refine (TU.out).mono ?_); rintro e w5 ⟨rfl, ⟨vl5, hJ5⟩, hK5⟩; have J5 := Lib.hid hJ5; have K5 := Lib.hid hK5; have L5 := Lib.hid (RL.out _ (RR.out.kept (fun i hi hl => hK5.block i hl ⟨by omega, by simp [Value.ownBlock]⟩))); have r5 := Lib.hid ((hK5.block w.heap.size (lt_blk RE.out) ⟨by omega, by simp [Value.ownBlock]⟩).trans RE.out); clear hJ5 hK5) | (go_at_call 39; (with_reducible refine (L5.out).mono ?_); rintro e w6 ⟨rfl, h1⟩; have B6 := Lib.hid h1; have r6 := Lib.hid (blk_below r5.out h1); clear h1) | (go_at_call 36; (with_reducible refine (IN.out _).mono ?_); rintro e w7 ⟨rfl, h1⟩; have B7 := Lib.hid (belT B6.out h1); have r7 := Lib.hid (blk_below r6.out h1); obtain ⟨⟨c0, c1, c2, c3⟩, ⟨f0, f1, f2, f3⟩⟩ := cells4 (blk_below r6.out h1); clear h1))
      exact bodyPost_ret (v := .agg #[.int .i64 3, .int .i64 (m : Int), .string ⟨#[]⟩, .slice none 0 0]) (by simp [results, Tryz.results16, go_sem, c0, c1, c2, c3]) rfl (endT hjw (JD.below KL J5.out B7.out) r7.out (((Kp.of BWr.out).trans (K5.out.mono (Below.size BWr.out) (fun i hi => ⟨hi, by simp [Value.ownBlock]⟩))).below_after B7.out (Nat.le_trans (Below.size BWr.out) K5.out.size)) _ _ _ _)
theorem JD.mono {w : World} {j bS : Nat} {now : Int} {vA : Value} {c d : Nat} {vl : Value} {des : List (ByteArray × Option (List ByteArray))} (h : JD KL w j bS now vA c vl des) (hd : d ≤ c) : JD KL w j bS now vA d vl des := by
  obtain ⟨h1, h2, css, h3, h4⟩ := h
  exact ⟨h1, h2, css, h3.mono hd, ALC.mono KL hd h4⟩
set_option maxRecDepth 100000 in
set_option maxHeartbeats 8000000 in
/-- LPUSH, RPUSH. -/
theorem cPUSH (f : Bool) (bS bM : Nat) (D : List (ByteArray × List ByteArray)) (now : Int) (NM k : ByteArray) (ts : List ByteArray) (hlen : ((findD k D).getD []).length + ts.length ≤ 31) (hne : ts ≠ []) (hok : okL k (pushT f ((findD k D).getD []) ts)) (p q : Nat) (w : World) (hp : w.heap[p]? = some (.cells #[.bool f] 4)) (hq : w.heap[q]? = some (.cells #[.bool false] 4)) : CmdD 15 #[.pointer (some ⟨p, 0, none⟩), .pointer (some ⟨q, 0, none⟩)] bS bM D now (NM :: k :: ts) 3 (((findD k D).getD []).length + ts.length : Nat) ⟨#[]⟩ R0 (dEff k (some (pushT f ((findD k D).getD []) ts)) D) w := by
  intro j vA hS hj hA
  show Calls Tryz.prog 15 #[.pointer (some ⟨j, 0, none⟩), .pointer (some ⟨p, 0, none⟩), .pointer (some ⟨q, 0, none⟩)] w _
  have hjw := lt_blk hj
  have A1 := Lib.hid (alloc_old (w := w) (o := .cells #[.int .i64 0, .int .i64 0, .string ⟨#[]⟩, .slice none 0 0] 28))
  have hr := Lib.hid (heap_alloc_new w (.cells #[.int .i64 0, .int .i64 0, .string ⟨#[]⟩, .slice none 0 0] 28))
  have hz : (w.alloc (.cells #[.int .i64 0, .int .i64 0, .string ⟨#[]⟩, .slice none 0 0] 28)).heap.size = w.heap.size + 1 := by simp
  have P := PUSHED f bS bM j D now NM k ts vA _ hlen hne hok (SPG.below KL okL hS A1.out) (hj.below A1.out) (hA.below A1.out)
  rw [hz] at P
  obtain ⟨des, hdes⟩ : ∃ des, dEff k (some (pushT f ((findD k D).getD []) ts)) D = des := ⟨_, rfl⟩
  obtain ⟨m, hm⟩ : ∃ m : Nat, ((findD k D).getD []).length + ts.length = m := ⟨_, rfl⟩
  simp only [hdes, hm] at P ⊢
  have P := Lib.hid P
  have b1 := cell_of_row _ p 0 _ 4 (0, 0) (blk_below hp A1.out)
  have b2 := cell_of_row _ q 0 _ 4 (0, 0) (blk_below hq A1.out)
  have b3 : (w.alloc (.cells #[.int .i64 0, .int .i64 0, .string ⟨#[]⟩, .slice none 0 0] 28)).cell? ⟨p, 0, none⟩ = some (.bool f) := b1
  have b4 : (w.alloc (.cells #[.int .i64 0, .int .i64 0, .string ⟨#[]⟩, .slice none 0 0] 28)).cell? ⟨q, 0, none⟩ = some (.bool false) := b2
  clear b1 b2 hS hj hA hp hq hz hok hdes hm
  go_enter Tryz.func15, Tryz.ntmps15
  go_wp2_with (first | (go_at_call 16; (with_reducible refine (P.out).mono ?_); rintro e w2 ⟨A, m2, c, rfl, hR0, ⟨vl, hJ2⟩, hK2⟩; have RZ := Lib.hid hR0; have J2 := Lib.hid hJ2; have K2 := Lib.hid hK2; have r2 := Lib.hid ((hK2.block w.heap.size (Nat.lt_succ_self _) (by omega)).trans hr.out); clear hR0 hJ2 hK2; obtain ⟨⟨c0, c1, c2, c3⟩, ⟨f0, f1, f2, f3⟩⟩ := cells4 r2.out))
  have hz : Value.slice A m2 c = .slice none 0 0 := RZ.out
  cases hz
  exact bodyPost_ret (v := .agg #[.int .i64 3, .int .i64 (m : Int), .string ⟨#[]⟩, .slice none 0 0]) (by simp [results, Tryz.results15, go_sem, c0, c1, c2, c3]) rfl (endT hjw (JD.mono J2.out (Nat.le_succ _)) r2.out ((Kp.of A1.out).trans (K2.out.mono (Nat.le_succ _) (fun _ h => h))) _ _ _ _)
end Go.Proofs.YtjljljjmdlddkaaGreat

/- Commands of lists: LPOP, RPOP. -/
namespace Go.Proofs.YtjljljjmdlddkaaGreat
open Go.ChangeShapes Go.WideShapes Go.ChangeAt Go.RowKit

theorem okL_erase {k : ByteArray} {ys : List ByteArray} (h : okL k ys) (i : Nat) (hne : ys.eraseIdx i ≠ []) : okL k (ys.eraseIdx i) := by
  obtain ⟨h1, h2, _, h4, h5⟩ := h
  refine ⟨h1, h2, hne, ?_, fun s hs => h5 s (List.mem_of_mem_eraseIdx hs)⟩
  have := List.length_eraseIdx_le ys i
  omega
theorem SPG.okOf {w : World} {bS bM : Nat} {D : List (ByteArray × List ByteArray)} (h : SPG KL okL w bS bM D) {k : ByteArray} {ys : List ByteArray} (hf : findD k D = some ys) : okL k ys := h.2 _ (findD_mem hf)
set_option maxRecDepth 100000 in
set_option maxHeartbeats 8000000 in
theorem POPPED (f : Bool) (bS bM j : Nat) (D : List (ByteArray × List ByteArray)) (now : Int) (NM k : ByteArray) (ys : List ByteArray) (hf : findD k D = some ys) (s : ByteArray) (hs : ys[if f then 0 else ys.length - 1]? = some s) (vA : Value) (w : World) (hS : SPG KL okL w bS bM D) (hj : JB w j bS now vA (.slice none 0 0)) (hA : SSl w vA [NM, k]) : Calls Tryz.prog 19 #[.pointer (some ⟨j, 0, none⟩), .bool f] w fun e w' => ∃ A m c, e = .returned (.agg #[.int .i64 4, .int .i64 0, .string s, .slice A m c]) ∧ R0 w.heap.size w' (.slice A m c) ∧
      (∃ vl, JD KL w' j bS now vA w.heap.size vl (dEff k (xoL (ys.eraseIdx (if f then 0 else ys.length - 1))) D)) ∧ Kp w.heap.size (fun i => i ≠ j) w w' := by
  have hok := hS.okOf hf
  have hok2 := fun h => okL_erase hok (if f then 0 else ys.length - 1) h
  have hln := hok.2.2.2.1
  obtain ⟨blk, off, cap, rfl, hAR⟩ := AR.of hj hA (by simp)
  have HJ := Lib.hid hj
  have hjw := lt_blk hj
  have A1 := Lib.hid (alloc_old (w := w) (o := .cells #[.int .i64 0, .int .i64 0, .string ⟨#[]⟩, .slice none 0 0] 28))
  have hr := Lib.hid (heap_alloc_new w (.cells #[.int .i64 0, .int .i64 0, .string ⟨#[]⟩, .slice none 0 0] 28))
  have RW := fun Y (hY : Below w.heap.size w Y) => RowD bS bM j D k now _ _ Y (SPG.below KL okL hS hY) (hj.below hY)
  simp only [hf, Option.getD_some] at RW
  have RW := Lib.hid RW
  have PO := fun c p l X hX => RPop c p l ys hok.2.2.1 (by omega) f s hs X hX
  obtain ⟨zs, hzs⟩ : ∃ zs, ys.eraseIdx (if f then 0 else ys.length - 1) = zs := ⟨_, rfl⟩
  have hzl : zs.length ≤ 31 := by rw [← hzs]; have := List.length_eraseIdx_le ys (if f then 0 else ys.length - 1); omega
  simp only [hzs] at PO hok2 ⊢
  have PO := Lib.hid PO
  have hl2 : ([NM, k] : List ByteArray).length = 2 := rfl
  rw [hl2] at HJ ⊢
  have c1 := (hAR.job _ A1.out).1
  have c2 := hAR.arg _ A1.out 1 k rfl
  rw [hl2] at c1
  have HS := Lib.hid hS
  have HO := Lib.hid hok2
  have BU := Lib.hid (fun X => Bulk67 s X)
  clear hA hAR hj hS hok hok2 hs hzs hf hln
  go_enter Tryz.func19, Tryz.ntmps19
  go_wp2_with (first | (go_at_call 35; (with_reducible refine (RW.out _ A1.out).mono ?_); rintro e w1 ⟨A3, A4, A5, A6, an3, ac3, an4, ac4, an5, ac5, an6, ac6, p, l, rfl, hR1, h1⟩; have B1 := Lib.hid ((A1.out.trans (h1.mono (Below.size A1.out))).trans ((alloc_old (w := w1) (o := .cells #[.string k, .int .i64 2, .string ⟨#[]⟩, .slice A3 an3 ac3, .slice A4 an4 ac4, .slice A5 an5 ac5, .slice A6 an6 ac6, .int .i64 0] 45)).mono (by have := Below.size A1.out; have := Below.size h1; omega))); have R1 := Lib.hid (hR1.below (alloc_old (w := w1) (o := .cells #[.string k, .int .i64 2, .string ⟨#[]⟩, .slice A3 an3 ac3, .slice A4 an4 ac4, .slice A5 an5 ac5, .slice A6 an6 ac6, .int .i64 0] 45))); have r1 := Lib.hid (blk_below (blk_below hr.out h1) (alloc_old (w := w1) (o := .cells #[.string k, .int .i64 2, .string ⟨#[]⟩, .slice A3 an3 ac3, .slice A4 an4 ac4, .slice A5 an5 ac5, .slice A6 an6 ac6, .int .i64 0] 45))); have z1 := Lib.hid (heap_alloc_new w1 (.cells #[.string k, .int .i64 2, .string ⟨#[]⟩, .slice A3 an3 ac3, .slice A4 an4 ac4, .slice A5 an5 ac5, .slice A6 an6 ac6, .int .i64 0] 45)); have hw1 := Lib.hid (lt_blk (blk_below hr.out h1)); clear h1 hR1; have Q1 := Lib.hid (PO.out _ p l _ R1.out)) | (go_at_call 40; (with_reducible refine (Q1.out).mono ?_); rintro e w3 ⟨rfl, ⟨l3, hR3, ho3⟩, hK3⟩; refine Hid.out ?_))
  refine Lib.hid ?_
  have hcz : (w.alloc (.cells #[.int .i64 0, .int .i64 0, .string ⟨#[]⟩, .slice none 0 0] 28)).heap.size = w.heap.size + 1 := by simp
  have R1' := R1.out
  rw [hcz] at R1' hR3
  have B3 := R1'.own _ _ (Below.refl _ _) hK3
  have BW := Lib.hid (B1.out.trans (B3.mono (Nat.le_succ _)))
  have R3 := Lib.hid hR3
  have r3 := Lib.hid ((B3.block w.heap.size (Nat.lt_succ_self _)).trans r1.out)
  have z3 := (hK3.block w1.heap.size (lt_blk z1.out) ⟨fun e => by
    have h1 := z1.out
    rw [e, R1'.2.1] at h1
    simp at h1, R1'.ne_own z1.out (by decide)⟩).trans z1.out
  obtain ⟨⟨p0, p1, p2, p3, p4, p5, p6, p7⟩, _, _⟩ := cells8 z3
  have TU := Lib.hid (TurnL bS bM j D [] k zs now (.slice (some ⟨blk, off, none⟩) 2 cap) (.slice none 0 0) w.heap.size (w.heap.size + 1) p l3 2 ⟨#[]⟩ A3 A4 A5 A6 an3 ac3 an4 ac4 an5 ac5 an6 ac6 HO.out (by omega) w3 (SPG.below KL okL HS.out BW.out) (JD.below KL (JD.nil KL w.heap.size HJ.out) BW.out) (Below.size BW.out) (by simp) hR3)
  clear hR3 ho3 hK3 R1' B3 z3 hcz
  go_wp2_with (first | (go_at_call 38; (with_reducible refine (TU.out).mono ?_); rintro e w5 ⟨rfl, ⟨vl5, hJ5⟩, hK5⟩; have J5 := Lib.hid hJ5; have K5 := Lib.hid hK5; have r5 := Lib.hid ((hK5.block w.heap.size (lt_blk r3.out) ⟨by omega, by simp [Value.ownBlock]⟩).trans r3.out); clear hJ5 hK5) | (go_at_call 42; (with_reducible refine (BU.out _).mono ?_); rintro e w7 ⟨rfl, h1⟩; have B7 := Lib.hid h1; have r7 := Lib.hid (blk_below r5.out h1); obtain ⟨⟨c0, c1, c2, c3⟩, ⟨f0, f1, f2, f3⟩⟩ := cells4 (blk_below r5.out h1); clear h1))
  exact bodyPost_ret (v := .agg #[.int .i64 4, .int .i64 0, .string s, .slice none 0 0]) (by simp [results, Tryz.results19, go_sem, c0, c1, c2, c3]) rfl (endT hjw (JD.below KL J5.out B7.out) r7.out (((Kp.of BW.out).trans (K5.out.mono (Below.size BW.out) (fun i hi => ⟨hi, by simp [Value.ownBlock]⟩))).below_after B7.out (Nat.le_trans (Below.size BW.out) K5.out.size)) _ _ _ _)
set_option maxRecDepth 100000 in
set_option maxHeartbeats 8000000 in
theorem POPPED0 (f : Bool) (bS bM j : Nat) (D : List (ByteArray × List ByteArray)) (now : Int) (NM k : ByteArray) (hf : findD k D = none) (vA : Value) (w : World) (hS : SPG KL okL w bS bM D) (hj : JB w j bS now vA (.slice none 0 0)) (hA : SSl w vA [NM, k]) : Calls Tryz.prog 19 #[.pointer (some ⟨j, 0, none⟩), .bool f] w fun e w' => e = .returned (.agg #[.int .i64 5, .int .i64 0, .string ⟨#[]⟩, .slice none 0 0]) ∧ Below w.heap.size w w' := by
  obtain ⟨blk, off, cap, rfl, hAR⟩ := AR.of hj hA (by simp)
  have A1 := Lib.hid (alloc_old (w := w) (o := .cells #[.int .i64 0, .int .i64 0, .string ⟨#[]⟩, .slice none 0 0] 28))
  have hr := Lib.hid (heap_alloc_new w (.cells #[.int .i64 0, .int .i64 0, .string ⟨#[]⟩, .slice none 0 0] 28))
  have RW := fun Y (hY : Below w.heap.size w Y) => RowD bS bM j D k now _ _ Y (SPG.below KL okL hS hY) (hj.below hY)
  simp only [hf, Option.getD_none] at RW
  have RW := Lib.hid RW
  have PO := Lib.hid (fun c p l X hX => RPop0 c p l f X hX)
  have hl2 : ([NM, k] : List ByteArray).length = 2 := rfl
  have c1 := (hAR.job _ A1.out).1
  have c2 := hAR.arg _ A1.out 1 k rfl
  rw [hl2] at c1
  have NI := Lib.hid (fun X => Nil66 X)
  clear hA hAR hj hS hf
  go_enter Tryz.func19, Tryz.ntmps19
  go_wp2_with (first | (go_at_call 35; (with_reducible refine (RW.out _ A1.out).mono ?_); rintro e w1 ⟨A3, A4, A5, A6, an3, ac3, an4, ac4, an5, ac5, an6, ac6, p, l, rfl, hR1, h1⟩; have B1 := Lib.hid ((A1.out.trans (h1.mono (Below.size A1.out))).trans ((alloc_old (w := w1) (o := .cells #[.string k, .int .i64 2, .string ⟨#[]⟩, .slice A3 an3 ac3, .slice A4 an4 ac4, .slice A5 an5 ac5, .slice A6 an6 ac6, .int .i64 0] 45)).mono (by have := Below.size A1.out; have := Below.size h1; omega))); have R1 := Lib.hid (hR1.below (alloc_old (w := w1) (o := .cells #[.string k, .int .i64 2, .string ⟨#[]⟩, .slice A3 an3 ac3, .slice A4 an4 ac4, .slice A5 an5 ac5, .slice A6 an6 ac6, .int .i64 0] 45))); have r1 := Lib.hid (blk_below (blk_below hr.out h1) (alloc_old (w := w1) (o := .cells #[.string k, .int .i64 2, .string ⟨#[]⟩, .slice A3 an3 ac3, .slice A4 an4 ac4, .slice A5 an5 ac5, .slice A6 an6 ac6, .int .i64 0] 45))); have z1 := Lib.hid (heap_alloc_new w1 (.cells #[.string k, .int .i64 2, .string ⟨#[]⟩, .slice A3 an3 ac3, .slice A4 an4 ac4, .slice A5 an5 ac5, .slice A6 an6 ac6, .int .i64 0] 45)); have hw1 := Lib.hid (lt_blk (blk_below hr.out h1)); clear h1 hR1; have Q1 := Lib.hid (PO.out _ p l _ R1.out)) | (go_at_call 40; (with_reducible refine (Q1.out).mono ?_); rintro e w3 ⟨rfl, h1⟩; have B3 := Lib.hid (B1.out.trans (h1.mono (Below.size B1.out))); have r3 := Lib.hid (blk_below r1.out h1); clear h1) | (go_at_call 41; (with_reducible refine (NI.out _).mono ?_); rintro e w7 ⟨rfl, h1⟩; have B7 := Lib.hid (B3.out.trans (h1.mono (Below.size B3.out))); obtain ⟨⟨c0, c1, c2, c3⟩, ⟨f0, f1, f2, f3⟩⟩ := cells4 (blk_below r3.out h1); clear h1))
  exact bodyPost_ret (v := .agg #[.int .i64 5, .int .i64 0, .string ⟨#[]⟩, .slice none 0 0]) (by simp [results, Tryz.results19, go_sem, c0, c1, c2, c3]) rfl ⟨rfl, ((((B7.out.setCell (Nat.le_refl _) _).setCell (Nat.le_refl _) _).setCell (Nat.le_refl _) _).setCell (Nat.le_refl _) _)⟩
set_option maxRecDepth 100000 in
set_option maxHeartbeats 8000000 in
/-- LPOP, RPOP. -/
theorem cPOP (f : Bool) (bS bM : Nat) (D : List (ByteArray × List ByteArray)) (now : Int) (NM k : ByteArray) (ys : List ByteArray) (hf : findD k D = some ys) (s : ByteArray) (hs : ys[if f then 0 else ys.length - 1]? = some s) (p : Nat) (w : World) (hp : w.heap[p]? = some (.cells #[.bool f] 4)) : CmdD 18 #[.pointer (some ⟨p, 0, none⟩)] bS bM D now [NM, k] 4 0 s R0 (dEff k (xoL (ys.eraseIdx (if f then 0 else ys.length - 1))) D) w := by
  intro j vA hS hj hA
  show Calls Tryz.prog 18 #[.pointer (some ⟨j, 0, none⟩), .pointer (some ⟨p, 0, none⟩)] w _
  have hjw := lt_blk hj
  have A1 := Lib.hid (alloc_old (w := w) (o := .cells #[.int .i64 0, .int .i64 0, .string ⟨#[]⟩, .slice none 0 0] 28))
  have hr := Lib.hid (heap_alloc_new w (.cells #[.int .i64 0, .int .i64 0, .string ⟨#[]⟩, .slice none 0 0] 28))
  have hz : (w.alloc (.cells #[.int .i64 0, .int .i64 0, .string ⟨#[]⟩, .slice none 0 0] 28)).heap.size = w.heap.size + 1 := by simp
  have P := POPPED f bS bM j D now NM k ys hf s hs vA _ (SPG.below KL okL hS A1.out) (hj.below A1.out) (hA.below A1.out)
  rw [hz] at P
  obtain ⟨des, hdes⟩ : ∃ des, dEff k (xoL (ys.eraseIdx (if f then 0 else ys.length - 1))) D = des := ⟨_, rfl⟩
  simp only [hdes] at P ⊢
  have P := Lib.hid P
  have b1 := cell_of_row _ p 0 _ 4 (0, 0) (blk_below hp A1.out)
  have b3 : (w.alloc (.cells #[.int .i64 0, .int .i64 0, .string ⟨#[]⟩, .slice none 0 0] 28)).cell? ⟨p, 0, none⟩ = some (.bool f) := b1
  clear b1 hS hj hA hp hz hdes hs
  go_enter Tryz.func18, Tryz.ntmps18
  go_wp2_with (first | (go_at_call 19; (with_reducible refine (P.out).mono ?_); rintro e w2 ⟨A, m2, c, rfl, hR0, ⟨vl, hJ2⟩, hK2⟩; have RZ := Lib.hid hR0; have J2 := Lib.hid hJ2; have K2 := Lib.hid hK2; have r2 := Lib.hid ((hK2.block w.heap.size (Nat.lt_succ_self _) (by omega)).trans hr.out); clear hR0 hJ2 hK2; obtain ⟨⟨c0, c1, c2, c3⟩, ⟨f0, f1, f2, f3⟩⟩ := cells4 r2.out))
  have hz : Value.slice A m2 c = .slice none 0 0 := RZ.out
  cases hz
  exact bodyPost_ret (v := .agg #[.int .i64 4, .int .i64 0, .string s, .slice none 0 0]) (by simp [results, Tryz.results18, go_sem, c0, c1, c2, c3]) rfl (endT hjw (JD.mono J2.out (Nat.le_succ _)) r2.out ((Kp.of A1.out).trans (K2.out.mono (Nat.le_succ _) (fun _ h => h))) _ _ _ _)
set_option maxRecDepth 100000 in
set_option maxHeartbeats 8000000 in
theorem cPOP0 (f : Bool) (bS bM : Nat) (D : List (ByteArray × List ByteArray)) (now : Int) (NM k : ByteArray) (hf : findD k D = none) (p : Nat) (w : World) (hp : w.heap[p]? = some (.cells #[.bool f] 4)) : CmdD 18 #[.pointer (some ⟨p, 0, none⟩)] bS bM D now [NM, k] 5 0 ⟨#[]⟩ R0 [] w := by
  intro j vA hS hj hA
  show Calls Tryz.prog 18 #[.pointer (some ⟨j, 0, none⟩), .pointer (some ⟨p, 0, none⟩)] w _
  have A1 := Lib.hid (alloc_old (w := w) (o := .cells #[.int .i64 0, .int .i64 0, .string ⟨#[]⟩, .slice none 0 0] 28))
  have hr := Lib.hid (heap_alloc_new w (.cells #[.int .i64 0, .int .i64 0, .string ⟨#[]⟩, .slice none 0 0] 28))
  have P := Lib.hid (POPPED0 f bS bM j D now NM k hf vA _ (SPG.below KL okL hS A1.out) (hj.below A1.out) (hA.below A1.out))
  have HJ := Lib.hid hj
  have b1 := cell_of_row _ p 0 _ 4 (0, 0) (blk_below hp A1.out)
  have b3 : (w.alloc (.cells #[.int .i64 0, .int .i64 0, .string ⟨#[]⟩, .slice none 0 0] 28)).cell? ⟨p, 0, none⟩ = some (.bool f) := b1
  clear b1 hS hj hA hp
  go_enter Tryz.func18, Tryz.ntmps18
  go_wp2_with (first | (go_at_call 19; (with_reducible refine (P.out).mono ?_); rintro e w2 ⟨rfl, h1⟩; have B2 := Lib.hid (A1.out.trans (h1.mono (Below.size A1.out))); obtain ⟨⟨c0, c1, c2, c3⟩, ⟨f0, f1, f2, f3⟩⟩ := cells4 (blk_below hr.out h1); clear h1))
  exact bodyPost_ret (v := .agg #[.int .i64 5, .int .i64 0, .string ⟨#[]⟩, .slice none 0 0]) (by simp [results, Tryz.results18, go_sem, c0, c1, c2, c3]) rfl (endD HJ.out ((((B2.out.setCell (Nat.le_refl _) _).setCell (Nat.le_refl _) _).setCell (Nat.le_refl _) _).setCell (Nat.le_refl _) _))
end Go.Proofs.YtjljljjmdlddkaaGreat
