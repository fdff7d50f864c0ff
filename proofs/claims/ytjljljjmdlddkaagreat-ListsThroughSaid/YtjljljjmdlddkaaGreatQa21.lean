/- Texts joined: L5, Ch10, L6 -/
import Derived.Test.YtjljljjmdlddkaaGreatQa20
import Derived.Test.YtjljljjmdlddkaaGreatQa19
import Derived.Test.YtjljljjmdlddkaaGreatQa4

/- lists.Do where a command is refused; a law's do at a space as data. -/
namespace Go.Proofs.YtjljljjmdlddkaaGreat
open Go.ChangeShapes Go.WideShapes Go.ChangeAt Go.RowKit

set_option maxRecDepth 100000 in
set_option maxHeartbeats 8000000 in
theorem Do_failL (RAW NAME : ByteArray) (F : FuncId) (bS bM : Nat) (l : MapT.Ents) (now : Int) (xs : List ByteArray) (vA : Value) (n : Int) (w : World) (hS : SP w bS bM l) (hA : SSl w vA xs) (hx : xs[0]? = some RAW) (hfit : ∀ X, SSl X vA xs → Calls Tryz.prog 43 #[vA] X fun e w' => e = .returned (.int .i64 0) ∧ Below X.heap.size X w') (hup : ∀ X, Calls Tryz.prog 44 #[.string RAW] X fun e w' => e = .returned (.string NAME) ∧ Below X.heap.size X w')
    (hSel : ∀ (u1 u2 u3 u4 u5 u6 : Value), MapT.find NAME (flL u1 u2 u3 u4 u5 u6) = some (.func (.func F) #[] #[])) (hent : ∀ (args : Array Value) (w : World), (callFunc F args).run Tryz.prog w = .ok (.enter F args) w) (hF : CmdFail w F bS bM l now xs n) :
    Calls Tryz.prog 8 #[.pointer (some ⟨bS, 0, none⟩), .int .i64 now, vA] w fun e w' => e = .returned (.tuple #[.agg #[.int .i64 2, .int .i64 n, .string ⟨#[]⟩, .slice none 0 0], .slice none 0 0, .bool true]) ∧ Below w.heap.size w w' := by
  have hmm := @run_makeMap Tryz.prog
  have hmf : ∀ (fn : Fn) (first cap : Array Value) (w : World), (Instr.makeFunc fn first cap).run Tryz.prog w = .ok (.func fn first cap) w := fun _ _ _ _ => rfl
  have Q9 := Lib.hid (show DoSt w ((w.alloc (.cells #[.int .i64 0, .int .i64 0, .string ⟨#[]⟩, .slice none 0 0] 28)).alloc (.map #[] 0)) (w.heap.size + 1) [] [] from ⟨by
    have := MapT.MB.made (w.alloc (.cells #[.int .i64 0, .int .i64 0, .string ⟨#[]⟩, .slice none 0 0] 28))
    rw [World.size_alloc] at this
    exact this, alloc_old.trans (alloc_old.mono (by simp)), by omega, blk_below (heap_alloc_new w _) alloc_old, fun _ h => by cases h⟩)
  have RR := Lib.hid (fun X (u1 u2 u3 u4 u5 u6 : Value) (hX : DoSt w X (w.heap.size + 1) (flL u1 u2 u3 u4 u5 u6) [BP (w.heap.size + 1) u6 false, BP (w.heap.size + 1) u5 true, BX (w.heap.size + 1) u4 false true, BX (w.heap.size + 1) u3 true true, BX (w.heap.size + 1) u2 false false, BX (w.heap.size + 1) u1 true false]) => (show Calls Tryz.prog 20 #[.pointer (some ⟨bS, 0, none⟩), .int .i64 now, vA, .map (some (w.heap.size + 1))] X (fun e w' => e = .returned (.tuple #[.agg #[.int .i64 2, .int .i64 n, .string ⟨#[]⟩, .slice none 0 0], .slice none 0 0, .bool true]) ∧ Below X.heap.size X w') from by
    exact Run_fail w RAW NAME F bS bM (w.heap.size + 1) l _ now xs vA n hF X hX.below (hS.below hX.below) (hA.below hX.below) hX.mb (hSel u1 u2 u3 u4 u5 u6) hx hent hfit hup))
  have P1 := Lib.hid (fun X hb => PUSH (w.heap.size + 1) true false X hb)
  have P2 := Lib.hid (fun X hb => PUSH (w.heap.size + 1) false false X hb)
  have P3 := Lib.hid (fun X hb => PUSH (w.heap.size + 1) true true X hb)
  have P4 := Lib.hid (fun X hb => PUSH (w.heap.size + 1) false true X hb)
  have P5 := Lib.hid (fun X hb => POP (w.heap.size + 1) true X hb)
  have P6 := Lib.hid (fun X hb => POP (w.heap.size + 1) false X hb)
  obtain ⟨aA, acap, hvA, _⟩ := id hA
  clear hfit hup hA hS hx hSel hent hF
  subst hvA
  go_enter Tryz.func8, Tryz.ntmps8
  go_wp2_with (first | (refine MapT.at_insertF _ rfl rfl _ _ _ rfl Tryz.underlying62 Tryz.underlying9 (w.heap.size + 1) _ rfl Q9.out.mb ?_; intro w9 hM9 hg9; have Q9 := Lib.hid (Q9.out.ins hM9 hg9); clear hM9 hg9) | (refine MapT.at_insertL _ rfl rfl _ _ _ rfl Tryz.underlying62 Tryz.underlying9 (w.heap.size + 1) _ rfl Q9.out.mb u rfl ?_; intro w9 hM9 hg9; have Q9 := Lib.hid (Q9.out.ins hM9 hg9); clear hM9 hg9) | (go_at_call 14; (first | (with_reducible refine (P1.out _ Q9.out.mb.lt).mono ?_) | (with_reducible refine (P2.out _ Q9.out.mb.lt).mono ?_) | (with_reducible refine (P3.out _ Q9.out.mb.lt).mono ?_) | (with_reducible refine (P4.out _ Q9.out.mb.lt).mono ?_)); rintro e w8 ⟨u, rfl, hu, h8⟩; have Q9 := Lib.hid (Q9.out.call h8 hu (BX.keep _ _ _ _)); clear hu h8) | (go_at_call 17; (first | (with_reducible refine (P5.out _ Q9.out.mb.lt).mono ?_) | (with_reducible refine (P6.out _ Q9.out.mb.lt).mono ?_)); rintro e w8 ⟨u, rfl, hu, h8⟩; have Q9 := Lib.hid (Q9.out.call h8 hu (BP.keep _ _ _)); clear hu h8) | (go_at_call 20; (with_reducible refine (RR.out _ _ _ _ _ _ _ Q9.out).mono ?_); rintro e w5 ⟨rfl, hb5⟩; have B5 := Lib.hid hb5; obtain ⟨⟨a0, a1, a2, a3⟩, ⟨f0, f1, f2, f3⟩⟩ := cells4 (blk_below Q9.out.reply hb5); clear hb5))
  have BW := Lib.hid (Q9.out.below.trans (B5.out.mono (Below.size Q9.out.below)))
  exact bodyPost_ret (v := .tuple #[.agg #[.int .i64 2, .int .i64 n, .string ⟨#[]⟩, .slice none 0 0], .slice none 0 0, .bool true]) (by simp [results, Tryz.results8, go_sem, a0, a1, a2, a3]) rfl ⟨rfl, (((BW.out.setCell (p := ⟨w.heap.size, 0, none⟩) (Nat.le_refl _) _).setCell (p := ⟨w.heap.size, 1, none⟩) (Nat.le_refl _) _).setCell (p := ⟨w.heap.size, 2, none⟩) (Nat.le_refl _) _).setCell (p := ⟨w.heap.size, 3, none⟩) (Nat.le_refl _) _⟩
/-- A command's function at a world, over data: its reply, its effects. -/
def CmdD (F : FuncId) (caps : Array Value) (bS bM : Nat) (D : List (ByteArray × List ByteArray)) (now : Int) (xs : List ByteArray) (k n : Int) (s : ByteArray) (R : Nat → World → Value → Prop) (des : List (ByteArray × Option (List ByteArray))) (X : World) : Prop :=
  ∀ (j : Nat) (vA : Value), SPG KL okL X bS bM D → JB X j bS now vA (.slice none 0 0) → SSl X vA xs →
    Calls Tryz.prog F (#[.pointer (some ⟨j, 0, none⟩)] ++ caps) X fun e w' => ∃ A m c, e = .returned (.agg #[.int .i64 k, .int .i64 n, .string s, .slice A m c]) ∧ R X.heap.size w' (.slice A m c) ∧
      (∃ vl, JD KL w' j bS now vA X.heap.size vl des) ∧ Kp X.heap.size (fun i => i ≠ j) X w'
/-- A law's do. -/
theorem do_D (RAW NAME : ByteArray) (bS bM : Nat) (D : List (ByteArray × List ByteArray)) (xs : List ByteArray) (vA : Value) (k n : Int) (s : ByteArray) (R : Nat → World → Value → Prop) (hR : RKeep R) (des : List (ByteArray × Option (List ByteArray))) (hm : MayD okL des D) (w : World) (hS : SPG KL okL w bS bM D) (hA : SSl w vA xs) (hx : xs[0]? = some RAW) (hfit : ∀ X, SSl X vA xs → Calls Tryz.prog 43 #[vA] X fun e w' => e = .returned (.int .i64 0) ∧ Below X.heap.size X w') (hup : ∀ X, Calls Tryz.prog 44 #[.string RAW] X fun e w' => e = .returned (.string NAME) ∧ Below X.heap.size X w')
    (hSel : ∀ (W : World) (bm : Nat) (u1 u2 u3 u4 u5 u6 : Value), Below w.heap.size w W → BX bm u1 true false W → BX bm u2 false false W → BX bm u3 true true W → BX bm u4 false true W → BP bm u5 true W → BP bm u6 false W → ∃ F caps, MapT.find NAME (flL u1 u2 u3 u4 u5 u6) = some (.func (.func F) #[] caps) ∧ (∀ (args : Array Value) (w : World), (callFunc F args).run Tryz.prog w = .ok (.enter F args) w) ∧ ∀ X, Below W.heap.size W X → CmdD F caps bS bM D 1 xs k n s R des X) :
    Calls Tryz.prog 6 #[.pointer (some ⟨bS, 0, none⟩), vA] w fun e w' => ∃ A m c, e = .returned (.agg #[.int .i64 k, .int .i64 n, .string s, .slice A m c]) ∧ R w.heap.size w' (.slice A m c) ∧ SPG KL okL w' bS bM (applyD des D) ∧ Kp w.heap.size (fun i => i ≠ bS ∧ i ≠ bM) w w' := by
  refine do_okG KL okL KLok bS bM D vA k n s R hR des hm w hS (fun X hX => ?_)
  obtain ⟨⟨l, hSP, hAE⟩, hall⟩ := SPG.below KL okL hS hX
  refine Do_okL RAW NAME bS bM l 1 xs vA k n s R (EL KL des) hR (EL.keep KL des) X hSP (hA.below hX) hx hfit hup (fun W bm u1 u2 u3 u4 u5 u6 hW h1 h2 h3 h4 h5 h6 => ?_)
  obtain ⟨F, caps, g1, g2, g3⟩ := hSel W bm u1 u2 u3 u4 u5 u6 (hX.trans (hW.mono (Below.size hX))) h1 h2 h3 h4 h5 h6
  refine ⟨F, caps, g1, g2, fun Y j vB hY _ hJ hss => ?_⟩
  refine (g3 Y hY j vB (SPG.below KL okL hS ((hX.trans (hW.mono (Below.size hX))).trans (hY.mono (Nat.le_trans (Below.size hX) (Below.size hW))))) hJ hss).mono ?_
  rintro e w' ⟨A, m, c, rfl, hRR, ⟨vl, ⟨A', n', c', rfl⟩, hJ', css, hE', hA'⟩, hK⟩
  exact ⟨A, m, c, rfl, hRR, ⟨A', n', c', hJ', css, hE', hA'⟩, hK⟩
/-- A plain command. -/
theorem do_plain (RAW NAME : ByteArray) (F : FuncId) (bS bM : Nat) (D : List (ByteArray × List ByteArray)) (xs : List ByteArray) (vA : Value) (k n : Int) (s : ByteArray) (R : Nat → World → Value → Prop) (hR : RKeep R) (des : List (ByteArray × Option (List ByteArray))) (hm : MayD okL des D) (w : World) (hS : SPG KL okL w bS bM D) (hA : SSl w vA xs) (hx : xs[0]? = some RAW) (hfit : ∀ X, SSl X vA xs → Calls Tryz.prog 43 #[vA] X fun e w' => e = .returned (.int .i64 0) ∧ Below X.heap.size X w') (hup : ∀ X, Calls Tryz.prog 44 #[.string RAW] X fun e w' => e = .returned (.string NAME) ∧ Below X.heap.size X w')
    (hsel : ∀ (u1 u2 u3 u4 u5 u6 : Value), MapT.find NAME (flL u1 u2 u3 u4 u5 u6) = some (.func (.func F) #[] #[])) (hent : ∀ (args : Array Value) (w : World), (callFunc F args).run Tryz.prog w = .ok (.enter F args) w) (hF : ∀ X, Below w.heap.size w X → CmdD F #[] bS bM D 1 xs k n s R des X) :
    Calls Tryz.prog 6 #[.pointer (some ⟨bS, 0, none⟩), vA] w fun e w' => ∃ A m c, e = .returned (.agg #[.int .i64 k, .int .i64 n, .string s, .slice A m c]) ∧ R w.heap.size w' (.slice A m c) ∧ SPG KL okL w' bS bM (applyD des D) ∧ Kp w.heap.size (fun i => i ≠ bS ∧ i ≠ bM) w w' :=
  do_D RAW NAME bS bM D xs vA k n s R hR des hm w hS hA hx hfit hup (fun _ _ u1 u2 u3 u4 u5 u6 hW _ _ _ _ _ _ => ⟨F, #[], hsel u1 u2 u3 u4 u5 u6, hent, fun X hX => hF X (hW.trans (hX.mono (Below.size hW)))⟩)
end Go.Proofs.YtjljljjmdlddkaaGreat

/- chunk.Row: At, Set, Slice. -/
namespace Go.Proofs.YtjljljjmdlddkaaGreat
open Go.ChangeShapes Go.WideShapes Go.ChangeAt Go.RowKit

set_option maxRecDepth 100000 in
set_option maxHeartbeats 4000000 in
/-- The text at a place. -/
theorem RAt (c p : Nat) (l : Value) (xs : List ByteArray) (hn : xs.length ≤ 1000000) (i : Nat) (s : ByteArray) (hs : xs[i]? = some s) (w : World) (h : RowL c w p l xs) : Calls Tryz.prog 49 #[.pointer (some ⟨p, 0, none⟩), .int .i64 i] w fun e w' => e = .returned (.tuple #[.string s, .bool true]) ∧ Below w.heap.size w w' := by
  have hjl : i < xs.length := (List.getElem?_eq_some_iff.1 hs).1
  have PL := RPlace c p l xs hn i (by omega) w h
  rw [show plI i xs.length = i from if_neg (by omega), decide_eq_true (by omega)] at PL
  obtain ⟨hc, hp, ⟨rfl, _⟩ | ⟨_, q, C, cs, g, C2, hcq, hcg, rfl, hq, hz, hC, hCm, h0, hT⟩⟩ := h
  · simp at hjl
  have FD := fun X h1 h2 => RFind p q C xs.length C2 (.int .i64 (xs.length : Int)) cs (some ⟨g, 0, none⟩) i (by omega) (by omega) X h1 h2 h0
  rw [show findR i xs.length = .tuple #[.int .i64 0, .int .i64 i] from if_pos hjl] at FD
  obtain ⟨n, hnn⟩ : ∃ n : Nat, xs.length = n := ⟨_, rfl⟩
  simp only [hnn] at FD
  rw [hnn] at hn hp h0 hjl
  have FD := Lib.hid FD
  have PL := Lib.hid PL
  have HP := Lib.hid hp
  have HQ := Lib.hid hq
  have HT := Lib.hid hT
  have H0 := Lib.hid h0
  have HS := Lib.hid hs
  have j0 : (i : Int) < (n : Int) := by omega
  clear hp hq h0 hT hnn hs hz hC hCm hcq hcg hc
  go_enter Tryz.func49, Tryz.ntmps49
  go_wp2_with (first | (go_at_call 74; (with_reducible refine (PL.out).mono ?_); rintro e w2 ⟨rfl, h3⟩; have B2 := Lib.hid h3; have F2 := Lib.hid (FD.out _ (blk_below HP.out h3) (blk_below HQ.out h3)); clear h3 PL) | (go_at_call 75; (with_reducible refine (F2.out).mono ?_); rintro e w3 ⟨rfl, h3⟩; have B3 := Lib.hid (B2.out.trans (h3.mono (Below.size B2.out))); clear h3 F2; refine Hid.out ?_))
  refine Lib.hid ?_
  have P3 := Lib.hid (blk_below HP.out B3.out)
  have Q3 := Lib.hid (blk_below HQ.out B3.out)
  have T3 := Lib.hid (HT.out.below B3.out)
  obtain ⟨⟨a0, a1⟩, ⟨b0, b1⟩, bz⟩ := rowc P3.out
  obtain ⟨c0, c1, cz⟩ := chc Q3.out H0.out
  have t3 := T3.out.cell i s HS.out
  go_wp2
  exact bodyPost_ret (v := .tuple #[.string s, .bool true]) (by simp [results, Tryz.results49, go_sem]) rfl ⟨rfl, B3.out⟩
theorem TX.set {w : World} {g C : Nat} {xs : List ByteArray} (h : TX w g C xs) (i : Nat) (s : ByteArray) : TX (w.setCell ⟨g, i, none⟩ (.string s)) g C (xs.set i s) := by
  obtain ⟨cs, h1, h2, h3, h4, h5⟩ := h
  refine ⟨cs.setIfInBounds i (.string s), by simp [World.setCell, Array.getElem?_modify, h1], by simpa using h2, by simpa using h3, h4, fun j t hj => ?_⟩
  rw [List.getElem?_set] at hj
  rw [Array.getElem?_setIfInBounds]
  by_cases hji : i = j
  · subst hji
    simp only [if_true] at hj ⊢
    split at hj
    · cases hj
      rw [if_pos (by omega)]
    · cases hj
  · simp only [hji, if_false] at hj ⊢
    exact h5 j t hj
set_option maxRecDepth 100000 in
set_option maxHeartbeats 4000000 in
/-- The text at a place is turned. -/
theorem RSet (c p : Nat) (l : Value) (xs : List ByteArray) (hn : xs.length ≤ 1000000) (i : Nat) (hi : i < xs.length) (s : ByteArray) (w : World) (h : RowL c w p l xs) : Calls Tryz.prog 51 #[.pointer (some ⟨p, 0, none⟩), .int .i64 i, .string s] w fun e w' => e = .returned (.bool true) ∧ RowL c w' p l (xs.set i s) ∧ Below c w w' ∧ ∀ (b : Nat) (cs : Array Value) (t : TypeId), w.heap[b]? = some (.cells cs t) → t ≠ 9 → w'.heap[b]? = w.heap[b]? := by
  have PL := RPlace c p l xs hn i (by omega) w h
  rw [show plI i xs.length = i from if_neg (by omega), decide_eq_true (by omega)] at PL
  obtain ⟨hc, hp, ⟨rfl, _⟩ | ⟨hne, q, C, cs, g, C2, hcq, hcg, rfl, hq, hz, hC, hCm, h0, hT⟩⟩ := h
  · simp at hi
  have FD := fun X h1 h2 => RFind p q C xs.length C2 (.int .i64 (xs.length : Int)) cs (some ⟨g, 0, none⟩) i (by omega) (by omega) X h1 h2 h0
  rw [show findR i xs.length = .tuple #[.int .i64 0, .int .i64 i] from if_pos hi] at FD
  have hR : ∀ X, X.heap[p]? = some (.cells #[.slice (some ⟨q, 0, none⟩) 1 C, .int .i64 (xs.length : Int)] 118) → X.heap[q]? = some (.cells cs 22) → TX X g C2 xs → RowL c (X.setCell ⟨g, i, none⟩ (.string s)) p (.slice (some ⟨q, 0, none⟩) 1 C) (xs.set i s) := fun X x1 x2 x3 => by
    have e1 : p ≠ g := x3.ne x1 (by decide)
    have e2 : q ≠ g := x3.ne x2 (by decide)
    refine ⟨hc, ?_, .inr ⟨fun e => hne (by simpa using e), q, C, cs, g, C2, hcq, hcg, rfl, (Below.heap_setCell _ ⟨g, i, none⟩ _ _ e2).trans x2, hz, hC, hCm, by simpa using h0, x3.set i s⟩⟩
    rw [List.length_set]
    exact (Below.heap_setCell _ ⟨g, i, none⟩ _ _ e1).trans x1
  obtain ⟨s0, hs0⟩ : ∃ s0, xs[i]? = some s0 := ⟨_, List.getElem?_eq_getElem hi⟩
  have CZ := Lib.hid hcg
  have CW := Lib.hid (Nat.le_trans hc (Nat.le_of_lt (lt_blk hp)))
  obtain ⟨n, hnn⟩ : ∃ n : Nat, xs.length = n := ⟨_, rfl⟩
  simp only [hnn] at FD hR
  rw [hnn] at hn hp h0 hi
  have FD := Lib.hid FD
  have PL := Lib.hid PL
  have HP := Lib.hid hp
  have HQ := Lib.hid hq
  have HT := Lib.hid hT
  have H0 := Lib.hid h0
  have HS := Lib.hid hs0
  have HR := Lib.hid hR
  have j0 : (i : Int) < (n : Int) := by omega
  clear hp hq h0 hT hnn hs0 hz hC hCm hcq hcg hc hR
  go_enter Tryz.func51, Tryz.ntmps51
  go_wp2_with (first | (go_at_call 74; (with_reducible refine (PL.out).mono ?_); rintro e w2 ⟨rfl, h3⟩; have B2 := Lib.hid h3; have F2 := Lib.hid (FD.out _ (blk_below HP.out h3) (blk_below HQ.out h3)); clear h3 PL) | (go_at_call 75; (with_reducible refine (F2.out).mono ?_); rintro e w3 ⟨rfl, h3⟩; have B3 := Lib.hid (B2.out.trans (h3.mono (Below.size B2.out))); clear h3 F2; refine Hid.out ?_))
  refine Lib.hid ?_
  have P3 := Lib.hid (blk_below HP.out B3.out)
  have Q3 := Lib.hid (blk_below HQ.out B3.out)
  have T3 := Lib.hid (HT.out.below B3.out)
  obtain ⟨⟨a0, a1⟩, ⟨b0, b1⟩, bz⟩ := rowc P3.out
  obtain ⟨c0, c1, cz⟩ := chc Q3.out H0.out
  have t3 := T3.out.cell i s0 HS.out
  have t4 := T3.out.frozen i
  go_wp2
  go_ret
  exact ⟨rfl, HR.out w3 P3.out Q3.out T3.out, (B3.out.mono CW.out).setCell (p := ⟨g, i, none⟩) CZ.out _, fun b cs t hb ht => (Below.heap_setCell _ ⟨g, i, none⟩ _ _ (T3.out.ne (blk_below hb B3.out) ht)).trans (B3.out.block b (lt_blk hb))⟩
/-- A part of a row of texts, as a slice. -/
theorem TX.part {w : World} {g C : Nat} {xs : List ByteArray} (h : TX w g C xs) (i j : Nat) (hij : i ≤ j) (hj : j ≤ xs.length) : SSl w (.slice (some ⟨g, i, none⟩) (j - i) (C - i)) ((xs.drop i).take (j - i)) := by
  obtain ⟨cs, h1, h2, h3, h4, h5⟩ := id h
  have hl : ((xs.drop i).take (j - i)).length = j - i := by simp; omega
  refine ⟨_, _, by rw [hl], by rw [hl]; omega, by omega, fun _ => ⟨g, i, rfl, h.lt, fun k t hk => ?_⟩⟩
  have hk2 := (List.getElem?_eq_some_iff.1 hk).1
  rw [hl] at hk2
  rw [List.getElem?_take, if_pos hk2, List.getElem?_drop] at hk
  exact h.cell _ _ hk
set_option maxRecDepth 100000 in
set_option maxHeartbeats 4000000 in
/-- The texts from a place to another one. -/
theorem RSlice (c p : Nat) (l : Value) (xs : List ByteArray) (hn : xs.length ≤ 1000000) (i j : Nat) (hij : i ≤ j) (hj : j < xs.length) (w : World) (h : RowL c w p l xs) : Calls Tryz.prog 78 #[.pointer (some ⟨p, 0, none⟩), .int .i64 i, .int .i64 j] w fun e w' => ∃ g C, e = .returned (.slice (some ⟨g, 0, none⟩) (j + 1 - i) C) ∧ TX w' g C ((xs.drop i).take (j + 1 - i)) ∧ w.heap.size ≤ g ∧ Below w.heap.size w w' := by
  have hne : xs ≠ [] := by rintro rfl; simp at hj
  have LN := RLen c p l xs w h
  have AL := fun X (hX : Below w.heap.size w X) => RAll1 c p l xs hne hn X (h.below hX)
  have hl2 : ((xs.drop i).take (j + 1 - i)).length = j + 1 - i := by simp; omega
  have CL := fun X g C (hX : TX X g C xs) => CloneX _ ((xs.drop i).take (j + 1 - i)) (by intro e; rw [e] at hl2; simp at hl2; omega) (by omega) X (hX.part i (j + 1) (by omega) (by omega))
  rw [hl2] at CL
  have hcap : ∀ X g C, TX X g C xs → xs.length ≤ C ∧ C ≤ 9223372036854775807 := fun X g C hX => by
    obtain ⟨cs, h1, h2, h3, h4, h5⟩ := hX
    unfold maxLen at h4
    exact ⟨h3, by omega⟩
  obtain ⟨ys, hys⟩ : ∃ ys, (xs.drop i).take (j + 1 - i) = ys := ⟨_, rfl⟩
  rw [hys] at CL ⊢
  obtain ⟨n, hnn⟩ : ∃ n : Nat, xs.length = n := ⟨_, rfl⟩
  simp only [hnn] at LN AL hcap
  rw [hnn] at hn hj
  have CAP := Lib.hid hcap
  obtain ⟨m, hm⟩ : ∃ m : Nat, j + 1 - i = m := ⟨_, rfl⟩
  rw [hm] at CL ⊢
  have LN := Lib.hid LN
  have AL := Lib.hid AL
  have CL := Lib.hid CL
  clear h hl2 hys hnn hcap hne
  have w1 : wrap64 ((n : Int) - 1) = (n : Int) - 1 := by unfold wrap64; omega
  have w2 : wrap64 ((j : Int) + 1) = (j : Int) + 1 := by unfold wrap64; omega
  have w3 : IntKind.i64.wrap ((n : Int) - 1) = (n : Int) - 1 := IntWalk.i64_in _ (by omega)
  have w4 : IntKind.i64.wrap ((j : Int) + 1) = (j : Int) + 1 := IntWalk.i64_in _ (by omega)
  have i1 : ¬ (i : Int) < 0 := by omega
  have i2 : ¬ (j : Int) < 0 := by omega
  have i3 : ¬ (j : Int) < (i : Int) := by omega
  have i4 : (j : Int) ≤ (n : Int) - 1 := by omega
  have i5 : (i : Int) ≤ (j : Int) + 1 := by omega
  have hmin : min (j : Int) ((n : Int) - 1) = (j : Int) := by omega
  go_enter Tryz.func78, Tryz.ntmps78
  go_wp2_with (first | (go_at_call 39; (with_reducible refine (LN.out).mono ?_); rintro e w2 ⟨rfl, h3⟩; have B2 := Lib.hid h3; have A2 := Lib.hid (AL.out _ h3); clear h3 LN) | (go_at_call 56; (with_reducible refine (A2.out).mono ?_); rintro e w3 ⟨g3, C3, rfl, hT3, hg3, h3⟩; have T3 := Lib.hid hT3; have G3 := Lib.hid hg3; have B3 := Lib.hid (B2.out.trans (h3.mono (Below.size B2.out))); clear h3 hT3 hg3; refine Hid.out ?_))
  refine Lib.hid ?_
  obtain ⟨cap1, cap2⟩ := CAP.out _ _ _ T3.out
  have i7 : (j : Int) + 1 ≤ (C3 : Int) := by omega
  have C4 := Lib.hid (CL.out w3 g3 C3 T3.out)
  go_wp2_with (first | (go_at_call 64; (with_reducible refine (C4.out).mono ?_); rintro e w5 ⟨g5, C5, rfl, hT5, hg5, h5⟩; have T5 := Lib.hid hT5; have G5 := Lib.hid hg5; have B5 := Lib.hid (B3.out.trans (h5.mono (Below.size B3.out))); clear h5 hT5 hg5))
  go_ret
  exact ⟨g5, C5, rfl, T5.out, Nat.le_trans (Below.size B3.out) G5.out, B5.out⟩
end Go.Proofs.YtjljljjmdlddkaaGreat

/- Commands of lists: LLEN, LINDEX. -/
namespace Go.Proofs.YtjljljjmdlddkaaGreat
open Go.ChangeShapes Go.WideShapes Go.ChangeAt Go.RowKit

/-- What a command that only reads leaves. -/
theorem endD {w w' : World} {j bS : Nat} {now : Int} {vA : Value} {k n : Int} {s : ByteArray} (hj : JB w j bS now vA (.slice none 0 0)) (hb : Below w.heap.size w w') : ∃ A m c, (Ending.returned (.agg #[.int .i64 k, .int .i64 n, .string s, .slice none 0 0])) = Ending.returned (.agg #[.int .i64 k, .int .i64 n, .string s, .slice A m c]) ∧ R0 w.heap.size w' (.slice A m c) ∧ (∃ vl, JD KL w' j bS now vA w.heap.size vl ([] : List (ByteArray × Option (List ByteArray)))) ∧ Kp w.heap.size (fun i => i ≠ j) w w' :=
  ⟨none, 0, 0, rfl, rfl, ⟨_, JD.nil KL _ (hj.below hb)⟩, .of hb⟩
/-- A command's arguments in memory. -/
structure AR (w : World) (j : Nat) (now : Int) (blk off cap : Nat) (xs : List ByteArray) : Prop where
  job : ∀ Y, Below w.heap.size w Y → Y.cell? ⟨j, 2, none⟩ = some (.slice (some ⟨blk, off, none⟩) xs.length cap) ∧ Y.cell? ⟨j, 1, none⟩ = some (.int .i64 now)
  arg : ∀ Y, Below w.heap.size w Y → ∀ (i : Nat) (s : ByteArray), xs[i]? = some s → Y.cell? ⟨blk, off + i, none⟩ = some (.string s)
  len : xs.length ≤ cap
  cap : cap ≤ 9223372036854775807
theorem AR.of {w : World} {j bS : Nat} {now : Int} {vA vl : Value} {xs : List ByteArray} (hj : JB w j bS now vA vl) (hA : SSl w vA xs) (hne : xs ≠ []) : ∃ blk off cap, vA = .slice (some ⟨blk, off, none⟩) xs.length cap ∧ AR w j now blk off cap xs := by
  obtain ⟨aA, cap, rfl, p1, p2, p3⟩ := hA
  obtain ⟨blk, off, rfl, hblt, hc⟩ := p3 hne
  refine ⟨blk, off, cap, rfl, fun Y hY => ⟨(hj.below hY).cells.2.2.1, (hj.below hY).cells.2.1⟩, fun Y hY i s hs => (hY.cell (p := ⟨blk, off + i, none⟩) hblt).trans (hc i s hs), p1, by unfold maxLen at p2; omega⟩
/-- A job's number, by a written place. -/
theorem JIn (ix : Int) (j bS : Nat) (now : Int) (vA vl : Value) (xs : List ByteArray) (i : Nat) (hix : ix = i) (t : ByteArray) (n : Int) (ht : t.size ≤ 100000) (hp : parseI t.data.toList = some n) (hi : xs[i]? = some t) (w : World) (hj : JB w j bS now vA vl) (hA : SSl w vA xs) : Calls Tryz.prog 48 #[.pointer (some ⟨j, 0, none⟩), .int .i64 ix] w fun e w' => e = .returned (.int .i64 n) ∧ Below w.heap.size w w' := by
  subst hix
  exact JInt_ok j bS now vA vl xs i t n ht hp hi w hj hA
set_option maxRecDepth 100000 in
set_option maxHeartbeats 8000000 in
theorem cLLEN (bS bM : Nat) (D : List (ByteArray × List ByteArray)) (now : Int) (NM k : ByteArray) (w : World) : CmdD 21 #[] bS bM D now [NM, k] 3 (((findD k D).getD []).length : Nat) ⟨#[]⟩ R0 [] w := by
  intro j vA hS hj hA
  show Calls Tryz.prog 21 #[.pointer (some ⟨j, 0, none⟩)] w _
  obtain ⟨blk, off, cap, rfl, hAR⟩ := AR.of hj hA (by simp)
  have HJ := Lib.hid hj
  have A1 := Lib.hid (alloc_old (w := w) (o := .cells #[.int .i64 0, .int .i64 0, .string ⟨#[]⟩, .slice none 0 0] 28))
  have hr := Lib.hid (heap_alloc_new w (.cells #[.int .i64 0, .int .i64 0, .string ⟨#[]⟩, .slice none 0 0] 28))
  have RW := fun Y (hY : Below w.heap.size w Y) => RowD bS bM j D k now _ _ Y (SPG.below KL okL hS hY) (hj.below hY)
  obtain ⟨ys, hys⟩ : ∃ ys, (findD k D).getD [] = ys := ⟨_, rfl⟩
  simp only [hys] at RW ⊢
  have RW := Lib.hid RW
  have hl2 : ([NM, k] : List ByteArray).length = 2 := rfl
  rw [hl2] at HJ ⊢
  have c1 := (hAR.job _ A1.out).1
  have c2 := hAR.arg _ A1.out 1 k rfl
  rw [hl2] at c1
  have AA := Lib.hid hAR
  clear hS hj hA hAR
  go_enter Tryz.func21, Tryz.ntmps21
  have C := Lib.hid (fun w => Int75 (ys.length : Int) w)
  go_wp2_with (first | (go_at_call 35; (with_reducible refine (RW.out _ A1.out).mono ?_); rintro e w1 ⟨A3, A4, A5, A6, an3, ac3, an4, ac4, an5, ac5, an6, ac6, p, l, rfl, hR1, h1⟩; have B1 := Lib.hid ((A1.out.trans (h1.mono (Below.size A1.out))).trans ((alloc_old (w := w1) (o := .cells #[.string k, .int .i64 2, .string ⟨#[]⟩, .slice A3 an3 ac3, .slice A4 an4 ac4, .slice A5 an5 ac5, .slice A6 an6 ac6, .int .i64 0] 45)).mono (by have := Below.size A1.out; have := Below.size h1; omega))); have R1 := Lib.hid (hR1.below (alloc_old (w := w1) (o := .cells #[.string k, .int .i64 2, .string ⟨#[]⟩, .slice A3 an3 ac3, .slice A4 an4 ac4, .slice A5 an5 ac5, .slice A6 an6 ac6, .int .i64 0] 45))); have r1 := Lib.hid (blk_below (blk_below hr.out h1) (alloc_old (w := w1) (o := .cells #[.string k, .int .i64 2, .string ⟨#[]⟩, .slice A3 an3 ac3, .slice A4 an4 ac4, .slice A5 an5 ac5, .slice A6 an6 ac6, .int .i64 0] 45))); have z1 := Lib.hid (heap_alloc_new w1 (.cells #[.string k, .int .i64 2, .string ⟨#[]⟩, .slice A3 an3 ac3, .slice A4 an4 ac4, .slice A5 an5 ac5, .slice A6 an6 ac6, .int .i64 0] 45)); have hw1 := Lib.hid (lt_blk (blk_below hr.out h1)); clear h1 hR1; have L1 := Lib.hid (RLen _ p l ys _ R1.out)) | (go_at_call 39; (with_reducible refine (L1.out).mono ?_); rintro e w2 ⟨rfl, h1⟩; have B2 := Lib.hid (B1.out.trans (h1.mono (Below.size B1.out))); have r2 := Lib.hid (blk_below r1.out h1); clear h1) | (go_at_call 36; (with_reducible refine (C.out _).mono ?_); rintro e w3 ⟨rfl, h1⟩; have B3 := Lib.hid (B2.out.trans (h1.mono (Below.size B2.out))); obtain ⟨⟨c0, c1, c2, c3⟩, ⟨f0, f1, f2, f3⟩⟩ := cells4 (blk_below r2.out h1); clear h1))
  exact bodyPost_ret (v := .agg #[.int .i64 3, .int .i64 (ys.length : Int), .string ⟨#[]⟩, .slice none 0 0]) (by simp [results, Tryz.results21, go_sem, c0, c1, c2, c3]) rfl (endD HJ.out ((((B3.out.setCell (Nat.le_refl _) _).setCell (Nat.le_refl _) _).setCell (Nat.le_refl _) _).setCell (Nat.le_refl _) _))
/-- A place of a row. -/
theorem AtL (i : Int) (n : Nat) (r : Int) (hn : n ≤ 1000000) (hi : -1000000000 ≤ i ∧ i ≤ 1000000000) (hr : (0 ≤ i ∧ i < n ∧ r = i) ∨ (i < 0 ∧ -(n : Int) ≤ i ∧ r = i + n) ∨ ((n : Int) ≤ i ∧ r = -1)) (w : World) : Calls Tryz.prog 47 #[.int .i64 i, .int .i64 n] w fun e w' => e = .returned (.int .i64 r) ∧ Below w.heap.size w w' := by
  have w1 : wrap64 (-(n : Int)) = -(n : Int) := IntWalk.wrap64_in _ (by omega)
  have w2 : wrap64 (-(n : Int) - 1) = -(n : Int) - 1 := IntWalk.wrap64_in _ (by omega)
  have w3 : wrap64 (i + (n : Int)) = i + (n : Int) := IntWalk.wrap64_in _ (by omega)
  rcases hr with ⟨h1, h2, rfl⟩ | ⟨h1, h2, rfl⟩ | ⟨h1, rfl⟩
  · have g1 : ¬ r < 0 := by omega
    have g2 : ¬ (n : Int) ≤ r := by omega
    clear hi hn
    go_enter Tryz.func47, Tryz.ntmps47
    go_wp2
    go_ret
    exact ⟨rfl, Below.refl _ _⟩
  · have g1 : max i (-(n : Int) - 1) = i := by omega
    have g2 : ¬ i + (n : Int) < 0 := by omega
    have g3 : ¬ (n : Int) ≤ i + (n : Int) := by omega
    clear hi hn h2
    go_enter Tryz.func47, Tryz.ntmps47
    go_wp2
    go_ret
    exact ⟨rfl, Below.refl _ _⟩
  · have g1 : ¬ i < 0 := by omega
    clear hi hn
    go_enter Tryz.func47, Tryz.ntmps47
    go_wp2
    go_ret
    exact ⟨rfl, Below.refl _ _⟩
set_option maxRecDepth 100000 in
set_option maxHeartbeats 8000000 in
/-- LINDEX of a place that there is. -/
theorem cLINDEX (bS bM : Nat) (D : List (ByteArray × List ByteArray)) (now : Int) (NM k a : ByteArray) (i : Int) (m : Nat) (s : ByteArray) (ha : a.size ≤ 100000) (hp : parseI a.data.toList = some i) (hi : -1000000000 ≤ i ∧ i ≤ 1000000000) (ys : List ByteArray) (hys : (findD k D).getD [] = ys) (hn : ys.length ≤ 1000000) (hm : (0 ≤ i ∧ i < ys.length ∧ (m : Int) = i) ∨ (i < 0 ∧ -(ys.length : Int) ≤ i ∧ (m : Int) = i + ys.length)) (hs : ys[m]? = some s) (w : World) : CmdD 22 #[] bS bM D now [NM, k, a] 4 0 s R0 [] w := by
  intro j vA hS hj hA
  show Calls Tryz.prog 22 #[.pointer (some ⟨j, 0, none⟩)] w _
  have JI := Lib.hid (fun Y (hY : Below w.heap.size w Y) => JIn 2 j bS now vA (.slice none 0 0) [NM, k, a] 2 rfl a i ha hp rfl Y (hj.below hY) (hA.below hY))
  obtain ⟨blk, off, cap, rfl, hAR⟩ := AR.of hj hA (by simp)
  have HJ := Lib.hid hj
  have A1 := Lib.hid (alloc_old (w := w) (o := .cells #[.int .i64 0, .int .i64 0, .string ⟨#[]⟩, .slice none 0 0] 28))
  have hr := Lib.hid (heap_alloc_new w (.cells #[.int .i64 0, .int .i64 0, .string ⟨#[]⟩, .slice none 0 0] 28))
  have RW := fun Y (hY : Below w.heap.size w Y) => RowD bS bM j D k now _ _ Y (SPG.below KL okL hS hY) (hj.below hY)
  simp only [hys] at RW
  have RW := Lib.hid RW
  have hl2 : ([NM, k, a] : List ByteArray).length = 3 := rfl
  rw [hl2] at HJ ⊢
  have c1 := (hAR.job _ A1.out).1
  have c2 := hAR.arg _ A1.out 1 k rfl
  rw [hl2] at c1
  have AT := AtL i ys.length m hn hi (hm.imp id (fun h => .inl h))
  have RL := fun c p l w h => RLen c p l ys w h
  have RA := Lib.hid (fun c p l w h => RAt c p l ys hn m s hs w h)
  obtain ⟨n, hnn⟩ : ∃ n : Nat, ys.length = n := ⟨_, rfl⟩
  simp only [hnn] at AT RL
  have AT := Lib.hid AT
  have RL := Lib.hid RL
  have C := Lib.hid (fun w => Bulk67 s w)
  have m0 : (0 : Int) ≤ (m : Int) := by omega
  have m1 : ¬ (m : Int) < 0 := by omega
  clear hS hj hA hAR hm hs hp ha hi hnn
  go_enter Tryz.func22, Tryz.ntmps22
  go_wp2_with (first | (go_at_call 35; (with_reducible refine (RW.out _ A1.out).mono ?_); rintro e w1 ⟨A3, A4, A5, A6, an3, ac3, an4, ac4, an5, ac5, an6, ac6, p, l, rfl, hR1, h1⟩; have B1 := Lib.hid ((A1.out.trans (h1.mono (Below.size A1.out))).trans ((alloc_old (w := w1) (o := .cells #[.string k, .int .i64 2, .string ⟨#[]⟩, .slice A3 an3 ac3, .slice A4 an4 ac4, .slice A5 an5 ac5, .slice A6 an6 ac6, .int .i64 0] 45)).mono (by have := Below.size A1.out; have := Below.size h1; omega))); have R1 := Lib.hid (hR1.below (alloc_old (w := w1) (o := .cells #[.string k, .int .i64 2, .string ⟨#[]⟩, .slice A3 an3 ac3, .slice A4 an4 ac4, .slice A5 an5 ac5, .slice A6 an6 ac6, .int .i64 0] 45))); have r1 := Lib.hid (blk_below (blk_below hr.out h1) (alloc_old (w := w1) (o := .cells #[.string k, .int .i64 2, .string ⟨#[]⟩, .slice A3 an3 ac3, .slice A4 an4 ac4, .slice A5 an5 ac5, .slice A6 an6 ac6, .int .i64 0] 45))); have z1 := Lib.hid (heap_alloc_new w1 (.cells #[.string k, .int .i64 2, .string ⟨#[]⟩, .slice A3 an3 ac3, .slice A4 an4 ac4, .slice A5 an5 ac5, .slice A6 an6 ac6, .int .i64 0] 45)); have hw1 := Lib.hid (lt_blk (blk_below hr.out h1)); clear h1 hR1; have L1 := Lib.hid (RL _ p l _ R1.out); refine Hid.out ?_))
  refine Lib.hid ?_
  have J1 := Lib.hid (JI.out _ B1.out)
  go_wp2_with (first | (go_at_call 48; (with_reducible refine (J1.out).mono ?_); rintro e w2 ⟨rfl, h1⟩; have B2 := Lib.hid (B1.out.trans (h1.mono (Below.size B1.out))); have r2 := Lib.hid (blk_below r1.out h1); have R2 := Lib.hid (R1.out.below h1); have L2 := Lib.hid (RL _ p l _ R2.out); clear h1 L1) | (go_at_call 39; (with_reducible refine (L2.out).mono ?_); rintro e w3 ⟨rfl, h1⟩; have B3 := Lib.hid (B2.out.trans (h1.mono (Below.size B2.out))); have r3 := Lib.hid (blk_below r2.out h1); have R3 := Lib.hid (R2.out.below h1); clear h1) | (go_at_call 47; (with_reducible refine (AT.out _).mono ?_); rintro e w4 ⟨rfl, h1⟩; have B4 := Lib.hid (B3.out.trans (h1.mono (Below.size B3.out))); have r4 := Lib.hid (blk_below r3.out h1); have R4 := Lib.hid (R3.out.below h1); have RA4 := Lib.hid (RA.out _ p l _ R4.out); clear h1) | (go_at_call 49; (with_reducible refine (RA4.out).mono ?_); rintro e w5 ⟨rfl, h1⟩; have B5 := Lib.hid (B4.out.trans (h1.mono (Below.size B4.out))); have r5 := Lib.hid (blk_below r4.out h1); clear h1) | (go_at_call 42; (with_reducible refine (C.out _).mono ?_); rintro e w6 ⟨rfl, h1⟩; have B6 := Lib.hid (B5.out.trans (h1.mono (Below.size B5.out))); obtain ⟨⟨c0, c1, c2, c3⟩, ⟨f0, f1, f2, f3⟩⟩ := cells4 (blk_below r5.out h1); clear h1))
  exact bodyPost_ret (v := .agg #[.int .i64 4, .int .i64 0, .string s, .slice none 0 0]) (by simp [results, Tryz.results22, go_sem, c0, c1, c2, c3]) rfl (endD HJ.out ((((B6.out.setCell (Nat.le_refl _) _).setCell (Nat.le_refl _) _).setCell (Nat.le_refl _) _).setCell (Nat.le_refl _) _))
end Go.Proofs.YtjljljjmdlddkaaGreat
