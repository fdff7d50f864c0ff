/- Texts joined: G8p, DoP, PC1 -/
import Derived.Test.YticlacjpgjkhcaaGreatDoorQn13
import Derived.Test.YticlacjpgjkhcaaGreatDoorQn22
import Derived.Test.YticlacjpgjkhcaaGreatDoorQn19
set_option linter.unusedVariables false
set_option linter.unusedSimpArgs false

/- A law's do: a command's effects, as data, applied to the space as data. -/
namespace Go.Proofs.YticlacjpgjkhcaaGreatDoor
open Go.ChangeShapes Go.WideShapes Go.ChangeAt Go.RowKit

set_option maxRecDepth 100000 in
set_option maxHeartbeats 8000000 in
theorem do_okGp {α : Type} (K : Kd α) (ok : ByteArray → α → Prop) (hO : KdOk K ok) (bS bM : Nat) (D : List (ByteArray × α)) (vA : Value) (k n : Int) (s : ByteArray) (R : Nat → World → Value → Prop) (hR : RKeep R) (des : List (ByteArray × Option α)) (hm : MayD ok des D) (w : World) (hS : SPG K ok w bS bM D)
    (hD : ∀ X, Below w.heap.size w X → Calls Tryz.prog 27 #[.pointer (some ⟨bS, 0, none⟩), .int .i64 1, vA] X fun e w' => ∃ A m c A' n' c', e = .returned (.tuple #[.agg #[.int .i64 k, .int .i64 n, .string s, .slice A m c], .slice A' n' c', .bool true]) ∧ R X.heap.size w' (.slice A m c) ∧ EL K des X.heap.size w' (.slice A' n' c') ∧ Below X.heap.size X w') :
    Calls Tryz.prog 14 #[.pointer (some ⟨bS, 0, none⟩), vA] w fun e w' => ∃ A m c, e = .returned (.agg #[.int .i64 k, .int .i64 n, .string s, .slice A m c]) ∧ R w.heap.size w' (.slice A m c) ∧ SPG K ok w' bS bM (applyD des D) ∧ Kp w.heap.size (fun i => i ≠ bS ∧ i ≠ bM) w w' := by
  have A1 := Lib.hid (alloc_old (w := w) (o := .cells #[.int .i64 0, .int .i64 0, .string ⟨#[]⟩, .slice none 0 0] 29))
  have hr := Lib.hid (heap_alloc_new w (.cells #[.int .i64 0, .int .i64 0, .string ⟨#[]⟩, .slice none 0 0] 29))
  have DO := Lib.hid (hD _ A1.out)
  have HS := Lib.hid hS
  have HM := Lib.hid hm
  obtain ⟨hl1, hl2, hne⟩ := SPG.lt K ok hS
  obtain ⟨kd, hkd⟩ : ∃ kd, K.kd = kd := ⟨_, rfl⟩
  have hz0 : ¬ kd = 0 := hkd ▸ K.nz.1
  have hz1 : (kd == 0) = false := by rw [beq_eq_false_iff_ne]; exact hz0
  clear hS hD hm
  go_enter Tryz.func14, Tryz.ntmps14
  go_wp2_with (first | (go_at_call 27; (with_reducible refine (DO.out).mono ?_); rintro e w5 ⟨A, m, c, A', n', c', rfl, hRR, hE, hb5⟩; have B5 := Lib.hid (A1.out.trans (hb5.mono (Below.size A1.out))); have R5 := Lib.hid (blk_below hr.out hb5); have HR := Lib.hid hRR; have HE := Lib.hid hE; clear hRR hE hb5; refine Hid.out ?_))
  refine Lib.hid ?_
  have B6 := Lib.hid (show Below w.heap.size w (w5.alloc (.cells #[.int .i64 k, .int .i64 n, .string s, .slice A m c] 29)) from B5.out.trans (alloc_old.mono (Below.size B5.out)))
  have o6 := Lib.hid (heap_alloc_new w5 (.cells #[.int .i64 k, .int .i64 n, .string s, .slice A m c] 29))
  have R6 := Lib.hid (blk_below R5.out (alloc_old (o := .cells #[.int .i64 k, .int .i64 n, .string s, .slice A m c] 29)))
  have HE6 := Lib.hid ((EL.keep K des).kept _ _ (w5.alloc (.cells #[.int .i64 k, .int .i64 n, .string s, .slice A m c] 29)) _ HE.out (by simp) (fun i _ hi => alloc_old.block i hi))
  have hs5 := Below.size B5.out
  have hs6 := lt_blk R5.out
  have hz : w5.heap.size < (w5.alloc (.cells #[.int .i64 k, .int .i64 n, .string s, .slice A m c] 29)).heap.size := by simp
  go_wp2_with fail
  have B56 := Lib.hid (show Below w5.heap.size w5 (w5.alloc (.cells #[.int .i64 k, .int .i64 n, .string s, .slice A m c] 29)) from alloc_old)
  generalize (w5.alloc (.cells #[.int .i64 k, .int .i64 n, .string s, .slice A m c] 29)) = w6 at B6 o6 R6 HE6 hz B56 ⊢
  obtain ⟨css, hEF, hAL⟩ := HE6.out
  have hlen := ALC.len K hAL
  obtain ⟨hn, hg⟩ := hEF.form
  rw [hlen] at hn
  subst hn
  have EF6 := Lib.hid hEF
  have AL6 := Lib.hid hAL
  have S6 := Lib.hid (SPG.below K ok HS.out B6.out)
  have hz1w : (w.alloc (.cells #[.int .i64 0, .int .i64 0, .string ⟨#[]⟩, .slice none 0 0] 29)).heap.size = w.heap.size + 1 := by simp
  have hmx : des.length ≤ maxLen := by
    have := hEF
    unfold EFC World.ownsRow at this
    obtain ⟨_, ⟨_, h0⟩ | ⟨g, cap', cur, _, _, _, h3, h4, _⟩⟩ := this
    · omega
    · omega
  have hl9 : des.length ≤ 9223372036854775807 := by unfold maxLen at hmx; omega
  clear hEF hAL hmx
  go_loopw [8] (fun iv wr => ∃ (i : Nat) (D2 : List (ByteArray × α)), i ≤ des.length ∧ iv = .int .i64 i ∧ Hid (SPG K ok wr bS bM D2 ∧ MayD ok (des.drop i) D2 ∧ applyD (des.drop i) D2 = applyD des D ∧ Kp w6.heap.size (fun i => i ≠ bS ∧ i ≠ bM) w6 wr)) (fun iv _ => des.length - (intOf iv).toNat)
  case atStart => exact ⟨0, D, Nat.zero_le _, rfl, Lib.hid ⟨S6.out, HM.out, rfl, Kp.refl _ _ _⟩⟩
  case round =>
    obtain ⟨i, D2, hi, rfl, HQ⟩ := hrel
    by_cases hlt2 : i < des.length
    · have q0 : (i : Int) < (des.length : Int) := by omega
      obtain ⟨g, rfl, hgc, hgl⟩ := hg (by intro e; rw [e] at hlen; simp at hlen; omega)
      have hdrop : des.drop i = des[i] :: des.drop (i + 1) := List.drop_eq_getElem_cons hlt2
      obtain ⟨e0, he0⟩ : ∃ e0, des[i]? = some e0 := ⟨des[i], List.getElem?_eq_getElem hlt2⟩
      have hei : des[i] = e0 := by have := List.getElem?_eq_getElem hlt2; rw [he0] at this; exact (Option.some.inj this).symm
      have hQ := HQ.out
      rw [hdrop, hei] at hQ
      obtain ⟨hSP, hmm, hap, hKp⟩ := hQ
      have hEr : EFC wr (w.alloc (.cells #[.int .i64 0, .int .i64 0, .string ⟨#[]⟩, .slice none 0 0] 29)).heap.size (.slice (some ⟨g, 0, none⟩) des.length c') css := EF6.out.kept (fun g9 hg9 => by cases hg9; exact hKp.block g hgl ⟨by omega, by omega⟩)
      have hAr : ALC K (w.alloc (.cells #[.int .i64 0, .int .i64 0, .string ⟨#[]⟩, .slice none 0 0] 29)).heap.size wr des css := ALC.kept K (fun x a b d e hV hc g hg => hKp.block g (K.lt hV hg) (K.own_ne hV S6.out.1.choose_spec.1 g hg).2) AL6.out
      obtain ⟨cs0, hcs, hEC⟩ := ALC.get K hAr i e0 he0
      have hcells := fun j v hj => hEr.cell (i * 8 + j) v (flat8 K hAr i cs0 hcs j v hj)
      obtain ⟨k9, x9⟩ := e0
      cases x9 with
      | some x9 =>
        obtain ⟨hok, hl4, hmr⟩ := hmm
        obtain ⟨A3, A4, A5, A6, an3, ac3, an4, ac4, an5, ac5, an6, ac6, rfl, hV9, _⟩ := hEC
        have PP := PutD K ok hO bS bM D2 k9 x9 A3 A4 A5 A6 an3 ac3 an4 ac4 an5 ac5 an6 ac6 hok wr hSP hl4 hV9
        rw [hkd] at PP hcells
        have x0 := hcells 0 _ rfl
        have x1 := hcells 1 _ rfl
        have x2 := hcells 2 _ rfl
        have x3 := hcells 3 _ rfl
        have x4 := hcells 4 _ rfl
        have x5 := hcells 5 _ rfl
        have x6 := hcells 6 _ rfl
        have x7 := hcells 7 _ rfl
        simp only [Nat.add_zero] at x0
        have PP := Lib.hid PP
        have HMR := Lib.hid hmr
        have HAP := Lib.hid hap
        have HKP := Lib.hid hKp
        clear hcells hEr hAr hSP hmr hap hKp he0 hei hdrop HQ hV9 hok hl4 hcs
        go_wp2_with (first | (go_at_call 29; (with_reducible refine (PP.out).mono ?_); rintro e w8 ⟨rfl, hSP8, hK8⟩; have HS8 := Lib.hid hSP8; have HK8 := Lib.hid hK8; clear hSP8 hK8))
        refine ⟨⟨i + 1, _, by omega, by go_num, Lib.hid ⟨HS8.out, HMR.out, HAP.out, HKP.out.trans (HK8.out.mono HKP.out.size (fun _ h => h))⟩⟩, by simp [intOf]; omega⟩
      | none =>
        obtain ⟨⟨y, hy⟩, hmr⟩ := hmm
        have hEC : cs0 = _ := hEC
        subst hEC
        have x0 := hcells 0 _ rfl
        have x1 := hcells 1 _ rfl
        have x2 := hcells 2 _ rfl
        simp only [Nat.add_zero] at x0
        have PP := Lib.hid (DelD K ok hO bS bM D2 k9 y hy wr hSP)
        have HMR := Lib.hid hmr
        have HAP := Lib.hid hap
        have HKP := Lib.hid hKp
        clear hcells hEr hAr hSP hmr hap hKp he0 hei hdrop HQ hcs hy
        go_wp2_with (first | (go_at_call 28; (with_reducible refine (PP.out).mono ?_); rintro e w8 ⟨rfl, hSP8, hK8⟩; have HS8 := Lib.hid hSP8; have HK8 := Lib.hid hK8; clear hSP8 hK8))
        refine ⟨⟨i + 1, _, by omega, by go_num, Lib.hid ⟨HS8.out, HMR.out, HAP.out, HKP.out.trans (HK8.out.mono HKP.out.size (fun _ h => h))⟩⟩, by simp [intOf]; omega⟩
    · have hie : i = des.length := by omega
      subst hie
      have q0 : ¬ (des.length : Int) < (des.length : Int) := by omega
      have hQ := HQ.out
      rw [List.drop_length] at hQ
      obtain ⟨hSP, _, hap, hKp⟩ := hQ
      have hlW : w5.heap.size ≠ bS ∧ w5.heap.size ≠ bM ∧ w.heap.size ≠ bS ∧ w.heap.size ≠ bM := by omega
      have o8 := Lib.hid ((hKp.block w5.heap.size (lt_blk o6.out) ⟨hlW.1, hlW.2.1⟩).trans o6.out)
      have R8 := Lib.hid ((hKp.block w.heap.size (lt_blk R6.out) ⟨hlW.2.2.1, hlW.2.2.2⟩).trans R6.out)
      have HSP := Lib.hid hSP
      have HAP := Lib.hid hap
      have HKP := Lib.hid hKp
      clear hSP hap hKp HQ hi hlt2
      obtain ⟨⟨d0, d1, d2, d3⟩, _⟩ := cells4 o8.out
      obtain ⟨⟨c0, c1, c2, c3⟩, ⟨f0, f1, f2, f3⟩⟩ := cells4 R8.out
      go_wp2
      have hR5 := HR.out
      rw [hz1w] at hR5
      have hsz : w5.heap.size ≤ (((((wr.setCell ⟨w.heap.size, 0, none⟩ (.int .i64 k)).setCell ⟨w.heap.size, 1, none⟩ (.int .i64 n)).setCell ⟨w.heap.size, 2, none⟩ (.string s)).setCell ⟨w.heap.size, 3, none⟩ (.slice A m c))).heap.size := Nat.le_trans (Below.size B56.out) (Nat.le_trans HKP.out.size (by simp [World.setCell]))
      have hR9 := hR.mono _ w.heap.size _ _ (hR.kept _ _ (((((wr.setCell ⟨w.heap.size, 0, none⟩ (.int .i64 k)).setCell ⟨w.heap.size, 1, none⟩ (.int .i64 n)).setCell ⟨w.heap.size, 2, none⟩ (.string s)).setCell ⟨w.heap.size, 3, none⟩ (.slice A m c))) _ hR5 hsz (fun i h1 h2 => (far4 _ _ _ _ (by omega)).trans ((HKP.out.block i (Nat.lt_of_lt_of_le h2 (Below.size B56.out)) ⟨by omega, by omega⟩).trans (B56.out.block i h2)))) (by omega)
      have hl2 : D2 = applyD des D := HAP.out
      subst hl2
      have hS9 : SPG K ok ((((wr.setCell ⟨w.heap.size, 0, none⟩ (.int .i64 k)).setCell ⟨w.heap.size, 1, none⟩ (.int .i64 n)).setCell ⟨w.heap.size, 2, none⟩ (.string s)).setCell ⟨w.heap.size, 3, none⟩ (.slice A m c)) bS bM (applyD des D) := by
        obtain ⟨⟨l, h1, h2⟩, h3⟩ := HSP.out
        refine ⟨⟨l, h1.kept (far4 _ _ _ _ (by omega)) (far4 _ _ _ _ (by omega)), AllE.kept2 K (fun x a b d e hV g hg => far4 _ _ _ _ (fun e => ?_)) h2⟩, h3⟩
        obtain ⟨cs, t, h4, _, _, _, _, h5⟩ := K.typ hV hg
        rw [e] at h4
        have := R8.out
        rw [h4] at this
        cases this
        exact h5 rfl
      exact bodyPost_ret (v := .agg #[.int .i64 k, .int .i64 n, .string s, .slice A m c]) (by simp [results, Tryz.results14, go_sem, c0, c1, c2, c3]) rfl ⟨A, m, c, rfl, hR9, hS9, ((((((Kp.of B6.out).trans (HKP.out.mono (Below.size B6.out) (fun _ h => h))).setCell (p := ⟨w.heap.size, 0, none⟩) (by simp) _).setCell (p := ⟨w.heap.size, 1, none⟩) (by simp) _).setCell (p := ⟨w.heap.size, 2, none⟩) (by simp) _).setCell (p := ⟨w.heap.size, 3, none⟩) (by simp) _)⟩
end Go.Proofs.YticlacjpgjkhcaaGreatDoor

/- points.Do: the commands' functions by name; a law's do over data. -/
namespace Go.Proofs.YticlacjpgjkhcaaGreatDoor
open Go.ChangeShapes Go.WideShapes Go.ChangeAt Go.RowKit

/-- The commands' functions. -/
abbrev flP : MapT.Ents := MapT.put ⟨#[80, 83, 67, 65, 76, 69]⟩ (.func (.func 48) #[] #[]) (MapT.put ⟨#[80, 77, 79, 86, 69]⟩ (.func (.func 45) #[] #[]) (MapT.put ⟨#[80, 84, 85, 82, 78]⟩ (.func (.func 44) #[] #[]) (MapT.put ⟨#[80, 78, 69, 65, 82]⟩ (.func (.func 43) #[] #[]) (MapT.put ⟨#[80, 83, 85, 77]⟩ (.func (.func 42) #[] #[]) (MapT.put ⟨#[80, 65, 76, 76]⟩ (.func (.func 41) #[] #[]) (MapT.put ⟨#[80, 67, 65, 82, 68]⟩ (.func (.func 40) #[] #[]) (MapT.put ⟨#[80, 80, 79, 83]⟩ (.func (.func 39) #[] #[]) (MapT.put ⟨#[80, 82, 69, 77]⟩ (.func (.func 38) #[] #[]) (MapT.put ⟨#[80, 65, 68, 68]⟩ (.func (.func 37) #[] #[]) ([]))))))))))
theorem sel_PADD : MapT.find ⟨#[80, 65, 68, 68]⟩ flP = some (.func (.func 37) #[] #[]) := by kernel_rfl
theorem ent_PADD (args : Array Value) (w : World) : (callFunc 37 args).run Tryz.prog w = .ok (.enter 37 args) w := by kernel_rfl
theorem sel_PREM : MapT.find ⟨#[80, 82, 69, 77]⟩ flP = some (.func (.func 38) #[] #[]) := by kernel_rfl
theorem ent_PREM (args : Array Value) (w : World) : (callFunc 38 args).run Tryz.prog w = .ok (.enter 38 args) w := by kernel_rfl
theorem sel_PPOS : MapT.find ⟨#[80, 80, 79, 83]⟩ flP = some (.func (.func 39) #[] #[]) := by kernel_rfl
theorem ent_PPOS (args : Array Value) (w : World) : (callFunc 39 args).run Tryz.prog w = .ok (.enter 39 args) w := by kernel_rfl
theorem sel_PCARD : MapT.find ⟨#[80, 67, 65, 82, 68]⟩ flP = some (.func (.func 40) #[] #[]) := by kernel_rfl
theorem ent_PCARD (args : Array Value) (w : World) : (callFunc 40 args).run Tryz.prog w = .ok (.enter 40 args) w := by kernel_rfl
theorem sel_PALL : MapT.find ⟨#[80, 65, 76, 76]⟩ flP = some (.func (.func 41) #[] #[]) := by kernel_rfl
theorem ent_PALL (args : Array Value) (w : World) : (callFunc 41 args).run Tryz.prog w = .ok (.enter 41 args) w := by kernel_rfl
theorem sel_PSUM : MapT.find ⟨#[80, 83, 85, 77]⟩ flP = some (.func (.func 42) #[] #[]) := by kernel_rfl
theorem ent_PSUM (args : Array Value) (w : World) : (callFunc 42 args).run Tryz.prog w = .ok (.enter 42 args) w := by kernel_rfl
theorem sel_PNEAR : MapT.find ⟨#[80, 78, 69, 65, 82]⟩ flP = some (.func (.func 43) #[] #[]) := by kernel_rfl
theorem ent_PNEAR (args : Array Value) (w : World) : (callFunc 43 args).run Tryz.prog w = .ok (.enter 43 args) w := by kernel_rfl
theorem sel_PTURN : MapT.find ⟨#[80, 84, 85, 82, 78]⟩ flP = some (.func (.func 44) #[] #[]) := by kernel_rfl
theorem ent_PTURN (args : Array Value) (w : World) : (callFunc 44 args).run Tryz.prog w = .ok (.enter 44 args) w := by kernel_rfl
theorem sel_PMOVE : MapT.find ⟨#[80, 77, 79, 86, 69]⟩ flP = some (.func (.func 45) #[] #[]) := by kernel_rfl
theorem ent_PMOVE (args : Array Value) (w : World) : (callFunc 45 args).run Tryz.prog w = .ok (.enter 45 args) w := by kernel_rfl
theorem sel_PSCALE : MapT.find ⟨#[80, 83, 67, 65, 76, 69]⟩ flP = some (.func (.func 48) #[] #[]) := by kernel_rfl
theorem ent_PSCALE (args : Array Value) (w : World) : (callFunc 48 args).run Tryz.prog w = .ok (.enter 48 args) w := by kernel_rfl
set_option maxRecDepth 100000 in
set_option maxHeartbeats 8000000 in
theorem Do_okP (RAW NAME : ByteArray) (F : FuncId) (bS bM : Nat) (l : MapT.Ents) (now : Int) (xs : List ByteArray) (vA : Value) (k n : Int) (s : ByteArray) (R E : Nat → World → Value → Prop) (hR : RKeep R) (hE : RKeep E) (w : World) (hS : SP w bS bM l) (hA : SSl w vA xs) (hx : xs[0]? = some RAW) (hfit : ∀ X, SSl X vA xs → Calls Tryz.prog 95 #[vA] X fun e w' => e = .returned (.int .i64 0) ∧ Below X.heap.size X w') (hup : ∀ X, Calls Tryz.prog 96 #[.string RAW] X fun e w' => e = .returned (.string NAME) ∧ Below X.heap.size X w')
    (hsel : MapT.find NAME flP = some (.func (.func F) #[] #[])) (hent : ∀ (args : Array Value) (w : World), (callFunc F args).run Tryz.prog w = .ok (.enter F args) w) (hF : ∀ W, Below w.heap.size w W → CmdOkG W F #[] bS bM l now xs k n s R E) :
    Calls Tryz.prog 27 #[.pointer (some ⟨bS, 0, none⟩), .int .i64 now, vA] w fun e w' => ∃ A m c A' n' c', e = .returned (.tuple #[.agg #[.int .i64 k, .int .i64 n, .string s, .slice A m c], .slice A' n' c', .bool true]) ∧ R w.heap.size w' (.slice A m c) ∧ E w.heap.size w' (.slice A' n' c') ∧ Below w.heap.size w w' := by
  have hmm := @run_makeMap Tryz.prog
  have hmf : ∀ (fn : Fn) (first cap : Array Value) (w : World), (Instr.makeFunc fn first cap).run Tryz.prog w = .ok (.func fn first cap) w := fun _ _ _ _ => rfl
  have Q9 := Lib.hid (show DoSt w ((w.alloc (.cells #[.int .i64 0, .int .i64 0, .string ⟨#[]⟩, .slice none 0 0] 29)).alloc (.map #[] 0)) (w.heap.size + 1) [] from ⟨by
    have := MapT.MB.made (w.alloc (.cells #[.int .i64 0, .int .i64 0, .string ⟨#[]⟩, .slice none 0 0] 29))
    rw [World.size_alloc] at this
    exact this, alloc_old.trans (alloc_old.mono (by simp)), by omega, blk_below (heap_alloc_new w _) alloc_old⟩)
  have RR := Lib.hid (fun X (hX : DoSt w X (w.heap.size + 1) flP) => (show Calls Tryz.prog 36 #[.pointer (some ⟨bS, 0, none⟩), .int .i64 now, vA, .map (some (w.heap.size + 1))] X (fun e w' => ∃ A m c A' n' c', e = .returned (.tuple #[.agg #[.int .i64 k, .int .i64 n, .string s, .slice A m c], .slice A' n' c', .bool true]) ∧ R X.heap.size w' (.slice A m c) ∧ E X.heap.size w' (.slice A' n' c') ∧ Below X.heap.size X w') from
    Run_okG X RAW NAME F #[] bS bM (w.heap.size + 1) l _ now xs vA k n s R E (hF X hX.below) hR hE X (Below.refl _ _) (hS.below hX.below) (hA.below hX.below) hX.mb hsel hx hent hfit hup))
  obtain ⟨aA, acap, hvA, _⟩ := id hA
  clear hfit hup hA hS hx hsel hent hF
  subst hvA
  go_enter Tryz.func27, Tryz.ntmps27
  go_wp2_with (first | (refine MapT.at_insertF _ rfl rfl _ _ _ rfl Tryz.underlying81 Tryz.underlying9 (w.heap.size + 1) _ rfl Q9.out.mb ?_; intro w9 hM9 hg9; have Q9 := Lib.hid (Q9.out.ins hM9 hg9); clear hM9 hg9) | (go_at_call 36; (with_reducible refine (RR.out _ Q9.out).mono ?_); rintro e w5 ⟨A, m, c, A', n', c', rfl, hRR, hE5, hb5⟩; have B5 := Lib.hid hb5; obtain ⟨⟨a0, a1, a2, a3⟩, ⟨f0, f1, f2, f3⟩⟩ := cells4 (blk_below Q9.out.reply hb5); clear hb5))
  have BW := Lib.hid (Q9.out.below.trans (B5.out.mono (Below.size Q9.out.below)))
  have hle : w.heap.size + 1 ≤ w9.heap.size := Nat.le_of_lt (Q9.out.mb).lt
  have hfar : ∀ i, w.heap.size + 1 ≤ i → i < w5.heap.size → (((((w5.setCell ⟨w.heap.size, 0, none⟩ (.int .i64 k)).setCell ⟨w.heap.size, 1, none⟩ (.int .i64 n)).setCell ⟨w.heap.size, 2, none⟩ (.string s)).setCell ⟨w.heap.size, 3, none⟩ (.slice A m c))).heap[i]? = w5.heap[i]? := fun i hi _ => far4 (X := w5) (b := w.heap.size) _ _ _ _ (by omega)
  have hsz : w5.heap.size ≤ (((((w5.setCell ⟨w.heap.size, 0, none⟩ (.int .i64 k)).setCell ⟨w.heap.size, 1, none⟩ (.int .i64 n)).setCell ⟨w.heap.size, 2, none⟩ (.string s)).setCell ⟨w.heap.size, 3, none⟩ (.slice A m c))).heap.size := by simp [World.setCell]
  have hR6 := hR.kept _ _ _ _ (hR.mono _ (w.heap.size + 1) _ _ hRR hle) hsz hfar
  have hE6 := hE.kept _ _ _ _ (hE.mono _ (w.heap.size + 1) _ _ hE5 hle) hsz hfar
  exact bodyPost_ret (v := .tuple #[.agg #[.int .i64 k, .int .i64 n, .string s, .slice A m c], .slice A' n' c', .bool true]) (by simp [results, Tryz.results27, go_sem, a0, a1, a2, a3]) rfl ⟨A, m, c, A', n', c', rfl, hR.mono _ _ _ _ hR6 (by omega), hE.mono _ _ _ _ hE6 (by omega), (((BW.out.setCell (p := ⟨w.heap.size, 0, none⟩) (Nat.le_refl _) _).setCell (p := ⟨w.heap.size, 1, none⟩) (Nat.le_refl _) _).setCell (p := ⟨w.heap.size, 2, none⟩) (Nat.le_refl _) _).setCell (p := ⟨w.heap.size, 3, none⟩) (Nat.le_refl _) _⟩
set_option maxRecDepth 100000 in
set_option maxHeartbeats 8000000 in
theorem Do_failP (RAW NAME : ByteArray) (F : FuncId) (bS bM : Nat) (l : MapT.Ents) (now : Int) (xs : List ByteArray) (vA : Value) (n : Int) (w : World) (hS : SP w bS bM l) (hA : SSl w vA xs) (hx : xs[0]? = some RAW) (hfit : ∀ X, SSl X vA xs → Calls Tryz.prog 95 #[vA] X fun e w' => e = .returned (.int .i64 0) ∧ Below X.heap.size X w') (hup : ∀ X, Calls Tryz.prog 96 #[.string RAW] X fun e w' => e = .returned (.string NAME) ∧ Below X.heap.size X w')
    (hsel : MapT.find NAME flP = some (.func (.func F) #[] #[])) (hent : ∀ (args : Array Value) (w : World), (callFunc F args).run Tryz.prog w = .ok (.enter F args) w) (hF : CmdFail w F bS bM l now xs n) :
    Calls Tryz.prog 27 #[.pointer (some ⟨bS, 0, none⟩), .int .i64 now, vA] w fun e w' => e = .returned (.tuple #[.agg #[.int .i64 2, .int .i64 n, .string ⟨#[]⟩, .slice none 0 0], .slice none 0 0, .bool true]) ∧ Below w.heap.size w w' := by
  have hmm := @run_makeMap Tryz.prog
  have hmf : ∀ (fn : Fn) (first cap : Array Value) (w : World), (Instr.makeFunc fn first cap).run Tryz.prog w = .ok (.func fn first cap) w := fun _ _ _ _ => rfl
  have Q9 := Lib.hid (show DoSt w ((w.alloc (.cells #[.int .i64 0, .int .i64 0, .string ⟨#[]⟩, .slice none 0 0] 29)).alloc (.map #[] 0)) (w.heap.size + 1) [] from ⟨by
    have := MapT.MB.made (w.alloc (.cells #[.int .i64 0, .int .i64 0, .string ⟨#[]⟩, .slice none 0 0] 29))
    rw [World.size_alloc] at this
    exact this, alloc_old.trans (alloc_old.mono (by simp)), by omega, blk_below (heap_alloc_new w _) alloc_old⟩)
  have RR := Lib.hid (fun X (hX : DoSt w X (w.heap.size + 1) flP) => (show Calls Tryz.prog 36 #[.pointer (some ⟨bS, 0, none⟩), .int .i64 now, vA, .map (some (w.heap.size + 1))] X (fun e w' => e = .returned (.tuple #[.agg #[.int .i64 2, .int .i64 n, .string ⟨#[]⟩, .slice none 0 0], .slice none 0 0, .bool true]) ∧ Below X.heap.size X w') from
    Run_fail w RAW NAME F bS bM (w.heap.size + 1) l _ now xs vA n hF X hX.below (hS.below hX.below) (hA.below hX.below) hX.mb hsel hx hent hfit hup))
  obtain ⟨aA, acap, hvA, _⟩ := id hA
  clear hfit hup hA hS hx hsel hent hF
  subst hvA
  go_enter Tryz.func27, Tryz.ntmps27
  go_wp2_with (first | (refine MapT.at_insertF _ rfl rfl _ _ _ rfl Tryz.underlying81 Tryz.underlying9 (w.heap.size + 1) _ rfl Q9.out.mb ?_; intro w9 hM9 hg9; have Q9 := Lib.hid (Q9.out.ins hM9 hg9); clear hM9 hg9) | (go_at_call 36; (with_reducible refine (RR.out _ Q9.out).mono ?_); rintro e w5 ⟨rfl, hb5⟩; have B5 := Lib.hid hb5; obtain ⟨⟨a0, a1, a2, a3⟩, ⟨f0, f1, f2, f3⟩⟩ := cells4 (blk_below Q9.out.reply hb5); clear hb5))
  have BW := Lib.hid (Q9.out.below.trans (B5.out.mono (Below.size Q9.out.below)))
  exact bodyPost_ret (v := .tuple #[.agg #[.int .i64 2, .int .i64 n, .string ⟨#[]⟩, .slice none 0 0], .slice none 0 0, .bool true]) (by simp [results, Tryz.results27, go_sem, a0, a1, a2, a3]) rfl ⟨rfl, (((BW.out.setCell (p := ⟨w.heap.size, 0, none⟩) (Nat.le_refl _) _).setCell (p := ⟨w.heap.size, 1, none⟩) (Nat.le_refl _) _).setCell (p := ⟨w.heap.size, 2, none⟩) (Nat.le_refl _) _).setCell (p := ⟨w.heap.size, 3, none⟩) (Nat.le_refl _) _⟩
/-- A law's do. -/
theorem do_DP {α : Type} (K : Kd α) (ok : ByteArray → α → Prop) (hO : KdOk K ok) (RAW NAME : ByteArray) (F : FuncId) (bS bM : Nat) (D : List (ByteArray × α)) (xs : List ByteArray) (vA : Value) (k n : Int) (s : ByteArray) (R : Nat → World → Value → Prop) (hR : RKeep R) (des : List (ByteArray × Option α)) (hm : MayD ok des D) (w : World) (hS : SPG K ok w bS bM D) (hA : SSl w vA xs) (hx : xs[0]? = some RAW) (hfit : ∀ X, SSl X vA xs → Calls Tryz.prog 95 #[vA] X fun e w' => e = .returned (.int .i64 0) ∧ Below X.heap.size X w') (hup : ∀ X, Calls Tryz.prog 96 #[.string RAW] X fun e w' => e = .returned (.string NAME) ∧ Below X.heap.size X w')
    (hsel : MapT.find NAME flP = some (.func (.func F) #[] #[])) (hent : ∀ (args : Array Value) (w : World), (callFunc F args).run Tryz.prog w = .ok (.enter F args) w) (hF : ∀ X, Below w.heap.size w X → CmdD K ok F bS bM D 1 xs k n s R des X) :
    Calls Tryz.prog 14 #[.pointer (some ⟨bS, 0, none⟩), vA] w fun e w' => ∃ A m c, e = .returned (.agg #[.int .i64 k, .int .i64 n, .string s, .slice A m c]) ∧ R w.heap.size w' (.slice A m c) ∧ SPG K ok w' bS bM (applyD des D) ∧ Kp w.heap.size (fun i => i ≠ bS ∧ i ≠ bM) w w' := by
  refine do_okGp K ok hO bS bM D vA k n s R hR des hm w hS (fun X hX => ?_)
  obtain ⟨⟨l, hSP, hAE⟩, hall⟩ := SPG.below K ok hS hX
  refine Do_okP RAW NAME F bS bM l 1 xs vA k n s R (EL K des) hR (EL.keep K des) X hSP (hA.below hX) hx hfit hup hsel hent (fun W hW Y j vB hY _ hJ hss => ?_)
  refine (hF Y ((hX.trans (hW.mono (Below.size hX))).trans (hY.mono (Nat.le_trans (Below.size hX) (Below.size hW)))) j vB (SPG.below K ok hS ((hX.trans (hW.mono (Below.size hX))).trans (hY.mono (Nat.le_trans (Below.size hX) (Below.size hW))))) hJ hss).mono ?_
  rintro e w' ⟨A, m, c, rfl, hRR, ⟨vl, ⟨A', n', c', rfl⟩, hJ', css, hE', hA'⟩, hK⟩
  exact ⟨A, m, c, rfl, hRR, ⟨A', n', c', hJ', css, hE', hA'⟩, hK⟩
end Go.Proofs.YticlacjpgjkhcaaGreatDoor

/- points: PTURN. -/
namespace Go.Proofs.YticlacjpgjkhcaaGreatDoor
open Go.ChangeShapes Go.WideShapes Go.ChangeAt Go.RowKit Go.Fl

/-- Points, some of which are turned. -/
def mixP (f : Int → Int → Int × Int) (F : List (ByteArray × Int × Int)) (i : Nat) : List (ByteArray × Int × Int) := (F.take i).map (fun p => (p.1, f p.2.1 p.2.2)) ++ F.drop i
def mapP (f : Int → Int → Int × Int) (F : List (ByteArray × Int × Int)) : List (ByteArray × Int × Int) := F.map (fun p => (p.1, f p.2.1 p.2.2))
theorem mix_0 (f : Int → Int → Int × Int) (F : List (ByteArray × Int × Int)) : mixP f F 0 = F := by simp [mixP]
theorem mix_full (f : Int → Int → Int × Int) (F : List (ByteArray × Int × Int)) (n : Nat) (h : F.length = n) : mixP f F n = mapP f F := by subst h; simp [mixP, mapP]
theorem mix_len (f : Int → Int → Int × Int) (F : List (ByteArray × Int × Int)) (i : Nat) : (mixP f F i).length = F.length := by simp [mixP]; omega
theorem mix_at (f : Int → Int → Int × Int) : ∀ (F : List (ByteArray × Int × Int)) (i : Nat) (p : ByteArray × Int × Int), F[i]? = some p → (mixP f F i)[i]? = some p
  | [], _, _, h => by simp at h
  | q :: r, 0, p, h => by simpa [mixP] using h
  | q :: r, i + 1, p, h => by
    have ih := mix_at f r i p (by simpa using h)
    simpa [mixP] using ih
theorem mix_set (f : Int → Int → Int × Int) : ∀ (F : List (ByteArray × Int × Int)) (i : Nat) (p : ByteArray × Int × Int), F[i]? = some p → (mixP f F i).set i (p.1, (f p.2.1 p.2.2).1, (f p.2.1 p.2.2).2) = mixP f F (i + 1)
  | [], _, _, h => by simp at h
  | q :: r, 0, p, h => by
    simp at h
    subst h
    simp [mixP]
  | q :: r, i + 1, p, h => by
    have ih := mix_set f r i p (by simpa using h)
    simpa [mixP] using ih
theorem map_len (f : Int → Int → Int × Int) (F : List (ByteArray × Int × Int)) : (mapP f F).length = F.length := by simp [mapP]
theorem map_ne {f : Int → Int → Int × Int} {F : List (ByteArray × Int × Int)} (h : F ≠ []) : mapP f F ≠ [] := by simpa [mapP] using h
set_option maxRecDepth 100000 in
set_option maxHeartbeats 8000000 in
theorem cPTURN (bS bM : Nat) (D : List (ByteArray × List (ByteArray × Int × Int))) (now : Int) (NM k : ByteArray) (t : ByteArray) (x : Int) (ht : t.size ≤ 100000) (hp : parseI t.data.toList = some x) (F : List (ByteArray × Int × Int)) (hne : F ≠ []) (hF : (findD k D).getD [] = F) (ho2 : ∀ p ∈ F, okP2 p) (hok : okP k (mapP (trn (x % 4)) F)) (ho3 : ∀ p ∈ mapP (trn (x % 4)) F, okP2 p) (w : World) : CmdD KP okP 44 bS bM D now [NM, k, t] 3 (F.length : Nat) ⟨#[]⟩ R0 (dEff k (some (mapP (trn (x % 4)) F)) D) w := by
  intro j vA hS hj hA
  show Calls Tryz.prog 44 #[.pointer (some ⟨j, 0, none⟩)] w _
  have hjw := lt_blk hj
  obtain ⟨blk, off, cap, rfl, hAR⟩ := AR.of hj hA (by simp)
  have A1 := Lib.hid (alloc_old (w := w) (o := .cells #[.int .i64 0, .int .i64 0, .string ⟨#[]⟩, .slice none 0 0] 29))
  have hr := Lib.hid (heap_alloc_new w (.cells #[.int .i64 0, .int .i64 0, .string ⟨#[]⟩, .slice none 0 0] 29))
  obtain ⟨n, hn⟩ : ∃ n, F.length = n := ⟨_, rfl⟩
  have hl2 : ([NM, k, t]).length = 3 := rfl
  rw [hl2] at hj hA ⊢
  have hz : (w.alloc (.cells #[.int .i64 0, .int .i64 0, .string ⟨#[]⟩, .slice none 0 0] 29)).heap.size = w.heap.size + 1 := by simp
  have HO := pof_any bS bM j D now blk off cap ([NM, k, t]) 3 hl2 (by omega) k rfl (.slice none 0 0) F hF (w.alloc (.cells #[.int .i64 0, .int .i64 0, .string ⟨#[]⟩, .slice none 0 0] 29)) (SPG.below KP okP hS A1.out) (hj.below A1.out) (hAR.below A1.out)
  simp only [hz, hn] at HO
  have HO := Lib.hid HO
  have HJ := Lib.hid hj
  have HS := Lib.hid hS
  have HA := Lib.hid hA
  have HAR := Lib.hid hAR
  clear hS hj hA hAR hF hz
  have JN := Lib.hid (fun X (hX : Below w.heap.size w X) => JIn 2 j bS now _ _ _ 2 rfl t x ht hp rfl X (HJ.out.below hX) (HA.out.below hX))
  have hn0 : 0 < n := by rw [← hn]; exact List.length_pos_iff.2 hne
  have h31 : n ≤ 31 := by have := hok.2.2.2.1; rw [map_len, hn] at this; exact this
  have a3 := and3 x
  have HO2 := Lib.hid ho2
  have HO3 := Lib.hid ho3
  have HOK := Lib.hid hok
  have HNE := Lib.hid hne
  have HN := Lib.hid hn
  have IN := Lib.hid (fun X => Int75 (n : Int) X)
  rw [hn]
  clear ho2 ho3 hok hp hne ht hn
  go_enter Tryz.func44, Tryz.ntmps44
  go_wp2_with (first | (go_at_call 99; (with_reducible refine (HO.out).mono ?_); rintro e w1 ⟨A, C, rfl, hR, h1⟩; have R1 := Lib.hid hR; have B1 := Lib.hid (A1.out.trans (h1.mono (Nat.le_succ _))); have r1 := Lib.hid ((h1.block w.heap.size (Nat.lt_succ_self _)).trans hr.out); clear h1 hR; refine Hid.out ?_))
  refine Lib.hid ?_
  have AE := Lib.hid (alloc_old (w := w1) (o := .cells #[.string k, .int .i64 5, .string ⟨#[]⟩, .slice none 0 0, .slice none 0 0, .slice none 0 0, .slice A n C, .int .i64 0] 66))
  have re := Lib.hid (heap_alloc_new w1 (.cells #[.string k, .int .i64 5, .string ⟨#[]⟩, .slice none 0 0, .slice none 0 0, .slice none 0 0, .slice A n C, .int .i64 0] 66))
  have R2 := Lib.hid (R1.out.below AE.out)
  have r2 := Lib.hid (blk_below r1.out AE.out)
  have B2 := Lib.hid (B1.out.trans (AE.out.mono (Below.size B1.out)))
  have z1 := lt_blk r1.out
  have z2 : w1.heap.size < (w1.alloc (.cells #[.string k, .int .i64 5, .string ⟨#[]⟩, .slice none 0 0, .slice none 0 0, .slice none 0 0, .slice A n C, .int .i64 0] 66)).heap.size := by simp
  have J2 := Lib.hid (JN.out _ B2.out)
  go_wp2_with (first | (go_at_call 110; (with_reducible refine (J2.out).mono ?_); rintro e w3 ⟨rfl, h3⟩; have B3 := Lib.hid (B2.out.trans (h3.mono (Below.size B2.out))); have R3 := Lib.hid (R2.out.below h3); have r3 := Lib.hid (blk_below r2.out h3); have e3 := Lib.hid (blk_below re.out h3); clear h3; refine Hid.out ?_))
  refine Lib.hid ?_
  obtain ⟨g, C', eA, _⟩ := R3.out.form HNE.out
  rw [HN.out] at eA
  cases eA
  have hg := R3.out.own
  have hgr : g ≠ w.heap.size := by omega
  have hgq : g ≠ w1.heap.size := by
    intro e
    obtain ⟨cs, hc⟩ := row_typ R3.out g rfl
    have := e3.out
    rw [← e, hc] at this
    cases this
  have l3 := lt_blk e3.out
  go_wp2
  go_loopw [17] (fun iv wr => ∃ i : Nat, i ≤ n ∧ iv = .int .i64 i ∧ Hid (RP wr (w.heap.size + 1) (.slice (some ⟨g, 0, none⟩) n C) (mixP (trn (x % 4)) F i) ∧ Kp w3.heap.size (fun b => b ≠ g) w3 wr)) (fun iv _ => n - (intOf iv).toNat)
  case atStart => exact ⟨0, Nat.zero_le _, rfl, Lib.hid ⟨by rw [mix_0]; exact R3.out, Kp.refl _ _ _⟩⟩
  case round =>
    obtain ⟨i, hi, rfl, HQ⟩ := hrel
    have BW := Lib.hid (B3.out.trans (HQ.out.2.below (fun b hb => ⟨Nat.lt_of_lt_of_le hb (Below.size B3.out), by omega⟩)))
    have hl9 : (mixP (trn (x % 4)) F i).length = n := by rw [mix_len, HN.out]
    by_cases hlt : i < n
    · have q0 : (i : Int) < (n : Int) := by omega
      obtain ⟨p, hp⟩ : ∃ p, F[i]? = some p := ⟨_, List.getElem?_eq_getElem (by rw [HN.out]; exact hlt)⟩
      obtain ⟨o1, o2⟩ := HO2.out p (List.mem_of_getElem? hp)
      have hpm := mix_at (trn (x % 4)) F i p hp
      obtain ⟨d0, d1⟩ := HQ.out.1.at hl9 i p hpm
      have AP := Lib.hid (alloc_old (w := wr) (o := .cells #[.string p.1, .complex .f64 (fi p.2.1) (fi p.2.2)] 110))
      obtain ⟨e0, e1⟩ := cells_of (heap_alloc_new wr (.cells #[.string p.1, .complex .f64 (fi p.2.1) (fi p.2.2)] 110))
      have RA := Lib.hid (HQ.out.1.below AP.out)
      obtain ⟨d2, d3⟩ := RA.out.at hl9 i p hpm
      have RS := Lib.hid (RA.out.setAt hl9 i p hpm (trn (x % 4) p.2.1 p.2.2).1 (trn (x % 4) p.2.1 p.2.2).2)
      have MS := Lib.hid (mix_set (trn (x % 4)) F i p hp)
      obtain ⟨cs, hcs⟩ := row_typ RA.out g rfl
      have fz := frozen_of_row _ g (i * 2 + 1) cs 110 hcs
      have TN := Lib.hid (fun X => Turn_any p.2.1 p.2.2 (x % 4) o1 o2 X)
      have KQ := Lib.hid ((HQ.out.2.alloc (HQ.out.2.size) (.cells #[.string p.1, .complex .f64 (fi p.2.1) (fi p.2.2)] 110)).setCell (p := ⟨g, i * 2 + 1, none⟩) (fun h => h.2 rfl) (.complex .f64 (fi (trn (x % 4) p.2.1 p.2.2).1) (fi (trn (x % 4) p.2.1 p.2.2).2)))
      clear hp hpm hcs hl9
      go_wp2_with (first | (go_at_call 111; (with_reducible refine (TN.out _).mono ?_); rintro e w4 ⟨rfl, rfl⟩))
      exact ⟨⟨i + 1, by omega, by go_num, Lib.hid ⟨by rw [← MS.out]; exact RS.out, KQ.out⟩⟩, by simp [intOf]; omega⟩
    · obtain rfl : i = n := by omega
      have q0 : ¬ (i : Int) < (i : Int) := by omega
      have hm := mix_full (trn (x % 4)) F i HN.out
      have hQ := HQ.out.1
      rw [hm] at hQ
      have RE := Lib.hid ((HQ.out.2.block w.heap.size (by omega) (by omega)).trans r3.out)
      obtain ⟨⟨k0, k1, k2, k3, k4, k5, k6, k7⟩, _, _⟩ := cells8 ((HQ.out.2.block w1.heap.size l3 (by omega)).trans e3.out)
      have PU := Lib.hid (pput_any bS bM j D k now _ w.heap.size (some ⟨g, 0, none⟩) (some ⟨g, 0, none⟩) i C i C (mapP (trn (x % 4)) F) (by rw [map_len, HN.out]) (map_ne HNE.out) HOK.out HO3.out wr (SPG.below KP okP HS.out BW.out) (HJ.out.below BW.out) (Below.size BW.out) (hQ.mono (Nat.le_succ _)))
      clear hQ hm hl9 HQ
      go_wp2_with (first | (go_at_call 103; (with_reducible refine (PU.out).mono ?_); rintro e w5 ⟨rfl, ⟨vl5, hJ5⟩, hK5⟩; have J5 := Lib.hid hJ5; have K5 := Lib.hid hK5; have r5 := Lib.hid ((hK5.block w.heap.size (lt_blk RE.out) (by omega)).trans RE.out); clear hJ5 hK5) | (go_at_call 69; (with_reducible refine (IN.out _).mono ?_); rintro e w7 ⟨rfl, h1⟩; have B7 := Lib.hid h1; have r7 := Lib.hid (blk_below r5.out h1); obtain ⟨⟨c0, c1, c2, c3⟩, ⟨f0, f1, f2, f3⟩⟩ := cells4 (blk_below r5.out h1); clear h1))
      exact bodyPost_ret (v := .agg #[.int .i64 3, .int .i64 (i : Int), .string ⟨#[]⟩, .slice none 0 0]) (by simp [results, Tryz.results44, go_sem, c0, c1, c2, c3]) rfl (endT KP hjw (JD.below KP J5.out B7.out) r7.out (((Kp.of BW.out).trans (K5.out.mono (Below.size BW.out) (fun _ h => h))).below_after B7.out (Nat.le_trans (Below.size BW.out) K5.out.size)) _ _ _ _)
end Go.Proofs.YticlacjpgjkhcaaGreatDoor
