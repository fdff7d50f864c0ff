/- Texts joined: G8z, DoZ, Iter, G17 -/
import Derived.Test.YticlacjpgjkhcaaGreatDoorQs15
import Derived.Test.YticlacjpgjkhcaaGreatDoorQs26
import Derived.Shelf.SlIter.Nil
import Derived.Shelf.SortM.Plain
import Derived.Shelf.SortM.SortNone
import Derived.Test.YticlacjpgjkhcaaGreatDoorProg
import Derived.Test.YticlacjpgjkhcaaGreatDoorQs12
import Derived.Test.YticlacjpgjkhcaaGreatDoorQs14
import Derived.Deep.AppendLies
set_option linter.unusedVariables false
set_option linter.unusedSimpArgs false

/- A law's do: a command's effects, as data, applied to the space as data. -/
namespace Go.Proofs.YticlacjpgjkhcaaGreatDoor
open Go.ChangeShapes Go.WideShapes Go.ChangeAt Go.RowKit

set_option maxRecDepth 100000 in
set_option maxHeartbeats 8000000 in
theorem do_okGz {α : Type} (K : Kd α) (ok : ByteArray → α → Prop) (hO : KdOk K ok) (bS bM : Nat) (D : List (ByteArray × α)) (vA : Value) (k n : Int) (s : ByteArray) (R : Nat → World → Value → Prop) (hR : RKeep R) (des : List (ByteArray × Option α)) (hm : MayD ok des D) (w : World) (hS : SPG K ok w bS bM D)
    (hD : ∀ X, Below w.heap.size w X → Calls Tryz.prog 30 #[.pointer (some ⟨bS, 0, none⟩), .int .i64 1, vA] X fun e w' => ∃ A m c A' n' c', e = .returned (.tuple #[.agg #[.int .i64 k, .int .i64 n, .string s, .slice A m c], .slice A' n' c', .bool true]) ∧ R X.heap.size w' (.slice A m c) ∧ EL K des X.heap.size w' (.slice A' n' c') ∧ Below X.heap.size X w') :
    Calls Tryz.prog 17 #[.pointer (some ⟨bS, 0, none⟩), vA] w fun e w' => ∃ A m c, e = .returned (.agg #[.int .i64 k, .int .i64 n, .string s, .slice A m c]) ∧ R w.heap.size w' (.slice A m c) ∧ SPG K ok w' bS bM (applyD des D) ∧ Kp w.heap.size (fun i => i ≠ bS ∧ i ≠ bM) w w' := by
  have A1 := Lib.hid (alloc_old (w := w) (o := .cells #[.int .i64 0, .int .i64 0, .string ⟨#[]⟩, .slice none 0 0] 29))
  have hr := Lib.hid (heap_alloc_new w (.cells #[.int .i64 0, .int .i64 0, .string ⟨#[]⟩, .slice none 0 0] 29))
  have DO := Lib.hid (hD _ A1.out)
  have HS := Lib.hid hS
  have HM := Lib.hid hm
  obtain ⟨hl1, hl2, hne⟩ := SPG.lt K ok hS
  obtain ⟨kd, hkd⟩ : ∃ kd, K.kd = kd := ⟨_, rfl⟩
  have hz0 : ¬ kd = 0 := hkd ▸ K.nz.1
  have hz1 : (kd == 0) = false := by rw [beq_eq_false_iff_ne]; exact hz0
  clear hS hD hm
  go_enter Tryz.func17, Tryz.ntmps17
  go_wp2_with (first | (go_at_call 30; (with_reducible refine (DO.out).mono ?_); rintro e w5 ⟨A, m, c, A', n', c', rfl, hRR, hE, hb5⟩; have B5 := Lib.hid (A1.out.trans (hb5.mono (Below.size A1.out))); have R5 := Lib.hid (blk_below hr.out hb5); have HR := Lib.hid hRR; have HE := Lib.hid hE; clear hRR hE hb5; refine Hid.out ?_))
  refine Lib.hid ?_
  have B6 := Lib.hid (show Below w.heap.size w (w5.alloc (.cells #[.int .i64 k, .int .i64 n, .string s, .slice A m c] 29)) from B5.out.trans (alloc_old.mono (Below.size B5.out)))
  have o6 := Lib.hid (heap_alloc_new w5 (.cells #[.int .i64 k, .int .i64 n, .string s, .slice A m c] 29))
  have R6 := Lib.hid (blk_below R5.out (alloc_old (o := .cells #[.int .i64 k, .int .i64 n, .string s, .slice A m c] 29)))
  have HE6 := Lib.hid ((EL.keep K des).kept _ _ (w5.alloc (.cells #[.int .i64 k, .int .i64 n, .string s, .slice A m c] 29)) _ HE.out (by simp) (fun i _ hi => alloc_old.block i hi))
  have hs5 := Below.size B5.out
  have hs6 := lt_blk R5.out
  have hz : w5.heap.size < (w5.alloc (.cells #[.int .i64 k, .int .i64 n, .string s, .slice A m c] 29)).heap.size := by simp
  go_wp2_with fail
  have B56 := Lib.hid (show Below w5.heap.size w5 (w5.alloc (.cells #[.int .i64 k, .int .i64 n, .string s, .slice A m c] 29)) from alloc_old)
  generalize (w5.alloc (.cells #[.int .i64 k, .int .i64 n, .string s, .slice A m c] 29)) = w6 at B6 o6 R6 HE6 hz B56 ⊢
  obtain ⟨css, hEF, hAL⟩ := HE6.out
  have hlen := ALC.len K hAL
  obtain ⟨hn, hg⟩ := hEF.form
  rw [hlen] at hn
  subst hn
  have EF6 := Lib.hid hEF
  have AL6 := Lib.hid hAL
  have S6 := Lib.hid (SPG.below K ok HS.out B6.out)
  have hz1w : (w.alloc (.cells #[.int .i64 0, .int .i64 0, .string ⟨#[]⟩, .slice none 0 0] 29)).heap.size = w.heap.size + 1 := by simp
  have hmx : des.length ≤ maxLen := by
    have := hEF
    unfold EFC World.ownsRow at this
    obtain ⟨_, ⟨_, h0⟩ | ⟨g, cap', cur, _, _, _, h3, h4, _⟩⟩ := this
    · omega
    · omega
  have hl9 : des.length ≤ 9223372036854775807 := by unfold maxLen at hmx; omega
  clear hEF hAL hmx
  go_loopw [8] (fun iv wr => ∃ (i : Nat) (D2 : List (ByteArray × α)), i ≤ des.length ∧ iv = .int .i64 i ∧ Hid (SPG K ok wr bS bM D2 ∧ MayD ok (des.drop i) D2 ∧ applyD (des.drop i) D2 = applyD des D ∧ Kp w6.heap.size (fun i => i ≠ bS ∧ i ≠ bM) w6 wr)) (fun iv _ => des.length - (intOf iv).toNat)
  case atStart => exact ⟨0, D, Nat.zero_le _, rfl, Lib.hid ⟨S6.out, HM.out, rfl, Kp.refl _ _ _⟩⟩
  case round =>
    obtain ⟨i, D2, hi, rfl, HQ⟩ := hrel
    by_cases hlt2 : i < des.length
    · have q0 : (i : Int) < (des.length : Int) := by omega
      obtain ⟨g, rfl, hgc, hgl⟩ := hg (by intro e; rw [e] at hlen; simp at hlen; omega)
      have hdrop : des.drop i = des[i] :: des.drop (i + 1) := List.drop_eq_getElem_cons hlt2
      obtain ⟨e0, he0⟩ : ∃ e0, des[i]? = some e0 := ⟨des[i], List.getElem?_eq_getElem hlt2⟩
      have hei : des[i] = e0 := by have := List.getElem?_eq_getElem hlt2; rw [he0] at this; exact (Option.some.inj this).symm
      have hQ := HQ.out
      rw [hdrop, hei] at hQ
      obtain ⟨hSP, hmm, hap, hKp⟩ := hQ
      have hEr : EFC wr (w.alloc (.cells #[.int .i64 0, .int .i64 0, .string ⟨#[]⟩, .slice none 0 0] 29)).heap.size (.slice (some ⟨g, 0, none⟩) des.length c') css := EF6.out.kept (fun g9 hg9 => by cases hg9; exact hKp.block g hgl ⟨by omega, by omega⟩)
      have hAr : ALC K (w.alloc (.cells #[.int .i64 0, .int .i64 0, .string ⟨#[]⟩, .slice none 0 0] 29)).heap.size wr des css := ALC.kept K (fun x a b d e hV hc g hg => hKp.block g (K.lt hV hg) (K.own_ne hV S6.out.1.choose_spec.1 g hg).2) AL6.out
      obtain ⟨cs0, hcs, hEC⟩ := ALC.get K hAr i e0 he0
      have hcells := fun j v hj => hEr.cell (i * 8 + j) v (flat8 K hAr i cs0 hcs j v hj)
      obtain ⟨k9, x9⟩ := e0
      cases x9 with
      | some x9 =>
        obtain ⟨hok, hl4, hmr⟩ := hmm
        obtain ⟨A3, A4, A5, A6, an3, ac3, an4, ac4, an5, ac5, an6, ac6, rfl, hV9, _⟩ := hEC
        have PP := PutD K ok hO bS bM D2 k9 x9 A3 A4 A5 A6 an3 ac3 an4 ac4 an5 ac5 an6 ac6 hok wr hSP hl4 hV9
        rw [hkd] at PP hcells
        have x0 := hcells 0 _ rfl
        have x1 := hcells 1 _ rfl
        have x2 := hcells 2 _ rfl
        have x3 := hcells 3 _ rfl
        have x4 := hcells 4 _ rfl
        have x5 := hcells 5 _ rfl
        have x6 := hcells 6 _ rfl
        have x7 := hcells 7 _ rfl
        simp only [Nat.add_zero] at x0
        have PP := Lib.hid PP
        have HMR := Lib.hid hmr
        have HAP := Lib.hid hap
        have HKP := Lib.hid hKp
        clear hcells hEr hAr hSP hmr hap hKp he0 hei hdrop HQ hV9 hok hl4 hcs
        go_wp2_with (first | (go_at_call 29; (with_reducible refine (PP.out).mono ?_); rintro e w8 ⟨rfl, hSP8, hK8⟩; have HS8 := Lib.hid hSP8; have HK8 := Lib.hid hK8; clear hSP8 hK8))
        refine ⟨⟨i + 1, _, by omega, by go_num, Lib.hid ⟨HS8.out, HMR.out, HAP.out, HKP.out.trans (HK8.out.mono HKP.out.size (fun _ h => h))⟩⟩, by simp [intOf]; omega⟩
      | none =>
        obtain ⟨⟨y, hy⟩, hmr⟩ := hmm
        have hEC : cs0 = _ := hEC
        subst hEC
        have x0 := hcells 0 _ rfl
        have x1 := hcells 1 _ rfl
        have x2 := hcells 2 _ rfl
        simp only [Nat.add_zero] at x0
        have PP := Lib.hid (DelD K ok hO bS bM D2 k9 y hy wr hSP)
        have HMR := Lib.hid hmr
        have HAP := Lib.hid hap
        have HKP := Lib.hid hKp
        clear hcells hEr hAr hSP hmr hap hKp he0 hei hdrop HQ hcs hy
        go_wp2_with (first | (go_at_call 28; (with_reducible refine (PP.out).mono ?_); rintro e w8 ⟨rfl, hSP8, hK8⟩; have HS8 := Lib.hid hSP8; have HK8 := Lib.hid hK8; clear hSP8 hK8))
        refine ⟨⟨i + 1, _, by omega, by go_num, Lib.hid ⟨HS8.out, HMR.out, HAP.out, HKP.out.trans (HK8.out.mono HKP.out.size (fun _ h => h))⟩⟩, by simp [intOf]; omega⟩
    · have hie : i = des.length := by omega
      subst hie
      have q0 : ¬ (des.length : Int) < (des.length : Int) := by omega
      have hQ := HQ.out
      rw [List.drop_length] at hQ
      obtain ⟨hSP, _, hap, hKp⟩ := hQ
      have hlW : w5.heap.size ≠ bS ∧ w5.heap.size ≠ bM ∧ w.heap.size ≠ bS ∧ w.heap.size ≠ bM := by omega
      have o8 := Lib.hid ((hKp.block w5.heap.size (lt_blk o6.out) ⟨hlW.1, hlW.2.1⟩).trans o6.out)
      have R8 := Lib.hid ((hKp.block w.heap.size (lt_blk R6.out) ⟨hlW.2.2.1, hlW.2.2.2⟩).trans R6.out)
      have HSP := Lib.hid hSP
      have HAP := Lib.hid hap
      have HKP := Lib.hid hKp
      clear hSP hap hKp HQ hi hlt2
      obtain ⟨⟨d0, d1, d2, d3⟩, _⟩ := cells4 o8.out
      obtain ⟨⟨c0, c1, c2, c3⟩, ⟨f0, f1, f2, f3⟩⟩ := cells4 R8.out
      go_wp2
      have hR5 := HR.out
      rw [hz1w] at hR5
      have hsz : w5.heap.size ≤ (((((wr.setCell ⟨w.heap.size, 0, none⟩ (.int .i64 k)).setCell ⟨w.heap.size, 1, none⟩ (.int .i64 n)).setCell ⟨w.heap.size, 2, none⟩ (.string s)).setCell ⟨w.heap.size, 3, none⟩ (.slice A m c))).heap.size := Nat.le_trans (Below.size B56.out) (Nat.le_trans HKP.out.size (by simp [World.setCell]))
      have hR9 := hR.mono _ w.heap.size _ _ (hR.kept _ _ (((((wr.setCell ⟨w.heap.size, 0, none⟩ (.int .i64 k)).setCell ⟨w.heap.size, 1, none⟩ (.int .i64 n)).setCell ⟨w.heap.size, 2, none⟩ (.string s)).setCell ⟨w.heap.size, 3, none⟩ (.slice A m c))) _ hR5 hsz (fun i h1 h2 => (far4 _ _ _ _ (by omega)).trans ((HKP.out.block i (Nat.lt_of_lt_of_le h2 (Below.size B56.out)) ⟨by omega, by omega⟩).trans (B56.out.block i h2)))) (by omega)
      have hl2 : D2 = applyD des D := HAP.out
      subst hl2
      have hS9 : SPG K ok ((((wr.setCell ⟨w.heap.size, 0, none⟩ (.int .i64 k)).setCell ⟨w.heap.size, 1, none⟩ (.int .i64 n)).setCell ⟨w.heap.size, 2, none⟩ (.string s)).setCell ⟨w.heap.size, 3, none⟩ (.slice A m c)) bS bM (applyD des D) := by
        obtain ⟨⟨l, h1, h2⟩, h3⟩ := HSP.out
        refine ⟨⟨l, h1.kept (far4 _ _ _ _ (by omega)) (far4 _ _ _ _ (by omega)), AllE.kept2 K (fun x a b d e hV g hg => far4 _ _ _ _ (fun e => ?_)) h2⟩, h3⟩
        obtain ⟨cs, t, h4, _, _, _, _, h5⟩ := K.typ hV hg
        rw [e] at h4
        have := R8.out
        rw [h4] at this
        cases this
        exact h5 rfl
      exact bodyPost_ret (v := .agg #[.int .i64 k, .int .i64 n, .string s, .slice A m c]) (by simp [results, Tryz.results17, go_sem, c0, c1, c2, c3]) rfl ⟨A, m, c, rfl, hR9, hS9, ((((((Kp.of B6.out).trans (HKP.out.mono (Below.size B6.out) (fun _ h => h))).setCell (p := ⟨w.heap.size, 0, none⟩) (by simp) _).setCell (p := ⟨w.heap.size, 1, none⟩) (by simp) _).setCell (p := ⟨w.heap.size, 2, none⟩) (by simp) _).setCell (p := ⟨w.heap.size, 3, none⟩) (by simp) _)⟩
end Go.Proofs.YticlacjpgjkhcaaGreatDoor

/- scores.Do: the commands' functions by name; a law's do over data. -/
namespace Go.Proofs.YticlacjpgjkhcaaGreatDoor
open Go.ChangeShapes Go.WideShapes Go.ChangeAt Go.RowKit

/-- The commands' functions. -/
abbrev flZ : MapT.Ents := MapT.put ⟨#[90, 82, 69, 77, 82, 65, 78, 71, 69, 66, 89, 83, 67, 79, 82, 69]⟩ (.func (.func 76) #[] #[]) (MapT.put ⟨#[90, 82, 69, 77, 82, 65, 78, 71, 69, 66, 89, 82, 65, 78, 75]⟩ (.func (.func 73) #[] #[]) (MapT.put ⟨#[90, 80, 79, 80, 77, 65, 88]⟩ (.func (.func 72) #[] #[]) (MapT.put ⟨#[90, 80, 79, 80, 77, 73, 78]⟩ (.func (.func 70) #[] #[]) (MapT.put ⟨#[90, 67, 79, 85, 78, 84]⟩ (.func (.func 68) #[] #[]) (MapT.put ⟨#[90, 82, 65, 78, 71, 69, 66, 89, 83, 67, 79, 82, 69]⟩ (.func (.func 63) #[] #[]) (MapT.put ⟨#[90, 82, 69, 86, 82, 65, 78, 71, 69]⟩ (.func (.func 62) #[] #[]) (MapT.put ⟨#[90, 82, 65, 78, 71, 69]⟩ (.func (.func 60) #[] #[]) (MapT.put ⟨#[90, 82, 69, 86, 82, 65, 78, 75]⟩ (.func (.func 59) #[] #[]) (MapT.put ⟨#[90, 82, 65, 78, 75]⟩ (.func (.func 57) #[] #[]) (MapT.put ⟨#[90, 67, 65, 82, 68]⟩ (.func (.func 56) #[] #[]) (MapT.put ⟨#[90, 83, 67, 79, 82, 69]⟩ (.func (.func 55) #[] #[]) (MapT.put ⟨#[90, 82, 69, 77]⟩ (.func (.func 54) #[] #[]) (MapT.put ⟨#[90, 73, 78, 67, 82, 66, 89]⟩ (.func (.func 53) #[] #[]) (MapT.put ⟨#[90, 65, 68, 68]⟩ (.func (.func 52) #[] #[]) ([])))))))))))))))
theorem sel_ZADD : MapT.find ⟨#[90, 65, 68, 68]⟩ flZ = some (.func (.func 52) #[] #[]) := by kernel_rfl
theorem ent_ZADD (args : Array Value) (w : World) : (callFunc 52 args).run Tryz.prog w = .ok (.enter 52 args) w := by kernel_rfl
theorem sel_ZINCRBY : MapT.find ⟨#[90, 73, 78, 67, 82, 66, 89]⟩ flZ = some (.func (.func 53) #[] #[]) := by kernel_rfl
theorem ent_ZINCRBY (args : Array Value) (w : World) : (callFunc 53 args).run Tryz.prog w = .ok (.enter 53 args) w := by kernel_rfl
theorem sel_ZREM : MapT.find ⟨#[90, 82, 69, 77]⟩ flZ = some (.func (.func 54) #[] #[]) := by kernel_rfl
theorem ent_ZREM (args : Array Value) (w : World) : (callFunc 54 args).run Tryz.prog w = .ok (.enter 54 args) w := by kernel_rfl
theorem sel_ZSCORE : MapT.find ⟨#[90, 83, 67, 79, 82, 69]⟩ flZ = some (.func (.func 55) #[] #[]) := by kernel_rfl
theorem ent_ZSCORE (args : Array Value) (w : World) : (callFunc 55 args).run Tryz.prog w = .ok (.enter 55 args) w := by kernel_rfl
theorem sel_ZCARD : MapT.find ⟨#[90, 67, 65, 82, 68]⟩ flZ = some (.func (.func 56) #[] #[]) := by kernel_rfl
theorem ent_ZCARD (args : Array Value) (w : World) : (callFunc 56 args).run Tryz.prog w = .ok (.enter 56 args) w := by kernel_rfl
theorem sel_ZRANK : MapT.find ⟨#[90, 82, 65, 78, 75]⟩ flZ = some (.func (.func 57) #[] #[]) := by kernel_rfl
theorem ent_ZRANK (args : Array Value) (w : World) : (callFunc 57 args).run Tryz.prog w = .ok (.enter 57 args) w := by kernel_rfl
theorem sel_ZREVRANK : MapT.find ⟨#[90, 82, 69, 86, 82, 65, 78, 75]⟩ flZ = some (.func (.func 59) #[] #[]) := by kernel_rfl
theorem ent_ZREVRANK (args : Array Value) (w : World) : (callFunc 59 args).run Tryz.prog w = .ok (.enter 59 args) w := by kernel_rfl
theorem sel_ZRANGE : MapT.find ⟨#[90, 82, 65, 78, 71, 69]⟩ flZ = some (.func (.func 60) #[] #[]) := by kernel_rfl
theorem ent_ZRANGE (args : Array Value) (w : World) : (callFunc 60 args).run Tryz.prog w = .ok (.enter 60 args) w := by kernel_rfl
theorem sel_ZREVRANGE : MapT.find ⟨#[90, 82, 69, 86, 82, 65, 78, 71, 69]⟩ flZ = some (.func (.func 62) #[] #[]) := by kernel_rfl
theorem ent_ZREVRANGE (args : Array Value) (w : World) : (callFunc 62 args).run Tryz.prog w = .ok (.enter 62 args) w := by kernel_rfl
theorem sel_ZRANGEBYSCORE : MapT.find ⟨#[90, 82, 65, 78, 71, 69, 66, 89, 83, 67, 79, 82, 69]⟩ flZ = some (.func (.func 63) #[] #[]) := by kernel_rfl
theorem ent_ZRANGEBYSCORE (args : Array Value) (w : World) : (callFunc 63 args).run Tryz.prog w = .ok (.enter 63 args) w := by kernel_rfl
theorem sel_ZCOUNT : MapT.find ⟨#[90, 67, 79, 85, 78, 84]⟩ flZ = some (.func (.func 68) #[] #[]) := by kernel_rfl
theorem ent_ZCOUNT (args : Array Value) (w : World) : (callFunc 68 args).run Tryz.prog w = .ok (.enter 68 args) w := by kernel_rfl
theorem sel_ZPOPMIN : MapT.find ⟨#[90, 80, 79, 80, 77, 73, 78]⟩ flZ = some (.func (.func 70) #[] #[]) := by kernel_rfl
theorem ent_ZPOPMIN (args : Array Value) (w : World) : (callFunc 70 args).run Tryz.prog w = .ok (.enter 70 args) w := by kernel_rfl
theorem sel_ZPOPMAX : MapT.find ⟨#[90, 80, 79, 80, 77, 65, 88]⟩ flZ = some (.func (.func 72) #[] #[]) := by kernel_rfl
theorem ent_ZPOPMAX (args : Array Value) (w : World) : (callFunc 72 args).run Tryz.prog w = .ok (.enter 72 args) w := by kernel_rfl
theorem sel_ZREMRANGEBYRANK : MapT.find ⟨#[90, 82, 69, 77, 82, 65, 78, 71, 69, 66, 89, 82, 65, 78, 75]⟩ flZ = some (.func (.func 73) #[] #[]) := by kernel_rfl
theorem ent_ZREMRANGEBYRANK (args : Array Value) (w : World) : (callFunc 73 args).run Tryz.prog w = .ok (.enter 73 args) w := by kernel_rfl
theorem sel_ZREMRANGEBYSCORE : MapT.find ⟨#[90, 82, 69, 77, 82, 65, 78, 71, 69, 66, 89, 83, 67, 79, 82, 69]⟩ flZ = some (.func (.func 76) #[] #[]) := by kernel_rfl
theorem ent_ZREMRANGEBYSCORE (args : Array Value) (w : World) : (callFunc 76 args).run Tryz.prog w = .ok (.enter 76 args) w := by kernel_rfl
set_option maxRecDepth 100000 in
set_option maxHeartbeats 8000000 in
theorem Do_okZ (RAW NAME : ByteArray) (F : FuncId) (bS bM : Nat) (l : MapT.Ents) (now : Int) (xs : List ByteArray) (vA : Value) (k n : Int) (s : ByteArray) (R E : Nat → World → Value → Prop) (hR : RKeep R) (hE : RKeep E) (w : World) (hS : SP w bS bM l) (hA : SSl w vA xs) (hx : xs[0]? = some RAW) (hfit : ∀ X, SSl X vA xs → Calls Tryz.prog 95 #[vA] X fun e w' => e = .returned (.int .i64 0) ∧ Below X.heap.size X w') (hup : ∀ X, Calls Tryz.prog 96 #[.string RAW] X fun e w' => e = .returned (.string NAME) ∧ Below X.heap.size X w')
    (hsel : MapT.find NAME flZ = some (.func (.func F) #[] #[])) (hent : ∀ (args : Array Value) (w : World), (callFunc F args).run Tryz.prog w = .ok (.enter F args) w) (hF : ∀ W, Below w.heap.size w W → CmdOkG W F #[] bS bM l now xs k n s R E) :
    Calls Tryz.prog 30 #[.pointer (some ⟨bS, 0, none⟩), .int .i64 now, vA] w fun e w' => ∃ A m c A' n' c', e = .returned (.tuple #[.agg #[.int .i64 k, .int .i64 n, .string s, .slice A m c], .slice A' n' c', .bool true]) ∧ R w.heap.size w' (.slice A m c) ∧ E w.heap.size w' (.slice A' n' c') ∧ Below w.heap.size w w' := by
  have hmm := @run_makeMap Tryz.prog
  have hmf : ∀ (fn : Fn) (first cap : Array Value) (w : World), (Instr.makeFunc fn first cap).run Tryz.prog w = .ok (.func fn first cap) w := fun _ _ _ _ => rfl
  have Q9 := Lib.hid (show DoSt w ((w.alloc (.cells #[.int .i64 0, .int .i64 0, .string ⟨#[]⟩, .slice none 0 0] 29)).alloc (.map #[] 0)) (w.heap.size + 1) [] from ⟨by
    have := MapT.MB.made (w.alloc (.cells #[.int .i64 0, .int .i64 0, .string ⟨#[]⟩, .slice none 0 0] 29))
    rw [World.size_alloc] at this
    exact this, alloc_old.trans (alloc_old.mono (by simp)), by omega, blk_below (heap_alloc_new w _) alloc_old⟩)
  have RR := Lib.hid (fun X (hX : DoSt w X (w.heap.size + 1) flZ) => (show Calls Tryz.prog 36 #[.pointer (some ⟨bS, 0, none⟩), .int .i64 now, vA, .map (some (w.heap.size + 1))] X (fun e w' => ∃ A m c A' n' c', e = .returned (.tuple #[.agg #[.int .i64 k, .int .i64 n, .string s, .slice A m c], .slice A' n' c', .bool true]) ∧ R X.heap.size w' (.slice A m c) ∧ E X.heap.size w' (.slice A' n' c') ∧ Below X.heap.size X w') from
    Run_okG X RAW NAME F #[] bS bM (w.heap.size + 1) l _ now xs vA k n s R E (hF X hX.below) hR hE X (Below.refl _ _) (hS.below hX.below) (hA.below hX.below) hX.mb hsel hx hent hfit hup))
  obtain ⟨aA, acap, hvA, _⟩ := id hA
  clear hfit hup hA hS hx hsel hent hF
  subst hvA
  go_enter Tryz.func30, Tryz.ntmps30
  go_wp2_with (first | (refine MapT.at_insertF _ rfl rfl _ _ _ rfl Tryz.underlying81 Tryz.underlying9 (w.heap.size + 1) _ rfl Q9.out.mb ?_; intro w9 hM9 hg9; have Q9 := Lib.hid (Q9.out.ins hM9 hg9); clear hM9 hg9) | (go_at_call 36; (with_reducible refine (RR.out _ Q9.out).mono ?_); rintro e w5 ⟨A, m, c, A', n', c', rfl, hRR, hE5, hb5⟩; have B5 := Lib.hid hb5; obtain ⟨⟨a0, a1, a2, a3⟩, ⟨f0, f1, f2, f3⟩⟩ := cells4 (blk_below Q9.out.reply hb5); clear hb5))
  have BW := Lib.hid (Q9.out.below.trans (B5.out.mono (Below.size Q9.out.below)))
  have hle : w.heap.size + 1 ≤ w9.heap.size := Nat.le_of_lt (Q9.out.mb).lt
  have hfar : ∀ i, w.heap.size + 1 ≤ i → i < w5.heap.size → (((((w5.setCell ⟨w.heap.size, 0, none⟩ (.int .i64 k)).setCell ⟨w.heap.size, 1, none⟩ (.int .i64 n)).setCell ⟨w.heap.size, 2, none⟩ (.string s)).setCell ⟨w.heap.size, 3, none⟩ (.slice A m c))).heap[i]? = w5.heap[i]? := fun i hi _ => far4 (X := w5) (b := w.heap.size) _ _ _ _ (by omega)
  have hsz : w5.heap.size ≤ (((((w5.setCell ⟨w.heap.size, 0, none⟩ (.int .i64 k)).setCell ⟨w.heap.size, 1, none⟩ (.int .i64 n)).setCell ⟨w.heap.size, 2, none⟩ (.string s)).setCell ⟨w.heap.size, 3, none⟩ (.slice A m c))).heap.size := by simp [World.setCell]
  have hR6 := hR.kept _ _ _ _ (hR.mono _ (w.heap.size + 1) _ _ hRR hle) hsz hfar
  have hE6 := hE.kept _ _ _ _ (hE.mono _ (w.heap.size + 1) _ _ hE5 hle) hsz hfar
  exact bodyPost_ret (v := .tuple #[.agg #[.int .i64 k, .int .i64 n, .string s, .slice A m c], .slice A' n' c', .bool true]) (by simp [results, Tryz.results30, go_sem, a0, a1, a2, a3]) rfl ⟨A, m, c, A', n', c', rfl, hR.mono _ _ _ _ hR6 (by omega), hE.mono _ _ _ _ hE6 (by omega), (((BW.out.setCell (p := ⟨w.heap.size, 0, none⟩) (Nat.le_refl _) _).setCell (p := ⟨w.heap.size, 1, none⟩) (Nat.le_refl _) _).setCell (p := ⟨w.heap.size, 2, none⟩) (Nat.le_refl _) _).setCell (p := ⟨w.heap.size, 3, none⟩) (Nat.le_refl _) _⟩
set_option maxRecDepth 100000 in
set_option maxHeartbeats 8000000 in
theorem Do_failZ (RAW NAME : ByteArray) (F : FuncId) (bS bM : Nat) (l : MapT.Ents) (now : Int) (xs : List ByteArray) (vA : Value) (n : Int) (w : World) (hS : SP w bS bM l) (hA : SSl w vA xs) (hx : xs[0]? = some RAW) (hfit : ∀ X, SSl X vA xs → Calls Tryz.prog 95 #[vA] X fun e w' => e = .returned (.int .i64 0) ∧ Below X.heap.size X w') (hup : ∀ X, Calls Tryz.prog 96 #[.string RAW] X fun e w' => e = .returned (.string NAME) ∧ Below X.heap.size X w')
    (hsel : MapT.find NAME flZ = some (.func (.func F) #[] #[])) (hent : ∀ (args : Array Value) (w : World), (callFunc F args).run Tryz.prog w = .ok (.enter F args) w) (hF : CmdFail w F bS bM l now xs n) :
    Calls Tryz.prog 30 #[.pointer (some ⟨bS, 0, none⟩), .int .i64 now, vA] w fun e w' => e = .returned (.tuple #[.agg #[.int .i64 2, .int .i64 n, .string ⟨#[]⟩, .slice none 0 0], .slice none 0 0, .bool true]) ∧ Below w.heap.size w w' := by
  have hmm := @run_makeMap Tryz.prog
  have hmf : ∀ (fn : Fn) (first cap : Array Value) (w : World), (Instr.makeFunc fn first cap).run Tryz.prog w = .ok (.func fn first cap) w := fun _ _ _ _ => rfl
  have Q9 := Lib.hid (show DoSt w ((w.alloc (.cells #[.int .i64 0, .int .i64 0, .string ⟨#[]⟩, .slice none 0 0] 29)).alloc (.map #[] 0)) (w.heap.size + 1) [] from ⟨by
    have := MapT.MB.made (w.alloc (.cells #[.int .i64 0, .int .i64 0, .string ⟨#[]⟩, .slice none 0 0] 29))
    rw [World.size_alloc] at this
    exact this, alloc_old.trans (alloc_old.mono (by simp)), by omega, blk_below (heap_alloc_new w _) alloc_old⟩)
  have RR := Lib.hid (fun X (hX : DoSt w X (w.heap.size + 1) flZ) => (show Calls Tryz.prog 36 #[.pointer (some ⟨bS, 0, none⟩), .int .i64 now, vA, .map (some (w.heap.size + 1))] X (fun e w' => e = .returned (.tuple #[.agg #[.int .i64 2, .int .i64 n, .string ⟨#[]⟩, .slice none 0 0], .slice none 0 0, .bool true]) ∧ Below X.heap.size X w') from
    Run_fail w RAW NAME F bS bM (w.heap.size + 1) l _ now xs vA n hF X hX.below (hS.below hX.below) (hA.below hX.below) hX.mb hsel hx hent hfit hup))
  obtain ⟨aA, acap, hvA, _⟩ := id hA
  clear hfit hup hA hS hx hsel hent hF
  subst hvA
  go_enter Tryz.func30, Tryz.ntmps30
  go_wp2_with (first | (refine MapT.at_insertF _ rfl rfl _ _ _ rfl Tryz.underlying81 Tryz.underlying9 (w.heap.size + 1) _ rfl Q9.out.mb ?_; intro w9 hM9 hg9; have Q9 := Lib.hid (Q9.out.ins hM9 hg9); clear hM9 hg9) | (go_at_call 36; (with_reducible refine (RR.out _ Q9.out).mono ?_); rintro e w5 ⟨rfl, hb5⟩; have B5 := Lib.hid hb5; obtain ⟨⟨a0, a1, a2, a3⟩, ⟨f0, f1, f2, f3⟩⟩ := cells4 (blk_below Q9.out.reply hb5); clear hb5))
  have BW := Lib.hid (Q9.out.below.trans (B5.out.mono (Below.size Q9.out.below)))
  exact bodyPost_ret (v := .tuple #[.agg #[.int .i64 2, .int .i64 n, .string ⟨#[]⟩, .slice none 0 0], .slice none 0 0, .bool true]) (by simp [results, Tryz.results30, go_sem, a0, a1, a2, a3]) rfl ⟨rfl, (((BW.out.setCell (p := ⟨w.heap.size, 0, none⟩) (Nat.le_refl _) _).setCell (p := ⟨w.heap.size, 1, none⟩) (Nat.le_refl _) _).setCell (p := ⟨w.heap.size, 2, none⟩) (Nat.le_refl _) _).setCell (p := ⟨w.heap.size, 3, none⟩) (Nat.le_refl _) _⟩
/-- A law's do. -/
theorem do_DZ {α : Type} (K : Kd α) (ok : ByteArray → α → Prop) (hO : KdOk K ok) (RAW NAME : ByteArray) (F : FuncId) (bS bM : Nat) (D : List (ByteArray × α)) (xs : List ByteArray) (vA : Value) (k n : Int) (s : ByteArray) (R : Nat → World → Value → Prop) (hR : RKeep R) (des : List (ByteArray × Option α)) (hm : MayD ok des D) (w : World) (hS : SPG K ok w bS bM D) (hA : SSl w vA xs) (hx : xs[0]? = some RAW) (hfit : ∀ X, SSl X vA xs → Calls Tryz.prog 95 #[vA] X fun e w' => e = .returned (.int .i64 0) ∧ Below X.heap.size X w') (hup : ∀ X, Calls Tryz.prog 96 #[.string RAW] X fun e w' => e = .returned (.string NAME) ∧ Below X.heap.size X w')
    (hsel : MapT.find NAME flZ = some (.func (.func F) #[] #[])) (hent : ∀ (args : Array Value) (w : World), (callFunc F args).run Tryz.prog w = .ok (.enter F args) w) (hF : ∀ X, Below w.heap.size w X → CmdD K ok F bS bM D 1 xs k n s R des X) :
    Calls Tryz.prog 17 #[.pointer (some ⟨bS, 0, none⟩), vA] w fun e w' => ∃ A m c, e = .returned (.agg #[.int .i64 k, .int .i64 n, .string s, .slice A m c]) ∧ R w.heap.size w' (.slice A m c) ∧ SPG K ok w' bS bM (applyD des D) ∧ Kp w.heap.size (fun i => i ≠ bS ∧ i ≠ bM) w w' := by
  refine do_okGz K ok hO bS bM D vA k n s R hR des hm w hS (fun X hX => ?_)
  obtain ⟨⟨l, hSP, hAE⟩, hall⟩ := SPG.below K ok hS hX
  refine Do_okZ RAW NAME F bS bM l 1 xs vA k n s R (EL K des) hR (EL.keep K des) X hSP (hA.below hX) hx hfit hup hsel hent (fun W hW Y j vB hY _ hJ hss => ?_)
  refine (hF Y ((hX.trans (hW.mono (Below.size hX))).trans (hY.mono (Nat.le_trans (Below.size hX) (Below.size hW)))) j vB (SPG.below K ok hS ((hX.trans (hW.mono (Below.size hX))).trans (hY.mono (Nat.le_trans (Below.size hX) (Below.size hW))))) hJ hss).mono ?_
  rintro e w' ⟨A, m, c, rfl, hRR, ⟨vl, ⟨A', n', c', rfl⟩, hJ', css, hE', hA'⟩, hK⟩
  exact ⟨A, m, c, rfl, hRR, ⟨A', n', c', hJ', css, hE', hA'⟩, hK⟩
end Go.Proofs.YticlacjpgjkhcaaGreatDoor

/-
  DERIVED: THE SHELF's CONTRACTS AT THIS DUMP, IN PLAIN WORDS (tools/lay-plain.mjs out of 'TryzIter.lean', which tools/lay-shelf.mjs wrote): THE SAME DECLARATIONS UNDER THE SAME NAMES: 'import', 'namespace', 'open', 'def', 'theorem' AND NOTHING ELSE: no command of the shelf's: FOR A HAND-IN. Each laying: the table of numbers ('.._ren') and one theorem, a field a fact of the dump's own or the kernel's comparison; each contract: ONE APPLICATION.
-/
namespace Go.Proofs
open Go.Shelf
def Tryz.keys33_ren : Go.Shelf.Ren := ⟨fun | 7 => 33 | 10 => 92 | n => n, fun | 23 => 55 | 26 => 9 | 3 => 66 | 28 => 73 | 0 => 0 | 27 => 72 | 33 => 69 | 4 => 4 | n => n, fun | n => n⟩
theorem Tryz.keys33 : Go.Proofs.SlLaysZ.n7 Tryz.prog Tryz.keys33_ren := {
  mixed := by kernel_rfl
  f7 := ⟨Tryz.f33.name, by decide, Tryz.func33.trans (congrArg some (by kernel_rfl))⟩
  f10 := ⟨Tryz.f92.name, by decide, Tryz.func92.trans (congrArg some (by kernel_rfl))⟩
  t0 := Tryz.underlying0
  a0 := Tryz.isAgg0
  z0 := Tryz.sizeOf0
  v0 := Tryz.zeroValue0
  t4 := Tryz.underlying4
  a4 := Tryz.isAgg4
  z4 := Tryz.sizeOf4
  v4 := Tryz.zeroValue4
  t23 := Tryz.underlying55
  a23 := Tryz.isAgg55
  z23 := Tryz.sizeOf55
  v23 := Tryz.zeroValue55
  t26 := Tryz.underlying9
  a26 := Tryz.isAgg9
  z26 := Tryz.sizeOf9
  v26 := Tryz.zeroValue9
  t27 := Tryz.underlying72
  a27 := Tryz.isAgg72
  z27 := Tryz.sizeOf72
  v27 := Tryz.zeroValue72
  t28 := Tryz.underlying73
  a28 := Tryz.isAgg73
  z28 := Tryz.sizeOf73
  v28 := Tryz.zeroValue73
  t33 := Tryz.underlying69
  a33 := Tryz.isAgg69
  z33 := Tryz.sizeOf69
  v33 := Tryz.zeroValue69 }
def Tryz.sorted32_ren : Go.Shelf.Ren := ⟨fun | 6 => 32 | 8 => 90 | 9 => 91 | 11 => 142 | 13 => 144 | 12 => 143 | 23 => 201 | 24 => 202 | 14 => 192 | 15 => 193 | 16 => 194 | 17 => 195 | 18 => 196 | 19 => 197 | 20 => 198 | 21 => 199 | 22 => 200 | 25 => 218 | 26 => 219 | 27 => 220 | 28 => 221 | 29 => 222 | 30 => 223 | 31 => 243 | n => n, fun | 26 => 9 | 28 => 73 | 24 => 58 | 0 => 0 | 3 => 3 | 37 => 32 | 48 => 231 | 50 => 165 | 4 => 4 | 40 => 225 | 39 => 224 | 45 => 111 | 5 => 5 | 9 => 9 | 51 => 248 | 55 => 252 | 57 => 266 | 58 => 267 | 33 => 69 | n => n, fun | n => n⟩
theorem Tryz.sorted32 : Go.Proofs.SlLaysZ.n6 Tryz.prog Tryz.sorted32_ren := {
  mixed := by kernel_rfl
  f6 := ⟨Tryz.f32.name, by decide, Tryz.func32.trans (congrArg some (by kernel_rfl))⟩
  f8 := ⟨Tryz.f90.name, by decide, Tryz.func90.trans (congrArg some (by kernel_rfl))⟩
  f11 := ⟨Tryz.f142.name, by decide, Tryz.func142.trans (congrArg some (by kernel_rfl))⟩
  t0 := Tryz.underlying0
  a0 := Tryz.isAgg0
  z0 := Tryz.sizeOf0
  v0 := Tryz.zeroValue0
  t24 := Tryz.underlying58
  a24 := Tryz.isAgg58
  z24 := Tryz.sizeOf58
  v24 := Tryz.zeroValue58
  t26 := Tryz.underlying9
  a26 := Tryz.isAgg9
  z26 := Tryz.sizeOf9
  v26 := Tryz.zeroValue9
  t28 := Tryz.underlying73
  a28 := Tryz.isAgg73
  z28 := Tryz.sizeOf73
  v28 := Tryz.zeroValue73
  i26 := by kernel_rfl }
def Tryz.sort91_ren : Go.Shelf.Ren := ⟨fun | 6 => 91 | 8 => 144 | 9 => 143 | 19 => 201 | 20 => 202 | 21 => 192 | 22 => 193 | 23 => 194 | 24 => 195 | 25 => 196 | 26 => 197 | 27 => 198 | 28 => 199 | 29 => 200 | 36 => 218 | 31 => 219 | 32 => 220 | 37 => 221 | 38 => 222 | 39 => 223 | 41 => 243 | n => n, fun | 27 => 58 | 29 => 9 | 3 => 3 | 32 => 32 | 26 => 58 | 0 => 0 | 44 => 231 | 46 => 165 | 4 => 4 | 36 => 225 | 35 => 224 | 41 => 111 | 5 => 5 | 9 => 9 | 53 => 248 | 57 => 252 | 63 => 266 | 64 => 267 | n => n, fun | n => n⟩
theorem Tryz.sort91 : Go.Proofs.SlLaysM.n6 Tryz.prog Tryz.sort91_ren := {
  mixed := by kernel_rfl
  f6 := ⟨Tryz.f91.name, by decide, Tryz.func91.trans (congrArg some (by kernel_rfl))⟩
  f8 := Tryz.func144.trans (congrArg some (by kernel_rfl))
  f9 := ⟨Tryz.f143.name, by decide, Tryz.func143.trans (congrArg some (by kernel_rfl))⟩
  f19 := Tryz.func201.trans (congrArg some (by kernel_rfl))
  f20 := Tryz.func202.trans (congrArg some (by kernel_rfl))
  f21 := ⟨Tryz.f192.name, by decide, Tryz.func192.trans (congrArg some (by kernel_rfl))⟩
  f22 := ⟨Tryz.f193.name, by decide, Tryz.func193.trans (congrArg some (by kernel_rfl))⟩
  f23 := ⟨Tryz.f194.name, by decide, Tryz.func194.trans (congrArg some (by kernel_rfl))⟩
  f24 := ⟨Tryz.f195.name, by decide, Tryz.func195.trans (congrArg some (by kernel_rfl))⟩
  f25 := ⟨Tryz.f196.name, by decide, Tryz.func196.trans (congrArg some (by kernel_rfl))⟩
  f26 := ⟨Tryz.f197.name, by decide, Tryz.func197.trans (congrArg some (by kernel_rfl))⟩
  f27 := ⟨Tryz.f198.name, by decide, Tryz.func198.trans (congrArg some (by kernel_rfl))⟩
  f28 := ⟨Tryz.f199.name, by decide, Tryz.func199.trans (congrArg some (by kernel_rfl))⟩
  f29 := ⟨Tryz.f200.name, by decide, Tryz.func200.trans (congrArg some (by kernel_rfl))⟩
  f31 := Tryz.func219.trans (congrArg some (by kernel_rfl))
  f32 := Tryz.func220.trans (congrArg some (by kernel_rfl))
  f36 := ⟨Tryz.f218.name, by decide, Tryz.func218.trans (congrArg some (by kernel_rfl))⟩
  f37 := ⟨Tryz.f221.name, by decide, Tryz.func221.trans (congrArg some (by kernel_rfl))⟩
  f38 := ⟨Tryz.f222.name, by decide, Tryz.func222.trans (congrArg some (by kernel_rfl))⟩
  f39 := ⟨Tryz.f223.name, by decide, Tryz.func223.trans (congrArg some (by kernel_rfl))⟩
  f41 := ⟨Tryz.f243.name, by decide, Tryz.func243.trans (congrArg some (by kernel_rfl))⟩
  t0 := Tryz.underlying0
  a0 := Tryz.isAgg0
  z0 := Tryz.sizeOf0
  v0 := Tryz.zeroValue0
  t3 := Tryz.underlying3
  a3 := Tryz.isAgg3
  z3 := Tryz.sizeOf3
  v3 := Tryz.zeroValue3
  t4 := Tryz.underlying4
  a4 := Tryz.isAgg4
  z4 := Tryz.sizeOf4
  v4 := Tryz.zeroValue4
  t5 := Tryz.underlying5
  a5 := Tryz.isAgg5
  z5 := Tryz.sizeOf5
  v5 := Tryz.zeroValue5
  t9 := Tryz.underlying9
  a9 := Tryz.isAgg9
  z9 := Tryz.sizeOf9
  v9 := Tryz.zeroValue9
  t26 := Tryz.underlying58
  a26 := Tryz.isAgg58
  z26 := Tryz.sizeOf58
  v26 := Tryz.zeroValue58
  t27 := Tryz.underlying58
  a27 := Tryz.isAgg58
  z27 := Tryz.sizeOf58
  v27 := Tryz.zeroValue58
  t29 := Tryz.underlying9
  a29 := Tryz.isAgg9
  z29 := Tryz.sizeOf9
  v29 := Tryz.zeroValue9
  t32 := Tryz.underlying32
  a32 := Tryz.isAgg32
  z32 := Tryz.sizeOf32
  v32 := Tryz.zeroValue32
  t35 := Tryz.underlying224
  a35 := Tryz.isAgg224
  z35 := Tryz.sizeOf224
  v35 := Tryz.zeroValue224
  t36 := Tryz.underlying225
  a36 := Tryz.isAgg225
  z36 := Tryz.sizeOf225
  v36 := Tryz.zeroValue225
  t41 := Tryz.underlying111
  a41 := Tryz.isAgg111
  z41 := Tryz.sizeOf111
  v41 := Tryz.zeroValue111
  t44 := Tryz.underlying231
  a44 := Tryz.isAgg231
  z44 := Tryz.sizeOf231
  v44 := Tryz.zeroValue231
  t46 := Tryz.underlying165
  a46 := Tryz.isAgg165
  z46 := Tryz.sizeOf165
  v46 := Tryz.zeroValue165
  t53 := Tryz.underlying248
  a53 := Tryz.isAgg248
  z53 := Tryz.sizeOf248
  v53 := Tryz.zeroValue248
  t57 := Tryz.underlying252
  a57 := Tryz.isAgg252
  z57 := Tryz.sizeOf252
  v57 := Tryz.zeroValue252
  t63 := Tryz.underlying266
  a63 := Tryz.isAgg266
  z63 := Tryz.sizeOf266
  v63 := Tryz.zeroValue266
  t64 := Tryz.underlying267
  a64 := Tryz.isAgg267
  z64 := Tryz.sizeOf267
  v64 := Tryz.zeroValue267 }
end Go.Proofs
namespace Go.Proofs
open Go.RowKit Go.Maps Go.Sort Go.Shelf
/-- slices.Sort's two contracts at this dump, at the fence that asks nothing. -/
theorem Tryz.sorts32 (m : Nat) : AnyZ.SortsIn Tryz.prog Tryz.sorted32_ren Fence.wide m :=
  ⟨fun blk off cap ss W hH hblk hsz => callsIn_wide.2 (AnyM.slices_Sort_string Tryz.sort91 blk off cap ss W hH hblk hsz),
   fun p cap W => callsIn_wide.2 (AnyM.slices_Sort_string_none Tryz.sort91 p cap W)⟩

/-- **maps.Keys[map[string]scriptorium/api.Entry,string,scriptorium/api.Entry], at whatever map, the nil one too:** a function value over ONE NEW BLOCK, which holds the map. -/
theorem Tryz.maps_Keys_33 (mb : Option Nat) (W : World) : CallsIn Fence.wide 5 Tryz.prog 33 #[.map mb] W fun e w' => e = .returned (.func (.func 92) #[] #[.pointer (some ⟨W.heap.size, 0, none⟩)]) ∧ w' = W.alloc (.cells #[.map mb] 55) :=
  AnyZ.keys_in Tryz.keys33 Fence.wide 5 trivial rfl mb W

set_option maxHeartbeats 1000000 in
/-- **slices.Sorted[string] AT WHAT maps.Keys[map[string]scriptorium/api.Entry,string,scriptorium/api.Entry] HANDED BACK FOR A MAP THAT IS NOT nil** ('w': the world AHEAD of maps.Keys' call): A NEW SLICE THAT HOLDS THE MAP's KEYS, SORTED; nil just where it has none; nothing that lay before has turned. -/
theorem Tryz.slices_Sorted_keys_32_33 {H : Type} (b nn : Nat) (D0 : DataW H) (R : Value → Option (DataW H × List MemPlace)) (w : World) (hown : w.ownsMap Tryz.prog 9 R b nn D0) (hmax : Maps.size D0 ≤ maxLen) (hbytes : Maps.size D0 * 16 ≤ 140737488355328) :
    CallsIn Fence.wide 5 Tryz.prog 32 #[.func (.func 92) #[] #[.pointer (some ⟨w.heap.size, 0, none⟩)]] (w.alloc (.cells #[.map (some b)] 55)) fun e w' => ∃ (v : Value) (ss : List (List UInt8)), e = .returned v ∧ ss.Perm (strKeys D0) ∧
      w'.ownsRow (w.alloc (.cells #[.map (some b)] 55)).heap.size 9 1 v ss.length ((ss.mergeSort (fun x y => decide (x ≤ y))).map encStr) ∧ (v = .slice none 0 0 ↔ ss = []) ∧ Below (w.alloc (.cells #[.map (some b)] 55)).heap.size (w.alloc (.cells #[.map (some b)] 55)) w' := by
  have hbl := hown.lt
  have hseq : SeqGives Fence.wide 2 Tryz.prog 92 #[.pointer (some ⟨w.heap.size, 0, none⟩)] encStr (fun ss => ss.Perm (strKeys D0)) (Maps.size D0) (w.alloc (.cells #[.map (some b)] 55)) :=
    AnyZ.keys_gives (ρ := Tryz.keys33_ren) { Tryz.keys33 with } Fence.wide _ trivial rfl (by omega) w.heap.size b nn D0 _ (by simp) (by simp) (by
      obtain ⟨es, clock, hb, Ft, hs, hD⟩ := hown
      exact ⟨es, clock, (Below.heap_alloc _ _ b hbl).trans hb, Ft, hs, hD⟩)
  exact AnyZ.sorted_in Tryz.sorted32 Fence.wide 5 trivial trivial trivial trivial rfl (by omega) (Tryz.sorts32 _) (enters_of Tryz.func91 (by kernel_rfl) rfl) 92 #[.pointer (some ⟨w.heap.size, 0, none⟩)] trivial (enters_of Tryz.func92 (by kernel_rfl) rfl) _ _ hmax hbytes _ hseq

set_option maxHeartbeats 1000000 in
/-- **.. AND FOR THE nil MAP: nil.** -/
theorem Tryz.slices_Sorted_keys_nil_32_33 (w : World) :
    CallsIn Fence.wide 5 Tryz.prog 32 #[.func (.func 92) #[] #[.pointer (some ⟨w.heap.size, 0, none⟩)]] (w.alloc (.cells #[.map none] 55)) fun e w' => ∃ (v : Value) (ss : List (List UInt8)), e = .returned v ∧ ss = [] ∧
      w'.ownsRow (w.alloc (.cells #[.map none] 55)).heap.size 9 1 v ss.length ((ss.mergeSort (fun x y => decide (x ≤ y))).map encStr) ∧ (v = .slice none 0 0 ↔ ss = []) ∧ Below (w.alloc (.cells #[.map none] 55)).heap.size (w.alloc (.cells #[.map none] 55)) w' := by
  have hseq : SeqGives Fence.wide 2 Tryz.prog 92 #[.pointer (some ⟨w.heap.size, 0, none⟩)] encStr (fun ss : List (List UInt8) => ss = []) 0 (w.alloc (.cells #[.map none] 55)) :=
    AnyZ.keys_gives_nil (ρ := Tryz.keys33_ren) { Tryz.keys33 with } Fence.wide _ trivial rfl w.heap.size _ (by simp) (by simp)
  exact AnyZ.sorted_in Tryz.sorted32 Fence.wide 5 trivial trivial trivial trivial rfl (by omega) (Tryz.sorts32 _) (enters_of Tryz.func91 (by kernel_rfl) rfl) 92 #[.pointer (some ⟨w.heap.size, 0, none⟩)] trivial (enters_of Tryz.func92 (by kernel_rfl) rfl) _ 0 (Nat.zero_le _) (by omega) _ hseq



end Go.Proofs

/- All entries of a space with no key, with one. -/
namespace Go.Proofs.YticlacjpgjkhcaaGreatDoor
open Go.ChangeShapes Go.WideShapes Go.ChangeAt Go.RowKit Go.WideElems Go.Sort

theorem keys0 {w : World} {b : Nat} (h : MapT.MB w b []) : ∃ (D0 : DataW Unit) (R : Value → Option (DataW Unit × List MemPlace)), w.ownsMap Tryz.prog 9 R b 0 D0 ∧ Maps.size D0 = 0 ∧ strKeys D0 = [] := by
  obtain ⟨es, c, h1, h2, h3⟩ := h
  have he : es.toList = [] := by
    cases hl : es.toList with
    | nil => rfl
    | cons e r => rw [hl] at h2; simp [MapT.pairs, MapT.vals] at h2
  have hsz : es.size = 0 := by rw [← Array.length_toList, he]; rfl
  refine ⟨_, fun _ => some (.lit (.bool true), []), ⟨es, c, h1, ⟨by rw [hsz]; unfold maxLen; decide, h3, fun x hx => ?_⟩, by omega, rfl⟩, ?_, ?_⟩
  · rw [he] at hx
    cases hx
  · rw [he]
    rfl
  · rw [he]
    rfl
theorem Sorted0 (bM : Nat) (w : World) (h : MapT.MB w bM []) : Calls Tryz.prog 32 #[.func (.func 92) #[] #[.pointer (some ⟨w.heap.size, 0, none⟩)]] (w.alloc (.cells #[.map (some bM)] 55)) fun e w' => e = .returned (.slice none 0 0) ∧ Below w.heap.size w w' := by
  obtain ⟨D0, R, hown, hs, hK⟩ := keys0 h
  refine (callsIn_wide.1 (Tryz.slices_Sorted_keys_32_33 bM 0 D0 R w hown (by rw [hs]; unfold maxLen; decide) (by rw [hs]; decide))).mono ?_
  rintro e w' ⟨v', ss, rfl, hp, hrow, hnil, hb⟩
  rw [hK] at hp
  have hss : ss = [] := List.perm_nil.1 hp
  rw [hnil.2 hss]
  exact ⟨rfl, alloc_old.trans (hb.mono (by simp))⟩
set_option maxRecDepth 100000 in
set_option maxHeartbeats 8000000 in
theorem All0 (bS bM : Nat) (w : World) (h : SP w bS bM []) : Calls Tryz.prog 24 #[.pointer (some ⟨bS, 0, none⟩)] w fun e w' => e = .returned (.slice none 0 0) ∧ Below w.heap.size w w' := by
  have MK := Lib.hid (callsIn_wide.1 (Tryz.maps_Keys_33 (some bM) w))
  have SO := Lib.hid (Sorted0 bM w h.2.1)
  obtain ⟨hs1, hs2⟩ := h.cell
  clear h
  go_enter Tryz.func24, Tryz.ntmps24
  go_wp2_with (first | (go_at_call 33; (with_reducible refine (MK.out).mono ?_); rintro e w1 ⟨rfl, rfl⟩) | (go_at_call 32; (with_reducible refine (SO.out).mono ?_); rintro e w2 ⟨rfl, hb2⟩; have B2 := Lib.hid hb2; clear hb2; refine Hid.out ?_))
  refine Lib.hid ?_
  go_wp2_with fail
  go_loopw [3, 15] (fun lv iv wr => Hid (iv = .int .i64 0 ∧ lv = .slice none 0 0 ∧ Below w.heap.size w wr)) (fun _ iv _ => 1 - (intOf iv).toNat)
  case atStart => exact Lib.hid ⟨rfl, rfl, B2.out⟩
  case round =>
    obtain ⟨rfl, rfl, hB⟩ := hrel.out
    have HB := Lib.hid hB
    clear hB
    go_wp2
    go_ret
    exact ⟨rfl, HB.out⟩
end Go.Proofs.YticlacjpgjkhcaaGreatDoor
