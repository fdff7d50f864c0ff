/- Texts joined: St16, Op2, Mn1, Mn2, Mn3, Mn4, Mn5, Mn6 (job.Array: replies in a reply.) -/
import Derived.Test.YtaomiglmahklfaaGreatDoorSt1
import Derived.Test.YtaomiglmahklfaaGreatDoorSt37
import Derived.Test.YtaomiglmahklfaaGreatDoorLi
import Derived.Test.YtaomiglmahklfaaGreatDoorSt14
import Derived.Test.YtaomiglmahklfaaGreatDoorSt29
import Derived.Deep.AppendLies
import Derived.Test.YtaomiglmahklfaaGreatDoorSt38
import Derived.Test.YtaomiglmahklfaaGreatDoorSt39
import Derived.Deep.RegionLaw
import Derived.Test.YtaomiglmahklfaaGreatDoorCards
import Derived.Stop.LaidErr
import Derived.ProofKit
import Derived.SliceStrings
import Derived.Deep.Slices
import Derived.Lib.LaidTab
namespace Go.Proofs.YtaomiglmahklfaaGreatDoor
open Go.ChangeShapes Go.WideShapes Go.ChangeAt Go.RowKit

theorem Array81 (A : Option Addr) (n c : Nat) (w : World) : Calls Tryz.prog 81 #[.slice A n c] w fun e w' => e = .returned (.agg #[.int .i64 6, .int .i64 0, .string ⟨#[]⟩, .slice A n c]) ∧ Below w.heap.size w w' := by
  go_enter Tryz.func81, Tryz.ntmps81
  go_wp2
  exact bodyPost_ret (v := .agg #[.int .i64 6, .int .i64 0, .string ⟨#[]⟩, .slice A n c]) (by simp [results, Tryz.results81, go_sem]) rfl ⟨rfl, (Below.refl _ _).alloc (Nat.le_refl _) _⟩
/-- Effects that may be applied, one after another, from a world on in which nothing but the space turns. -/
def MayP (Y : World) (bS bM : Nat) : List Ent → MapT.Ents → Prop
  | [], _ => True
  | e :: r, l => ((e.kd = 1 ∧ ∀ w, Kp Y.heap.size (fun i => i ≠ bS ∧ i ≠ bM) Y w → SP w bS bM l → Calls Tryz.prog 10 #[.pointer (some ⟨bS, 0, none⟩), .agg #[.string e.k, .int .i64 1, .string e.t, .slice none 0 0, .slice none 0 0, .slice none 0 0, .slice none 0 0, .int .i64 e.u]] w fun e9 w' => e9 = .returned (.int .i64 0) ∧ SP w' bS bM (MapT.put e.k (.agg #[.string e.k, .int .i64 1, .string e.t, .slice none 0 0, .slice none 0 0, .slice none 0 0, .slice none 0 0, .int .i64 e.u]) l) ∧ Kp w.heap.size (fun i => i ≠ bS ∧ i ≠ bM) w w') ∨
      (e.kd = 0 ∧ ∀ w, Kp Y.heap.size (fun i => i ≠ bS ∧ i ≠ bM) Y w → SP w bS bM l → Calls Tryz.prog 19 #[.pointer (some ⟨bS, 0, none⟩), .string e.k] w fun e9 w' => e9 = .returned (.bool true) ∧ SP w' bS bM (MapT.del e.k l) ∧ Kp w.heap.size (fun i => i ≠ bS ∧ i ≠ bM) w w')) ∧
    MayP Y bS bM r (if e.kd = 0 then MapT.del e.k l else MapT.put e.k e.val l)
set_option maxRecDepth 100000 in
set_option maxHeartbeats 8000000 in
theorem do_okP (NAME : ByteArray) (F : FuncId) (bS bM : Nat) (l : MapT.Ents) (xs : List ByteArray) (vA : Value) (k n : Int) (s : ByteArray) (R : Nat → World → Value → Prop) (es : List Ent) (hR : RKeep R) (hes : es.length ≤ 100000) (w : World) (hF : CmdOk w F bS bM l 1 xs k n s R es) (hm : MayP w bS bM es l) (hS : SP w bS bM l) (hA : SSl w vA xs) (hf : MapT.find NAME flT = some (.func (.func F) #[] #[])) (hx : xs[0]? = some NAME) (hent : ∀ (args : Array Value) (w : World), (callFunc F args).run Tryz.prog w = .ok (.enter F args) w) (hfit : ∀ X, SSl X vA xs → Calls Tryz.prog 61 #[vA] X fun e w' => e = .returned (.int .i64 0) ∧ Below X.heap.size X w') (hup : ∀ X, Calls Tryz.prog 62 #[.string NAME] X fun e w' => e = .returned (.string NAME) ∧ Below X.heap.size X w') : Calls Tryz.prog 11 #[.pointer (some ⟨bS, 0, none⟩), vA] w fun e w' => ∃ A m c, e = .returned (.agg #[.int .i64 k, .int .i64 n, .string s, .slice A m c]) ∧ R w.heap.size w' (.slice A m c) ∧ SP w' bS bM (applyE es l) ∧ Kp w.heap.size (fun i => i ≠ bS ∧ i ≠ bM) w w' := by
  have A1 := Lib.hid (alloc_old (w := w) (o := .cells #[.int .i64 0, .int .i64 0, .string ⟨#[]⟩, .slice none 0 0] 37))
  have hr := Lib.hid (heap_alloc_new w (.cells #[.int .i64 0, .int .i64 0, .string ⟨#[]⟩, .slice none 0 0] 37))
  have D := Lib.hid (Do_ok w NAME F bS bM l 1 xs vA k n s R es hF hR _ A1.out (hS.below A1.out) (hA.below A1.out) hf hx hent hfit hup)
  have HS := Lib.hid hS
  have HM := Lib.hid hm
  have HL := Lib.hid hes
  have hne := hS.2.2
  have hlt := hS.lt
  clear hS hA hf hx hent hfit hup hF hm hes
  go_enter Tryz.func11, Tryz.ntmps11
  go_wp2_with (first | (go_at_call 18; (with_reducible refine (D.out).mono ?_); rintro e w5 ⟨A, m, c, A', n', c', rfl, hRR, hE, hb5⟩; have B5 := Lib.hid (A1.out.trans (hb5.mono (Below.size A1.out))); have R5 := Lib.hid (blk_below hr.out hb5); have HR := Lib.hid hRR; have HE := Lib.hid hE; clear hRR hE hb5; refine Hid.out ?_))
  refine Lib.hid ?_
  have B6 := Lib.hid (show Below w.heap.size w (w5.alloc (.cells #[.int .i64 k, .int .i64 n, .string s, .slice A m c] 37)) from B5.out.trans (alloc_old.mono (Below.size B5.out)))
  have o6 := Lib.hid (heap_alloc_new w5 (.cells #[.int .i64 k, .int .i64 n, .string s, .slice A m c] 37))
  have R6 := Lib.hid (blk_below R5.out (alloc_old (o := .cells #[.int .i64 k, .int .i64 n, .string s, .slice A m c] 37)))
  have HE6 := Lib.hid (HE.out.below (alloc_old (o := .cells #[.int .i64 k, .int .i64 n, .string s, .slice A m c] 37)))
  have hs5 := Below.size B5.out
  have hs6 := lt_blk R5.out
  have hz : w5.heap.size < (w5.alloc (.cells #[.int .i64 k, .int .i64 n, .string s, .slice A m c] 37)).heap.size := by simp
  go_wp2_with fail
  have B56 := Lib.hid (show Below w5.heap.size w5 (w5.alloc (.cells #[.int .i64 k, .int .i64 n, .string s, .slice A m c] 37)) from alloc_old)
  generalize (w5.alloc (.cells #[.int .i64 k, .int .i64 n, .string s, .slice A m c] 37)) = w6 at B6 o6 R6 HE6 hz B56 ⊢
  obtain ⟨hn, hg⟩ := HE6.out.form
  subst hn
  have S6 := Lib.hid (HS.out.below B6.out)
  go_loopw [8] (fun iv wr => ∃ (i : Nat) (l2 : MapT.Ents), i ≤ es.length ∧ iv = .int .i64 i ∧ Hid (SP wr bS bM l2 ∧ MayP w bS bM (es.drop i) l2 ∧ applyE (es.drop i) l2 = applyE es l ∧ Kp w6.heap.size (fun i => i ≠ bS ∧ i ≠ bM) w6 wr)) (fun iv _ => es.length - (intOf iv).toNat)
  case atStart => exact ⟨0, l, Nat.zero_le _, rfl, Lib.hid ⟨S6.out, HM.out, rfl, Kp.refl _ _ _⟩⟩
  case round =>
    obtain ⟨i, l2, hi, rfl, HQ⟩ := hrel
    have hl9 := HL.out
    by_cases hlt2 : i < es.length
    · have q0 : (i : Int) < (es.length : Int) := by omega
      obtain ⟨g, rfl, hgc, hgl⟩ := hg (by intro e; rw [e] at hlt2; simp at hlt2)
      have hdrop : es.drop i = es[i] :: es.drop (i + 1) := List.drop_eq_getElem_cons hlt2
      obtain ⟨e0, he0⟩ : ∃ e0, es[i]? = some e0 := ⟨es[i], List.getElem?_eq_getElem hlt2⟩
      have hei : es[i] = e0 := by have := List.getElem?_eq_getElem hlt2; rw [he0] at this; exact (Option.some.inj this).symm
      have hQ := HQ.out
      rw [hdrop, hei] at hQ
      obtain ⟨hSP, ⟨hmay, hmr⟩, hap, hKp⟩ := hQ
      have hEr : EF wr (w.alloc (.cells #[.int .i64 0, .int .i64 0, .string ⟨#[]⟩, .slice none 0 0] 37)).heap.size (.slice (some ⟨g, 0, none⟩) es.length c') es := HE6.out.kept hKp.size (fun g9 hg9 => by cases hg9; have h1 : (w.alloc (.cells #[.int .i64 0, .int .i64 0, .string ⟨#[]⟩, .slice none 0 0] 37)).heap.size = w.heap.size + 1 := (by simp); exact hKp.block g (Nat.lt_of_lt_of_le hgl (Nat.le_refl _)) ⟨by omega, by omega⟩)
      have hcells := fun j v hj => hEr.cell i e0 he0 j v hj
      have hKY := (Kp.of (S := fun i => i ≠ bS ∧ i ≠ bM) B6.out).trans (hKp.mono (Below.size B6.out) (fun _ h => h))
      rcases hmay with ⟨hkd, m7⟩ | ⟨hkd, m2⟩
      · obtain ⟨k9, kd9, t9, u9⟩ := e0
        simp only at hkd m7
        subst hkd
        have x0 := hcells 0 _ rfl
        have x1 := hcells 1 _ rfl
        have x2 := hcells 2 _ rfl
        have x3 := hcells 3 _ rfl
        have x4 := hcells 4 _ rfl
        have x5 := hcells 5 _ rfl
        have x6 := hcells 6 _ rfl
        have x7 := hcells 7 _ rfl
        simp only [Nat.add_zero] at x0
        have PP := Lib.hid (m7 wr hKY hSP)
        have HMR := Lib.hid hmr
        have HAP := Lib.hid hap
        have HKP := Lib.hid hKp
        clear hcells hEr hSP hmr hap hKp hKY m7 he0 hei hdrop HQ
        go_wp2_with (first | (go_at_call 10; (with_reducible refine (PP.out).mono ?_); rintro e w8 ⟨rfl, hSP8, hK8⟩; have HS8 := Lib.hid hSP8; have HK8 := Lib.hid hK8; clear hSP8 hK8))
        refine ⟨⟨i + 1, _, by omega, by go_num, Lib.hid ⟨HS8.out, by simpa [Ent.val] using HMR.out, by simpa [Ent.val, applyE] using HAP.out, HKP.out.trans (HK8.out.mono HKP.out.size (fun _ h => h))⟩⟩, by simp [intOf]; omega⟩
      · obtain ⟨k9, kd9, t9, u9⟩ := e0
        simp only at hkd m2
        subst hkd
        have x0 := hcells 0 _ rfl
        have x1 := hcells 1 _ rfl
        have x2 := hcells 2 _ rfl
        simp only [Nat.add_zero] at x0
        have PP := Lib.hid (m2 wr hKY hSP)
        have HMR := Lib.hid hmr
        have HAP := Lib.hid hap
        have HKP := Lib.hid hKp
        clear hcells hEr hSP hmr hap hKp hKY m2 he0 hei hdrop HQ
        go_wp2_with (first | (go_at_call 19; (with_reducible refine (PP.out).mono ?_); rintro e w8 ⟨rfl, hSP8, hK8⟩; have HS8 := Lib.hid hSP8; have HK8 := Lib.hid hK8; clear hSP8 hK8))
        refine ⟨⟨i + 1, _, by omega, by go_num, Lib.hid ⟨HS8.out, by simpa [Ent.val] using HMR.out, by simpa [Ent.val, applyE] using HAP.out, HKP.out.trans (HK8.out.mono HKP.out.size (fun _ h => h))⟩⟩, by simp [intOf]; omega⟩
    · have hie : i = es.length := by omega
      subst hie
      have q0 : ¬ (es.length : Int) < (es.length : Int) := by omega
      have hQ := HQ.out
      rw [List.drop_length] at hQ
      obtain ⟨hSP, _, hap, hKp⟩ := hQ
      have hlW : w5.heap.size ≠ bS ∧ w5.heap.size ≠ bM ∧ w.heap.size ≠ bS ∧ w.heap.size ≠ bM := by omega
      have o8 := Lib.hid ((hKp.block w5.heap.size (lt_blk o6.out) ⟨hlW.1, hlW.2.1⟩).trans o6.out)
      have R8 := Lib.hid ((hKp.block w.heap.size (lt_blk R6.out) ⟨hlW.2.2.1, hlW.2.2.2⟩).trans R6.out)
      have HSP := Lib.hid hSP
      have HAP := Lib.hid hap
      have HKP := Lib.hid hKp
      clear hSP hap hKp HQ hi hlt2
      obtain ⟨⟨d0, d1, d2, d3⟩, _⟩ := cells4 o8.out
      obtain ⟨⟨c0, c1, c2, c3⟩, ⟨f0, f1, f2, f3⟩⟩ := cells4 R8.out
      go_wp2
      have hz1 : (w.alloc (.cells #[.int .i64 0, .int .i64 0, .string ⟨#[]⟩, .slice none 0 0] 37)).heap.size = w.heap.size + 1 := by simp
      have hR5 := HR.out
      rw [hz1] at hR5
      have hsz : w5.heap.size ≤ (((((wr.setCell ⟨w.heap.size, 0, none⟩ (.int .i64 k)).setCell ⟨w.heap.size, 1, none⟩ (.int .i64 n)).setCell ⟨w.heap.size, 2, none⟩ (.string s)).setCell ⟨w.heap.size, 3, none⟩ (.slice A m c))).heap.size := Nat.le_trans (Below.size B56.out) (Nat.le_trans HKP.out.size (by simp [World.setCell]))
      have hR9 := hR.mono _ w.heap.size _ _ (hR.kept _ _ (((((wr.setCell ⟨w.heap.size, 0, none⟩ (.int .i64 k)).setCell ⟨w.heap.size, 1, none⟩ (.int .i64 n)).setCell ⟨w.heap.size, 2, none⟩ (.string s)).setCell ⟨w.heap.size, 3, none⟩ (.slice A m c))) _ hR5 hsz (fun i h1 h2 => (far4 _ _ _ _ (by omega)).trans ((HKP.out.block i (Nat.lt_of_lt_of_le h2 (Below.size B56.out)) ⟨by omega, by omega⟩).trans (B56.out.block i h2)))) (by omega)
      have hl2 : l2 = applyE es l := HAP.out
      subst hl2
      exact bodyPost_ret (v := .agg #[.int .i64 k, .int .i64 n, .string s, .slice A m c]) (by simp [results, Tryz.results11, go_sem, c0, c1, c2, c3]) rfl ⟨A, m, c, rfl, hR9, HSP.out.kept (far4 _ _ _ _ (by omega)) (far4 _ _ _ _ (by omega)), ((((((Kp.of B6.out).trans (HKP.out.mono (Below.size B6.out) (fun _ h => h))).setCell (p := ⟨w.heap.size, 0, none⟩) (by simp) _).setCell (p := ⟨w.heap.size, 1, none⟩) (by simp) _).setCell (p := ⟨w.heap.size, 2, none⟩) (by simp) _).setCell (p := ⟨w.heap.size, 3, none⟩) (by simp) _)⟩
theorem groups_MSET (n : Int) (h : 0 ≤ n) (h2 : n ≤ 1000000) (he : n % 2 = 1) (w : World) : Calls Tryz.prog 85 #[.string ⟨#[77, 83, 69, 84]⟩, .int .i64 n] w fun e w' => e = .returned (.bool true) ∧ Below w.heap.size w w' := by
  have w1 : wrap64 (n + 1) = n + 1 := IntWalk.wrap64_in _ ⟨by omega, by omega⟩
  go_enter Tryz.func85, Tryz.ntmps85
  go_wp2
  go_ret
  exact ⟨by simp; omega, Below.refl _ _⟩
theorem hu_MSET (w : World) : Calls Tryz.prog 62 #[.string ⟨#[77, 83, 69, 84]⟩] w fun e w' => e = .returned (.string ⟨#[77, 83, 69, 84]⟩) ∧ Below w.heap.size w w' := Upper62 ⟨#[77, 83, 69, 84]⟩ (by decide) (of_decide_eq_true (by kernel_rfl)) w
theorem Fits_MSET (v : Value) (xs : List ByteArray) (hx : xs[0]? = some ⟨#[77, 83, 69, 84]⟩) (hlo : 3 ≤ xs.length) (hhi : xs.length ≤ 1000000) (ho : xs.length % 2 = 1) (w : World) (h : SSl w v xs) : Calls Tryz.prog 61 #[v] w fun e w' => e = .returned (.int .i64 0) ∧ Below w.heap.size w w' :=
  Fits_ok 28 ⟨#[77, 83, 69, 84]⟩ 3 0 true 1 (-2) 2 [77, 83, 69, 84] rfl (by kernel_rfl) hu_MSET v xs hx (by omega) (.inl (Int.le_refl 0)) (groups_MSET _ (by omega) (by omega) (by omega)) w h
theorem row_kept {w w' : World} {c : Nat} {e : TypeId} {m : Nat} {v : Value} {n : Nat} {xs : List Value} (h : w.ownsRow c e m v n xs) (hb : ∀ g, v.ownBlock = some g → w'.heap[g]? = w.heap[g]?) : w'.ownsRow c e m v n xs := by
  unfold World.ownsRow at h ⊢
  obtain ⟨h1, h2⟩ := h
  refine ⟨h1, ?_⟩
  rcases h2 with h2 | ⟨g, cap, cur, hv, hg, hh, r⟩
  · exact .inl h2
  · exact .inr ⟨g, cap, cur, hv, hg, by rw [hb g (by rw [hv]; rfl)]; exact hh, r⟩
theorem row_mono {w : World} {c d : Nat} {e : TypeId} {m : Nat} {v : Value} {n : Nat} {xs : List Value} (h : w.ownsRow c e m v n xs) (hd : d ≤ c) : w.ownsRow d e m v n xs := by
  unfold World.ownsRow at h ⊢
  obtain ⟨h1, h2⟩ := h
  refine ⟨h1, ?_⟩
  rcases h2 with h2 | ⟨g, cap, cur, hv, hg, r⟩
  · exact .inl h2
  · exact .inr ⟨g, cap, cur, hv, by omega, r⟩
theorem row_own {w : World} {c : Nat} {e : TypeId} {m : Nat} {v : Value} {n : Nat} {xs : List Value} (h : w.ownsRow c e m v n xs) : ∀ g, v.ownBlock = some g → c ≤ g ∧ g < w.heap.size := by
  intro g hg
  unfold World.ownsRow at h
  obtain ⟨_, ⟨rfl, _⟩ | ⟨g', cap, cur, rfl, h1, h2, _⟩⟩ := h
  · cases hg
  · cases hg
    exact ⟨h1, (Array.getElem?_eq_some_iff.1 h2).1⟩
theorem row_below {w w' : World} {c : Nat} {e : TypeId} {m : Nat} {v : Value} {n : Nat} {xs : List Value} (h : w.ownsRow c e m v n xs) (hb : Below w.heap.size w w') : w'.ownsRow c e m v n xs :=
  row_kept h (fun g hg => hb.block g (row_own h g hg).2)
/-- A row's cells. -/
theorem row_cell {w : World} {c : Nat} {e : TypeId} {m g n cap : Nat} {xs : List Value} (h : w.ownsRow c e m (.slice (some ⟨g, 0, none⟩) n cap) n xs) (i : Nat) (v : Value) (hi : xs[i]? = some v) : w.cell? ⟨g, i, none⟩ = some v := by
  unfold World.ownsRow at h
  obtain ⟨hl, ⟨h0, _⟩ | ⟨g', cap', cur, h0, h1, h2, h3, h4, h5, h6⟩⟩ := h
  · cases h0
  · cases h0
    rw [cell_of_row _ g _ _ e (0, 0) h2]
    have hlt := (List.getElem?_eq_some_iff.1 hi).1
    rw [← h6, List.getElem?_take_of_lt (by omega)] at hi
    rw [← Array.getElem?_toList]
    exact hi
/-- A row of texts of the call's own. -/
def TO (w : World) (c : Nat) (v : Value) (xs : List ByteArray) : Prop := w.ownsRow c 9 1 v xs.length (xs.map Value.string)
theorem TO.ssl {w : World} {c : Nat} {v : Value} {xs : List ByteArray} (h : TO w c v xs) : SSl w v xs := by
  have h' := h
  unfold TO World.ownsRow at h'
  obtain ⟨_, ⟨rfl, h0⟩ | ⟨g, cap, cur, rfl, h1, h2, h3, h4, h5, h6⟩⟩ := h'
  · exact ⟨none, 0, by rw [h0], by omega, Nat.zero_le _, fun hne => absurd (List.length_eq_zero_iff.1 h0) hne⟩
  · refine ⟨_, cap, rfl, h3, h4, fun _ => ⟨g, 0, rfl, (Array.getElem?_eq_some_iff.1 h2).1, fun i s hi => ?_⟩⟩
    rw [Nat.zero_add]
    exact row_cell h i _ (by rw [List.getElem?_map, hi]; rfl)
/-- A reply of MGET: a text, or nothing. -/
def repC : Option ByteArray → List Value
  | some t => [.int .i64 4, .int .i64 0, .string t, .slice none 0 0]
  | none => [.int .i64 5, .int .i64 0, .string ⟨#[]⟩, .slice none 0 0]
def RO (rs : List (Option ByteArray)) (c : Nat) (w : World) (v : Value) : Prop := w.ownsRow c 37 4 v rs.length (rs.flatMap repC)
theorem RO.keep (rs : List (Option ByteArray)) : RKeep (RO rs) :=
  ⟨fun _ _ _ _ h _ hb => row_kept h (fun g hg => hb g (row_own h g hg).1 (row_own h g hg).2), fun _ _ _ _ h hd => row_mono h hd⟩
theorem repC_len (r : Option ByteArray) : (repC r).length = 4 := by cases r <;> rfl
theorem repC_at (rs : List (Option ByteArray)) : ∀ (i j : Nat) (r : Option ByteArray) (v : Value), rs[i]? = some r → (repC r)[j]? = some v → (rs.flatMap repC)[i * 4 + j]? = some v := by
  induction rs with
  | nil => intro i j r v h; cases h
  | cons q t ih =>
    intro i j r v h hv
    have hj : j < 4 := by have := (List.getElem?_eq_some_iff.1 hv).1; rw [repC_len] at this; exact this
    rw [List.flatMap_cons]
    cases i with
    | zero =>
      cases h
      rw [List.getElem?_append_left (by rw [repC_len]; omega), Nat.zero_mul, Nat.zero_add]
      exact hv
    | succ i =>
      rw [List.getElem?_append_right (by rw [repC_len]; omega), repC_len, show (i + 1) * 4 + j - 4 = i * 4 + j by omega]
      exact ih i j r v h hv
theorem i37 : (Tryz.prog.info? 37).map (fun i => (i.zero, i.size, i.bytes)) = some (some (.agg #[.int .i64 0, .int .i64 0, .string ⟨#[]⟩, .slice none 0 0]), 4, 56) := by kernel_rfl
theorem news_blk {w : World} {b : Nat} {cs : List Value} {t : TypeId} (hb : w.heap[b]? = some (.cells cs.toArray t)) : ∀ (j : Nat) (u : Value), cs[j]? = some u → w.cell? ((⟨b, 0, none⟩ : Addr).add j) = some u := by
  intro j u hj
  rw [Addr.add_lit, cell_of_row _ b _ _ t (0, 0) hb, Nat.zero_add]
  simpa using hj
theorem repC_one (r : Option ByteArray) : ∀ u ∈ repC r, u.oneCell' = true := by
  cases r <;> (intro u hu; simp [repC] at hu; rcases hu with rfl | rfl | rfl | rfl <;> rfl)
theorem map_one (xs : List ByteArray) : ∀ u ∈ xs.map Value.string, u.oneCell' = true := by
  intro u hu
  obtain ⟨s, _, rfl⟩ := List.mem_map.1 hu
  rfl
/-- One reply is appended to a row of replies. -/
theorem append_RO {ops : Array Oper} {rest : List Oper} {o : Oper} {a : Act} {Q : Exit → Act → World → Prop} (w : World) (hg : o.guard = none) (s x : Operand) (hop : o.op = Op.call { callee := Callee.builtin Builtin.append, args := #[s, x], argTypes := #[35, 35] })
    (c : Nat) (v : Value) (rs : List (Option ByteArray)) (N : Nat) (hN : rs.length = N) (hs : a.eval s = v) (h : RO rs c w v) (r : Option ByteArray) (b : Nat) (hx : a.eval x = .slice (some ⟨b, 0, none⟩) 1 1) (hb : w.heap[b]? = some (.cells (repC r).toArray 37)) (hl : N ≤ 100000) (hc : c ≤ w.heap.size)
    (k : ∀ g cap w', RO (rs ++ [r]) c w' (.slice (some ⟨g, 0, none⟩) (N + 1) cap) → Below c w w' → wpList Tryz.prog ops Q rest (a.put o.dst (.slice (some ⟨g, 0, none⟩) (N + 1) cap)) w') : wpList Tryz.prog ops Q (o :: rest) a w := by
  subst hN
  obtain ⟨i0, hi, hz0, hz1, hz2⟩ := info_parts i37
  refine wpList_append_lies w hg s x 35 hop c 37 i0 _ 4 56 Tryz.underlying35 hi hz0 hz1 hz2 rfl (by decide) v rs.length _ hs h ⟨b, 0, none⟩ 1 1 (repC r) hx (by rw [repC_len]) (news_blk hb) (repC_one r) (by decide) (by unfold maxLen; omega) (by omega) hc _ rfl ?_
  intro g cap w' h1 h2 _ _
  refine k g cap w' ?_ ((Below.refl _ _).grown h2 hc (fun k hk => (row_own h k hk).1))
  unfold RO
  rw [List.length_append, List.flatMap_append, show [r].length = 1 from rfl, show [r].flatMap repC = repC r by simp]
  exact h1
theorem wrap_small (n : Int) (h : -9223372036854775808 ≤ n) (h2 : n ≤ 9223372036854775807) : IntKind.i64.wrap n = n := IntWalk.i64_in _ (by omega)
/-- What MSET puts. -/
def pairsE (ps : List (ByteArray × ByteArray)) : List Ent := ps.map fun p => ⟨p.1, 1, p.2, 0⟩
/-- What MSET is asked. -/
def msetX (ps : List (ByteArray × ByteArray)) : List ByteArray := ⟨#[77, 83, 69, 84]⟩ :: ps.flatMap fun p => [p.1, p.2]
theorem flat2_len (ps : List (ByteArray × ByteArray)) : (ps.flatMap fun p => [p.1, p.2]).length = 2 * ps.length := by
  induction ps with
  | nil => rfl
  | cons p r ih => rw [List.flatMap_cons, List.length_append, ih, List.length_cons]; simp; omega
theorem msetX_len (ps : List (ByteArray × ByteArray)) : (msetX ps).length = 1 + 2 * ps.length := by
  unfold msetX; rw [List.length_cons, flat2_len]; omega
theorem flat2_at (ps : List (ByteArray × ByteArray)) : ∀ (i : Nat) (p : ByteArray × ByteArray), ps[i]? = some p → (ps.flatMap fun p => [p.1, p.2])[2 * i]? = some p.1 ∧ (ps.flatMap fun p => [p.1, p.2])[2 * i + 1]? = some p.2 := by
  induction ps with
  | nil => intro i p h; cases h
  | cons q r ih =>
    intro i p h
    rw [List.flatMap_cons]
    cases i with
    | zero => cases h; exact ⟨rfl, rfl⟩
    | succ i =>
      have := ih i p h
      rw [show 2 * (i + 1) = 2 * i + 2 by omega, show 2 * i + 2 + 1 = (2 * i + 1) + 2 by omega]
      exact this
theorem msetX_at (ps : List (ByteArray × ByteArray)) (i : Nat) (p : ByteArray × ByteArray) (h : ps[i]? = some p) : (msetX ps)[1 + 2 * i]? = some p.1 ∧ (msetX ps)[1 + 2 * i + 1]? = some p.2 := by
  have := flat2_at ps i p h
  unfold msetX
  rw [show 1 + 2 * i = 2 * i + 1 by omega, show 2 * i + 1 + 1 = (2 * i + 1) + 1 by omega]
  exact this
theorem pairsE_succ (ps : List (ByteArray × ByteArray)) (i : Nat) (p : ByteArray × ByteArray) (h : ps[i]? = some p) : pairsE (ps.take (i + 1)) = pairsE (ps.take i) ++ [⟨p.1, 1, p.2, 0⟩] := by
  unfold pairsE
  rw [List.take_add_one, h, List.map_append]
  rfl
/-- An entry that MSET may put. -/
def MayM (p : ByteArray × ByteArray) : Prop := 1 ≤ p.1.size ∧ p.1.size ≤ 512 ∧ p.2.size ≤ 4096
theorem mset_keep {wr w5 w6 : World} {c1 j bS blk off n cap kk : Nat} {now : Int} {s1 s2 : ByteArray} {A0 : Option Addr} {n0 c0 : Nat} {Q : Option Addr → Nat → Nat → Prop} (_hJ : JB wr j bS now (.slice (some ⟨blk, off, none⟩) n cap) (.slice A0 n0 c0)) (_hz : c1 ≤ wr.heap.size) (hb : Below wr.heap.size wr w5) (hK : Kp c1 (fun i => i ≠ j) w5 w6)
    (hR : ∃ A' n' c', JB w6 j bS now (.slice (some ⟨blk, off, none⟩) n cap) (.slice A' n' c') ∧ Q A' n' c')
    (h5 : w5.cell? ⟨j, 2, none⟩ = some (.slice (some ⟨blk, off, none⟩) n cap) ∧ w5.cell? ⟨blk, off + kk, none⟩ = some (.string s1) ∧ w5.cell? ⟨blk, off + (kk + 1), none⟩ = some (.string s2)) (hblt : blk < c1) (hn : blk ≠ j) :
    w6.cell? ⟨j, 2, none⟩ = some (.slice (some ⟨blk, off, none⟩) n cap) ∧ w6.cell? ⟨blk, off + kk, none⟩ = some (.string s1) ∧ w6.cell? ⟨blk, off + (kk + 1), none⟩ = some (.string s2) := by
  obtain ⟨A', n', c', hJ, _⟩ := hR
  have := Below.size hb
  exact ⟨hJ.cells.2.2.1, (hK.cell (p := ⟨blk, off + kk, none⟩) hblt hn).trans h5.2.1, (hK.cell (p := ⟨blk, off + (kk + 1), none⟩) hblt hn).trans h5.2.2⟩
set_option maxRecDepth 100000 in
set_option maxHeartbeats 8000000 in
theorem mset_ok (W0 : World) (bS bM : Nat) (l : MapT.Ents) (now : Int) (ps : List (ByteArray × ByteArray)) (hps : ∀ p ∈ ps, MayM p) (hn : ps.length ≤ 1000) : CmdOk W0 44 bS bM l now (msetX ps) 1 0 ⟨#[79, 75]⟩ R0 (pairsE ps) := by
  intro w j vA _ hS hj hA
  have A1 := Lib.hid (alloc_old (w := w) (o := .cells #[.int .i64 0, .int .i64 0, .string ⟨#[]⟩, .slice none 0 0] 37))
  have hr := Lib.hid (heap_alloc_new w (.cells #[.int .i64 0, .int .i64 0, .string ⟨#[]⟩, .slice none 0 0] 37))
  obtain ⟨aA, cap, hv, p1, p2, p3⟩ := hA
  rw [msetX_len] at hv p1
  obtain ⟨m, hm⟩ : ∃ m, 1 + 2 * ps.length = m := ⟨_, rfl⟩
  rw [hm] at hv p1
  subst hv
  have HMM := Lib.hid hm
  obtain ⟨blk, off, rfl, hblt, hc⟩ := p3 (by unfold msetX; simp)
  have nj := Lib.hid (ne_job_str hj (hc 0 _ rfl))
  have HC := Lib.hid hc
  have HJ := Lib.hid hj
  have HS := Lib.hid hS
  have HP := Lib.hid hps
  have HN := Lib.hid hn
  have hjw := lt_blk HJ.out
  have OKK := Lib.hid (fun w => OK74 w)
  have hw1 : w.heap.size < (w.alloc (.cells #[.int .i64 0, .int .i64 0, .string ⟨#[]⟩, .slice none 0 0] 37)).heap.size := by simp
  have J1 := Lib.hid (HJ.out.below A1.out)
  clear p3 hc hj hS hps hn hm
  go_enter Tryz.func44, Tryz.ntmps44
  go_wp2_with fail
  generalize hgw : (w.alloc (.cells #[.int .i64 0, .int .i64 0, .string ⟨#[]⟩, .slice none 0 0] 37)) = w1 at A1 hr hw1 J1 ⊢
  go_loopw [3] (fun iv wr => ∃ (i k : Nat), k = 1 + 2 * i ∧ i ≤ ps.length ∧ iv = .int .i64 k ∧ Hid (∃ A' n' c', JB wr j bS now (.slice (some ⟨blk, off, none⟩) m cap) (.slice A' n' c') ∧ EF wr w1.heap.size (.slice A' n' c') (pairsE (ps.take i)) ∧ Kp w1.heap.size (fun i => i ≠ j) w1 wr)) (fun iv _ => m - (intOf iv).toNat)
  case atStart => exact ⟨0, 1, rfl, Nat.zero_le _, rfl, Lib.hid ⟨none, 0, 0, J1.out, EF.nil _ _, Kp.refl _ _ _⟩⟩
  case round =>
    have hmm := HMM.out
    obtain ⟨i, k, hk, hi, rfl, HQ⟩ := hrel
    obtain ⟨A', n', c', hJr, hEr, hKr⟩ := HQ.out
    have hn9 := HN.out
    have cj2 := hJr.cells.2.2.1
    have zj : j < wr.heap.size := lt_blk hJr
    by_cases hlt : i < ps.length
    · obtain ⟨p, hp⟩ : ∃ p, ps[i]? = some p := ⟨ps[i], List.getElem?_eq_getElem hlt⟩
      obtain ⟨p1s, p2s⟩ := p
      have hp6 := hp
      have HM := Lib.hid (HP.out _ (List.mem_of_getElem? hp))
      have hat := msetX_at ps i _ hp
      rw [← hk] at hat
      have x1 := HC.out _ _ hat.1
      have x2 := HC.out _ _ hat.2
      have q1 : (k : Int) + 1 < (m : Int) := by omega
      have q2 : (k : Int) < (m : Int) := by omega
      have q3 : (k : Int) ≤ 100000 := by omega
      have HK := Lib.hid hk
      have HI := Lib.hid hi
      have HJr := Lib.hid hJr
      have HEr := Lib.hid hEr
      have HKr := Lib.hid hKr
      clear hmm hat hk hi hp hJr hEr hKr HQ
      go_wp2
      have hz1 : w1.heap.size ≤ wr.heap.size := HKr.out.size
      have K0 := Lib.hid (show (wr.cell? ⟨j, 2, none⟩ = some (.slice (some ⟨blk, off, none⟩) m cap) ∧ wr.cell? ⟨blk, off + k, none⟩ = some (.string p1s) ∧ wr.cell? ⟨blk, off + (k + 1), none⟩ = some (.string p2s)) from ⟨cj2, (HKr.out.cell (p := ⟨blk, off + k, none⟩) (by show blk < _; omega) nj.out).trans ((A1.out.cell (p := ⟨blk, off + k, none⟩) hblt).trans x1), (HKr.out.cell (p := ⟨blk, off + (k + 1), none⟩) (by show blk < _; omega) nj.out).trans ((A1.out.cell (p := ⟨blk, off + (k + 1), none⟩) hblt).trans x2)⟩)
      have KQ := Lib.hid (show ∀ X, Below wr.heap.size wr X → (X.cell? ⟨j, 2, none⟩ = some (.slice (some ⟨blk, off, none⟩) m cap) ∧ X.cell? ⟨blk, off + k, none⟩ = some (.string p1s) ∧ X.cell? ⟨blk, off + (k + 1), none⟩ = some (.string p2s)) from fun X hb => ⟨(HJr.out.below hb).cells.2.2.1, (hb.cell (p := ⟨blk, off + k, none⟩) (by show blk < _; omega)).trans K0.out.2.1, (hb.cell (p := ⟨blk, off + (k + 1), none⟩) (by show blk < _; omega)).trans K0.out.2.2⟩)
      have K1 := Lib.hid (KQ.out wr.drew (Below.refl _ _).drew)
      have T4 := Lib.hid (text73 p2s wr.drew)
      have PU := Lib.hid (fun X (hX : Below wr.heap.size wr X) => Put72 j bS now (.slice (some ⟨blk, off, none⟩) m cap) A' n' c' (pairsE (ps.take i)) w1.heap.size X (HJr.out.below hX) (HEr.out.below hX) (Nat.le_trans hz1 (Below.size hX)) (by unfold pairsE; rw [List.length_map, List.length_take]; omega) p1s p2s HM.out.1 HM.out.2.1 HM.out.2.2 0 (by omega) (by omega))
      clear cj2 x1 x2
      have w9 : IntKind.i64.wrap ((k : Int) + 1) = (k : Int) + 1 := wrap_small _ (by omega) (by omega)
      have q4 : (0 : Int) ≤ (k : Int) + 1 := by omega
      go_region_held3 (fun X => X.cell? ⟨j, 2, none⟩ = some (.slice (some ⟨blk, off, none⟩) m cap) ∧ X.cell? ⟨blk, off + k, none⟩ = some (.string p1s) ∧ X.cell? ⟨blk, off + (k + 1), none⟩ = some (.string p2s)) (first | assumption | (with_reducible exact K1.out) | (with_reducible exact KQ.out _ (by assumption))) (first | (go_at_call 73; (with_reducible refine (T4.out).mono ?_); rintro e w5 ⟨rfl, h5⟩; have B5 : Below wr.heap.size wr w5 := (belT (Below.refl wr.heap.size wr).drew h5); clear h5; have P5 := Lib.hid (PU.out w5 B5)) | (go_at_call 72; (with_reducible refine (P5.out).mono ?_); rintro e w6 ⟨rfl, hR6, hK6⟩; have S6 := mset_keep HJr.out hz1 B5 hK6 hR6 (KQ.out _ B5) (by omega) nj.out))
      have HP6 := Lib.hid hp6
      have HR6 := Lib.hid hR6
      have HK6 := Lib.hid (HKr.out.trans ((Kp.of (B5.mono hz1)).trans hK6))
      clear w9 q4 S6 hR6 hK6 P5 KQ K1 K0 B5 T4 PU
      go_wp2
      go_round
      case rel =>
        obtain ⟨A2, n2, c2, hJ6, hE6⟩ := HR6.out
        have hk := HK.out
        exact ⟨i + 1, k + 2, by omega, by omega, by go_num, Lib.hid ⟨A2, n2, c2, hJ6, by rw [pairsE_succ _ _ _ HP6.out]; exact hE6, HK6.out⟩⟩
      case measure => simp [intOf]; omega
    · have he : i = ps.length := by omega
      have q1 : ¬ (k : Int) + 1 < (m : Int) := by omega
      have q3 : (k : Int) ≤ 100000 := by omega
      have HJr := Lib.hid hJr
      have HEr := Lib.hid hEr
      have HKr := Lib.hid hKr
      have HE := Lib.hid he
      clear hmm hk hi hJr hEr hKr HQ he
      have R6 := Lib.hid ((HKr.out.block w.heap.size hw1 (by omega)).trans hr.out)
      go_wp2_with (first | (go_at_call 74; (with_reducible refine (OKK.out _).mono ?_); rintro e w7 ⟨rfl, h7⟩; have B7 := Lib.hid h7; clear h7; obtain ⟨⟨c0, c1, c2, c3⟩, ⟨f0, f1, f2, f3⟩⟩ := cells4 (blk_below R6.out B7.out)))
      obtain ⟨hJ7, hE7, hK7⟩ := eff_after HJr.out HEr.out HKr.out B7.out
      rw [HE.out, List.take_length] at hE7
      exact bodyPost_ret (v := .agg #[.int .i64 1, .int .i64 0, .string ⟨#[79, 75]⟩, .slice none 0 0]) (by simp [results, Tryz.results44, go_sem, c0, c1, c2, c3]) rfl (eff_end hjw (Nat.le_refl _) hw1 A1.out hJ7 hE7 hK7 _ _ _ _)
/-- What MGET tells of a key. -/
def MGr (w : World) (l : MapT.Ents) (now : Int) (k : ByteArray) (r : Option ByteArray) : Prop :=
  (MapT.find k l = none ∧ r = none) ∨ (∃ t u, MapT.find k l = some (.agg #[.string k, .int .i64 1, .string t, .slice none 0 0, .slice none 0 0, .slice none 0 0, .slice none 0 0, .int .i64 u]) ∧ Lives u now ∧ r = some t) ∨
  (∃ u xs A cap, xs ≠ [] ∧ xs.length ≤ 1000000 ∧ MapT.find k l = some (.agg #[.string k, .int .i64 2, .string ⟨#[]⟩, .slice A xs.length cap, .slice none 0 0, .slice none 0 0, .slice none 0 0, .int .i64 u]) ∧ Lives u now ∧ SSl w (.slice A xs.length cap) xs ∧ r = none)
theorem RO.form {rs : List (Option ByteArray)} {c : Nat} {w : World} {v : Value} (h : RO rs c w v) : ∃ A cap, v = .slice A rs.length cap := by
  unfold RO World.ownsRow at h
  obtain ⟨_, ⟨rfl, h0⟩ | ⟨g, cap, cur, rfl, _⟩⟩ := h
  · exact ⟨none, 0, by rw [h0]⟩
  · exact ⟨_, cap, rfl⟩
theorem take_at {α : Type} (rs : List α) (i : Nat) (r : α) (h : rs[i]? = some r) : rs.take (i + 1) = rs.take i ++ [r] := by
  rw [List.take_add_one, h]
  rfl
set_option maxRecDepth 100000 in
set_option maxHeartbeats 8000000 in
theorem mget_ok (W0 : World) (bS bM : Nat) (l : MapT.Ents) (now : Int) (ks : List ByteArray) (rs : List (Option ByteArray)) (hkr : ks.length = rs.length) (hn : ks.length ≤ 1000) (hne : 1 ≤ ks.length) (hks : ∀ (i : Nat) k r, ks[i]? = some k → rs[i]? = some r → MGr W0 l now k r) : CmdOk W0 43 bS bM l now (⟨#[77, 71, 69, 84]⟩ :: ks) 6 0 ⟨#[]⟩ (RO rs) [] := by
  intro w j vA hI hS hj hA
  have A1 := Lib.hid (alloc_old (w := w) (o := .cells #[.int .i64 0, .int .i64 0, .string ⟨#[]⟩, .slice none 0 0] 37))
  have hr := Lib.hid (heap_alloc_new w (.cells #[.int .i64 0, .int .i64 0, .string ⟨#[]⟩, .slice none 0 0] 37))
  obtain ⟨aA, cap, hv, p1, p2, p3⟩ := hA
  rw [List.length_cons] at hv p1
  obtain ⟨n, hnn⟩ : ∃ n, ks.length = n := ⟨_, rfl⟩
  rw [hnn] at hv p1 hkr
  subst hv
  obtain ⟨blk, off, rfl, hblt, hc⟩ := p3 (by simp)
  have HC := Lib.hid hc
  have HJ := Lib.hid hj
  have HS := Lib.hid hS
  have HI := Lib.hid hI
  have HKS := Lib.hid hks
  have HN := Lib.hid (show ks.length = n ∧ n ≤ 1000 ∧ rs.length = n ∧ 1 ≤ n from ⟨hnn, by omega, by omega, by omega⟩)
  have hcap : ¬ cap = 1 := by omega
  have q0 : (1 : Int) ≤ (n : Int) + 1 := by omega
  have q9 : (n : Int) + 1 ≤ (cap : Int) := by omega
  have q8 : (n : Int) ≤ 1000 := by omega
  have hjw := lt_blk HJ.out
  have ARR := Lib.hid (fun A (n c : Nat) w => Array81 A n c w)
  have NIL := Lib.hid (fun w => Nil66 w)
  have BU := Lib.hid (fun t w => Bulk67 t w)
  have hw1 : w.heap.size < (w.alloc (.cells #[.int .i64 0, .int .i64 0, .string ⟨#[]⟩, .slice none 0 0] 37)).heap.size := by simp
  have J1 := Lib.hid (HJ.out.below A1.out)
  have cj2 := J1.out.cells.2.2.1
  clear p3 hc hj hS hks hn hkr hI hne hnn
  go_enter Tryz.func43, Tryz.ntmps43
  go_wp2_with fail
  generalize (w.alloc (.cells #[.int .i64 0, .int .i64 0, .string ⟨#[]⟩, .slice none 0 0] 37)) = w1 at A1 hr hw1 J1 ⊢
  go_loopw [3, 14] (fun lv iv wr => ∃ (i : Nat) (A : Option Addr) (C : Nat), i ≤ n ∧ lv = .slice A i C ∧ iv = .int .i64 i ∧ Hid (RO (rs.take i) w1.heap.size wr (.slice A i C) ∧ Below w1.heap.size w1 wr)) (fun _ iv _ => n - (intOf iv).toNat)
  case atStart => exact ⟨0, none, 0, Nat.zero_le _, rfl, rfl, Lib.hid ⟨World.ownsRow_nil _ _ _ _, Below.refl _ _⟩⟩
  case round =>
    obtain ⟨i, A, C, hi, rfl, rfl, HQ⟩ := hrel
    by_cases hlt : i < n
    · obtain ⟨k, hk⟩ : ∃ k, ks[i]? = some k := ⟨ks[i]'(by rw [HN.out.1]; omega), List.getElem?_eq_getElem _⟩
      obtain ⟨r, hr9⟩ : ∃ r, rs[i]? = some r := ⟨rs[i]'(by rw [HN.out.2.2.1]; omega), List.getElem?_eq_getElem _⟩
      have hm := HKS.out i k r hk hr9
      have BR := Lib.hid (show Below w.heap.size w wr from A1.out.trans (HQ.out.2.mono (Nat.le_of_lt hw1)))
      have x0 := HC.out (i + 1) k (by simpa using hk)
      rw [show off + (i + 1) = off + 1 + i by omega] at x0
      have x1 := (BR.out.cell (p := ⟨blk, off + 1 + i, none⟩) hblt).trans x0
      have c9 := HQ.out.2.size
      have hcc := Lib.hid (show w1.heap.size ≤ wr.heap.size from c9)
      have q1 : (i : Int) < (n : Int) := by omega
      have HR9 := Lib.hid hr9
      have HT := Lib.hid (show (rs.take i).length = i from by rw [List.length_take, HN.out.2.2.1]; omega)
      clear x0 hk c9 hr9
      rcases hm with ⟨hf, rfl⟩ | ⟨t, u, hf, hl, rfl⟩ | ⟨u, xs, AL, CL, hxs, hxn, hf, hl, hss, rfl⟩
      · have G := Lib.hid (JGet_no bS bM j l k now _ _ hf wr (HS.out.below BR.out) (HJ.out.below BR.out))
        clear hf
        go_wp2_with (first | (go_at_call 70; (with_reducible refine (G.out).mono ?_); rintro e w3 ⟨rfl, h3⟩; have B3 := Lib.hid (BR.out.trans (h3.mono (Below.size BR.out))); have C3 := Lib.hid h3; clear h3; refine Hid.out ?_))
        refine Lib.hid ?_
        go_wp2_with (first | (go_at_call 66; (with_reducible refine (NIL.out _).mono ?_); rintro e w5 ⟨rfl, h5⟩; have D5 := Lib.hid (show Below wr.heap.size wr (w5.alloc (.cells #[.int .i64 5, .int .i64 0, .string ⟨#[]⟩, .slice none 0 0] 37)) from (belA C3.out h5).trans (alloc_old.mono (Below.size (belA C3.out h5)))); have b5 := Lib.hid (heap_alloc_new w5 (.cells #[.int .i64 5, .int .i64 0, .string ⟨#[]⟩, .slice none 0 0] 37)); have R5 := Lib.hid (row_below HQ.out.1 D5.out); have z5 := Lib.hid (Nat.le_trans hcc.out (Below.size D5.out)); clear h5) | (at_builtin; refine append_RO _ rfl _ _ rfl w1.heap.size _ (rs.take i) i HT.out rfl R5.out none _ rfl b5.out (by omega) z5.out ?_; intro g C2 w6 hR6 hB6))
        have HR6 := Lib.hid hR6
        have HB6 := Lib.hid hB6
        clear hR6 hB6
        go_round
        case rel => exact ⟨i + 1, some ⟨g, 0, none⟩, C2, by omega, rfl, by go_num, Lib.hid ⟨by rw [take_at rs i _ HR9.out]; exact HR6.out, (HQ.out.2.trans (D5.out.mono hcc.out)).trans HB6.out⟩⟩
        case measure => simp [intOf]; omega
      · have G := Lib.hid (JGet_yes bS bM j l k now _ _ t u 1 hf hl wr (HS.out.below BR.out) (HJ.out.below BR.out))
        clear hf hl
        go_wp2_with (first | (go_at_call 70; (with_reducible refine (G.out).mono ?_); rintro e w3 ⟨rfl, h3⟩; have B3 := Lib.hid (BR.out.trans (h3.mono (Below.size BR.out))); have C3 := Lib.hid h3; clear h3; refine Hid.out ?_))
        refine Lib.hid ?_
        go_wp2_with (first | (go_at_call 67; (with_reducible refine (BU.out _ _).mono ?_); rintro e w5 ⟨rfl, h5⟩; have D5 := Lib.hid (show Below wr.heap.size wr (w5.alloc (.cells #[.int .i64 4, .int .i64 0, .string t, .slice none 0 0] 37)) from (belA C3.out h5).trans (alloc_old.mono (Below.size (belA C3.out h5)))); have b5 := Lib.hid (heap_alloc_new w5 (.cells #[.int .i64 4, .int .i64 0, .string t, .slice none 0 0] 37)); have R5 := Lib.hid (row_below HQ.out.1 D5.out); have z5 := Lib.hid (Nat.le_trans hcc.out (Below.size D5.out)); clear h5) | (at_builtin; refine append_RO _ rfl _ _ rfl w1.heap.size _ (rs.take i) i HT.out rfl R5.out (some t) _ rfl b5.out (by omega) z5.out ?_; intro g C2 w6 hR6 hB6))
        have HR6 := Lib.hid hR6
        have HB6 := Lib.hid hB6
        clear hR6 hB6
        go_round
        case rel => exact ⟨i + 1, some ⟨g, 0, none⟩, C2, by omega, rfl, by go_num, Lib.hid ⟨by rw [take_at rs i _ HR9.out]; exact HR6.out, (HQ.out.2.trans (D5.out.mono hcc.out)).trans HB6.out⟩⟩
        case measure => simp [intOf]; omega
      · have G := Lib.hid (JGet_yesL bS bM j l k now _ _ u xs AL CL hxs hxn hf hl wr (HS.out.below BR.out) (HJ.out.below BR.out) (hss.below (HI.out.trans (BR.out.mono (Below.size HI.out)))))
        clear hf hl hss
        go_wp2_with (first | (go_at_call 70; (with_reducible refine (G.out).mono ?_); rintro e w3 ⟨g9, C9, rfl, _, _, h3⟩; have B3 := Lib.hid (BR.out.trans (h3.mono (Below.size BR.out))); have C3 := Lib.hid h3; clear h3; refine Hid.out ?_))
        refine Lib.hid ?_
        go_wp2_with (first | (go_at_call 66; (with_reducible refine (NIL.out _).mono ?_); rintro e w5 ⟨rfl, h5⟩; have D5 := Lib.hid (show Below wr.heap.size wr (w5.alloc (.cells #[.int .i64 5, .int .i64 0, .string ⟨#[]⟩, .slice none 0 0] 37)) from (belA C3.out h5).trans (alloc_old.mono (Below.size (belA C3.out h5)))); have b5 := Lib.hid (heap_alloc_new w5 (.cells #[.int .i64 5, .int .i64 0, .string ⟨#[]⟩, .slice none 0 0] 37)); have R5 := Lib.hid (row_below HQ.out.1 D5.out); have z5 := Lib.hid (Nat.le_trans hcc.out (Below.size D5.out)); clear h5) | (at_builtin; refine append_RO _ rfl _ _ rfl w1.heap.size _ (rs.take i) i HT.out rfl R5.out none _ rfl b5.out (by omega) z5.out ?_; intro g C2 w6 hR6 hB6))
        have HR6 := Lib.hid hR6
        have HB6 := Lib.hid hB6
        clear hR6 hB6
        go_round
        case rel => exact ⟨i + 1, some ⟨g, 0, none⟩, C2, by omega, rfl, by go_num, Lib.hid ⟨by rw [take_at rs i _ HR9.out]; exact HR6.out, (HQ.out.2.trans (D5.out.mono hcc.out)).trans HB6.out⟩⟩
        case measure => simp [intOf]; omega
    · have he : i = n := by omega
      subst he
      have q1 : ¬ (i : Int) < (i : Int) := by omega
      have hjw1 := Below.size A1.out
      have R6 := Lib.hid (blk_below hr.out HQ.out.2)
      go_wp2_with (first | (go_at_call 81; (with_reducible refine (ARR.out _ _ _ _).mono ?_); rintro e w7 ⟨rfl, h7⟩; have B7 := Lib.hid h7; clear h7; obtain ⟨⟨c0, c1, c2, c3⟩, ⟨f0, f1, f2, f3⟩⟩ := cells4 (blk_below R6.out B7.out)))
      have hfull := HQ.out.1
      rw [show rs.take i = rs by rw [← HN.out.2.2.1, List.take_length]] at hfull
      have hR7 := row_below hfull B7.out
      have BB : Below w.heap.size w w7 := A1.out.trans ((HQ.out.2.trans (B7.out.mono HQ.out.2.size)).mono hjw1)
      refine bodyPost_ret (v := .agg #[.int .i64 6, .int .i64 0, .string ⟨#[]⟩, .slice A i C]) (by simp [results, Tryz.results43, go_sem, c0, c1, c2, c3]) rfl ⟨A, i, C, rfl, row_mono (row_kept hR7 (fun g hg => far4 _ _ _ _ (by have := (row_own hR7 g hg).1; omega))) hjw1, ⟨none, 0, 0, (HJ.out.below BB).kept (far4 _ _ _ _ (by omega)), EF.nil _ _⟩, .of ((((BB.setCell (Nat.le_refl _) _).setCell (Nat.le_refl _) _).setCell (Nat.le_refl _) _).setCell (Nat.le_refl _) _)⟩
set_option linter.unusedVariables false
open Go.ChangeShapes Go.WideShapes Go.ChangeAt Go.RowKit

/-- The name of number i: one small letter. -/
def nm (i : Nat) : ByteArray := ⟨#[UInt8.ofNat (97 + i)]⟩
theorem nm_inj {i j : Nat} (hi : i < 9) (hj : j < 9) (h : nm i = nm j) : i = j := by
  have h1 : UInt8.ofNat (97 + i) = UInt8.ofNat (97 + j) := by
    have h0 := congrArg (fun b : ByteArray => b.data.toList) h
    simp only [nm] at h0
    exact (List.cons.inj h0).1
  have h2 := congrArg UInt8.toNat h1
  rw [UInt8.toNat_ofNat', UInt8.toNat_ofNat'] at h2
  omega
theorem nm_size (i : Nat) : (nm i).size = 1 := rfl
theorem nm_ne (i : Nat) (s : ByteArray) (h : s.size ≠ 1) : nm i ≠ s := by
  intro e
  rw [← e] at h
  exact h rfl
/-- What is put, one after another: keys that are all there no more than once. -/
theorem apply_far (es : List Ent) (q : ByteArray) (h1 : ∀ e ∈ es, e.kd ≠ 0) (h2 : ∀ e ∈ es, e.k ≠ q) : ∀ l, MapT.find q (applyE es l) = MapT.find q l := by
  induction es with
  | nil => intro l; rfl
  | cons e r ih =>
    intro l
    unfold applyE
    rw [if_neg (h1 e (by simp)), ih (fun e he => h1 e (by simp [he])) (fun e he => h2 e (by simp [he])), find_put, if_neg (h2 e (by simp))]
theorem apply_at (es : List Ent) (h1 : ∀ e ∈ es, e.kd ≠ 0) (hd : (es.map Ent.k).Nodup) : ∀ (l : MapT.Ents) (i : Nat) (e : Ent), es[i]? = some e → MapT.find e.k (applyE es l) = some e.val := by
  induction es with
  | nil => intro l i e h; cases h
  | cons f r ih =>
    intro l i e h
    unfold applyE
    rw [if_neg (h1 f (by simp))]
    rw [List.map_cons, List.nodup_cons] at hd
    cases i with
    | zero =>
      cases h
      rw [apply_far r f.k (fun x hx => h1 x (by simp [hx])) (fun x hx e9 => hd.1 (by rw [← e9]; exact List.mem_map_of_mem hx)), find_put, if_pos rfl]
    | succ i => exact ih (fun x hx => h1 x (by simp [hx])) hd.2 _ i e h
theorem may_new (Y : World) (bS bM : Nat) (es : List Ent) : ∀ (l : MapT.Ents), (∀ e ∈ es, e.kd = 1 ∧ 1 ≤ e.k.size ∧ e.k.size ≤ 512 ∧ e.t.size ≤ 4096 ∧ e.u = 0 ∧ MapT.find e.k l = none) → (es.map Ent.k).Nodup → l.length + es.length ≤ 4096 → MayP Y bS bM es l := by
  induction es with
  | nil => intro l _ _ _; exact trivial
  | cons e r ih =>
    intro l h hd hl
    rw [List.map_cons, List.nodup_cons] at hd
    rw [List.length_cons] at hl
    obtain ⟨a1, a2, a3, a4, a5, a6⟩ := h e (by simp)
    refine ⟨.inl ⟨a1, fun w _ hS => ?_⟩, ?_⟩
    · have := Put10_new bS bM l e.k e.t a2 a3 a4 e.u (by omega) (by omega) w hS a6 (by omega)
      exact this
    · rw [if_neg (by rw [a1]; decide)]
      refine ih _ (fun f hf => ?_) hd.2 ?_
      · obtain ⟨b1, b2, b3, b4, b5, b6⟩ := h f (by simp [hf])
        refine ⟨b1, b2, b3, b4, b5, ?_⟩
        rw [find_put, if_neg (fun e9 => hd.1 (by rw [e9]; exact List.mem_map_of_mem hf))]
        exact b6
      · have := len_put e.k e.val l
        omega
/-- What the law sets. -/
def psT (xs : List ByteArray) (i : Nat) : List (ByteArray × ByteArray) := (List.range i).map fun k => (nm k, xs.getD k ⟨#[]⟩)
theorem psT_succ (xs : List ByteArray) (i : Nat) : psT xs (i + 1) = psT xs i ++ [(nm i, xs.getD i ⟨#[]⟩)] := by
  unfold psT
  rw [List.range_succ, List.map_append]
  rfl
theorem psT_len (xs : List ByteArray) (i : Nat) : (psT xs i).length = i := by unfold psT; simp
theorem psT_at (xs : List ByteArray) (n i : Nat) (h : i < n) : (psT xs n)[i]? = some (nm i, xs.getD i ⟨#[]⟩) := by
  unfold psT
  rw [List.getElem?_map, List.getElem?_range h]
  rfl
theorem psT_keys (xs : List ByteArray) (n : Nat) (h : n ≤ 9) : ((pairsE (psT xs n)).map Ent.k).Nodup := by
  have e : (pairsE (psT xs n)).map Ent.k = (List.range n).map nm := by
    unfold pairsE psT
    simp [Function.comp_def]
  rw [e, List.nodup_iff_pairwise_ne, List.pairwise_map]
  refine List.Pairwise.imp_of_mem ?_ List.pairwise_lt_range
  intro a b ha hb hab e9
  have := nm_inj (by have := List.mem_range.1 ha; omega) (by have := List.mem_range.1 hb; omega) e9
  omega
/-- What the law asks. -/
def ksT (n i : Nat) : List ByteArray := ⟨#[110, 111, 110, 101]⟩ :: (List.range i).map fun k => nm (n - 1 - k)
theorem ksT_succ (n i : Nat) : ksT n (i + 1) = ksT n i ++ [nm (n - 1 - i)] := by
  unfold ksT
  rw [List.range_succ, List.map_append]
  rfl
theorem ksT_len (n i : Nat) : (ksT n i).length = i + 1 := by unfold ksT; simp
/-- What the law is told. -/
def rsT (xs : List ByteArray) (n : Nat) : List (Option ByteArray) := none :: ((List.range n).map fun k => some (xs.getD (n - 1 - k) ⟨#[]⟩)) ++ [none]
theorem rsT_len (xs : List ByteArray) (n : Nat) : (rsT xs n).length = n + 2 := by unfold rsT; simp
theorem rsT_at (xs : List ByteArray) (n k : Nat) (h : k < n) : (rsT xs n)[k + 1]? = some (some (xs.getD (n - 1 - k) ⟨#[]⟩)) := by
  unfold rsT
  rw [List.cons_append, List.getElem?_cons_succ, List.getElem?_append_left (by simpa using h), List.getElem?_map, List.getElem?_range h]
  rfl
theorem rsT_last (xs : List ByteArray) (n : Nat) : (rsT xs n)[n + 1]? = some none := by
  unfold rsT
  rw [List.cons_append, List.getElem?_cons_succ, List.getElem?_append_right (by simp)]
  simp
theorem ents_val (k t : ByteArray) : (Ent.mk k 1 t 0).val = .agg #[.string k, .int .i64 1, .string t, .slice none 0 0, .slice none 0 0, .slice none 0 0, .slice none 0 0, .int .i64 0] := rfl
/-- What MGET tells, behind MSET. -/
theorem mg_all (Y : World) (xs : List ByteArray) (n : Nat) (hn : n ≤ 9) (AL : Option Addr) (cL : Nat) (hTR : SSl Y (.slice AL 1 cL) [⟨#[120]⟩]) (i : Nat) (k : ByteArray) (r : Option ByteArray) (hk : (ksT n n ++ [⟨#[108, 105, 115, 116]⟩])[i]? = some k) (hr : (rsT xs n)[i]? = some r) :
    MGr Y (applyE (pairsE (psT xs n)) (MapT.put ⟨#[108, 105, 115, 116]⟩ (.agg #[.string ⟨#[108, 105, 115, 116]⟩, .int .i64 2, .string ⟨#[]⟩, .slice AL 1 cL, .slice none 0 0, .slice none 0 0, .slice none 0 0, .int .i64 0]) [])) 1 k r := by
  have kd : ∀ e ∈ pairsE (psT xs n), e.kd ≠ 0 := by
    intro e he
    unfold pairsE at he
    obtain ⟨p, _, rfl⟩ := List.mem_map.1 he
    show (1 : Int) ≠ 0
    decide
  have far : ∀ q : ByteArray, q.size ≠ 1 → ∀ e ∈ pairsE (psT xs n), e.k ≠ q := by
    intro q hq e he
    unfold pairsE psT at he
    rw [List.map_map] at he
    obtain ⟨m, _, rfl⟩ := List.mem_map.1 he
    exact nm_ne m q hq
  cases i with
  | zero =>
    cases hk
    cases hr
    refine .inl ⟨?_, rfl⟩
    rw [apply_far _ _ kd (far _ (by decide))]
    rfl
  | succ i =>
    by_cases hi : i < n
    · rw [List.getElem?_append_left (by rw [ksT_len]; omega)] at hk
      unfold ksT at hk
      rw [List.getElem?_cons_succ, List.getElem?_map, List.getElem?_range hi] at hk
      cases hk
      rw [rsT_at xs n i hi] at hr
      cases hr
      refine .inr (.inl ⟨_, 0, ?_, .inl rfl, rfl⟩)
      have h9 : (pairsE (psT xs n))[n - 1 - i]? = some ⟨nm (n - 1 - i), 1, xs.getD (n - 1 - i) ⟨#[]⟩, 0⟩ := by
        unfold pairsE
        rw [List.getElem?_map, psT_at xs n _ (by omega)]
        rfl
      exact apply_at _ kd (psT_keys xs n hn) _ _ _ h9
    · have hin : i = n := by
        have := (List.getElem?_eq_some_iff.1 hr).1
        rw [rsT_len] at this
        omega
      subst hin
      rw [List.getElem?_append_right (by rw [ksT_len]; omega), ksT_len, Nat.sub_self] at hk
      cases hk
      rw [rsT_last] at hr
      cases hr
      refine .inr (.inr ⟨0, [⟨#[120]⟩], AL, cL, by simp, by simp, ?_, .inl rfl, hTR, rfl⟩)
      rw [apply_far _ _ kd (far _ (by decide))]
      rfl
/-- MSET at the law's space. -/
theorem many_set (W0 : World) (bS bM : Nat) (Y : World) (v0 : Value) (xs : List ByteArray) (n : Nat) (hn : n ≤ 9) (hn0 : 1 ≤ n) (hsz : ∀ i, i < n → (xs.getD i ⟨#[]⟩).size ≤ 50) (AL : Option Addr) (cL : Nat) (hL : LW W0 Y bS bM (MapT.put ⟨#[108, 105, 115, 116]⟩ (.agg #[.string ⟨#[108, 105, 115, 116]⟩, .int .i64 2, .string ⟨#[]⟩, .slice AL 1 cL, .slice none 0 0, .slice none 0 0, .slice none 0 0, .int .i64 0]) [])) (hv0 : SSl Y v0 (msetX (psT xs n))) : Calls Tryz.prog 11 #[.pointer (some ⟨bS, 0, none⟩), v0] Y fun e w' => e = .returned (.agg #[.int .i64 1, .int .i64 0, .string ⟨#[79, 75]⟩, .slice none 0 0]) ∧ LW W0 w' bS bM (applyE (pairsE (psT xs n)) (MapT.put ⟨#[108, 105, 115, 116]⟩ (.agg #[.string ⟨#[108, 105, 115, 116]⟩, .int .i64 2, .string ⟨#[]⟩, .slice AL 1 cL, .slice none 0 0, .slice none 0 0, .slice none 0 0, .int .i64 0]) [])) ∧ Kp Y.heap.size (fun i => i ≠ bS ∧ i ≠ bM) Y w' := by
  have hm : ∀ p ∈ psT xs n, MayM p := by
    intro p hp
    unfold psT at hp
    obtain ⟨k, hk, rfl⟩ := List.mem_map.1 hp
    have := hsz k (List.mem_range.1 hk)
    exact ⟨by rw [nm_size]; omega, by rw [nm_size]; omega, by show (xs.getD k ⟨#[]⟩).size ≤ 4096; omega⟩
  have hlen : (pairsE (psT xs n)).length = n := by unfold pairsE; rw [List.length_map, psT_len]
  refine (do_okP ⟨#[77, 83, 69, 84]⟩ 44 bS bM _ (msetX (psT xs n)) v0 1 0 ⟨#[79, 75]⟩ R0 (pairsE (psT xs n)) R0.keep (by rw [hlen]; omega) Y (mset_ok Y bS bM _ 1 (psT xs n) hm (by rw [psT_len]; omega)) (may_new Y bS bM _ _ ?_ (psT_keys xs n hn) ?_) hL.sp hv0 find_MSET rfl ent_MSET (fun X hX => Fits_MSET v0 _ rfl (by rw [msetX_len, psT_len]; omega) (by rw [msetX_len, psT_len]; omega) (by rw [msetX_len]; omega) X hX) hu_MSET).mono ?_
  · intro e he
    unfold pairsE at he
    obtain ⟨p, hp, rfl⟩ := List.mem_map.1 he
    obtain ⟨m1, m2, m3⟩ := hm p hp
    refine ⟨rfl, m1, m2, m3, rfl, ?_⟩
    unfold psT at hp
    obtain ⟨k, _, rfl⟩ := List.mem_map.1 hp
    show MapT.find (nm k) (MapT.put ⟨#[108, 105, 115, 116]⟩ (.agg #[.string ⟨#[108, 105, 115, 116]⟩, .int .i64 2, .string ⟨#[]⟩, .slice AL 1 cL, .slice none 0 0, .slice none 0 0, .slice none 0 0, .int .i64 0]) []) = none
    rw [find_put, if_neg (fun e9 => nm_ne k _ (by decide) e9.symm)]
    rfl
  · rw [hlen]
    simp [MapT.put]
    omega
  · rintro e w' ⟨A, m, c, rfl, hR, hS, hK⟩
    cases hR
    exact ⟨rfl, hL.step hS hK, hK⟩
/-- MGET at the law's space. -/
theorem many_get (W0 : World) (bS bM : Nat) (Y : World) (v0 : Value) (xs : List ByteArray) (n : Nat) (hn : n ≤ 9) (AL : Option Addr) (cL : Nat) (hTR : SSl Y (.slice AL 1 cL) [⟨#[120]⟩]) (hL : LW W0 Y bS bM (applyE (pairsE (psT xs n)) (MapT.put ⟨#[108, 105, 115, 116]⟩ (.agg #[.string ⟨#[108, 105, 115, 116]⟩, .int .i64 2, .string ⟨#[]⟩, .slice AL 1 cL, .slice none 0 0, .slice none 0 0, .slice none 0 0, .int .i64 0]) []))) (hv0 : SSl Y v0 (⟨#[77, 71, 69, 84]⟩ :: (ksT n n ++ [⟨#[108, 105, 115, 116]⟩]))) : Calls Tryz.prog 11 #[.pointer (some ⟨bS, 0, none⟩), v0] Y fun e w' => ∃ g c, e = .returned (.agg #[.int .i64 6, .int .i64 0, .string ⟨#[]⟩, .slice (some ⟨g, 0, none⟩) (n + 2) c]) ∧ RO (rsT xs n) Y.heap.size w' (.slice (some ⟨g, 0, none⟩) (n + 2) c) ∧ LW W0 w' bS bM (applyE (pairsE (psT xs n)) (MapT.put ⟨#[108, 105, 115, 116]⟩ (.agg #[.string ⟨#[108, 105, 115, 116]⟩, .int .i64 2, .string ⟨#[]⟩, .slice AL 1 cL, .slice none 0 0, .slice none 0 0, .slice none 0 0, .int .i64 0]) [])) ∧ Kp Y.heap.size (fun i => i ≠ bS ∧ i ≠ bM) Y w' := by
  have hkl : (ksT n n ++ [(⟨#[108, 105, 115, 116]⟩ : ByteArray)]).length = n + 2 := by rw [List.length_append, ksT_len]; rfl
  refine (do_okP ⟨#[77, 71, 69, 84]⟩ 43 bS bM _ (⟨#[77, 71, 69, 84]⟩ :: (ksT n n ++ [⟨#[108, 105, 115, 116]⟩])) v0 6 0 ⟨#[]⟩ (RO (rsT xs n)) [] (RO.keep _) (by simp) Y (mget_ok Y bS bM _ 1 _ (rsT xs n) (by rw [hkl, rsT_len]) (by rw [hkl]; omega) (by rw [hkl]; omega) (fun i k r hk hr => mg_all Y xs n hn AL cL hTR i k r hk hr)) trivial hL.sp hv0 find_MGET rfl ent_MGET (fun X hX => Fits_MGET v0 _ rfl (by rw [List.length_cons, hkl]; omega) trivial X hX) hu_MGET).mono ?_
  rintro e w' ⟨A, m, c, rfl, hR, hS, hK⟩
  have hR2 := hR
  unfold RO at hR2
  rw [rsT_len] at hR2
  obtain ⟨g, cap, e9, _, _⟩ := World.ownsRow.form hR2 (by omega)
  cases e9
  exact ⟨g, c, rfl, hR, hL.step hS hK, hK⟩
set_option linter.unusedVariables false
open Go.ChangeShapes Go.WideShapes Go.ChangeAt Go.RowKit

theorem step_append_TO {ops : Array Oper} {o : Oper} {a : Act} {K : Act → World → Prop} {Q : Exit → Act → World → Prop} {E : Prop} (w : World) (hg : o.guard = none) (s x : Operand) (hop : o.op = Op.call { callee := Callee.builtin Builtin.append, args := #[s, x], argTypes := #[22, 22] })
    (c : Nat) (v : Value) (xs : List ByteArray) (N : Nat) (hN : xs.length = N) (hs : a.eval s = v) (h : TO w c v xs) (ys : List ByteArray) (M : Nat) (hM : ys.length = M) (b : Nat) (hx : a.eval x = .slice (some ⟨b, 0, none⟩) M M) (hb : w.heap[b]? = some (.cells (ys.map Value.string).toArray 9)) (hp : 0 < M) (hl : N + M ≤ 100000) (hc : c ≤ w.heap.size)
    (k : ∀ g cap w', TO w' c (.slice (some ⟨g, 0, none⟩) (N + M) cap) (xs ++ ys) → w.grownBy w' v.ownBlock → (v.ownBlock = some g ∨ g = w.heap.size) → K (a.put o.dst (.slice (some ⟨g, 0, none⟩) (N + M) cap)) w') :
    if Region.wanted o (yielded ops a.tmps) = true then Oper.wp Tryz.prog o a w K Q else E := by
  subst hN
  subst hM
  obtain ⟨i0, hi, hz0, hz1, hz2⟩ := info_parts i9
  refine step_append_lies w hg s x 22 hop c 9 i0 _ 1 16 Tryz.underlying22 hi hz0 hz1 hz2 rfl (by decide) v xs.length _ hs h ⟨b, 0, none⟩ ys.length ys.length (ys.map Value.string) hx (by simp) (news_blk hb) (map_one ys) hp (by unfold maxLen; omega) (by omega) hc _ rfl ?_
  intro g cap w' h1 h2 h3 _
  refine k g cap w' ?_ h2 h3
  unfold TO
  rw [List.length_append, List.map_append]
  exact h1
theorem append_TO {ops : Array Oper} {rest : List Oper} {o : Oper} {a : Act} {Q : Exit → Act → World → Prop} (w : World) (hg : o.guard = none) (s x : Operand) (hop : o.op = Op.call { callee := Callee.builtin Builtin.append, args := #[s, x], argTypes := #[22, 22] })
    (c : Nat) (v : Value) (xs : List ByteArray) (N : Nat) (hN : xs.length = N) (hs : a.eval s = v) (h : TO w c v xs) (ys : List ByteArray) (M : Nat) (hM : ys.length = M) (b : Nat) (hx : a.eval x = .slice (some ⟨b, 0, none⟩) M M) (hb : w.heap[b]? = some (.cells (ys.map Value.string).toArray 9)) (hp : 0 < M) (hl : N + M ≤ 100000) (hc : c ≤ w.heap.size)
    (k : ∀ g cap w', TO w' c (.slice (some ⟨g, 0, none⟩) (N + M) cap) (xs ++ ys) → w.grownBy w' v.ownBlock → (v.ownBlock = some g ∨ g = w.heap.size) → wpList Tryz.prog ops Q rest (a.put o.dst (.slice (some ⟨g, 0, none⟩) (N + M) cap)) w') : wpList Tryz.prog ops Q (o :: rest) a w := by
  subst hN
  subst hM
  obtain ⟨i0, hi, hz0, hz1, hz2⟩ := info_parts i9
  refine wpList_append_lies w hg s x 22 hop c 9 i0 _ 1 16 Tryz.underlying22 hi hz0 hz1 hz2 rfl (by decide) v xs.length _ hs h ⟨b, 0, none⟩ ys.length ys.length (ys.map Value.string) hx (by simp) (news_blk hb) (map_one ys) hp (by unfold maxLen; omega) (by omega) hc _ rfl ?_
  intro g cap w' h1 h2 h3 _
  refine k g cap w' ?_ h2 h3
  unfold TO
  rw [List.length_append, List.map_append]
  exact h1
/-- A byte as a text. -/
theorem conv_nm (X : World) (B i cap : Nat) (hi : i < 9) (h : X.heap[B]? = some (.cells #[.int .u8 (97 + (i : Int))] 5)) : (convert 34 9 (.slice (some ⟨B, 0, none⟩) 1 cap)).run Tryz.prog X = .ok (.string (nm i)) X := by
  have hO : OB X B 1 (fun _ => UInt8.ofNat (97 + i)) := by
    refine ⟨(Array.getElem?_eq_some_iff.1 h).1, fun j hj => ?_⟩
    have hj0 : j = 0 := by omega
    subst hj0
    refine ⟨?_, by simp [World.frozen?, h]⟩
    rw [cell_of_row _ B _ _ 5 (0, 0) h]
    show some (Value.int .u8 (97 + (i : Int))) = some (Value.int .u8 ((UInt8.ofNat (97 + i)).toNat : Int))
    rw [UInt8.toNat_ofNat']
    have : (97 + i) % 2 ^ 8 = 97 + i := by omega
    rw [this]
    push_cast
    rfl
  have := hO.back cap
  exact this
theorem u8_in (i : Nat) (hi : i < 9) : IntKind.u8.wrap (i : Int) = (i : Int) ∧ IntKind.u8.wrap (97 + (i : Int)) = 97 + (i : Int) := ⟨IntWalk.u8_in _ (by omega), IntWalk.u8_in _ (by omega)⟩
theorem TO.lit (X : World) (xs : List ByteArray) (b : Nat) (c : Nat) (n : Nat) (hn : xs.length = n) (hm : n ≤ 1000) (hc : c ≤ b) (h : X.heap[b]? = some (.cells (xs.map Value.string).toArray 9)) : TO X c (.slice (some ⟨b, 0, none⟩) n n) xs := by
  subst hn
  unfold TO World.ownsRow
  refine ⟨by simp, .inr ⟨b, xs.length, _, rfl, hc, h, Nat.le_refl _, by unfold maxLen; omega, by simp, ?_⟩⟩
  exact List.take_of_length_le (by simp)
theorem msetX_add (ps : List (ByteArray × ByteArray)) (p : ByteArray × ByteArray) : msetX (ps ++ [p]) = msetX ps ++ [p.1, p.2] := by
  unfold msetX
  rw [List.flatMap_append]
  rfl
theorem ne_blk {i g n c : Nat} (h : i ≠ g) : some i ≠ (Value.slice (some ⟨g, 0, none⟩) n c).ownBlock := fun e => h (Option.some.inj e)
/-- The two rows that the law's first loop fills. -/
def ManyR (p1 wr : World) (xs : List ByteArray) (n i ga na Ca gb nb Cb : Nat) : Prop :=
  na = 1 + 2 * i ∧ nb = 2 + i ∧ ga ≠ gb ∧ TO wr p1.heap.size (.slice (some ⟨ga, 0, none⟩) na Ca) (msetX (psT xs i)) ∧ TO wr p1.heap.size (.slice (some ⟨gb, 0, none⟩) nb Cb) (⟨#[77, 71, 69, 84]⟩ :: ksT n i) ∧ Below p1.heap.size p1 wr ∧ ∀ k, k < i → (xs.getD k ⟨#[]⟩).size ≤ 50
theorem ManyR.start (p1 : World) (xs : List ByteArray) (n : Nat) : ManyR p1 ((p1.alloc (.cells #[.string ⟨#[77, 83, 69, 84]⟩] 9)).alloc (.cells #[.string ⟨#[77, 71, 69, 84]⟩, .string ⟨#[110, 111, 110, 101]⟩] 9)) xs n 0 p1.heap.size 1 1 (p1.heap.size + 1) 2 2 := by
  refine ⟨rfl, rfl, by omega, ?_, ?_, alloc_old.trans (alloc_old.mono (by simp)), fun k hk => absurd hk (Nat.not_lt_zero k)⟩
  · exact TO.lit _ [⟨#[77, 83, 69, 84]⟩] _ _ 1 rfl (by decide) (Nat.le_refl _) (blk_below (heap_alloc_new p1 _) alloc_old)
  · exact TO.lit _ [⟨#[77, 71, 69, 84]⟩, ⟨#[110, 111, 110, 101]⟩] _ _ 2 rfl (by decide) (by omega) (new_next p1 _ _)
set_option maxRecDepth 100000 in
set_option maxHeartbeats 16000000 in
theorem many_walk (xs : List ByteArray) (u0 : Value) (w : World) (hT : Tab w) (h0 : SSl w u0 xs) (h1 : 1 ≤ xs.length) (h9 : xs.length ≤ 9) : Calls Tryz.prog 3 #[u0] w fun e w' => e = .returned (.bool true) ∧ Below w.heap.size w w' := by
  have NW := Lib.hid (New9 w)
  obtain ⟨A0, cap0, rfl, a1, a2, a3⟩ := h0
  obtain ⟨blk, off, rfl, hblt, hcx⟩ := a3 (by intro e; rw [e] at h1; simp at h1)
  obtain ⟨n, hn⟩ : ∃ n, xs.length = n := ⟨_, rfl⟩
  rw [hn] at h1 h9 a1
  rw [hn]
  have HCX := Lib.hid hcx
  have HN := Lib.hid hn
  have g0 : ¬ n = 0 := by omega
  have g1 : ¬ (9 : Int) < (n : Int) := by omega
  have g2 : (n : Int) ≤ 9 := by omega
  clear a1 a2 a3 hcx hn
  go_enter Tryz.func3, Tryz.ntmps3
  go_wp2_with (first | (go_at_call 9; (with_reducible refine (NW.out).mono ?_); rintro e v0 ⟨bS, bM, rfl, hS0, hbS, hbM, hB0⟩; have L0 := Lib.hid (LW.mk hS0 hB0 hbS hbM); clear hS0 hbS hbM hB0; refine Hid.out ?_))
  refine Lib.hid ?_
  have PU := Lib.hid (show Calls Tryz.prog 10 #[.pointer (some ⟨bS, 0, none⟩), .agg #[.string ⟨#[108, 105, 115, 116]⟩, .int .i64 2, .string ⟨#[]⟩, .slice (some ⟨v0.heap.size, 0, none⟩) 1 1, .slice none 0 0, .slice none 0 0, .slice none 0 0, .int .i64 0]] (v0.alloc (.cells #[.string ⟨#[120]⟩] 9)) (fun e w' => ∃ gP CP, e = .returned (.int .i64 0) ∧ SP w' bS bM (MapT.put ⟨#[108, 105, 115, 116]⟩ (.agg #[.string ⟨#[108, 105, 115, 116]⟩, .int .i64 2, .string ⟨#[]⟩, .slice (some ⟨gP, 0, none⟩) 1 CP, .slice none 0 0, .slice none 0 0, .slice none 0 0, .int .i64 0]) []) ∧ TR w' (.slice (some ⟨gP, 0, none⟩) 1 CP) [⟨#[120]⟩] ∧ (v0.alloc (.cells #[.string ⟨#[120]⟩] 9)).heap.size ≤ gP ∧ Kp (v0.alloc (.cells #[.string ⟨#[120]⟩] 9)).heap.size (fun i => i ≠ bS ∧ i ≠ bM) (v0.alloc (.cells #[.string ⟨#[120]⟩] 9)) w') from Put10_newL bS bM [] [⟨#[120]⟩] (some ⟨v0.heap.size, 0, none⟩) 1 (by simp) (by simp) (by intro s hs; simp at hs; subst hs; decide) (by decide) ⟨#[108, 105, 115, 116]⟩ (by decide) (by decide) 0 (by decide) (by decide) (v0.alloc (.cells #[.string ⟨#[120]⟩] 9)) (L0.out.old alloc_old).sp rfl (by decide) (TR.lit v0 ⟨#[120]⟩))
  go_wp2_with (first | (go_at_call 10; (with_reducible refine (PU.out).mono ?_); rintro e p1 ⟨gP, CP, rfl, hSP, hTRp, hge, hK⟩; have LP0 := Lib.hid ((L0.out.old (alloc_old (o := .cells #[.string ⟨#[120]⟩] 9))).step hSP hK); have HTRp0 := Lib.hid hTRp; clear hSP hTRp hge hK; refine Hid.out ?_))
  refine Lib.hid ?_
  obtain ⟨AL, cL, LP, HTRp⟩ : ∃ (AL : Option Addr) (cL : Nat), Hid (LW w p1 bS bM (MapT.put ⟨#[108, 105, 115, 116]⟩ (.agg #[.string ⟨#[108, 105, 115, 116]⟩, .int .i64 2, .string ⟨#[]⟩, .slice AL 1 cL, .slice none 0 0, .slice none 0 0, .slice none 0 0, .int .i64 0]) [])) ∧ Hid (TR p1 (.slice AL 1 cL) [⟨#[120]⟩]) := ⟨some ⟨gP, 0, none⟩, CP, LP0, HTRp0⟩
  go_wp2_with fail
  have MR0 := Lib.hid (ManyR.start p1 xs n)
  generalize ((p1.alloc (.cells #[.string ⟨#[77, 83, 69, 84]⟩] 9)).alloc (.cells #[.string ⟨#[77, 71, 69, 84]⟩, .string ⟨#[110, 111, 110, 101]⟩] 9)) = p2 at MR0 ⊢
  go_loopw [4, 5, 6] (fun av bv iv wr => ∃ (i ga na Ca gb nb Cb : Nat), i ≤ n ∧ av = .slice (some ⟨ga, 0, none⟩) na Ca ∧ bv = .slice (some ⟨gb, 0, none⟩) nb Cb ∧ iv = .int .i64 i ∧ Hid (ManyR p1 wr xs n i ga na Ca gb nb Cb)) (fun _ _ iv _ => n - (intOf iv).toNat)
  case atStart => exact ⟨0, _, _, _, _, _, _, Nat.zero_le _, rfl, rfl, rfl, MR0⟩
  case round =>
    obtain ⟨i, ga, na, Ca, gb, nb, Cb, hi, rfl, rfl, rfl, HQ⟩ := hrel
    have BP := Lib.hid (show Below w.heap.size w wr from LP.out.below.trans (HQ.out.2.2.2.2.2.1.mono (Below.size LP.out.below)))
    by_cases hlt : i < n
    · obtain ⟨s, hs⟩ : ∃ s, xs[i]? = some s := ⟨xs[i]'(by rw [HN.out]; omega), List.getElem?_eq_getElem _⟩
      have x1 := (BP.out.cell (p := ⟨blk, off + i, none⟩) hblt).trans (HCX.out i s hs)
      have q1 : (i : Int) < (n : Int) := by omega
      have HS := Lib.hid hs
      clear hs
      by_cases h50 : 50 < s.size
      · have q2 : (50 : Int) < (s.size : Int) := by omega
        have TE := Lib.hid (told8 wr (hT.at_ BP.out))
        go_wp2_with (first | (go_at_call 8; (with_reducible refine (TE.out).mono ?_); rintro e x1 ⟨rfl, hb⟩))
        go_ret
        exact ⟨rfl, BP.out.trans (hb.mono (Below.size BP.out))⟩
      · have q2 : ¬ (50 : Int) < (s.size : Int) := by omega
        have hi9 : i < 9 := by omega
        obtain ⟨k1, k2⟩ := u8_in i hi9
        go_wp2_with fail
        have hQ := HQ.out
        obtain ⟨rna, rnb, rne, rA, rB, rP, r50⟩ := hQ
        have R50 := Lib.hid r50
        clear r50
        have o1 := heap_alloc_new wr (.cells #[.int .u8 (97 + (i : Int))] 5)
        have cv := conv_nm (wr.alloc (.cells #[.int .u8 (97 + (i : Int))] 5)).drew wr.heap.size i 1 hi9 o1
        have cx : (wr.alloc (.cells #[.int .u8 (97 + (i : Int))] 5)).cell? ⟨blk, off + i, none⟩ = some (.string s) := ((alloc_old (w := wr) (o := .cells #[.int .u8 (97 + (i : Int))] 5)).cell (p := ⟨blk, off + i, none⟩) (by have := Below.size BP.out; show blk < _; omega)).trans x1
        have pz := Below.size rP
        have SZ : ∀ o2, (((wr.alloc (.cells #[.int .u8 (97 + (i : Int))] 5)).alloc o2).drew).heap.size = wr.heap.size + 2 := fun o2 => by show ((wr.alloc _).alloc o2).heap.size = _; simp
        have BZ : Below wr.heap.size wr (((wr.alloc (.cells #[.int .u8 (97 + (i : Int))] 5)).alloc (.cells #[.string (nm i), .string s] 9)).drew) := (alloc_old.trans (alloc_old.mono (by simp))).drew
        have T1 := Lib.hid (row_below rA BZ)
        have T2 := Lib.hid (row_below rB BZ)
        have T3 := Lib.hid (show (((wr.alloc (.cells #[.int .u8 (97 + (i : Int))] 5)).alloc (.cells #[.string (nm i), .string s] 9)).drew).heap[wr.heap.size + 1]? = some (.cells #[.string (nm i), .string s] 9) from new_next wr _ _)
        have T4 := Lib.hid (show p1.heap.size ≤ (((wr.alloc (.cells #[.int .u8 (97 + (i : Int))] 5)).alloc (.cells #[.string (nm i), .string s] 9)).drew).heap.size from by rw [SZ]; omega)
        have T5 := Lib.hid (show (msetX (psT xs i)).length = na from by rw [msetX_len, psT_len, rna])
        have T6 := Lib.hid (show na + 2 ≤ 100000 from by omega)
        have TP := Lib.hid (rP.trans (BZ.mono (Below.size rP)))
        have RNA := Lib.hid rna
        have RNB := Lib.hid rnb
        have RNE := Lib.hid rne
        have TS := Lib.hid (SZ (.cells #[.string (nm i), .string s] 9))
        clear rna rnb rne rA rB rP SZ BZ pz o1
        go_region_law (first | (refine step_append_TO _ rfl _ _ rfl p1.heap.size (.slice (some ⟨ga, 0, none⟩) na Ca) (msetX (psT xs i)) na T5.out rfl T1.out [nm i, s] 2 rfl _ rfl T3.out Nat.zero_lt_two T6.out T4.out ?_; intro g cap wq hTO hgr hg))
        all_goals (
          have TA := Lib.hid hTO
          have hb0 := row_own T2.out gb rfl
          have TB := Lib.hid (row_kept T2.out (fun q hq => by cases hq; exact hgr.block gb hb0.2 (fun e9 => RNE.out (Option.some.inj e9).symm)))
          have hne : g ≠ gb := by
            rcases hg with hg | hg
            · intro e9; subst e9; exact RNE.out (Option.some.inj hg)
            · omega
          have BQ := Lib.hid (TP.out.grown hgr T4.out (fun k hk => (row_own T1.out k hk).1))
          have HNE := Lib.hid hne
          obtain ⟨m, hm⟩ : ∃ m, n = i + 1 + m := ⟨n - 1 - i, by omega⟩
          have hm9 : m < 9 := by omega
          obtain ⟨k3, k4⟩ := u8_in m hm9
          have hsub : (n : Int) - 1 - (i : Int) = (m : Int) := by omega
          have HM := Lib.hid hm
          clear hTO hgr hg hne hb0 T1 T2 T3 T4 T5 cv cx k1 k2 hm
          have o1 := heap_alloc_new wq (.cells #[.int .u8 (97 + (m : Int))] 5)
          have cv := conv_nm (wq.alloc (.cells #[.int .u8 (97 + (m : Int))] 5)) wq.heap.size m 1 hm9 o1
          have BZ : Below wq.heap.size wq ((wq.alloc (.cells #[.int .u8 (97 + (m : Int))] 5)).alloc (.cells #[.string (nm m)] 9)) := alloc_old.trans (alloc_old.mono (by simp))
          have T1 := Lib.hid (row_below TA.out BZ)
          have T2 := Lib.hid (row_below TB.out BZ)
          have T3 := Lib.hid (show ((wq.alloc (.cells #[.int .u8 (97 + (m : Int))] 5)).alloc (.cells #[.string (nm m)] 9)).heap[wq.heap.size + 1]? = some (.cells #[.string (nm m)] 9) from new_next wq _ _)
          have T4 := Lib.hid (Nat.le_trans (Below.size BQ.out) (Below.size BZ))
          have T5 := Lib.hid (show (⟨#[77, 71, 69, 84]⟩ :: ksT n i).length = nb from by rw [List.length_cons, ksT_len, RNB.out]; omega)
          have T6 := Lib.hid (show nb + 1 ≤ 100000 from by have := RNB.out; omega)
          have TP := Lib.hid (BQ.out.trans (BZ.mono (Below.size BQ.out)))
          clear BZ o1
          go_wp2_with (first | (at_builtin; refine append_TO _ rfl _ _ rfl p1.heap.size (.slice (some ⟨gb, 0, none⟩) nb Cb) (⟨#[77, 71, 69, 84]⟩ :: ksT n i) nb T5.out rfl T2.out [nm m] 1 rfl _ rfl T3.out Nat.zero_lt_one T6.out T4.out ?_; intro g2 cap2 wt hTO2 hgr2 hg2))
          have ha0 := row_own T1.out g rfl
          have hgg : g ≠ g2 := by
            rcases hg2 with e9 | e9
            · exact fun e8 => HNE.out (e8.trans (Option.some.inj e9).symm)
            · omega
          have e1 : msetX (psT xs (i + 1)) = msetX (psT xs i) ++ [nm i, s] := by
            rw [psT_succ, msetX_add, List.getD_eq_getElem?_getD, HS.out]
            rfl
          have e2 : (⟨#[77, 71, 69, 84]⟩ :: ksT n (i + 1)) = (⟨#[77, 71, 69, 84]⟩ :: ksT n i) ++ [nm m] := by
            rw [ksT_succ, show n - 1 - i = m by have := HM.out; omega]
            rfl
          have ra := row_kept T1.out (fun q hq => by cases hq; exact hgr2.block g ha0.2 (fun e9 => HNE.out (Option.some.inj e9)))
          have rp := TP.out.grown hgr2 T4.out (fun k hk => (row_own T2.out k hk).1)
          refine ⟨⟨i + 1, g, na + 2, cap, g2, nb + 1, cap2, by omega, rfl, rfl, by go_num, Lib.hid ⟨by have := RNA.out; omega, by have := RNB.out; omega, hgg, by rw [e1]; exact ra, by rw [e2]; exact hTO2, rp, fun k hk => by
            by_cases hki : k < i
            · exact R50.out k hki
            · rw [show k = i by omega, List.getD_eq_getElem?_getD, HS.out]; show s.size ≤ 50; omega⟩⟩, by simp [intOf]; omega⟩)
    · have he : n = i := by omega
      subst he
      have q1 : ¬ (n : Int) < (n : Int) := by omega
      obtain ⟨rna, rnb, rne, rA, rB, rP, r50⟩ := HQ.out
      have LR := Lib.hid (LP.out.old rP)
      have HTR := Lib.hid (HTRp.out.below rP)
      have D1 := Lib.hid (many_set w bS bM wr _ xs n h9 h1 r50 AL cL LR.out rA.ssl)
      have RB := Lib.hid rB
      have hp1 := Below.size rP
      have hlt := LP.out.sp.lt
      have HP1 := Lib.hid hp1
      have HLT := Lib.hid hlt
      have RNB := Lib.hid rnb
      clear rna rnb rne rA rB rP r50 hp1 hlt
      go_wp2_with (first | (go_at_call 11; (with_reducible refine (D1.out).mono ?_); rintro e v1 ⟨rfl, hL, hK⟩; have K1 := Lib.hid hK; have L1 := Lib.hid hL; clear hL hK; refine Hid.out ?_))
      refine Lib.hid ?_
      have HTR1 := Lib.hid (HTR.out.kept (fun g9 hg9 => K1.out.block g9 (own_ne HTR.out LR.out.sp g9 hg9).1 (own_ne HTR.out LR.out.sp g9 hg9).2))
      have RB1 := Lib.hid (row_kept RB.out (fun q hq => K1.out.block q (row_own RB.out q hq).2 ⟨by have := (row_own RB.out q hq).1; have := HLT.out; omega, by have := (row_own RB.out q hq).1; have := HLT.out; omega⟩))
      have BO : Below v1.heap.size v1 ((v1.alloc (.cells #[.int .i64 1, .int .i64 0, .string ⟨#[79, 75]⟩, .slice none 0 0] 37)).alloc (.cells #[.string ⟨#[108, 105, 115, 116]⟩] 9)) := alloc_old.trans (alloc_old.mono (by simp))
      have L2 := Lib.hid (L1.out.old BO)
      have HTR2 := Lib.hid (HTR1.out.below BO)
      have RB2 := Lib.hid (row_below RB1.out BO)
      have R1 := Lib.hid (blk_below (heap_alloc_new v1 (.cells #[.int .i64 1, .int .i64 0, .string ⟨#[79, 75]⟩, .slice none 0 0] 37)) (alloc_old (o := .cells #[.string ⟨#[108, 105, 115, 116]⟩] 9)))
      have T3 := Lib.hid (show ((v1.alloc (.cells #[.int .i64 1, .int .i64 0, .string ⟨#[79, 75]⟩, .slice none 0 0] 37)).alloc (.cells #[.string ⟨#[108, 105, 115, 116]⟩] 9)).heap[v1.heap.size + 1]? = some (.cells #[.string ⟨#[108, 105, 115, 116]⟩] 9) from new_next v1 _ _)
      have T4 := Lib.hid (show p1.heap.size ≤ ((v1.alloc (.cells #[.int .i64 1, .int .i64 0, .string ⟨#[79, 75]⟩, .slice none 0 0] 37)).alloc (.cells #[.string ⟨#[108, 105, 115, 116]⟩] 9)).heap.size from by have := Below.size BO; have := HP1.out; have := K1.out.size; omega)
      have T5 := Lib.hid (show (⟨#[77, 71, 69, 84]⟩ :: ksT n n).length = nb from by rw [List.length_cons, ksT_len, RNB.out]; omega)
      have T6 := Lib.hid (show nb + 1 ≤ 100000 from by have := RNB.out; omega)
      clear BO
      go_wp2_with (first | (at_builtin; refine append_TO _ rfl _ _ rfl p1.heap.size (.slice (some ⟨gb, 0, none⟩) nb Cb) (⟨#[77, 71, 69, 84]⟩ :: ksT n n) nb T5.out rfl RB2.out [⟨#[108, 105, 115, 116]⟩] 1 rfl _ rfl T3.out Nat.zero_lt_one T6.out T4.out ?_; intro g2 C2 v4 hTO2 hgr2 _; refine Hid.out ?_))
      refine Lib.hid ?_
      have hb0 := row_own RB1.out gb rfl
      have hb1 := HLT.out
      have hZ : ((v1.alloc (.cells #[.int .i64 1, .int .i64 0, .string ⟨#[79, 75]⟩, .slice none 0 0] 37)).alloc (.cells #[.string ⟨#[108, 105, 115, 116]⟩] 9)).heap.size = v1.heap.size + 2 := by simp
      have hlt2 := L2.out.sp.lt
      have hbw := Below.size LP.out.below
      have L4 := Lib.hid (show LW w v4 bS bM _ from ⟨L2.out.sp.kept (hgr2.block bS hlt2.1 (ne_blk (by omega))) (hgr2.block bM hlt2.2 (ne_blk (by omega))), L2.out.below.grown hgr2 (by rw [hZ]; have z1 := K1.out.size; have z2 := Below.size BP.out; omega) (fun k hk => by have z3 : gb = k := Option.some.inj hk; omega), L2.out.3, L2.out.4⟩)
      have HTR4 := Lib.hid (HTR2.out.kept (fun q hq => by
        obtain ⟨gl, h7, h8, _⟩ := HTRp.out.lt
        have h6 : q = gl := by rw [h7] at hq; exact (Option.some.inj hq).symm
        subst h6
        exact hgr2.block q (by have := HP1.out; have := K1.out.size; omega) (ne_blk (by omega))))
      have R4 := Lib.hid ((hgr2.block v1.heap.size (by omega) (ne_blk (by omega))).trans R1.out)
      have D2 := Lib.hid (many_get w bS bM v4 _ xs n h9 AL cL HTR4.out.ssl L4.out hTO2.ssl)
      clear hb0 hb1 hZ hlt2 hbw hTO2 hgr2 T3 T4 T5 T6 R1 RB2 RB1
      go_wp2_with (first | (go_at_call 11; (with_reducible refine (D2.out).mono ?_); rintro e v5 ⟨g5, c5, rfl, hRO, hL, hK⟩; have R5 := Lib.hid (keep37 hK L4.out.sp R4.out); have L5 := Lib.hid hL; have RO5 := Lib.hid hRO; clear hL hK hRO; refine Hid.out ?_))
      refine Lib.hid ?_
      have R6 := Lib.hid (blk_below R5.out (alloc_old (o := .cells #[.int .i64 6, .int .i64 0, .string ⟨#[]⟩, .slice (some ⟨g5, 0, none⟩) (n + 2) c5] 37)))
      have Q6 := Lib.hid (heap_alloc_new v5 (.cells #[.int .i64 6, .int .i64 0, .string ⟨#[]⟩, .slice (some ⟨g5, 0, none⟩) (n + 2) c5] 37))
      have L6 := Lib.hid (L5.out.old (alloc_old (o := .cells #[.int .i64 6, .int .i64 0, .string ⟨#[]⟩, .slice (some ⟨g5, 0, none⟩) (n + 2) c5] 37)))
      have RO6 := Lib.hid (row_below RO5.out (alloc_old (o := .cells #[.int .i64 6, .int .i64 0, .string ⟨#[]⟩, .slice (some ⟨g5, 0, none⟩) (n + 2) c5] 37)))
      obtain ⟨⟨a0, a1, a2, a3⟩, _⟩ := cells4 R6.out
      obtain ⟨⟨b0, b1, b2, b3⟩, _⟩ := cells4 Q6.out
      have xr : (v5.alloc (.cells #[.int .i64 6, .int .i64 0, .string ⟨#[]⟩, .slice (some ⟨g5, 0, none⟩) (n + 2) c5] 37)).ownsRow v4.heap.size 37 4 (.slice (some ⟨g5, 0, none⟩) (n + 2) c5) (n + 2) ((rsT xs n).flatMap repC) := by have h := RO6.out; unfold RO at h; rw [rsT_len] at h; exact h
      have x0 := row_cell xr 0 _ (repC_at (rsT xs n) 0 0 none _ rfl rfl)
      have xl := row_cell xr ((n + 1) * 4) _ (repC_at (rsT xs n) (n + 1) 0 none _ (rsT_last xs n) rfl)
      clear xr
      go_wp2_with fail
      clear a0 a1 a2 a3 b0 b1 b2 b3 x0 xl
      generalize (v5.alloc (.cells #[.int .i64 6, .int .i64 0, .string ⟨#[]⟩, .slice (some ⟨g5, 0, none⟩) (n + 2) c5] 37)) = v6 at R6 Q6 L6 RO6 ⊢
      go_loopw [9] (fun iv wr => ∃ (i : Nat), i ≤ n ∧ iv = .int .i64 i ∧ Hid (Below v6.heap.size v6 wr)) (fun iv _ => n - (intOf iv).toNat)
      case atStart => exact ⟨0, Nat.zero_le _, rfl, Lib.hid (Below.refl _ _)⟩
      case round =>
        obtain ⟨i, hi, rfl, HB⟩ := hrel
        by_cases hlt : i < n
        · obtain ⟨m, hm⟩ : ∃ m, n = i + 1 + m := ⟨n - 1 - i, by omega⟩
          obtain ⟨s, hs⟩ : ∃ s, xs[m]? = some s := ⟨xs[m]'(by rw [HN.out]; omega), List.getElem?_eq_getElem _⟩
          have W6 := L6.out.below.trans (HB.out.mono (Below.size L6.out.below))
          have xs1 := (W6.cell (p := ⟨blk, off + m, none⟩) hblt).trans (HCX.out m s hs)
          have xr : wr.ownsRow v4.heap.size 37 4 (.slice (some ⟨g5, 0, none⟩) (n + 2) c5) (n + 2) ((rsT xs n).flatMap repC) := by have h := row_below RO6.out HB.out; unfold RO at h; rw [rsT_len] at h; exact h
          have hr := rsT_at xs n i hlt
          rw [show n - 1 - i = m by omega, List.getD_eq_getElem?_getD, hs] at hr
          obtain ⟨p, hp⟩ : ∃ p, i + 1 = p := ⟨_, rfl⟩
          rw [hp] at hr
          have x0 := row_cell xr (p * 4) _ (repC_at (rsT xs n) p 0 (some s) _ hr rfl)
          have x2 := row_cell xr (p * 4 + 2) _ (repC_at (rsT xs n) p 2 (some s) _ hr rfl)
          have w5 : IntKind.i64.wrap (1 + (i : Int)) = (p : Int) := (wrap_small _ (by omega) (by omega)).trans (by omega)
          have w6 : IntKind.i64.wrap ((n : Int) - 1) = (n : Int) - 1 := wrap_small _ (by omega) (by omega)
          have w7 : IntKind.i64.wrap ((n : Int) - 1 - (i : Int)) = (m : Int) := (wrap_small _ (by omega) (by omega)).trans (by omega)
          have q5 : (p : Int) < (n : Int) + 2 := by omega
          have q6 : (0 : Int) ≤ (p : Int) := by omega
          have q7 : (m : Int) < (n : Int) := by omega
          obtain ⟨⟨b0, b1, b2, b3⟩, _⟩ := cells4 (blk_below Q6.out HB.out)
          have HM := Lib.hid hm
          have q1 : (i : Int) < (n : Int) := by omega
          clear hm hs hr xr W6 hp
          go_wp2
          go_quiet (fail)
          clear w5 w6 w7 x0 x2 xs1 b0 b1 b2 b3
          go_wp2
          go_round
          case rel => exact ⟨i + 1, by omega, by go_num, Lib.hid (below_drewN HB.out nq)⟩
          case measure => simp [intOf]; omega
        · have q1 : ¬ (i : Int) < (n : Int) := by omega
          have W6 := Lib.hid (L6.out.below.trans (HB.out.mono (Below.size L6.out.below)))
          have TE := Lib.hid (told8 wr (hT.at_ W6.out))
          go_wp2_with (first | (go_at_call 8; (with_reducible refine (TE.out).mono ?_); rintro e x1 ⟨rfl, hb⟩))
          go_ret
          exact ⟨rfl, W6.out.trans (hb.mono (Below.size W6.out))⟩
theorem many_big (xs : List ByteArray) (u0 : Value) (w : World) (hT : Tab w) (h0 : SSl w u0 xs) (h9 : 9 < xs.length) : Calls Tryz.prog 3 #[u0] w fun e w' => e = .returned (.bool true) ∧ Below w.heap.size w w' := by
  obtain ⟨A, cap, rfl, a1, a2, a3⟩ := h0
  have TO := Lib.hid (told8 w hT)
  have g0 : ¬ xs.length = 0 := by omega
  have g1 : (9 : Int) < (xs.length : Int) := by omega
  clear a1 a2 a3
  go_enter Tryz.func3, Tryz.ntmps3
  go_wp2_with (first | (go_at_call 8; (with_reducible refine (TO.out).mono ?_); rintro e x1 ⟨rfl, hb⟩))
  go_ret
  exact ⟨rfl, hb⟩
theorem many_none (u0 : Value) (w : World) (hT : Tab w) (h0 : SSl w u0 []) : Calls Tryz.prog 3 #[u0] w fun e w' => e = .returned (.bool true) ∧ Below w.heap.size w w' := by
  obtain ⟨A, cap, rfl, a1, a2, a3⟩ := h0
  have TO := Lib.hid (told8 w hT)
  clear a1 a2 a3
  show Calls Tryz.prog 3 #[.slice A 0 cap] w fun e w' => e = .returned (.bool true) ∧ Below w.heap.size w w'
  go_enter Tryz.func3, Tryz.ntmps3
  go_wp2_with (first | (go_at_call 8; (with_reducible refine (TO.out).mono ?_); rintro e x1 ⟨rfl, hb⟩))
  go_ret
  exact ⟨rfl, hb⟩
section
variable {H : Type} {enc : TypeId × Value → H} {W : World}
theorem at_of {a : Addr} {n : Nat} {f : Nat → Value} (h : ∀ i, i < n → W.cell? (a.add i) = some (f i)) (hp : 0 < n) :
    ∃ b off, a = ⟨b, off, none⟩ ∧ b < W.heap.size ∧ ∀ j, j < n → W.cell? ⟨b, off + j, none⟩ = some (f j) := by
  obtain ⟨b, off, spot⟩ := a
  have hspot : spot = none := by simpa [Addr.add] using World.cell?_spot (h 0 hp)
  subst hspot
  have h2 : ∀ j, j < n → W.cell? ⟨b, off + j, none⟩ = some (f j) := fun j hj => by rw [← Go.WideShapes.add_plain]; exact h j hj
  refine ⟨b, off, rfl, ?_, h2⟩
  have h0 := h2 0 hp
  rcases Nat.lt_or_ge b W.heap.size with hb | hb
  · exact hb
  · unfold World.cell? at h0
    simp only [Array.getElem?_eq_none hb] at h0
    cases h0
theorem SSl.of_trod {v : Value} {d : DataW H} {ps : List MemPlace} (h : DataW.Trod enc Tryz.prog W 0 (fun _ => true) true 22 v d ps) (hv : ∃ A n c, v = .slice A n c) : ∃ xs, SSl W v xs := by
  obtain ⟨A, n, c, rfl⟩ := hv
  obtain ⟨m, hm⟩ := h
  rcases open_strings Tryz.underlying22 Tryz.underlying9 (by kernel_rfl) hm with ⟨hcs, _⟩ | ⟨a, len, cap, ss, hcs, _, hl, hc, hs, _, hcell, _⟩
  · obtain ⟨rfl, rfl, rfl⟩ : A = none ∧ n = 0 ∧ c = 0 := by simpa [Value.cells] using hcs
    exact ⟨[], none, 0, rfl, Nat.le_refl _, Nat.zero_le _, fun h => absurd rfl h⟩
  · obtain ⟨rfl, rfl, rfl⟩ : A = some a ∧ n = len ∧ c = cap := by simpa [Value.cells] using hcs
    simp only [if_true] at hs
    have e : (ss.take n).length = n := by rw [List.length_take]; omega
    refine ⟨ss.take n, some a, c, by rw [e], by rw [e]; exact hl, hc, fun hne => ?_⟩
    have hn : 0 < n := by
      rcases Nat.eq_zero_or_pos n with h | h
      · subst h; simp at hne
      · exact h
    obtain ⟨b, off, rfl, hb, hcell'⟩ := at_of hcell (by omega)
    refine ⟨b, off, rfl, hb, fun i s hi => ?_⟩
    obtain ⟨hi1, hi2⟩ := List.getElem?_eq_some_iff.1 hi
    rw [e] at hi1
    rw [hcell' i (by omega)]
    rw [List.getElem?_take_of_lt hi1] at hi
    rw [List.getD, hi]; rfl
end
theorem gPow : Tryz.prog.globalNamed "internal/strconv.uint64pow10" = some 0 := by kernel_rfl
theorem gPowType : (Tryz.prog.globals[0]?).map (·.type) = some 147 := by kernel_rfl
theorem cellsTb : Tryz.prog.cellsOf 147 = 20 := by kernel_rfl
theorem cellsE : Tryz.prog.cellsOf 131 = 1 := by kernel_rfl
theorem tab_many {W : World} (h : laidMetH Tryz.prog Rows.stringsManyRow.laid W) : Tab W :=
  Lib.tabIs_of_head (rest := []) (zs := Lib.pow10Tab) gPow gPowType (by kernel_rfl) (by kernel_rfl) cellsE cellsTb (laidMet.tail (laidMet.tail h))
theorem many_law {W : World} (hT : Tab W) (v0 : Value) (xs : List ByteArray) (h0 : SSl W v0 xs) : Calls Tryz.prog 3 #[v0] W fun e w' => e = .returned (.bool true) ∧ Below W.heap.size W w' := by
  by_cases h1 : 1 ≤ xs.length
  · by_cases h9 : xs.length ≤ 9
    · exact many_walk xs v0 W hT h0 h1 h9
    · exact many_big xs v0 W hT h0 (by omega)
  · have e : xs = [] := List.length_eq_zero_iff.1 (by omega)
    subst e
    exact many_none v0 W hT h0
end Go.Proofs.YtaomiglmahklfaaGreatDoor
