/- do: a command at time 1, its effects applied. -/
import Derived.Test.YtllaeocclpaiaaaGreatDoorSt25
import Derived.Test.YtllaeocclpaiaaaGreatDoorSt18b
import Derived.Test.YtllaeocclpaiaaaGreatDoorSt19
namespace Go.Proofs.YtllaeocclpaiaaaGreatDoor
open Go.ChangeShapes Go.WideShapes Go.ChangeAt Go.RowKit

/-- Effects that may be applied: each is an entry of a text that may be, or takes a key away that is there as a text. -/
def MayApply : List Ent → MapT.Ents → Prop
  | [], _ => True
  | e :: r, l => ((e.kd = 1 ∧ 1 ≤ e.k.size ∧ e.k.size ≤ 512 ∧ e.t.size ≤ 4096 ∧ 0 ≤ e.u ∧ e.u ≤ 1125899906842624 ∧ l.length < 4096 ∧ (MapT.find e.k l = none ∨ ∃ t u, t.size ≤ 1000000 ∧ MapT.find e.k l = some (.agg #[.string e.k, .int .i64 1, .string t, .slice none 0 0, .slice none 0 0, .slice none 0 0, .slice none 0 0, .int .i64 u]))) ∨
      (e.kd = 0 ∧ e.k.size ≤ 1000000 ∧ ∃ t u, t.size ≤ 1000000 ∧ MapT.find e.k l = some (.agg #[.string e.k, .int .i64 1, .string t, .slice none 0 0, .slice none 0 0, .slice none 0 0, .slice none 0 0, .int .i64 u]))) ∧
    MayApply r (if e.kd = 0 then MapT.del e.k l else MapT.put e.k e.val l)
/-- An effect in a row in memory, cell by cell. -/
theorem EF.cell {w : World} {c : Nat} {g n cap : Nat} {es : List Ent} (h : EF w c (.slice (some ⟨g, 0, none⟩) n cap) es) (i : Nat) (e : Ent) (he : es[i]? = some e) (j : Nat) (v : Value) (hj : e.cells[j]? = some v) : w.cell? ⟨g, i * 8 + j, none⟩ = some v := by
  have hlt := (List.getElem?_eq_some_iff.1 he).1
  have hj8 : j < 8 := by have := (List.getElem?_eq_some_iff.1 hj).1; simpa [Ent.cells] using this
  have hc := World.ownsRow.cells h (g := g) rfl (i * 8 + j) v (by
    have : ∀ (es : List Ent) (i : Nat), es[i]? = some e → (es.flatMap Ent.cells)[i * 8 + j]? = some v := by
      intro es
      induction es with
      | nil => intro i h; simp at h
      | cons a r ih =>
        intro i h
        rw [List.flatMap_cons]
        cases i with
        | zero =>
          simp at h
          subst h
          rw [List.getElem?_append_left (by rw [show a.cells.length = 8 from rfl]; omega), Nat.zero_mul, Nat.zero_add]
          exact hj
        | succ i =>
          rw [List.getElem?_append_right (by rw [show a.cells.length = 8 from rfl]; omega), show a.cells.length = 8 from rfl, show (i + 1) * 8 + j - 8 = i * 8 + j by omega]
          exact ih i (by simpa using h)
    exact this es i he)
  rw [Addr.add_lit, Nat.zero_add] at hc
  exact hc
theorem EF.form {w : World} {c : Nat} {A : Option Addr} {n cap : Nat} {es : List Ent} (h : EF w c (.slice A n cap) es) : n = es.length ∧ (es ≠ [] → ∃ g, A = some ⟨g, 0, none⟩ ∧ c ≤ g ∧ g < w.heap.size) := by
  unfold EF World.ownsRow at h
  obtain ⟨_, ⟨hv, h0⟩ | ⟨g, cap', cur, hv, h1, h2, _⟩⟩ := h
  · cases hv
    exact ⟨h0.symm, fun hne => absurd (List.eq_nil_of_length_eq_zero h0) hne⟩
  · cases hv
    exact ⟨rfl, fun _ => ⟨g, rfl, h1, lt_blk h2⟩⟩
theorem EF.maxlen {w : World} {c : Nat} {v : Value} {es : List Ent} (h : EF w c v es) : es.length ≤ maxLen := by
  unfold EF World.ownsRow at h
  obtain ⟨_, ⟨_, h0⟩ | ⟨g, cap', cur, _, _, _, h3, h4, _⟩⟩ := h
  · omega
  · omega
/-- A space's Put, whatever text was there. -/
theorem PutAny (bS bM : Nat) (l : MapT.Ents) (e : Ent) (hk1 : 1 ≤ e.k.size) (hk : e.k.size ≤ 512) (ht : e.t.size ≤ 4096) (hu0 : 0 ≤ e.u) (hu1 : e.u ≤ 1125899906842624) (hlen : l.length < 4096) (hf : MapT.find e.k l = none ∨ ∃ t u, t.size ≤ 1000000 ∧ MapT.find e.k l = some (.agg #[.string e.k, .int .i64 1, .string t, .slice none 0 0, .slice none 0 0, .slice none 0 0, .slice none 0 0, .int .i64 u])) (w : World) (h : SP w bS bM l) :
    Calls Tryz.prog 5 #[.pointer (some ⟨bS, 0, none⟩), .agg #[.string e.k, .int .i64 1, .string e.t, .slice none 0 0, .slice none 0 0, .slice none 0 0, .slice none 0 0, .int .i64 e.u]] w fun e9 w' => e9 = .returned (.int .i64 0) ∧ SP w' bS bM (MapT.put e.k (.agg #[.string e.k, .int .i64 1, .string e.t, .slice none 0 0, .slice none 0 0, .slice none 0 0, .slice none 0 0, .int .i64 e.u]) l) ∧ Kp w.heap.size (fun i => i ≠ bS ∧ i ≠ bM) w w' := by
  rcases hf with hf | ⟨t, u, htt, hf⟩
  · exact Put10_new bS bM l e.k e.t hk1 hk ht e.u hu0 hu1 w h hf hlen
  · exact Put10_old bS bM l e.k e.t hk1 hk ht e.u hu0 hu1 w h e.k t 1 u none 0 0 hf _ (fun X _ => size16 e.k t (by omega) htt u X)
theorem DelAny (bS bM : Nat) (l : MapT.Ents) (k : ByteArray) (hk : k.size ≤ 1000000) (hf : ∃ t u, t.size ≤ 1000000 ∧ MapT.find k l = some (.agg #[.string k, .int .i64 1, .string t, .slice none 0 0, .slice none 0 0, .slice none 0 0, .slice none 0 0, .int .i64 u])) (w : World) (h : SP w bS bM l) :
    Calls Tryz.prog 13 #[.pointer (some ⟨bS, 0, none⟩), .string k] w fun e9 w' => e9 = .returned (.bool true) ∧ SP w' bS bM (MapT.del k l) ∧ Kp w.heap.size (fun i => i ≠ bS ∧ i ≠ bM) w w' := by
  obtain ⟨t, u, htt, hf⟩ := hf
  exact Del19 bS bM l k k t 1 u none 0 0 hf w _ (fun X _ => size16 k t hk htt u X) h
set_option maxRecDepth 100000 in
set_option maxHeartbeats 8000000 in
theorem do_ok (W0 : World) (RAW NAME : ByteArray) (F : FuncId) (bS bM : Nat) (l : MapT.Ents) (xs : List ByteArray) (vA : Value) (k n : Int) (s : ByteArray) (R : Nat → World → Value → Prop) (es : List Ent) (hF : CmdOk W0 F bS bM l 1 xs k n s R es) (hR : RKeep R) (hes : es.length ≤ 100000) (hm : MayApply es l) (w : World) (hI : Below W0.heap.size W0 w) (hS : SP w bS bM l) (hA : SSl w vA xs) (hf : MapT.find NAME flT = some (.func (.func F) #[] #[])) (hx : xs[0]? = some RAW) (hent : ∀ (args : Array Value) (w : World), (callFunc F args).run Tryz.prog w = .ok (.enter F args) w) (hfit : ∀ X, SSl X vA xs → Calls Tryz.prog 39 #[vA] X fun e w' => e = .returned (.int .i64 0) ∧ Below X.heap.size X w') (hup : ∀ X, Calls Tryz.prog 40 #[.string RAW] X fun e w' => e = .returned (.string NAME) ∧ Below X.heap.size X w') : Calls Tryz.prog 6 #[.pointer (some ⟨bS, 0, none⟩), vA] w fun e w' => ∃ A m c, e = .returned (.agg #[.int .i64 k, .int .i64 n, .string s, .slice A m c]) ∧ R w.heap.size w' (.slice A m c) ∧ SP w' bS bM (applyE es l) ∧ Kp w.heap.size (fun i => i ≠ bS ∧ i ≠ bM) w w' := by
  have A1 := Lib.hid (alloc_old (w := w) (o := .cells #[.int .i64 0, .int .i64 0, .string ⟨#[]⟩, .slice none 0 0] 36))
  have hr := Lib.hid (heap_alloc_new w (.cells #[.int .i64 0, .int .i64 0, .string ⟨#[]⟩, .slice none 0 0] 36))
  have D := Lib.hid (Do_ok W0 RAW NAME F bS bM l 1 xs vA k n s R es hF hR _ (hI.trans (A1.out.mono (Below.size hI))) (hS.below A1.out) (hA.below A1.out) hf hx hent hfit hup)
  have HS := Lib.hid hS
  have HM := Lib.hid hm
  have HL := Lib.hid hes
  have hne := hS.2.2
  have hlt := hS.lt
  clear hS hA hf hx hent hfit hup hF hm hI hes
  go_enter Tryz.func6, Tryz.ntmps6
  go_wp2_with (first | (go_at_call 8; (with_reducible refine (D.out).mono ?_); rintro e w5 ⟨A, m, c, A', n', c', rfl, hRR, hE, hb5⟩; have B5 := Lib.hid (A1.out.trans (hb5.mono (Below.size A1.out))); have R5 := Lib.hid (blk_below hr.out hb5); have HR := Lib.hid hRR; have HE := Lib.hid hE; clear hRR hE hb5; refine Hid.out ?_))
  refine Lib.hid ?_
  have B6 := Lib.hid (show Below w.heap.size w (w5.alloc (.cells #[.int .i64 k, .int .i64 n, .string s, .slice A m c] 36)) from B5.out.trans (alloc_old.mono (Below.size B5.out)))
  have o6 := Lib.hid (heap_alloc_new w5 (.cells #[.int .i64 k, .int .i64 n, .string s, .slice A m c] 36))
  have R6 := Lib.hid (blk_below R5.out (alloc_old (o := .cells #[.int .i64 k, .int .i64 n, .string s, .slice A m c] 36)))
  have HE6 := Lib.hid (HE.out.below (alloc_old (o := .cells #[.int .i64 k, .int .i64 n, .string s, .slice A m c] 36)))
  have hs5 := Below.size B5.out
  have hs6 := lt_blk R5.out
  have hz : w5.heap.size < (w5.alloc (.cells #[.int .i64 k, .int .i64 n, .string s, .slice A m c] 36)).heap.size := by simp
  go_wp2_with fail
  have B56 := Lib.hid (show Below w5.heap.size w5 (w5.alloc (.cells #[.int .i64 k, .int .i64 n, .string s, .slice A m c] 36)) from alloc_old)
  generalize (w5.alloc (.cells #[.int .i64 k, .int .i64 n, .string s, .slice A m c] 36)) = w6 at B6 o6 R6 HE6 hz B56 ⊢
  obtain ⟨hn, hg⟩ := HE6.out.form
  subst hn
  have S6 := Lib.hid (HS.out.below B6.out)
  go_loopw [8] (fun iv wr => ∃ (i : Nat) (l2 : MapT.Ents), i ≤ es.length ∧ iv = .int .i64 i ∧ Hid (SP wr bS bM l2 ∧ MayApply (es.drop i) l2 ∧ applyE (es.drop i) l2 = applyE es l ∧ Kp w6.heap.size (fun i => i ≠ bS ∧ i ≠ bM) w6 wr)) (fun iv _ => es.length - (intOf iv).toNat)
  case atStart => exact ⟨0, l, Nat.zero_le _, rfl, Lib.hid ⟨S6.out, HM.out, rfl, Kp.refl _ _ _⟩⟩
  case round =>
    obtain ⟨i, l2, hi, rfl, HQ⟩ := hrel
    have hl9 := HL.out
    by_cases hlt2 : i < es.length
    · have q0 : (i : Int) < (es.length : Int) := by omega
      obtain ⟨g, rfl, hgc, hgl⟩ := hg (by intro e; rw [e] at hlt2; simp at hlt2)
      have hdrop : es.drop i = es[i] :: es.drop (i + 1) := List.drop_eq_getElem_cons hlt2
      obtain ⟨e0, he0⟩ : ∃ e0, es[i]? = some e0 := ⟨es[i], List.getElem?_eq_getElem hlt2⟩
      have hei : es[i] = e0 := by have := List.getElem?_eq_getElem hlt2; rw [he0] at this; exact (Option.some.inj this).symm
      have hQ := HQ.out
      rw [hdrop, hei] at hQ
      obtain ⟨hSP, ⟨hmay, hmr⟩, hap, hKp⟩ := hQ
      have hEr : EF wr (w.alloc (.cells #[.int .i64 0, .int .i64 0, .string ⟨#[]⟩, .slice none 0 0] 36)).heap.size (.slice (some ⟨g, 0, none⟩) es.length c') es := HE6.out.kept hKp.size (fun g9 hg9 => by cases hg9; have h1 : (w.alloc (.cells #[.int .i64 0, .int .i64 0, .string ⟨#[]⟩, .slice none 0 0] 36)).heap.size = w.heap.size + 1 := (by simp); exact hKp.block g (Nat.lt_of_lt_of_le hgl (Nat.le_refl _)) ⟨by omega, by omega⟩)
      have hcells := fun j v hj => hEr.cell i e0 he0 j v hj
      rcases hmay with ⟨hkd, m1, m2, m3, m4, m5, m6, m7⟩ | ⟨hkd, m1, m2⟩
      · obtain ⟨k9, kd9, t9, u9⟩ := e0
        simp only at hkd m1 m2 m3 m4 m5 m6 m7
        subst hkd
        have x0 := hcells 0 _ rfl
        have x1 := hcells 1 _ rfl
        have x2 := hcells 2 _ rfl
        have x3 := hcells 3 _ rfl
        have x4 := hcells 4 _ rfl
        have x5 := hcells 5 _ rfl
        have x6 := hcells 6 _ rfl
        have x7 := hcells 7 _ rfl
        simp only [Nat.add_zero] at x0
        have PP := Lib.hid (PutAny bS bM l2 ⟨k9, 1, t9, u9⟩ m1 m2 m3 m4 m5 m6 m7 wr hSP)
        have HMR := Lib.hid hmr
        have HAP := Lib.hid hap
        have HKP := Lib.hid hKp
        clear hcells hEr hSP hmr hap hKp m7 he0 hei hdrop HQ
        go_wp2_with (first | (go_at_call 5; (with_reducible refine (PP.out).mono ?_); rintro e w8 ⟨rfl, hSP8, hK8⟩; have HS8 := Lib.hid hSP8; have HK8 := Lib.hid hK8; clear hSP8 hK8))
        refine ⟨⟨i + 1, _, by omega, by go_num, Lib.hid ⟨HS8.out, by simpa [Ent.val] using HMR.out, by simpa [Ent.val, applyE] using HAP.out, HKP.out.trans (HK8.out.mono HKP.out.size (fun _ h => h))⟩⟩, by simp [intOf]; omega⟩
      · obtain ⟨k9, kd9, t9, u9⟩ := e0
        simp only at hkd m1 m2
        subst hkd
        have x0 := hcells 0 _ rfl
        have x1 := hcells 1 _ rfl
        have x2 := hcells 2 _ rfl
        simp only [Nat.add_zero] at x0
        have PP := Lib.hid (DelAny bS bM l2 k9 m1 m2 wr hSP)
        have HMR := Lib.hid hmr
        have HAP := Lib.hid hap
        have HKP := Lib.hid hKp
        clear hcells hEr hSP hmr hap hKp m2 he0 hei hdrop HQ
        go_wp2_with (first | (go_at_call 13; (with_reducible refine (PP.out).mono ?_); rintro e w8 ⟨rfl, hSP8, hK8⟩; have HS8 := Lib.hid hSP8; have HK8 := Lib.hid hK8; clear hSP8 hK8))
        refine ⟨⟨i + 1, _, by omega, by go_num, Lib.hid ⟨HS8.out, by simpa [Ent.val] using HMR.out, by simpa [Ent.val, applyE] using HAP.out, HKP.out.trans (HK8.out.mono HKP.out.size (fun _ h => h))⟩⟩, by simp [intOf]; omega⟩
    · have hie : i = es.length := by omega
      subst hie
      have q0 : ¬ (es.length : Int) < (es.length : Int) := by omega
      have hQ := HQ.out
      rw [List.drop_length] at hQ
      obtain ⟨hSP, _, hap, hKp⟩ := hQ
      have hlW : w5.heap.size ≠ bS ∧ w5.heap.size ≠ bM ∧ w.heap.size ≠ bS ∧ w.heap.size ≠ bM := by omega
      have o8 := Lib.hid ((hKp.block w5.heap.size (lt_blk o6.out) ⟨hlW.1, hlW.2.1⟩).trans o6.out)
      have R8 := Lib.hid ((hKp.block w.heap.size (lt_blk R6.out) ⟨hlW.2.2.1, hlW.2.2.2⟩).trans R6.out)
      have HSP := Lib.hid hSP
      have HAP := Lib.hid hap
      have HKP := Lib.hid hKp
      clear hSP hap hKp HQ hi hlt2
      obtain ⟨⟨d0, d1, d2, d3⟩, _⟩ := cells4 o8.out
      obtain ⟨⟨c0, c1, c2, c3⟩, ⟨f0, f1, f2, f3⟩⟩ := cells4 R8.out
      go_wp2
      have hz1 : (w.alloc (.cells #[.int .i64 0, .int .i64 0, .string ⟨#[]⟩, .slice none 0 0] 36)).heap.size = w.heap.size + 1 := by simp
      have hR5 := HR.out
      rw [hz1] at hR5
      have hsz : w5.heap.size ≤ (((((wr.setCell ⟨w.heap.size, 0, none⟩ (.int .i64 k)).setCell ⟨w.heap.size, 1, none⟩ (.int .i64 n)).setCell ⟨w.heap.size, 2, none⟩ (.string s)).setCell ⟨w.heap.size, 3, none⟩ (.slice A m c))).heap.size := Nat.le_trans (Below.size B56.out) (Nat.le_trans HKP.out.size (by simp [World.setCell]))
      have hR9 := hR.mono _ w.heap.size _ _ (hR.kept _ _ (((((wr.setCell ⟨w.heap.size, 0, none⟩ (.int .i64 k)).setCell ⟨w.heap.size, 1, none⟩ (.int .i64 n)).setCell ⟨w.heap.size, 2, none⟩ (.string s)).setCell ⟨w.heap.size, 3, none⟩ (.slice A m c))) _ hR5 hsz (fun i h1 h2 => (far4 _ _ _ _ (by omega)).trans ((HKP.out.block i (Nat.lt_of_lt_of_le h2 (Below.size B56.out)) ⟨by omega, by omega⟩).trans (B56.out.block i h2)))) (by omega)
      have hl2 : l2 = applyE es l := HAP.out
      subst hl2
      exact bodyPost_ret (v := .agg #[.int .i64 k, .int .i64 n, .string s, .slice A m c]) (by simp [results, Tryz.results6, go_sem, c0, c1, c2, c3]) rfl ⟨A, m, c, rfl, hR9, HSP.out.kept (far4 _ _ _ _ (by omega)) (far4 _ _ _ _ (by omega)), ((((((Kp.of B6.out).trans (HKP.out.mono (Below.size B6.out) (fun _ h => h))).setCell (p := ⟨w.heap.size, 0, none⟩) (by simp) _).setCell (p := ⟨w.heap.size, 1, none⟩) (by simp) _).setCell (p := ⟨w.heap.size, 2, none⟩) (by simp) _).setCell (p := ⟨w.heap.size, 3, none⟩) (by simp) _)⟩
set_option maxRecDepth 100000 in
set_option maxHeartbeats 8000000 in
theorem do_fail (W0 : World) (RAW NAME : ByteArray) (F : FuncId) (bS bM : Nat) (l : MapT.Ents) (xs : List ByteArray) (vA : Value) (n : Int) (hF : CmdFail W0 F bS bM l 1 xs n) (w : World) (hI : Below W0.heap.size W0 w) (hS : SP w bS bM l) (hA : SSl w vA xs) (hf : MapT.find NAME flT = some (.func (.func F) #[] #[])) (hx : xs[0]? = some RAW) (hent : ∀ (args : Array Value) (w : World), (callFunc F args).run Tryz.prog w = .ok (.enter F args) w) (hfit : ∀ X, SSl X vA xs → Calls Tryz.prog 39 #[vA] X fun e w' => e = .returned (.int .i64 0) ∧ Below X.heap.size X w') (hup : ∀ X, Calls Tryz.prog 40 #[.string RAW] X fun e w' => e = .returned (.string NAME) ∧ Below X.heap.size X w') : Calls Tryz.prog 6 #[.pointer (some ⟨bS, 0, none⟩), vA] w fun e w' => e = .returned (.agg #[.int .i64 2, .int .i64 n, .string ⟨#[]⟩, .slice none 0 0]) ∧ Below w.heap.size w w' := by
  have A1 := Lib.hid (alloc_old (w := w) (o := .cells #[.int .i64 0, .int .i64 0, .string ⟨#[]⟩, .slice none 0 0] 36))
  have hr := Lib.hid (heap_alloc_new w (.cells #[.int .i64 0, .int .i64 0, .string ⟨#[]⟩, .slice none 0 0] 36))
  have D := Lib.hid (Do_fail W0 RAW NAME F bS bM l 1 xs vA n hF _ (hI.trans (A1.out.mono (Below.size hI))) (hS.below A1.out) (hA.below A1.out) hf hx hent hfit hup)
  have HS := Lib.hid hS
  clear hS hA hf hx hent hfit hup hF hI
  go_enter Tryz.func6, Tryz.ntmps6
  go_wp2_with (first | (go_at_call 8; (with_reducible refine (D.out).mono ?_); rintro e w5 ⟨rfl, hb5⟩; have B5 := Lib.hid (A1.out.trans (hb5.mono (Below.size A1.out))); have R5 := Lib.hid (blk_below hr.out hb5); clear hb5; refine Hid.out ?_))
  refine Lib.hid ?_
  have B6 := Lib.hid (show Below w.heap.size w (w5.alloc (.cells #[.int .i64 2, .int .i64 n, .string ⟨#[]⟩, .slice none 0 0] 36)) from B5.out.trans (alloc_old.mono (Below.size B5.out)))
  have o6 := Lib.hid (heap_alloc_new w5 (.cells #[.int .i64 2, .int .i64 n, .string ⟨#[]⟩, .slice none 0 0] 36))
  have R6 := Lib.hid (blk_below R5.out (alloc_old (o := .cells #[.int .i64 2, .int .i64 n, .string ⟨#[]⟩, .slice none 0 0] 36)))
  go_wp2_with fail
  generalize (w5.alloc (.cells #[.int .i64 2, .int .i64 n, .string ⟨#[]⟩, .slice none 0 0] 36)) = w6 at B6 o6 R6 ⊢
  refine wp_loop_once ?_
  obtain ⟨⟨d0, d1, d2, d3⟩, _⟩ := cells4 o6.out
  obtain ⟨⟨c0, c1, c2, c3⟩, ⟨f0, f1, f2, f3⟩⟩ := cells4 R6.out
  go_wp2
  exact bodyPost_ret (v := .agg #[.int .i64 2, .int .i64 n, .string ⟨#[]⟩, .slice none 0 0]) (by simp [results, Tryz.results6, go_sem, c0, c1, c2, c3]) rfl ⟨rfl, ((((B6.out.setCell (Nat.le_refl _) _).setCell (Nat.le_refl _) _).setCell (Nat.le_refl _) _).setCell (Nat.le_refl _) _)⟩
end Go.Proofs.YtllaeocclpaiaaaGreatDoor
