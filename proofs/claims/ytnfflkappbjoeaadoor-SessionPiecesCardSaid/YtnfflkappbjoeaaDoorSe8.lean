/- Contracts of slices.Clone at texts, of Queue, Begin, End. -/
import Derived.Test.YtnfflkappbjoeaaDoorSe7
import Derived.OwnWalk
import Derived.Deep.RegionLaw
import Derived.Deep.RegionHeld3
namespace Go.Proofs.YtnfflkappbjoeaaDoor
open Go.ChangeShapes Go.WideShapes Go.ChangeAt Go.RowKit Go.Resp

theorem own_new0 (w : World) (t : TypeId) : (w.alloc (.cells #[] t)).ownsRow w.heap.size t 1 (.slice (some ⟨w.heap.size, 0, none⟩) 0 0) 0 [] :=
  ⟨rfl, .inr ⟨w.heap.size, 0, #[], rfl, Nat.le_refl _, heap_alloc_new w _, Nat.le_refl _, Nat.zero_le _, rfl, rfl⟩⟩
theorem Clone17 (blk off n cap : Nat) (news : List Value) (h0 : 0 < n) (hn : n ≤ 10) (hl : news.length = n) (w : World) (hblk : blk < w.heap.size) (hc : ∀ (j : Nat) (u : Value), news[j]? = some u → w.cell? ⟨blk, off + j, none⟩ = some u) (h1 : ∀ u ∈ news, u.oneCell' = true) :
    Calls Tryd.prog 22 #[.slice (some ⟨blk, off, none⟩) n cap] w fun e w' => ∃ g cap', e = .returned (.slice (some ⟨g, 0, none⟩) n cap') ∧ Below w.heap.size w w' := by
  obtain ⟨i0, hi, hz0, hz1, hz2⟩ := info_parts Tryd.info9
  have hne := fun w => Lib.run_eql_slice_nil (P := Tryd.prog) (w := w)
  have HC := Lib.hid (show ∀ o (j : Nat) (u : Value), news[j]? = some u → (w.alloc o).cell? ((⟨blk, off, none⟩ : Addr).add j) = some u from fun o j u hj => by
    rw [Addr.add_lit, World.cell?_alloc_lt w o ⟨blk, off + j, none⟩ hblk]; exact hc j u hj)
  have HI := Lib.hid (And.intro hi (And.intro hz0 (And.intro hz1 hz2)))
  have HL := Lib.hid (show news.length = n * 1 by omega)
  have HO := Lib.hid (h1)
  clear hi hz0 hz1 hz2 hc h1 hl
  go_enter Tryd.func22, Tryd.ntmps22
  go_wp2_with (first | (at_builtin; refine wpList_append_own _ rfl _ _ 26 rfl w.heap.size 9 i0 (.string ByteArray.empty) 1 16 Tryd.underlying26 HI.out.1 HI.out.2.1 HI.out.2.2.1 HI.out.2.2.2 rfl (by decide) _ 0 [] rfl (own_new0 w 9) ⟨blk, off, none⟩ n cap news rfl HL.out (HC.out _) HO.out (by unfold maxLen; omega) (by omega) (by simp) ?_; intro v2 w2 hO2 hb2 _; refine Hid.out ?_))
  obtain ⟨g, cap', rfl, _, _⟩ := hO2.form (by omega)
  simp only [Nat.zero_add]
  have HB := Lib.hid (show Below w.heap.size w w2 from Below.trans ((Below.refl w.heap.size w).alloc (Nat.le_refl _) _) ⟨hb2.os, hb2.tape, hb2.output, hb2.size, fun i hi => hb2.block i (by simp; omega) (by
    show some i ≠ some w.heap.size
    intro e; injection e; omega)⟩)
  clear hO2 hb2
  refine Lib.hid ?_
  go_wp2
  go_ret
  exact ⟨g, cap', rfl, HB.out⟩
/-- A queue of so many commands. -/
def QSl (c : Nat) (w : World) (q : Value) (n : Nat) : Prop := ∃ xs, w.ownsRow c 26 1 q n xs
theorem QSl.form {c : Nat} {w : World} {q : Value} {n : Nat} (h : QSl c w q n) : ∃ A cap, q = .slice A n cap := by
  obtain ⟨xs, h⟩ := h
  rcases h.2 with ⟨rfl, rfl⟩ | ⟨g, cap, cur, rfl, _⟩
  · exact ⟨none, 0, rfl⟩
  · exact ⟨_, cap, rfl⟩
theorem QSl.kept {c : Nat} {w w' : World} {q : Value} {n : Nat} (h : QSl c w q n) (hb : ∀ k, c ≤ k → k < w.heap.size → w'.heap[k]? = w.heap[k]?) : QSl c w' q n := by
  obtain ⟨xs, h1, h2⟩ := h
  refine ⟨xs, h1, ?_⟩
  rcases h2 with h2 | ⟨g, cap, cur, r1, r2, r3, r4⟩
  · exact .inl h2
  · exact .inr ⟨g, cap, cur, r1, r2, (hb g r2 (lt_of_block r3)).trans r3, r4⟩
theorem QSl.below {c : Nat} {w w' : World} {q : Value} {n : Nat} (h : QSl c w q n) (hb : Below w.heap.size w w') : QSl c w' q n := h.kept fun k _ hk => hb.block k hk
theorem QSl.set_ {c : Nat} {w : World} {q : Value} {n : Nat} (h : QSl c w q n) {b : Nat} (hb : b < c) (i : Nat) (u : Value) : QSl c (w.setCell ⟨b, i, none⟩ u) q n :=
  h.kept fun k hk _ => Below.heap_setCell w ⟨b, i, none⟩ u k (by show k ≠ b; omega)
theorem QSl.nil (c : Nat) (w : World) : QSl c w (.slice none 0 0) 0 := ⟨[], World.ownsRow_nil w _ _ _⟩
theorem But.setFar {b c : Nat} {w w' : World} (h : But b c w w') {g : Nat} (hg : c ≤ g) (i : Nat) (v : Value) : But b c w (w'.setCell ⟨g, i, none⟩ v) :=
  ⟨h.os, h.tape, h.output, by show _ ≤ (w'.heap.modify _ _).size; rw [Array.size_modify]; exact h.size, fun k hk hb => (Below.heap_setCell w' ⟨g, i, none⟩ v k (by show k ≠ g; omega)).trans (h.block k hk hb)⟩
theorem But.allocFar {b c : Nat} {w w' : World} (h : But b c w w') (hc : c ≤ w.heap.size) (o : Obj) : But b c w (w'.alloc o) :=
  h.trans (But.of ((Below.refl c w').alloc (Nat.le_trans hc h.size) o))
theorem Ses.setFar {w : World} {b : Nat} {cs : Array Value} (h : Ses w b cs) {g : Nat} (hg : b ≠ g) (i : Nat) (v : Value) : Ses (w.setCell ⟨g, i, none⟩ v) b cs := h.far (Below.heap_setCell w ⟨g, i, none⟩ v b hg)
theorem Ses.alloc {w : World} {b : Nat} {cs : Array Value} (h : Ses w b cs) (o : Obj) : Ses (w.alloc o) b cs := h.below ((Below.refl _ _).alloc (Nat.le_refl _) o)
theorem Blk.all4 {w : World} {g : Nat} {t : TypeId} {a0 a1 a2 a3 : Value} (h : Blk w g t #[a0, a1, a2, a3]) :
    w.cell? ⟨g, 0, none⟩ = some a0 ∧ w.cell? ⟨g, 1, none⟩ = some a1 ∧ w.cell? ⟨g, 2, none⟩ = some a2 ∧ w.cell? ⟨g, 3, none⟩ = some a3 ∧
    w.frozen? ⟨g, 0, none⟩ = false ∧ w.frozen? ⟨g, 1, none⟩ = false ∧ w.frozen? ⟨g, 2, none⟩ = false ∧ w.frozen? ⟨g, 3, none⟩ = false :=
  ⟨h.cell 0, h.cell 1, h.cell 2, h.cell 3, h.frozen 0, h.frozen 1, h.frozen 2, h.frozen 3⟩
def rep0 : Array Value := #[.int .i64 0, .int .i64 0, .string ⟨#[]⟩, .slice none 0 0]
theorem blk_new (W : World) (g : Nat) (hg : W.heap.size = g) (t : TypeId) (cs : Array Value) : Blk (W.alloc (.cells cs t)) g t cs := by subst hg; exact heap_alloc_new W _
theorem Ses.four {w : World} {b : Nat} {cs : Array Value} (h : Ses w b cs) {g : Nat} (hg : b ≠ g) (v0 v1 v2 v3 : Value) : Ses ((((w.setCell ⟨g, 0, none⟩ v0).setCell ⟨g, 1, none⟩ v1).setCell ⟨g, 2, none⟩ v2).setCell ⟨g, 3, none⟩ v3) b cs :=
  (((h.setFar hg 0 _).setFar hg 1 _).setFar hg 2 _).setFar hg 3 _
theorem But.four {b c : Nat} {w w' : World} (h : But b c w w') {g : Nat} (hg : c ≤ g) (v0 v1 v2 v3 : Value) : But b c w ((((w'.setCell ⟨g, 0, none⟩ v0).setCell ⟨g, 1, none⟩ v1).setCell ⟨g, 2, none⟩ v2).setCell ⟨g, 3, none⟩ v3) :=
  (((h.setFar hg 0 _).setFar hg 1 _).setFar hg 2 _).setFar hg 3 _
theorem Begin_ok (b c : Nat) (w : World) (vin vout br sp q k2 k3 k4 : Value) (h : Ses w b #[vin, vout, br, .bool false, sp, q, k2, k3, k4]) (hc : c ≤ w.heap.size) :
    Calls Tryd.prog 12 #[.pointer (some ⟨b, 0, none⟩)] w fun e w' => e = .returned (replyV 1 0 ⟨#[79, 75]⟩) ∧ Ses w' b #[vin, vout, br, .bool true, .bool false, .slice none 0 0, k2, k3, k4] ∧ But b c w w' := by
  obtain ⟨c0, c1, c2, c3, c4, c5, f0, f1, f2, f3, f4, f5⟩ := h.all
  have hlt := h.lt
  have HS := Lib.hid h
  have O := Lib.hid (fun w => OK15 w)
  unfold replyV at O
  clear h c0 c1 c2 f0 f1 f2
  go_enter Tryd.func12, Tryd.ntmps12
  go_wp2_with (first | (go_at_call 20; (with_reducible refine (O.out _).mono ?_); rintro e w1 ⟨rfl, hb1⟩; refine Hid.out ?_))
  have HR := Blk.below (blk_new (((w.setCell ⟨b, 3, none⟩ (.bool true)).setCell ⟨b, 4, none⟩ (.bool false)).setCell ⟨b, 5, none⟩ (.slice none 0 0)) w.heap.size (by simp) 40 rep0) hb1
  have hR := HR.all4
  have hrl := HR.lt
  have HS1 := Lib.hid (Ses.below (((((HS.out.set_ 3 (.bool true)).set_ 4 (.bool false)).set_ 5 (.slice none 0 0))).alloc _) hb1)
  have HB1 := Lib.hid (((((But.refl b c w).set_ 3 (.bool true)).set_ 4 (.bool false)).set_ 5 (.slice none 0 0)).allocFar hc _ |>.trans (But.of (hb1.mono (by simp; omega))))
  obtain ⟨r0, r1, r2, r3, s0, s1, s2, s3⟩ := hR
  clear hb1 c3 c4 c5 f3 f4 f5 HR
  refine Lib.hid ?_
  go_wp2
  have hbg : b ≠ w.heap.size := by omega
  exact bodyPost_ret (v := replyV 1 0 ⟨#[79, 75]⟩) (by simp [results, Tryd.results12, go_sem, r0, r1, r2, r3]; rfl) rfl ⟨rfl, HS1.out.four hbg _ _ _ _, HB1.out.four hc _ _ _ _⟩
theorem Begin_multi (b : Nat) (w : World) (vin vout br sp q k2 k3 k4 : Value) (h : Ses w b #[vin, vout, br, .bool true, sp, q, k2, k3, k4]) :
    Calls Tryd.prog 12 #[.pointer (some ⟨b, 0, none⟩)] w fun e w' => e = .returned (replyV 2 10 ⟨#[]⟩) ∧ Below w.heap.size w w' := by
  obtain ⟨c0, c1, c2, c3, c4, c5, f0, f1, f2, f3, f4, f5⟩ := h.all
  have hlt := h.lt
  have O := Lib.hid (fun w => Err14 10 w)
  unfold replyV at O
  clear h c0 c1 c2 f0 f1 f2
  go_enter Tryd.func12, Tryd.ntmps12
  go_wp2_with (first | (go_at_call 19; (with_reducible refine (O.out _).mono ?_); rintro e w1 ⟨rfl, hb1⟩; refine Hid.out ?_))
  have HR := Blk.below (blk_new w w.heap.size rfl 40 rep0) hb1
  have hR := HR.all4
  have hrl := HR.lt
  have HB1 := Lib.hid (((Below.refl w.heap.size w).alloc (Nat.le_refl _) _).trans (hb1.mono (by simp)))
  obtain ⟨r0, r1, r2, r3, s0, s1, s2, s3⟩ := hR
  clear hb1 c3 c4 c5 f3 f4 f5 HR
  refine Lib.hid ?_
  go_wp2
  exact bodyPost_ret (v := replyV 2 10 ⟨#[]⟩) (by simp [results, Tryd.results12, go_sem, r0, r1, r2, r3]; rfl) rfl ⟨rfl, (((HB1.out.setCell (Nat.le_refl _) _).setCell (Nat.le_refl _) _).setCell (Nat.le_refl _) _).setCell (Nat.le_refl _) _⟩
theorem End_ok (b c d : Nat) (w : World) (vin vout br mu q k2 k3 k4 : Value) (sp : Bool) (n : Nat) (h : Ses w b #[vin, vout, br, mu, .bool sp, q, k2, k3, k4]) (hq : QSl c w q n) :
    Calls Tryd.prog 14 #[.pointer (some ⟨b, 0, none⟩)] w fun e w' => (∃ A cap, e = .returned (.tuple #[.slice A n cap, .bool (!sp)])) ∧ Ses w' b #[vin, vout, br, .bool false, .bool false, .slice none 0 0, k2, k3, k4] ∧ But b d w w' := by
  obtain ⟨c0, c1, c2, c3, c4, c5, f0, f1, f2, f3, f4, f5⟩ := h.all
  have HS := Lib.hid h
  obtain ⟨A, cap, rfl⟩ := hq.form
  clear h c0 c1 c2 f0 f1 f2 hq
  go_enter Tryd.func14, Tryd.ntmps14
  go_wp2_with fail
  go_region
  go_wp2
  go_ret2
  exact ⟨⟨A, cap, rfl⟩, ((HS.out.set_ 3 _).set_ 4 _).set_ 5 _, ((((But.refl b d w).set_ 3 _).set_ 4 _).set_ 5 _).drewN 1⟩
end Go.Proofs.YtnfflkappbjoeaaDoor
