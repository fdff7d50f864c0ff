/- Next, with the kinds of blocks told; rows of commands; all. -/
import Derived.Test.YtnfflkappbjoeaaDoorSe3
import Derived.Test.YtnfflkappbjoeaaDoorSpP
import Derived.Maps.AppendAt
namespace Go.Proofs.YtnfflkappbjoeaaDoor
open Go.ChangeShapes Go.WideShapes Go.ChangeAt Go.RowKit Go.Resp

/-- The row's block holds texts. -/
def In9 (w : World) (v : Value) : Prop := ∀ g, v.ownBlock = some g → ∃ cs fr, w.heap[g]? = some (.cells cs 9 fr)
theorem In9.set_ {w : World} {v : Value} (h : In9 w v) {b : Nat} {cs : Array Value} (hs : Ses w b cs) (i : Nat) (u : Value) : In9 (w.setCell ⟨b, i, none⟩ u) v := fun g hg => by
  obtain ⟨c2, fr, h1⟩ := h g hg
  have hne : g ≠ b := by
    intro e
    subst e
    unfold Ses at hs
    rw [hs] at h1
    injection h1 with h1
    injection h1 with _ h2 _
    cases h2
  exact ⟨c2, fr, (Below.heap_setCell w ⟨b, i, none⟩ u g hne).trans h1⟩
theorem In9.kept {w w' : World} {v : Value} (h : In9 w v) (hb : ∀ (k : Nat) (cs : Array Value) (fr : Nat × Nat), w.heap[k]? = some (Obj.cells cs 9 fr) → w'.heap[k]? = w.heap[k]?) : In9 w' v := fun g hg => by
  obtain ⟨cs, fr, h1⟩ := h g hg
  exact ⟨cs, fr, (hb g cs fr h1).trans h1⟩
theorem read_of9 (w : World) (v : Value) (l : List UInt8) (xs : List (List UInt8)) (p st : Nat) (c : Int) (hc : codeOf st = c) (h : BSl w v l) (hr : readT l = (xs, p, st)) (hm : xs.length ≤ 1024) :
    Calls Tryd.prog 18 #[v] w fun e w' => ∃ v', e = .returned (.tuple #[v', .int .i64 (p : Int), .int .i64 c]) ∧ SSl w' v' (xs.map fun l => ⟨l.toArray⟩) ∧ In9 w' v' ∧ Below w.heap.size w w' := by
  refine (Read_any w v l h).mono ?_
  rintro e w' ⟨v', ys, q, s2, hr2, rfl, hown, hb⟩
  obtain ⟨rfl, rfl, rfl⟩ : xs = ys ∧ p = q ∧ st = s2 := by
    rw [hr] at hr2; injection hr2 with h1 h2; injection h2 with h2 h3; exact ⟨h1, h2, h3⟩
  subst hc
  refine ⟨v', rfl, SSl.of_own hown hm, fun g hg => ?_, hb⟩
  have hown' : w'.ownsRow w.heap.size 9 1 v' xs.length (xs.map strV) := hown
  rcases hown'.2 with ⟨hv, _⟩ | ⟨g2, cap, cur, hv, _, hh, _⟩
  · subst hv; cases hg
  · subst hv
    have hg' : g2 = g := by simpa [Value.ownBlock] using hg
    subst hg'
    exact ⟨_, _, hh⟩
set_option maxHeartbeats 1000000 in
theorem Next_okT (b c d : Nat) (hbc : b < c) (l : List UInt8) (xs : List (List UInt8)) (p : Nat) (w : World) (vin vout br mu sp q k2 k3 k4 : Value) (h : Ses w b #[vin, vout, br, mu, sp, q, k2, k3, k4]) (ho : OwnG c w vin l) (hr : readT l = (xs, p, 0)) (hp0 : 0 < p) (hpl : p ≤ l.length) (hx : xs.length ≤ 1024) (_hc : c ≤ w.heap.size) (hd : d ≤ w.heap.size) (h5 : In5 w vin) (hns : noStr #[vin, vout, br, mu, sp, q, k2, k3, k4] = true) :
    Calls Tryd.prog 11 #[.pointer (some ⟨b, 0, none⟩)] w fun e w' => (∃ v', e = .returned (.tuple #[v', .int .i64 0]) ∧ SSl w' v' (xs.map fun l => ⟨l.toArray⟩) ∧ In9 w' v') ∧ ∃ vin', Ses w' b #[vin', vout, br, mu, sp, q, k2, k3, k4] ∧ OwnG c w' vin' (l.drop p) ∧ But b d w w' ∧ In5 w' vin' := by
  obtain ⟨c0, c1, c2, c3, c4, c5, f0, f1, f2, f3, f4, f5⟩ := h.all
  have HS := Lib.hid h
  have RD := read_of9 w vin l xs p 0 0 rfl ho.slice hr hx
  have RD' := Lib.hid RD
  have HO := Lib.hid ho
  have HNS := Lib.hid hns
  have H5 := Lib.hid h5
  clear hns h5
  rcases ho with ⟨g, off, cap, rfl, h2, h3, h4, h5, h6, h7⟩ | ⟨h1, h2⟩
  · unfold maxLen at h5
    have z1 : ((p : Int) == 0) = false := by rw [beq_eq_false_iff_ne]; omega
    have z2 : (p == 0) = false := by rw [beq_eq_false_iff_ne]; omega
    clear h h6 h7 RD hr c1 c2 c3 c4 c5 f0 f1 f2 f3 f4 f5
    go_enter Tryd.func11, Tryd.ntmps11
    go_wp2_with (first | (go_at_call 18; (with_reducible refine RD'.out.mono ?_); rintro e w4 ⟨v4, rfl, hy, h9, hb4⟩; refine Hid.out ?_))
    have HS' := Lib.hid (HS.out.below hb4)
    have HB := Lib.hid (But.of (b := b) (Below.mono hb4 hd))
    have HO' := Lib.hid (HO.out.below hb4)
    have HY := Lib.hid hy
    have H9 := Lib.hid ((h9.set_ HS'.out 0 (Value.slice (if l.length = p then some ⟨g, off, none⟩ else some ⟨g, off + p, none⟩) (l.length - p) (l.length - p))))
    clear h9
    have H5' := Lib.hid ((H5.out.below hb4).set_ HS'.out 0 (Value.slice (if l.length = p then some ⟨g, off, none⟩ else some ⟨g, off + p, none⟩) (l.length - p) (l.length - p)))
    have H5g := Lib.hid (show In5 ((_ : World).setCell ⟨b, 0, none⟩ (Value.slice (if l.length = p then some ⟨g, off, none⟩ else some ⟨g, off + p, none⟩) (l.length - p) (l.length - p))) (Value.slice (if l.length = p then some ⟨g, off, none⟩ else some ⟨g, off + p, none⟩) (l.length - p) (l.length - p)) from fun k hk => H5'.out k (by rw [← hk]; split <;> rfl))
    clear H5'
    obtain ⟨c0', _, c2', _, _, _, f0', _, f2', _, _, _⟩ := HS'.out.all
    clear hy hb4 c0
    refine Lib.hid ?_
    go_wp2_with fail
    have i1 : (0 : Int) ≤ (p : Int) := by omega
    have i2 : (p : Int) ≤ (l.length : Int) := by omega
    have i3 : (l.length : Int) ≤ (cap : Int) := by omega
    go_region
    have hcut := (HO'.out.cut p hpl).set_ hbc 0 (Value.slice (if l.length = p then some ⟨g, off, none⟩ else some ⟨g, off + p, none⟩) (l.length - p) (l.length - p))
    generalize Value.slice (if l.length = p then some ⟨g, off, none⟩ else some ⟨g, off + p, none⟩) (l.length - p) (l.length - p) = V at hcut H5g H9 ⊢
    have HC := Lib.hid hcut
    clear hcut
    go_wp2
    go_ret2
    refine ⟨⟨v4, rfl, ?_, H9.out⟩, _, HS'.out.set_ 0 _, HC.out, (HB.out.set_ 0 _).drewN 1, H5g.out⟩
    exact SSl.set_ses HY.out HS'.out (fun i s hi => ses_str HNS.out i s hi) 0 _
  · subst h1; simp at hpl; omega
theorem info26r : (Tryd.prog.info? 26).map (fun i => (i.zero, i.size, i.bytes)) = some (some (.slice none 0 0), 1, 24) := by kernel_rfl
theorem SSl.kept {w w' : World} {v : Value} {xs : List ByteArray} (h : SSl w v xs) (hs : w.heap.size ≤ w'.heap.size) (hb : ∀ g, v.ownBlock = some g → w'.heap[g]? = w.heap[g]?) : SSl w' v xs := by
  obtain ⟨A, cap, h1, h2, h3, h4⟩ := h
  refine ⟨A, cap, h1, h2, h3, fun hne => ?_⟩
  obtain ⟨blk, off, h5, h6, h7⟩ := h4 hne
  have hk := hb blk (by rw [h1, h5]; rfl)
  exact ⟨blk, off, h5, by omega, fun i s hi => (World.cell?_of_block hk).trans (h7 i s hi)⟩
/-- Rows of texts in a row that the call itself has made. -/
def RsO (c : Nat) (w : World) (v : Value) (xss : List (List ByteArray)) : Prop := ∃ vs : List Value, w.ownsRow c 26 1 v xss.length vs ∧ vs.length = xss.length ∧ ∀ (i : Nat) (u : Value) (xs : List ByteArray), vs[i]? = some u → xss[i]? = some xs → SSl w u xs ∧ In9 w u
theorem RsO.nil (c : Nat) (w : World) : RsO c w (.slice none 0 0) [] := ⟨[], World.ownsRow_nil w _ _ _, rfl, fun i u xs h => by cases h⟩
theorem RsO.kept {c : Nat} {w w' : World} {v : Value} {xss : List (List ByteArray)} (h : RsO c w v xss) (hs : w.heap.size ≤ w'.heap.size) (hb : ∀ (k : Nat) (cs : Array Value) (t : TypeId) (fr : Nat × Nat), w.heap[k]? = some (Obj.cells cs t fr) → t = 9 ∨ t = 26 → w'.heap[k]? = w.heap[k]?) : RsO c w' v xss := by
  obtain ⟨vs, h1, h2, h3⟩ := h
  refine ⟨vs, ⟨h1.1, ?_⟩, h2, fun i u xs hi hx => ?_⟩
  · rcases h1.2 with g | ⟨g, cap, cur, r1, r2, r3, r4⟩
    · exact .inl g
    · exact .inr ⟨g, cap, cur, r1, r2, (hb g _ _ _ r3 (.inr rfl)).trans r3, r4⟩
  · obtain ⟨q1, q2⟩ := h3 i u xs hi hx
    refine ⟨q1.kept hs fun g hg => ?_, q2.kept fun k cs fr hk => hb k cs 9 fr hk (.inl rfl)⟩
    obtain ⟨cs, fr, hk⟩ := q2 g hg
    exact hb g cs 9 fr hk (.inl rfl)
theorem RsO.below {c : Nat} {w w' : World} {v : Value} {xss : List (List ByteArray)} (h : RsO c w v xss) (hb : Below w.heap.size w w') : RsO c w' v xss :=
  h.kept hb.size fun k _ _ _ hk _ => hb.block k (Array.getElem?_eq_some_iff.1 hk).1
theorem RsO.far {c b : Nat} {w w' : World} {v : Value} {xss : List (List ByteArray)} {cs : Array Value} (h : RsO c w v xss) (hs : w.heap.size ≤ w'.heap.size) (hS : Ses w b cs) (hf : Far b w w') : RsO c w' v xss :=
  h.kept hs fun k c2 t fr hk ht => hf k (Array.getElem?_eq_some_iff.1 hk).1 (fun e => by
    subst e
    unfold Ses at hS
    rw [hS] at hk
    injection hk with hk
    injection hk with _ hk _
    subst hk
    rcases ht with ht | ht <;> cases ht) (fun c3 f3 h3 => by
    rw [hk] at h3
    injection h3 with h3
    injection h3 with _ h3 _
    subst h3
    rcases ht with ht | ht <;> cases ht)
theorem RsO.set_ {c b : Nat} {w : World} {v : Value} {xss : List (List ByteArray)} {cs : Array Value} (h : RsO c w v xss) (hS : Ses w b cs) (i : Nat) (u : Value) : RsO c (w.setCell ⟨b, i, none⟩ u) v xss :=
  h.far (by show _ ≤ (w.heap.modify _ _).size; rw [Array.size_modify]; exact Nat.le_refl _) hS (fun k _ hb _ => Below.heap_setCell w ⟨b, i, none⟩ u k hb)
theorem RsO.form {c : Nat} {w : World} {v : Value} {xss : List (List ByteArray)} (h : RsO c w v xss) : ∃ A cap, v = .slice A xss.length cap ∧ xss.length ≤ cap ∧ cap ≤ maxLen := by
  obtain ⟨vs, h1, h2, h3⟩ := h
  rcases h1.2 with ⟨g1, g2⟩ | ⟨g, cap, cur, r1, r2, r3, r4, r5, r6⟩
  · exact ⟨none, 0, by rw [g1, g2], by omega, Nat.zero_le _⟩
  · exact ⟨_, cap, r1, r4, r5⟩
def bytesOf (xs : List (List UInt8)) : List ByteArray := xs.map fun l => ⟨l.toArray⟩
def codeB (br : Bool) : Int := if br then 22 else 25
/-- A session's cells, with what waits and whether it is spoilt. -/
def sesC (vin vout : Value) (br : Bool) (mu sp q k2 k3 k4 : Value) : Array Value := #[vin, vout, .bool br, mu, sp, q, k2, k3, k4]
end Go.Proofs.YtnfflkappbjoeaaDoor
