/- all: every command that is there. -/
import Derived.Test.YtnfflkappbjoeaaDoorSp1
import Derived.Deep.AppendLies
namespace Go.Proofs.YtnfflkappbjoeaaDoor
open Go.ChangeShapes Go.WideShapes Go.ChangeAt Go.RowKit Go.Resp

theorem OwnG.own {c : Nat} {w w' : World} {v : Value} {l : List UInt8} (h : OwnG c w v l) (hs : w.heap.size ≤ w'.heap.size) (hb : ∀ g, v.ownBlock = some g → w'.heap[g]? = w.heap[g]?) : OwnG c w' v l := by
  rcases h with ⟨g, off, cap, rfl, h2, h3, h4, h5, h6, h7⟩ | h
  · have hk := hb g rfl
    have hc : ∀ j, w'.cell? ⟨g, j, none⟩ = w.cell? ⟨g, j, none⟩ := fun j => World.cell?_of_block hk
    refine .inl ⟨g, off, cap, rfl, h2, by omega, h4, h5, fun i x hx => (hc _).trans (h6 i x hx), fun j hj => ⟨by rw [hc]; exact (h7 j hj).1, ?_⟩⟩
    have := (h7 j hj).2
    unfold World.frozen? at this ⊢
    simp only [hk]
    exact this
  · exact .inr h
/-- Nothing has turned but one row of slices. -/
def Keep26 (w w' : World) : Prop := ∀ (k : Nat) (cs : Array Value) (t : TypeId) (fr : Nat × Nat), w.heap[k]? = some (Obj.cells cs t fr) → t ≠ 26 → w'.heap[k]? = w.heap[k]?
theorem keep26_of {c : Nat} {w w' : World} {v : Value} {n : Nat} {vs : List Value} (h : w.ownsRow c 26 1 v n vs) (hg : w.grownBy w' v.ownBlock) : Keep26 w w' := fun k cs t fr hk ht => by
  refine hg.block k (Array.getElem?_eq_some_iff.1 hk).1 (fun e => ?_)
  rcases h.2 with ⟨hv, _⟩ | ⟨g, cap, cur, hv, _, hh, _⟩
  · subst hv; cases e
  · subst hv
    have e2 : k = g := by simpa [Value.ownBlock] using e
    subst e2
    rw [hh] at hk
    injection hk with hk
    injection hk with _ hk _
    exact ht hk.symm
theorem keep_alloc {w : World} (o : Obj) : ∀ k, k < w.heap.size → (w.alloc o).heap[k]? = w.heap[k]? := fun k hk => ((Below.refl w.heap.size w).alloc (Nat.le_refl _) o).block k hk
def sliceLen : Value → Nat | .slice _ n _ => n | _ => 0
/-- A session between two calls: what waits. -/
structure At (b c : Nat) (w : World) (vin vout : Value) (br : Bool) (mu sp q k2 k3 k4 : Value) (l : List UInt8) : Prop where
  ses : Ses w b #[vin, vout, .bool br, mu, sp, q, k2, k3, k4]
  own : OwnG c w vin l
  in5 : In5 w vin
theorem At.kept {b c : Nat} {w w' : World} {vin vout : Value} {br : Bool} {mu sp q k2 k3 k4 : Value} {l : List UInt8} (h : At b c w vin vout br mu sp q k2 k3 k4 l) (hs : w.heap.size ≤ w'.heap.size) (hk : Keep26 w w') : At b c w' vin vout br mu sp q k2 k3 k4 l := by
  refine ⟨h.ses.far (hk b _ _ _ h.ses (by decide)), h.own.own hs fun g hg => ?_, fun g hg => ?_⟩
  · obtain ⟨cs, fr, hh⟩ := h.in5 g hg
    exact hk g _ _ _ hh (by decide)
  · obtain ⟨cs, fr, hh⟩ := h.in5 g hg
    exact ⟨cs, fr, (hk g _ _ _ hh (by decide)).trans hh⟩
theorem At.below {b c : Nat} {w w' : World} {vin vout : Value} {br : Bool} {mu sp q k2 k3 k4 : Value} {l : List UInt8} (h : At b c w vin vout br mu sp q k2 k3 k4 l) (hb : Below w.heap.size w w') : At b c w' vin vout br mu sp q k2 k3 k4 l :=
  h.kept hb.size fun k _ _ _ hk _ => hb.block k (Array.getElem?_eq_some_iff.1 hk).1
theorem RsO.push {c : Nat} {w w' : World} {u v' : Value} {xss : List (List ByteArray)} {xs : List ByteArray} {vs : List Value} (h1 : vs.length = xss.length) (h2 : ∀ (i : Nat) (u : Value) (xs : List ByteArray), vs[i]? = some u → xss[i]? = some xs → SSl w u xs ∧ In9 w u)
    (hu : SSl w u xs ∧ In9 w u) (hs : w.heap.size ≤ w'.heap.size) (hk : Keep26 w w') (hown : w'.ownsRow c 26 1 v' (xss.length + 1) (vs ++ [u])) : RsO c w' v' (xss ++ [xs]) := by
  have kp : ∀ (z : Value) (zs : List ByteArray), SSl w z zs ∧ In9 w z → SSl w' z zs ∧ In9 w' z := fun z zs ⟨q1, q2⟩ => ⟨q1.kept hs fun g hg => by
      obtain ⟨cs, fr, hh⟩ := q2 g hg
      exact hk g _ _ _ hh (by decide), q2.kept fun k cs fr hh => hk k _ _ _ hh (by decide)⟩
  refine ⟨vs ++ [u], by rw [List.length_append]; exact hown, by simp [h1], fun i z zs hi hx => ?_⟩
  by_cases hil : i < vs.length
  · rw [List.getElem?_append_left hil] at hi
    rw [List.getElem?_append_left (by omega)] at hx
    exact kp _ _ (h2 i z zs hi hx)
  · rw [List.getElem?_append_right (by omega)] at hi hx
    have h0 : i - vs.length = 0 := by
      have := (List.getElem?_eq_some_iff.1 hi).1
      simp at this
      omega
    rw [← h1, h0] at hx
    rw [h0] at hi
    cases hi
    cases hx
    exact kp _ _ hu
theorem take_of_drop {α : Type} (ys : List α) (k : Nat) (h : ys.drop k = []) : ys.take k = ys := by
  have := List.take_append_drop k ys
  rw [h, List.append_nil] at this
  exact this
theorem drop_succ {α : Type} (ys : List α) (k : Nat) (x : α) (r : List α) (h : ys.drop k = x :: r) : ys.drop (k + 1) = r ∧ ys.take (k + 1) = ys.take k ++ [x] := by
  have h1 : ys[k]? = some x := by rw [← List.head?_drop, h]; rfl
  refine ⟨?_, by rw [List.take_add_one, h1]; rfl⟩
  rw [← List.tail_drop, h]; rfl
theorem box_below (w : World) (o : Obj) : Below w.heap.size w (w.alloc o) := (Below.refl _ _).alloc (Nat.le_refl _) _
theorem nil_of {α : Type} {ys : List α} {k : Nat} {A : Option Addr} {cap : Nat} (hk : k ≤ ys.length) (h : k = 0 → A = none ∧ cap = 0) : ys = [] → Value.slice A k cap = .slice none 0 0 := by
  intro e
  subst e
  obtain rfl : k = 0 := by simpa using hk
  obtain ⟨rfl, rfl⟩ := h rfl
  rfl
theorem noStr9 {vin vout mu sp q k2 k3 k4 : Value} {br : Bool} (h : noStr #[vout, mu, sp, q, k2, k3, k4] = true) (hv : ∃ A n c, vin = .slice A n c) : noStr #[vin, vout, .bool br, mu, sp, q, k2, k3, k4] = true := by
  obtain ⟨A, n, c, rfl⟩ := hv
  unfold noStr at h ⊢
  simp [isStr] at h ⊢
  exact h
theorem below_grown {B : Nat} {w w' : World} {v : Value} {n : Nat} {vs : List Value} (h : w.ownsRow B 26 1 v n vs) (hB : B ≤ w.heap.size) (hg : w.grownBy w' v.ownBlock) : Below B w w' := by
  refine ⟨hg.os, hg.tape, hg.output, hg.size, fun k hk => hg.block k (by omega) (fun e => ?_)⟩
  rcases h.2 with ⟨hv, _⟩ | ⟨g, cap, cur, hv, hb, _⟩
  · subst hv; cases e
  · subst hv
    have e2 : k = g := by simpa [Value.ownBlock] using e
    omega
set_option maxHeartbeats 4000000 in
theorem all9 (b c : Nat) (hbc : b < c) (w : World) (vin vout : Value) (br0 : Bool) (mu sp q k2 k3 k4 : Value) (l : List UInt8) (ys : List (List (List UInt8))) (rest : List UInt8) (br : Bool)
    (h : At b c w vin vout br0 mu sp q k2 k3 k4 l) (hr : AllR l ys rest br) (hc : c ≤ w.heap.size) (hys : ys.length ≤ 1000000) (hns : noStr #[vout, mu, sp, q, k2, k3, k4] = true) :
    Calls Tryd.prog 9 #[.pointer (some ⟨b, 0, none⟩)] w fun e w' => (∃ v, e = .returned (.tuple #[v, .int .i64 (codeB br)]) ∧ RsO w.heap.size w' v (ys.map bytesOf) ∧ (ys = [] → v = .slice none 0 0)) ∧ (∃ vin', At b c w' vin' vout (br0 || br) mu sp q k2 k3 k4 rest) ∧ But b w.heap.size w w' := by
  obtain ⟨i0, hi, hz0, hz1, hz2⟩ := info_parts info26r
  have HI := Lib.hid (And.intro hi (And.intro hz0 (And.intro hz1 hz2)))
  have HA := Lib.hid h
  have HR := Lib.hid hr
  have HN := Lib.hid hns
  clear h hr hns hi hz0 hz1 hz2
  go_enter Tryd.func9, Tryd.ntmps9
  go_wp2
  go_loopw [4] (fun o wr => ∃ k : Nat, k ≤ ys.length ∧ (∃ A cap, o = .slice A k cap ∧ (k = 0 → A = none ∧ cap = 0)) ∧ Hid (∃ l' vin', AllR l' (ys.drop k) rest br ∧ At b c wr vin' vout br0 mu sp q k2 k3 k4 l' ∧ RsO w.heap.size wr o ((ys.take k).map bytesOf) ∧ But b w.heap.size w wr)) (fun o _ => ys.length - sliceLen o)
  case atStart => exact ⟨0, Nat.zero_le _, ⟨none, 0, rfl, fun _ => ⟨rfl, rfl⟩⟩, Lib.hid ⟨l, vin, HR.out, HA.out, RsO.nil _ _, But.refl _ _ _⟩⟩
  case round =>
    obtain ⟨k, hk, ⟨A, cap, rfl, hnil⟩, HX⟩ := hrel
    have HNL := Lib.hid hnil
    clear hnil
    obtain ⟨l', vin', hall, hat, hrs, hbut⟩ := HX.out
    obtain ⟨D, hD⟩ : ∃ D, ys.drop k = D := ⟨_, rfl⟩
    rw [hD] at hall
    have zw := hbut.size
    have HK0 := Lib.hid hk
    cases hall with
    | more _ hm =>
      have N := Lib.hid (Next_more b _ wr _ _ _ _ _ _ _ _ _ hat.ses hat.own.slice hm)
      have HH := Lib.hid (And.intro hat (And.intro hrs (And.intro hbut hD)))
      clear hat hrs hbut hD HX
      go_wp2_with (first | (go_at_call 11; (with_reducible refine N.out.mono ?_); rintro e w2 ⟨rfl, hb2⟩; have HB2 := Lib.hid hb2; clear hb2))
      go_ret2
      have e := take_of_drop ys k HH.out.2.2.2
      refine ⟨⟨_, rfl, ?_, nil_of HK0.out HNL.out⟩, ⟨vin', ?_⟩, HH.out.2.2.1.trans (But.of (HB2.out.mono zw))⟩
      · rw [← e]; exact HH.out.2.1.below HB2.out
      · rw [Bool.or_false]; exact HH.out.1.below HB2.out
    | bad _ hm =>
      have N := Lib.hid (Next_bad b wr.heap.size _ wr _ _ _ _ _ _ _ _ _ hat.ses hat.own.slice hm (Nat.le_refl _))
      have HH := Lib.hid (And.intro hat (And.intro hrs (And.intro hbut hD)))
      clear hat hrs hbut hD HX
      go_wp2_with (first | (go_at_call 11; (with_reducible refine N.out.mono ?_); rintro e w2 ⟨rfl, hs2, hb2⟩; have HB2 := Lib.hid (And.intro hs2 hb2); clear hs2 hb2))
      go_ret2
      have e := take_of_drop ys k HH.out.2.2.2
      refine ⟨⟨_, rfl, ?_, nil_of HK0.out HNL.out⟩, ⟨.slice none 0 0, ?_⟩, HH.out.2.2.1.trans (HB2.out.2.mono zw)⟩
      · rw [← e]; exact HH.out.2.1.far HB2.out.2.size HH.out.1.ses (Far.but HB2.out.2)
      · rw [Bool.or_true]; exact ⟨HB2.out.1, .inr ⟨rfl, rfl⟩, In5.nil _⟩
    | one _ xs p ys2 _ _ hm h0 hl hx hrec =>
      have hlen : ((ys.take k).map bytesOf).length = k := by simp; omega
      have hkl : k < ys.length := by
        rcases Nat.lt_or_ge k ys.length with g | g
        · exact g
        · rw [List.drop_of_length_le g] at hD; cases hD
      have hns9 := noStr9 (br := br0) HN.out (by obtain ⟨A, c, h, _⟩ := hat.own.slice; exact ⟨_, _, _, h⟩)
      have N := Lib.hid (Next_okT b c wr.heap.size hbc l' xs p wr _ _ _ _ _ _ _ _ _ hat.ses hat.own hm h0 hl hx (Nat.le_trans hc zw) (Nat.le_refl _) hat.in5 hns9)
      have HH := Lib.hid (And.intro hat (And.intro hrs (And.intro hbut (And.intro hD hrec))))
      clear hat hrs hbut hD HX hrec hns9
      go_wp2_with (first | (go_at_call 11; (with_reducible refine N.out.mono ?_); rintro e w2 ⟨⟨v5, rfl, hx5, h9⟩, vin5, hs5, ho5, hb5, hi5⟩; refine Hid.out ?_))
      have HA2 := Lib.hid (show At b c w2 vin5 vout br0 mu sp q k2 k3 k4 (l'.drop p) from ⟨hs5, ho5, hi5⟩)
      obtain ⟨A5, c5, hv5, _, _, _⟩ := id hx5
      rw [List.length_map] at hv5
      subst hv5
      have HS5 := Lib.hid (And.intro hx5 h9)
      clear hx5
      have hr2 := HH.out.2.1.far hb5.size HH.out.1.ses (Far.but hb5)
      obtain ⟨vs, g1, g2, g3⟩ := hr2
      rw [hlen] at g1 g2
      have hz2 : wr.heap.size ≤ w2.heap.size := hb5.size
      have HB5 := Lib.hid hb5
      have OWN := Lib.hid (show ∀ o, (w2.alloc o).ownsRow w.heap.size 26 1 (.slice A k cap) k vs from fun o => ⟨g1.1, by
        rcases g1.2 with g | ⟨g, cap', cur, r1, r2, r3, r4⟩
        · exact .inl g
        · exact .inr ⟨g, cap', cur, r1, r2, (keep_alloc o g (Array.getElem?_eq_some_iff.1 r3).1).trans r3, r4⟩⟩)
      have HV := Lib.hid (And.intro g2 g3)
      have hm1 : 0 < 1 := Nat.one_pos
      have h63 : k + 1 ≤ maxLen := by unfold maxLen; omega
      have hby : (k + 1) * 24 ≤ 140737488355328 := by omega
      have HONE := Lib.hid (show ∀ u ∈ [Value.slice A5 xs.length c5], u.oneCell' = true from fun u hu => by simp at hu; subst hu; rfl)
      have HBX := Lib.hid (show ∀ o, w.heap.size ≤ (w2.alloc o).heap.size from fun o => by simp; omega)
      clear g1 g2 g3 h9 hs5 ho5 hb5 hi5
      refine Lib.hid ?_
      go_wp2_with (first | (at_builtin; refine wpList_append_lies _ rfl _ _ 22 rfl w.heap.size 26 i0 (.slice none 0 0) 1 24 Tryd.underlying22 HI.out.1 HI.out.2.1 HI.out.2.2.1 HI.out.2.2.2 rfl hm1 (.slice A k cap) k vs rfl (OWN.out _) ⟨_, 0, none⟩ 1 1 _ rfl rfl (World.news_of_block (heap_alloc_new _ _)) HONE.out hm1 h63 hby (HBX.out _) _ rfl ?_; intro g6 cap6 w6 hown6 hgrow6 hat6 hlt6; have HG := Lib.hid (And.intro (keep26_of (OWN.out _) hgrow6) (And.intro hgrow6.size hown6)); have HGB := Lib.hid (below_grown (OWN.out _) (HBX.out _) hgrow6); clear hown6 hgrow6 hat6 hlt6; refine Hid.out ?_))
      refine Lib.hid ?_
      go_wp2
      obtain ⟨e1, e2⟩ := drop_succ ys k xs ys2 HH.out.2.2.2.1
      have ba := box_below w2 (.cells #[Value.slice A5 xs.length c5] 26)
      have kp : ∀ (u : Value) (zs : List ByteArray), SSl w2 u zs ∧ In9 w2 u → SSl (w2.alloc (.cells #[Value.slice A5 xs.length c5] 26)) u zs ∧ In9 (w2.alloc (.cells #[Value.slice A5 xs.length c5] 26)) u :=
        fun u zs ⟨q1, q2⟩ => ⟨q1.below ba, q2.kept fun k cs fr hh => ba.block k (Array.getElem?_eq_some_iff.1 hh).1⟩
      refine ⟨⟨k + 1, by omega, ⟨_, cap6, rfl, fun h => by omega⟩, Lib.hid ⟨l'.drop p, vin5, by rw [e1]; exact HH.out.2.2.2.2, (HA2.out.below ba).kept HG.out.2.1 HG.out.1, ?_, ?_⟩⟩, by simp [sliceLen]; omega⟩
      · rw [e2, List.map_append]
        refine RsO.push (u := .slice A5 xs.length c5) (by rw [hlen]; exact HV.out.1) (fun i u zs hi hx => kp _ _ (HV.out.2 i u zs hi hx)) (kp _ _ HS5.out) HG.out.2.1 HG.out.1 ?_
        rw [hlen]
        exact HG.out.2.2
      · exact ((HH.out.2.2.1.trans (HB5.out.mono zw)).trans (But.of (ba.mono (Nat.le_trans zw hz2)))).trans (But.of HGB.out)
end Go.Proofs.YtnfflkappbjoeaaDoor
