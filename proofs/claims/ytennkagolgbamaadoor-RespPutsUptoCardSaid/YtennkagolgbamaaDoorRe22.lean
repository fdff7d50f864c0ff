/- resp.Put at a text, at an array, at each reply. -/
import Derived.Test.YtennkagolgbamaaDoorRe21
import Derived.Deep.RegionHeldLaw
namespace Go.Proofs.YtennkagolgbamaaDoor
open Go.ChangeShapes Go.WideShapes Go.ChangeAt Go.RowKit Go.Resp

theorem step_app {ops : Array Oper} {o : Oper} {a : Act} {K : Act → World → Prop} {Q : Exit → Act → World → Prop} {E : Prop} (w : World) (hgd : o.guard = none) (s x : Operand) (hop : o.op = Op.call { callee := Callee.builtin Builtin.append, args := #[s, x], argTypes := #[27, 27] })
    (B : Nat) (l l2 : List UInt8) (v u : Value) (hs : a.eval s = v) (h : OwnB B w v l) (hx : a.eval x = u) (h2 : BSl w u l2) (hne : l2 ≠ []) (hb : l.length + l2.length ≤ 140737488355328)
    (k : ∀ v' w', OwnB B w' v' (l ++ l2) → Below B w w' → K (a.put o.dst v') w') :
    if Region.wanted o (yielded ops a.tmps) = true then Oper.wp Tryd.prog o a w K Q else E :=
  step_append_B w hgd s x hop B l l2 v u hs h hx h2 hne hb (by obtain ⟨g, cap, _, h1, h2, _⟩ := h; omega) k
theorem sum_mono (bs : Nat → Nat) (a b : Nat) (h : a ≤ b) : ((List.range a).map bs).sum ≤ ((List.range b).map bs).sum := by
  induction b with
  | zero => obtain rfl : a = 0 := by omega
            exact Nat.le_refl _
  | succ b ih =>
    rcases Nat.lt_or_ge a (b + 1) with g | g
    · have := ih (by omega)
      rw [List.range_succ, List.map_append, List.sum_append]
      omega
    · obtain rfl : a = b + 1 := by omega
      exact Nat.le_refl _
theorem getD_set2 (l : List Value) (v : Value) (h : 2 < l.length) : (l.set 2 v).toArray.getD 2 undef = v := by
  simp [Array.getD, h]
set_option maxHeartbeats 2000000 in
theorem put_four {w0 : World} (hT : Tab w0) (n : Int) (s : ByteArray) (l : Value) (hs : s.size ≤ 1048576) : PutAt w0 4 n s l (lineL (36 :: Lib.decDigits s.size) ++ lineL s.data.toList) := by
  intro w hi
  obtain ⟨wb, hwb⟩ : ∃ wb, wb = w.alloc (.cells #[.int .i64 4, .int .i64 n, .string s, l] 24) := ⟨_, rfl⟩
  have bw : Below w.heap.size w wb := by rw [hwb]; exact box_below w _
  have hc0 : wb.cell? ⟨w.heap.size, 2, none⟩ = some (.string s) := by rw [hwb, World.cell?_alloc_mark]; rfl
  have hlt : w.heap.size < wb.heap.size := by rw [hwb]; simp
  have hd1 := dec_len s.size (by omega)
  have hd2 : (digB s.size).size ≤ 21 := hd1
  have hd : ({ data := #[36] } ++ digB s.size : ByteArray).size = 1 + (digB s.size).size := by rw [ByteArray.size_append]; rfl
  have hsl : s.data.toList.length = s.size := by simp
  have IW : Inv w0 wb := hi.on bw
  have S0 : wb.drew.cell? ⟨w.heap.size, 2, none⟩ = some (.string s) ∧ Below wb.heap.size wb wb.drew := ⟨hc0, ⟨rfl, rfl, rfl, Nat.le_refl _, fun _ _ => rfl⟩⟩
  have SKb := Lib.hid (show ∀ X Y : World, (X.cell? ⟨w.heap.size, 2, none⟩ = some (.string s) ∧ Below wb.heap.size wb X) → Below wb.heap.size X Y → (Y.cell? ⟨w.heap.size, 2, none⟩ = some (.string s) ∧ Below wb.heap.size wb Y) from
    fun X Y ⟨q1, q2⟩ q3 => ⟨(q3.cell (p := ⟨w.heap.size, 2, none⟩) hlt).trans q1, q2.trans q3⟩)
  have SK := Lib.hid (show ∀ X Y : World, (X.cell? ⟨w.heap.size, 2, none⟩ = some (.string s) ∧ Below wb.heap.size wb X) → Below X.heap.size X Y → (Y.cell? ⟨w.heap.size, 2, none⟩ = some (.string s) ∧ Below wb.heap.size wb Y) from
    fun X Y q q3 => SKb.out X Y q (q3.mono (Below.size q.2)))
  have ITS := Lib.hid (show ∀ X : World, (X.cell? ⟨w.heap.size, 2, none⟩ = some (.string s) ∧ Below wb.heap.size wb X) → Calls Tryd.prog 23 #[.int .i64 (s.size : Int)] X fun e w' => e = .returned (.string (digB s.size)) ∧ Below X.heap.size X w' from
    fun X h => Itoa23 hT s.size (by omega) X (IW.on h.2))
  have LA := Lib.hid (show ∀ X : World, (X.cell? ⟨w.heap.size, 2, none⟩ = some (.string s) ∧ Below wb.heap.size wb X) → Calls Tryd.prog 21 #[.string ({ data := #[36] } ++ digB s.size)] X fun e w' => ∃ v, e = .returned v ∧ OwnB wb.heap.size w' v (lineL (36 :: Lib.decDigits s.size)) ∧ Below X.heap.size X w' from
    fun X h => (lineO _ (by rw [hd]; omega) X).mono fun e w' ⟨v, h1, h2, h3⟩ => ⟨v, h1, by
      have e1 : (({ data := #[36] } ++ digB s.size : ByteArray).data.toList ++ [13, 10]) = lineL (36 :: Lib.decDigits s.size) := by unfold lineL digB; simp
      rw [e1] at h2
      exact h2.mono (Below.size h.2), h3⟩)
  have LB := Lib.hid (show ∀ X : World, (X.cell? ⟨w.heap.size, 2, none⟩ = some (.string s) ∧ Below wb.heap.size wb X) → Calls Tryd.prog 21 #[.string s] X fun e w' => ∃ v, e = .returned v ∧ OwnB wb.heap.size w' v (lineL s.data.toList) ∧ Below X.heap.size X w' from
    fun X h => (lineO s (by omega) X).mono fun e w' ⟨v, h1, h2, h3⟩ => ⟨v, h1, h2.mono (Below.size h.2), h3⟩)
  have hne : lineL s.data.toList ≠ [] := by unfold lineL; simp
  have hlen : (lineL (36 :: Lib.decDigits s.size)).length + (lineL s.data.toList).length ≤ 140737488355328 := by unfold lineL; simp; omega
  obtain ⟨la, hla⟩ : ∃ la, lineL (36 :: Lib.decDigits s.size) = la := ⟨_, rfl⟩
  obtain ⟨lb, hlb⟩ : ∃ lb, lineL s.data.toList = lb := ⟨_, rfl⟩
  rw [hla] at LA hlen
  rw [hlb] at LB hlen hne
  rw [hla, hlb]
  have m1 : ¬ (1 + (digB s.size).size > 9223372036854775807) := by omega
  have BW := Lib.hid bw
  clear hla hlb IW hi bw
  go_enter Tryd.func11, Tryd.ntmps11
  go_wp2
  rw [← hwb]
  clear hwb
  go_region_held_law (fun w' => w'.cell? ⟨w.heap.size, 2, none⟩ = some (.string s) ∧ Below wb.heap.size wb w') (first | exact S0 | exact SK.out _ _ (by assumption) (by assumption) | exact SKb.out _ _ (by assumption) (by assumption) | exact SK.out _ _ ⟨by assumption, by assumption⟩ (by assumption) | exact SKb.out _ _ ⟨by assumption, by assumption⟩ (by assumption))
    (first
      | (refine step_app _ rfl _ _ rfl wb.heap.size la lb _ _ rfl (hOa.below hbb) rfl hOb.slice hne hlen ?_; intro v9 w9 hO9 hb9)
      | (refine step_app _ rfl _ _ rfl wb.heap.size la lb _ _ rfl hOa rfl (hOb.below hba).slice hne hlen ?_; intro v9 w9 hO9 hb9)
      | (refine step_app _ rfl _ _ rfl wb.heap.size la lb _ _ rfl hOa rfl ((hOb.below hb5).below hba).slice hne hlen ?_; intro v9 w9 hO9 hb9)
      | (go_at_call 23; refine (ITS.out _ ?_).mono ?_; assumption; rintro e w5 ⟨rfl, hb5⟩)
      | (go_at_call 21; refine (LA.out _ ?_).mono ?_; assumption; rintro e w6 ⟨v6, rfl, hOa, hba⟩)
      | (go_at_call 21; refine (LB.out _ ?_).mono ?_; assumption; rintro e w7 ⟨v7, rfl, hOb, hbb⟩))
  all_goals
    have hS9 : w9.cell? ⟨w.heap.size, 2, none⟩ = some (.string s) ∧ Below wb.heap.size wb w9 := by assumption
    go_wp2
    go_ret
    exact ⟨v9, congrArg Ending.returned (getD_set2 _ v9 (by simp)), .inl (hO9.mono (Nat.le_of_lt hlt)), BW.out.trans (hS9.2.mono (Nat.le_of_lt hlt))⟩
set_option maxHeartbeats 4000000 in
theorem put_six {w0 : World} (hT : Tab w0) (n : Int) (s : ByteArray) (A : Option Addr) (m cap blk off : Nat) (ks ns : Nat → Int) (ss : Nat → ByteArray) (ls : Nat → Value) (bs : Nat → Nat) (outs : Nat → List UInt8)
    (hm : m ≤ cap) (hc : cap ≤ maxLen) (hA : 0 < m → A = some ⟨blk, off, none⟩ ∧ blk < w0.heap.size)
    (hcell : ∀ i, i < m → w0.rangeAt blk (off + i * 4) (repC (ks i) (ns i) (ss i) (ls i)))
    (hsl : ∀ i, i < m → ∃ A' n' c', ls i = .slice A' n' c') (ih : ∀ i, i < m → PutAt w0 (ks i) (ns i) (ss i) (ls i) (outs i)) (hlen : ∀ i, i < m → (outs i).length ≤ 40 * bs i) (hb : ((List.range m).map bs).sum ≤ 1048576) (hm2 : m ≤ 1048576) :
    PutAt w0 6 n s (.slice A m cap) (lineL (42 :: Lib.decDigits m) ++ (List.range m).flatMap outs) := by
  intro w hi
  obtain ⟨wb, hwb⟩ : ∃ wb, wb = w.alloc (.cells #[.int .i64 6, .int .i64 n, .string s, .slice A m cap] 24) := ⟨_, rfl⟩
  have bw : Below w.heap.size w wb := by rw [hwb]; exact box_below w _
  have hbox : wb.rangeAt w.heap.size 0 (repC 6 n s (.slice A m cap)) := by rw [hwb]; exact box_at w 6 n s _ _ _
  have hlt0 : w.heap.size < wb.heap.size := by rw [hwb]; simp
  have hd1 := dec_len m (by omega)
  have hd2 : (digB m).size ≤ 21 := hd1
  have hd : ({ data := #[42] } ++ digB m : ByteArray).size = 1 + (digB m).size := by rw [ByteArray.size_append]; rfl
  have IW := Lib.hid (show Inv w0 wb from hi.on bw)
  have L := Lib.hid (show ∀ X : World, Calls Tryd.prog 21 #[.string ({ data := #[42] } ++ digB m)] X fun e w' => ∃ v, e = .returned v ∧ OwnB X.heap.size w' v (lineL (42 :: Lib.decDigits m)) ∧ Below X.heap.size X w' from
    fun X => (lineO _ (by rw [hd]; omega) X).mono fun e w' ⟨v, h1, h2, h3⟩ => ⟨v, h1, by
      have e1 : (({ data := #[42] } ++ digB m : ByteArray).data.toList ++ [13, 10]) = lineL (42 :: Lib.decDigits m) := by unfold lineL digB; simp
      rw [e1] at h2
      exact h2, h3⟩)
  have F := Lib.hid (fun w => Itoa23 hT m (by omega) w)
  have IH := Lib.hid ih
  have HA := Lib.hid (And.intro hA (And.intro hcell hc))
  have HL := Lib.hid (And.intro hlen hb)
  have BW := Lib.hid bw
  have HBX := Lib.hid hbox
  have HS := Lib.hid hsl
  have hq : (lineL (42 :: Lib.decDigits m)).length ≤ 30 := by unfold lineL; simp; omega
  obtain ⟨c0, c1, c2, c3⟩ := range_cells hbox
  rw [Nat.zero_add] at c3
  obtain ⟨la, hla⟩ : ∃ la, lineL (42 :: Lib.decDigits m) = la := ⟨_, rfl⟩
  have HNE := Lib.hid (show la ≠ [] by rw [← hla]; unfold lineL; simp)
  rw [hla] at L hq
  rw [hla]
  have m1 : ¬ (9223372036854775807 < 1 + (Lib.decDigits m).length) := by omega
  clear hla hi bw hbox hsl ih hA hcell hlen hb c0 c1 c2 hc
  go_enter Tryd.func11, Tryd.ntmps11
  go_wp2_with (first | (go_at_call 23; rw [← hwb]; (with_reducible refine (F.out _ IW.out).mono ?_); rintro e w1 ⟨rfl, hb1⟩; have HB1 := Lib.hid hb1; clear hb1; refine Hid.out ?_))
  refine Lib.hid ?_
  go_wp2_with (first | (go_at_call 21; (with_reducible refine (L.out _).mono ?_); rintro e w2 ⟨v2, rfl, hO, hb2⟩; have HO := Lib.hid (And.intro hO hb2); clear hO hb2; refine Hid.out ?_))
  refine Lib.hid ?_
  have B2 := Lib.hid (show Below wb.heap.size wb w2 from HB1.out.trans (HO.out.2.mono (Below.size HB1.out)))
  have c3b := (B2.out.cell (p := ⟨w.heap.size, 3, none⟩) hlt0).trans c3
  go_wp2
  go_loopw [3, 57] (fun b i wr => ∃ j : Nat, j ≤ m ∧ i = .int .i64 j ∧ Hid (OwnB wb.heap.size wr b (la ++ (List.range j).flatMap outs) ∧ Below wb.heap.size wb wr)) (fun _ i _ => m - (intOf i).toNat)
  case atStart => exact ⟨0, Nat.zero_le _, rfl, Lib.hid ⟨by simpa using HO.out.1.mono (Below.size HB1.out), B2.out⟩⟩
  case round =>
    obtain ⟨j, hj, rfl, HR⟩ := hrel
    have hm64 : (m : Int) ≤ 9223372036854775807 := by omega
    by_cases hlt : j < m
    · have hjm : ((j : Int) < (m : Int)) := by omega
      have IR : Inv w0 wr := IW.out.on HR.out.2
      obtain ⟨rfl, hblk⟩ := HA.out.1 (by omega)
      obtain ⟨d0, d1, d2, d3⟩ := range_cells (rangeAt_below (HA.out.2.1 j hlt) IR hblk)
      obtain ⟨A', n', c', hls⟩ := HS.out j hlt
      have hP := IH.out j hlt
      rw [hls] at hP d3
      have b1 : ∀ o, Below wb.heap.size wb (wr.alloc o) := fun o => HR.out.2.trans ((box_below wr o).mono (Below.size HR.out.2))
      have P := Lib.hid (fun o => hP (wr.alloc o) (IW.out.on (b1 o)))
      have B1 := Lib.hid b1
      have O1 := Lib.hid (fun o => HR.out.1.below (box_below wr o))
      clear hP b1 IR
      go_wp2_with (first | (go_at_call 11; (with_reducible refine (P.out _).mono ?_); rintro e w3 ⟨v3, rfl, hO3, hb3⟩; have HO3 := Lib.hid hO3; have HB3 := Lib.hid (And.intro ((B1.out _).trans (hb3.mono (Below.size (B1.out _)))) ((O1.out _).below hb3)); clear hO3 hb3; refine Hid.out ?_))
      refine Lib.hid ?_
      have e8 : (List.range (j + 1)).flatMap outs = (List.range j).flatMap outs ++ outs j := by rw [List.range_succ, List.flatMap_append]; simp
      have q1 : (la ++ (List.range j).flatMap outs).length + (outs j).length ≤ 140737488355328 := by
        have h1 := flat_sum outs bs (j + 1) (fun i hi => HL.out.1 i (by omega))
        have h2 : ((List.range (j + 1)).map bs).sum ≤ ((List.range m).map bs).sum := sum_mono bs (j + 1) m (by omega)
        have h3 := HL.out.2
        rw [e8, List.length_append] at h1
        rw [List.length_append]
        omega
      have HB4 := Lib.hid HO3.out.slice
      have bw3 := Below.size HB3.out.1
      go_wp2_with (first | (at_builtin; refine append_N _ rfl _ _ rfl wb.heap.size _ _ _ _ rfl (.inl HB3.out.2) rfl HB4.out q1 bw3 ?_; intro v4 w4 hO4 hb4; have HO4 := Lib.hid (And.intro hO4 hb4); clear hO4 hb4; refine Hid.out ?_))
      refine Lib.hid ?_
      go_wp2
      refine ⟨⟨j + 1, by omega, by go_num, Lib.hid ⟨?_, HB3.out.1.trans HO4.out.2⟩⟩, by simp [intOf]; omega⟩
      rw [e8, ← List.append_assoc]
      rcases HO4.out.1 with h | ⟨h, _⟩
      · simpa using h
      · have := HNE.out
        simp at h
        exact absurd h.1 this
    · have hjm : ¬ ((j : Int) < (m : Int)) := by omega
      obtain rfl : j = m := by omega
      go_wp2
      go_ret
      exact ⟨_, rfl, .inl (HR.out.1.mono (Nat.le_of_lt hlt0)), BW.out.trans (HR.out.2.mono (Nat.le_of_lt hlt0))⟩
theorem RV.sl {w : World} {k n : Int} {s : ByteArray} {l : Value} {b : Nat} {out : List UInt8} (h : RV w k n s l b out) : ∃ A n c, l = .slice A n c := by
  cases h
  exact ⟨_, _, _, rfl⟩
theorem Put11 {w0 : World} (hT : Tab w0) {k n : Int} {s : ByteArray} {l : Value} {b : Nat} {out : List UInt8} (h : RV w0 k n s l b out) (hb1 : b ≤ 1048576) : PutAt w0 k n s l out := by
  induction h with
  | mk k n s A m cap blk off ks ns ss ls bs outs b hk hn hm hc hA hcell hv hb ih =>
    have hle : ∀ i, i < m → bs i ≤ ((List.range m).map bs).sum := fun i hi => le_sum bs m i hi
    have h2 := sum_ge bs m (fun i hi => (hv i hi).pos)
    unfold putL
    by_cases h1 : k = 1
    · subst h1; exact put_one w0 n s _ (by omega)
    rw [if_neg h1]
    by_cases h1 : k = 2
    · subst h1; exact put_two hT n hn s _
    rw [if_neg h1]
    by_cases h1 : k = 3
    · subst h1; exact put_three hT n hn s _
    rw [if_neg h1]
    by_cases h1 : k = 4
    · subst h1; exact put_four hT n s _ (by omega)
    rw [if_neg h1]
    by_cases h1 : k = 5
    · subst h1; exact put_five w0 n s _
    rw [if_neg h1]
    by_cases h1 : k = 7
    · subst h1; exact put_seven w0 n s _
    rw [if_neg h1]
    by_cases h1 : k = 6
    · subst h1
      exact put_six hT n s A m cap blk off ks ns ss ls bs outs hm hc hA hcell (fun i hi => (hv i hi).sl) (fun i hi => ih i hi (by have := hle i hi; omega)) (fun i hi => (hv i hi).len (by have := hle i hi; omega)) (by omega) (by omega)
    rw [if_neg h1]
    exact put_none w0 k n s _ (by assumption) (by assumption) (by assumption) (by assumption) (by assumption) (by assumption) (by assumption)
end Go.Proofs.YtennkagolgbamaaDoor
