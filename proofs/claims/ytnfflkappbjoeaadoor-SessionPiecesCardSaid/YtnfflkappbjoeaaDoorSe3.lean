/- Contracts of session.New, Push. -/
import Derived.Test.YtnfflkappbjoeaaDoorSe2
import Derived.BigRegion
namespace Go.Proofs.YtnfflkappbjoeaaDoor
open Go.ChangeShapes Go.WideShapes Go.ChangeAt Go.RowKit Go.Resp

def nl : Value := .slice none 0 0
/-- A session at its beginning. -/
def ses0 : Array Value := #[.slice none 0 0, .slice none 0 0, .bool false, .bool false, .bool false, .slice none 0 0, .slice none 0 0, .slice none 0 0, .slice none 0 0]
theorem New5 (w : World) : Calls Tryd.prog 7 #[] w fun e w' => e = .returned (.pointer (some ⟨w.heap.size, 0, none⟩)) ∧ w.alloc (.cells ses0 49) = w' := by
  go_enter Tryd.func7, Tryd.ntmps7
  go_wp2
  go_ret
  exact ⟨rfl, rfl⟩
theorem Push_nil (v : ByteArray) (w : World) : Calls Tryd.prog 8 #[.pointer none, .string v] w fun e w' => e = .returned (.int .i64 24) ∧ w = w' := by
  go_enter Tryd.func8, Tryd.ntmps8
  go_wp2
  go_ret
  exact ⟨rfl, rfl⟩
theorem byteCells_map (s : ByteArray) : byteCells s = s.data.toList.map cellB := rfl
theorem size_list (s : ByteArray) : s.size = s.data.toList.length := by simp
set_option maxHeartbeats 1000000 in
theorem Push_ok (b c : Nat) (hbc : b < c) (s : ByteArray) (l : List UInt8) (w : World) (vin vout mu sp q k2 k3 k4 : Value) (h : Ses w b #[vin, vout, .bool false, mu, sp, q, k2, k3, k4]) (ho : OwnG c w vin l) (hc : c ≤ w.heap.size)
    (hfit : (l.length : Int) + (s.size : Int) ≤ 65536) (h5 : In5 w vin) :
    Calls Tryd.prog 8 #[.pointer (some ⟨b, 0, none⟩), .string s] w fun e w' => e = .returned (.int .i64 0) ∧ ∃ vin', Ses w' b #[vin', vout, .bool false, mu, sp, q, k2, k3, k4] ∧ OwnG c w' vin' (l ++ s.data.toList) ∧ But b c w w' ∧ In5 w' vin' ∧ Far b w w' := by
  have HS := Lib.hid h
  have HO := Lib.hid ho
  have H5 := Lib.hid h5
  clear h5
  obtain ⟨c0, c1, c2, c3, c4, c5, f0, f1, f2, f3, f4, f5⟩ := h.all
  obtain ⟨A, cap, rfl, p1, p2, p3⟩ := ho.slice
  unfold maxLen at p2
  have hfit' : (s.size : Int) ≤ 65536 - (l.length : Int) := by omega
  have hsrc := Lib.hid (Src.ofString (P := Tryd.prog) w (tx := 9) Tryd.underlying9 s)
  have q1 : l.length + s.data.toList.length ≤ 140737488355328 := by rw [← size_list]; omega
  have HL := Lib.hid (size_list s)
  clear h ho p3 c1 c3 c4 c5 f1 f2 f3 f4 f5
  go_enter Tryd.func8, Tryd.ntmps8
  go_wp2_with (first | (at_builtin; refine append_G w rfl _ _ 9 rfl c l s.data.toList _ _ rfl HO.out rfl (by have := hsrc.out; rw [HL.out, byteCells_map] at this; exact this) q1 hc H5.out ?_; intro v' w' hO ⟨hb, hI, hF⟩; refine Hid.out ?_))
  refine Lib.hid ?_
  obtain ⟨A2, cap2, hv, _, _, _⟩ := hO.slice
  rw [List.length_append, ← HL.out] at hv
  subst hv
  have HO' := Lib.hid hO
  have HB := Lib.hid hb
  have HF := Lib.hid (And.intro hI hF)
  have HS' := Lib.hid (HS.out.far (hb.block b hbc))
  obtain ⟨c0', _, _, _, _, _, f0', _, _, _, _, _⟩ := HS'.out.all
  clear hO hb c0 f0 hI hF
  go_wp2
  go_ret
  exact ⟨rfl, _, HS'.out.set_ 0 _, HO'.out.set_ hbc 0 _, (But.of HB.out).set_ 0 _, HF.out.1.set_ HS'.out 0 _, fun k hk hkb ht => (Below.heap_setCell _ ⟨b, 0, none⟩ _ k hkb).trans (HF.out.2 k hk ht)⟩
theorem Push_full (b : Nat) (s : ByteArray) (l : List UInt8) (w : World) (vin vout mu sp q k2 k3 k4 : Value) (h : Ses w b #[vin, vout, .bool false, mu, sp, q, k2, k3, k4]) (ho : BSl w vin l)
    (hl : (l.length : Int) ≤ 65536) (hfit : 65536 < (l.length : Int) + (s.size : Int)) :
    Calls Tryd.prog 8 #[.pointer (some ⟨b, 0, none⟩), .string s] w fun e w' => e = .returned (.int .i64 8) ∧ w = w' := by
  obtain ⟨c0, c1, c2, c3, c4, c5, f0, f1, f2, f3, f4, f5⟩ := h.all
  obtain ⟨A, cap, rfl, p1, p2, p3⟩ := ho
  unfold maxLen at p2
  have hfit' : 65536 - (l.length : Int) < (s.size : Int) := by omega
  clear h p3 c1 c3 c4 c5 f1 f2 f3 f4 f5
  go_enter Tryd.func8, Tryd.ntmps8
  go_wp2
  go_ret
  exact ⟨rfl, rfl⟩
theorem Push_broken (b : Nat) (s : ByteArray) (w : World) (vin vout mu sp q k2 k3 k4 : Value) (h : Ses w b #[vin, vout, .bool true, mu, sp, q, k2, k3, k4]) :
    Calls Tryd.prog 8 #[.pointer (some ⟨b, 0, none⟩), .string s] w fun e w' => e = .returned (.int .i64 22) ∧ w = w' := by
  obtain ⟨c0, c1, c2, c3, c4, c5, f0, f1, f2, f3, f4, f5⟩ := h.all
  clear h c1 c3 c4 c5 f1 f2 f3 f4 f5
  go_enter Tryd.func8, Tryd.ntmps8
  go_wp2
  go_ret
  exact ⟨rfl, rfl⟩
theorem Next_nil (w : World) : Calls Tryd.prog 11 #[.pointer none] w fun e w' => e = .returned (.tuple #[.slice none 0 0, .int .i64 24]) ∧ w = w' := by
  go_enter Tryd.func11, Tryd.ntmps11
  go_wp2
  go_ret2
  exact ⟨rfl, rfl⟩
theorem Multi_nil (w : World) : Calls Tryd.prog 15 #[.pointer none] w fun e w' => e = .returned (.bool false) ∧ w = w' := by
  go_enter Tryd.func15, Tryd.ntmps15
  go_wp2
  go_ret
  exact ⟨rfl, rfl⟩
theorem Multi_ok (b : Nat) (m : Bool) (w : World) (vin vout br sp q k2 k3 k4 : Value) (h : Ses w b #[vin, vout, br, .bool m, sp, q, k2, k3, k4]) : Calls Tryd.prog 15 #[.pointer (some ⟨b, 0, none⟩)] w fun e w' => e = .returned (.bool m) ∧ w = w' := by
  obtain ⟨c0, c1, c2, c3, c4, c5, f0, f1, f2, f3, f4, f5⟩ := h.all
  clear h c0 c1 c2 c4 c5 f0 f1 f2 f3 f4 f5
  go_enter Tryd.func15, Tryd.ntmps15
  go_wp2
  go_ret
  exact ⟨by simp, rfl⟩
/-- No whole command: more is wanted. -/
theorem Next_more (b : Nat) (l : List UInt8) (w : World) (vin vout br mu sp q k2 k3 k4 : Value) (h : Ses w b #[vin, vout, br, mu, sp, q, k2, k3, k4]) (ho : BSl w vin l) (hr : readT l = ([], 0, 1)) :
    Calls Tryd.prog 11 #[.pointer (some ⟨b, 0, none⟩)] w fun e w' => e = .returned (.tuple #[.slice none 0 0, .int .i64 25]) ∧ Below w.heap.size w w' := by
  obtain ⟨c0, c1, c2, c3, c4, c5, f0, f1, f2, f3, f4, f5⟩ := h.all
  have RD := read_of w vin l [] 0 1 0 rfl ho hr (by simp)
  have RD' := Lib.hid RD
  obtain ⟨A, cap, rfl, p1, p2, p3⟩ := ho
  unfold maxLen at p2
  clear h p3 RD c1 c2 c3 c4 c5 f0 f1 f2 f3 f4 f5
  go_enter Tryd.func11, Tryd.ntmps11
  go_wp2_with (first | (go_at_call 18; (with_reducible refine RD'.out.mono ?_); rintro e w4 ⟨v4, rfl, hy, hb4⟩; have HB := Lib.hid hb4; clear hy hb4))
  go_ret2
  exact ⟨rfl, HB.out⟩
/-- No frame. -/
theorem Next_bad (b c : Nat) (l : List UInt8) (w : World) (vin vout br mu sp q k2 k3 k4 : Value) (h : Ses w b #[vin, vout, br, mu, sp, q, k2, k3, k4]) (ho : BSl w vin l) (hr : readT l = ([], 0, 2)) (hc : c ≤ w.heap.size) :
    Calls Tryd.prog 11 #[.pointer (some ⟨b, 0, none⟩)] w fun e w' => e = .returned (.tuple #[.slice none 0 0, .int .i64 22]) ∧ Ses w' b #[.slice none 0 0, vout, .bool true, mu, sp, q, k2, k3, k4] ∧ But b c w w' := by
  obtain ⟨c0, c1, c2, c3, c4, c5, f0, f1, f2, f3, f4, f5⟩ := h.all
  have HS := Lib.hid h
  have RD := read_of w vin l [] 0 2 22 rfl ho hr (by simp)
  have RD' := Lib.hid RD
  obtain ⟨A, cap, rfl, p1, p2, p3⟩ := ho
  unfold maxLen at p2
  clear h p3 RD c1 c2 c3 c4 c5 f0 f1 f2 f3 f4 f5
  go_enter Tryd.func11, Tryd.ntmps11
  go_wp2_with (first | (go_at_call 18; (with_reducible refine RD'.out.mono ?_); rintro e w4 ⟨v4, rfl, hy, hb4⟩; refine Hid.out ?_))
  have HS' := Lib.hid (HS.out.below hb4)
  have HB := Lib.hid (But.of (b := b) (Below.mono hb4 hc))
  obtain ⟨c0', _, c2', _, _, _, f0', _, f2', _, _, _⟩ := HS'.out.all
  clear hy hb4 c0
  refine Lib.hid ?_
  go_wp2
  go_ret2
  exact ⟨rfl, (HS'.out.set_ 0 _).set_ 2 _, (HB.out.set_ 0 _).set_ 2 _⟩
/-- A whole command: what stands behind it waits. -/
theorem OwnG.cut {c g off n cap : Nat} {w : World} {l : List UInt8} (h : OwnG c w (.slice (some ⟨g, off, none⟩) n cap) l) (p : Nat) (hp : p ≤ n) : OwnG c w (.slice (if n = p then some ⟨g, off, none⟩ else some ⟨g, off + p, none⟩) (n - p) (n - p)) (l.drop p) := by
  rcases h with ⟨g', off', cap', h1, h2, h3, h4, h5, h6, h7⟩ | ⟨h1, h2⟩
  · injection h1 with e1 e2 e3
    injection e1 with e1
    injection e1 with e1 e4
    subst e1 e2 e3 e4
    by_cases hnp : l.length = p
    · rw [if_pos hnp]
      refine .inl ⟨g, off, l.length - p, by rw [List.length_drop], h2, h3, by rw [List.length_drop]; exact Nat.le_refl _, by omega, ?_, fun j hj => h7 j (by omega)⟩
      rw [List.drop_of_length_le (by omega)]
      intro i x hx; cases hx
    · rw [if_neg hnp]
      refine .inl ⟨g, off + p, l.length - p, by rw [List.length_drop], h2, h3, by rw [List.length_drop]; exact Nat.le_refl _, by omega, ?_, fun j hj => ?_⟩
      · intro i x hx
        rw [List.getElem?_drop] at hx
        rw [Nat.add_assoc]
        exact h6 (p + i) x hx
      · rw [Nat.add_assoc]
        exact h7 (p + j) (by omega)
  · cases h2
def isStr : Value → Bool | .string _ => true | _ => false
/-- No cell of a session is a text. -/
def noStr (cs : Array Value) : Bool := cs.toList.all fun v => !isStr v
theorem ses_str {cs : Array Value} (h : noStr cs = true) (i : Nat) (s : ByteArray) (hi : cs[i]? = some (Value.string s)) : False := by
  unfold noStr at h
  rw [List.all_eq_true] at h
  have := h (.string s) (by rw [← Array.getElem?_toList] at hi; exact List.mem_of_getElem? hi)
  cases this
/-- Texts stay while a session's cell is written. -/
theorem SSl.set_ses {w : World} {v : Value} {xs : List ByteArray} (h : SSl w v xs) {b : Nat} {cs : Array Value} (hs : Ses w b cs) (hn : ∀ (i : Nat) (s : ByteArray), cs[i]? ≠ some (Value.string s)) (i : Nat) (u : Value) : SSl (w.setCell ⟨b, i, none⟩ u).drew v xs := by
  obtain ⟨A, cap, h1, h2, h3, h4⟩ := h
  refine ⟨A, cap, h1, h2, h3, fun hne => ?_⟩
  obtain ⟨blk, off, h5, h6, h7⟩ := h4 hne
  refine ⟨blk, off, h5, by show blk < (w.heap.modify _ _).size; rw [Array.size_modify]; exact h6, fun j s hs2 => ?_⟩
  have hc := h7 j s hs2
  show (w.setCell ⟨b, i, none⟩ u).cell? _ = _
  rw [World.cell?_setCell_other _ _ _ _ (fun e => ?_)]
  · exact hc
  · injection e with e1 e2
    subst e1
    rw [hs.cell] at hc
    exact hn _ _ hc
set_option maxHeartbeats 1000000 in
theorem Next_ok (b c d : Nat) (hbc : b < c) (l : List UInt8) (xs : List (List UInt8)) (p : Nat) (w : World) (vin vout br mu sp q k2 k3 k4 : Value) (h : Ses w b #[vin, vout, br, mu, sp, q, k2, k3, k4]) (ho : OwnG c w vin l) (hr : readT l = (xs, p, 0)) (hp0 : 0 < p) (hpl : p ≤ l.length) (hx : xs.length ≤ 1024) (_hc : c ≤ w.heap.size) (hd : d ≤ w.heap.size) (h5 : In5 w vin) (hns : noStr #[vin, vout, br, mu, sp, q, k2, k3, k4] = true) :
    Calls Tryd.prog 11 #[.pointer (some ⟨b, 0, none⟩)] w fun e w' => (∃ v', e = .returned (.tuple #[v', .int .i64 0]) ∧ SSl w' v' (xs.map fun l => ⟨l.toArray⟩)) ∧ ∃ vin', Ses w' b #[vin', vout, br, mu, sp, q, k2, k3, k4] ∧ OwnG c w' vin' (l.drop p) ∧ But b d w w' ∧ In5 w' vin' := by
  obtain ⟨c0, c1, c2, c3, c4, c5, f0, f1, f2, f3, f4, f5⟩ := h.all
  have HS := Lib.hid h
  have RD := read_of w vin l xs p 0 0 rfl ho.slice hr hx
  have RD' := Lib.hid RD
  have HO := Lib.hid ho
  have HNS := Lib.hid hns
  have H5 := Lib.hid h5
  clear hns h5
  rcases ho with ⟨g, off, cap, rfl, h2, h3, h4, h5, h6, h7⟩ | ⟨h1, h2⟩
  · unfold maxLen at h5
    have z1 : ((p : Int) == 0) = false := by rw [beq_eq_false_iff_ne]; omega
    have z2 : (p == 0) = false := by rw [beq_eq_false_iff_ne]; omega
    clear h h6 h7 RD hr c1 c2 c3 c4 c5 f0 f1 f2 f3 f4 f5
    go_enter Tryd.func11, Tryd.ntmps11
    go_wp2_with (first | (go_at_call 18; (with_reducible refine RD'.out.mono ?_); rintro e w4 ⟨v4, rfl, hy, hb4⟩; refine Hid.out ?_))
    have HS' := Lib.hid (HS.out.below hb4)
    have HB := Lib.hid (But.of (b := b) (Below.mono hb4 hd))
    have HO' := Lib.hid (HO.out.below hb4)
    have HY := Lib.hid hy
    have H5' := Lib.hid ((H5.out.below hb4).set_ HS'.out 0 (Value.slice (if l.length = p then some ⟨g, off, none⟩ else some ⟨g, off + p, none⟩) (l.length - p) (l.length - p)))
    have H5g := Lib.hid (show In5 ((_ : World).setCell ⟨b, 0, none⟩ (Value.slice (if l.length = p then some ⟨g, off, none⟩ else some ⟨g, off + p, none⟩) (l.length - p) (l.length - p))) (Value.slice (if l.length = p then some ⟨g, off, none⟩ else some ⟨g, off + p, none⟩) (l.length - p) (l.length - p)) from fun k hk => H5'.out k (by rw [← hk]; split <;> rfl))
    clear H5'
    obtain ⟨c0', _, c2', _, _, _, f0', _, f2', _, _, _⟩ := HS'.out.all
    clear hy hb4 c0
    refine Lib.hid ?_
    go_wp2_with fail
    have i1 : (0 : Int) ≤ (p : Int) := by omega
    have i2 : (p : Int) ≤ (l.length : Int) := by omega
    have i3 : (l.length : Int) ≤ (cap : Int) := by omega
    go_region
    have hcut := (HO'.out.cut p hpl).set_ hbc 0 (Value.slice (if l.length = p then some ⟨g, off, none⟩ else some ⟨g, off + p, none⟩) (l.length - p) (l.length - p))
    generalize Value.slice (if l.length = p then some ⟨g, off, none⟩ else some ⟨g, off + p, none⟩) (l.length - p) (l.length - p) = V at hcut H5g ⊢
    have HC := Lib.hid hcut
    clear hcut
    go_wp2
    go_ret2
    refine ⟨⟨v4, rfl, ?_⟩, _, HS'.out.set_ 0 _, HC.out, (HB.out.set_ 0 _).drewN 1, H5g.out⟩
    exact SSl.set_ses HY.out HS'.out (fun i s hi => ses_str HNS.out i s hi) 0 _
  · subst h1; simp at hpl; omega
end Go.Proofs.YtnfflkappbjoeaaDoor
