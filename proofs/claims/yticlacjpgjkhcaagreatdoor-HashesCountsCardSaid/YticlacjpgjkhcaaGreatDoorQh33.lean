/- Texts joined: Q4 -/
import Derived.Test.YticlacjpgjkhcaaGreatDoorQh32
import Derived.Deep.CutRange

/- The law HashesFields: its walk. -/
namespace Go.Proofs.YticlacjpgjkhcaaGreatDoor
open Go.ChangeShapes Go.WideShapes Go.ChangeAt Go.RowKit

/-- A slice of fields. -/
def FSl (w : World) (v : Value) (fs : List (ByteArray × ByteArray)) : Prop := ∃ A cap, v = .slice A fs.length cap ∧ fs.length ≤ cap ∧ cap ≤ maxLen ∧
  (fs ≠ [] → ∃ blk off, A = some ⟨blk, off, none⟩ ∧ blk < w.heap.size ∧ ∀ (i : Nat) p, fs[i]? = some p → w.cell? ⟨blk, off + i * 2, none⟩ = some (.string p.1) ∧ w.cell? ⟨blk, off + i * 2 + 1, none⟩ = some (.string p.2))
/-- One field is appended to a row of fields: which block. -/
theorem append_RF2 {ops : Array Oper} {rest : List Oper} {o : Oper} {a : Act} {Q : Exit → Act → World → Prop} (w : World) (hg : o.guard = none) (s x : Operand) (hop : o.op = Op.call { callee := Callee.builtin Builtin.append, args := #[s, x], argTypes := #[39, 39] })
    (c : Nat) (v : Value) (F : List (ByteArray × ByteArray)) (N : Nat) (hN : F.length = N) (hs : a.eval s = v) (h : RF w c v F) (p : ByteArray × ByteArray) (b : Nat) (hx : a.eval x = .slice (some ⟨b, 0, none⟩) 1 1) (hb : w.heap[b]? = some (.cells #[.string p.1, .string p.2] 41)) (hl : N ≤ 100000) (hc : c ≤ w.heap.size)
    (k : ∀ g cap w', RF w' c (.slice (some ⟨g, 0, none⟩) (N + 1) cap) (F ++ [p]) → w.grownBy w' v.ownBlock → (v.ownBlock = some g ∨ g = w.heap.size) → wpList Tryz.prog ops Q rest (a.put o.dst (.slice (some ⟨g, 0, none⟩) (N + 1) cap)) w') : wpList Tryz.prog ops Q (o :: rest) a w := by
  subst hN
  obtain ⟨i0, hi, hz0, hz1, hz2⟩ := info_parts iF
  refine wpList_append_lies w hg s x 39 hop c 41 i0 _ 2 32 Tryz.underlying39 hi hz0 hz1 hz2 rfl (by decide) v F.length _ hs h ⟨b, 0, none⟩ 1 1 (cF p) hx rfl (news_blk (show w.heap[b]? = some (.cells (cF p).toArray 41) from hb)) (fun u hu => by simp [cF] at hu; rcases hu with rfl | rfl <;> rfl) (by decide) (by unfold maxLen; omega) (by omega) hc _ rfl ?_
  intro g cap w' h1 h2 h3 _
  refine k g cap w' ?_ h2 h3
  unfold RF
  rw [List.length_append, List.flatMap_append, show [p].length = 1 from rfl, show [p].flatMap cF = cF p by simp]
  exact h1
theorem RF.keepD {α : Type} {K : Kd α} {ok : ByteArray → α → Prop} {c : Nat} {v : Value} {X Y W0 : World} {bS bM : Nat} {D : List (ByteArray × α)} {F : List (ByteArray × ByteArray)} (hb : RF X c v F) (hK : Kp X.heap.size (fun i => i ≠ bS ∧ i ≠ bM) X Y) (h : LD K ok W0 X bS bM D) : RF Y c v F := hb.kept (fun g hg => by
  obtain ⟨cs, hh⟩ := row_typ hb g hg
  exact hK.block g (lt_blk hh) (h.ne hh (by decide)))
theorem fld1 (n : Int) (w : World) : (Instr.field 29 (.agg #[.int .i64 3, .int .i64 n, .string ⟨#[]⟩, .slice none 0 0]) 1).run Tryz.prog w = .ok (.int .i64 n) w := by kernel_rfl
theorem fld2 (t : ByteArray) (w : World) : (Instr.field 29 (.agg #[.int .i64 4, .int .i64 0, .string t, .slice none 0 0]) 2).run Tryz.prog w = .ok (.string t) w := by kernel_rfl
/-- The state behind an append to the law's own row. -/
theorem ap_state {w wr wY w6 : World} {bS bM : Nat} {F G : List (ByteArray × ByteArray)} {v : Value} {g6 : Nat} (hR : RF wr w.heap.size v G) (hP : PS w wr bS bM F (fun q => v.ownBlock = some q) wY) (hG : wY.grownBy w6 v.ownBlock) (hK : v.ownBlock = some g6 ∨ g6 = wY.heap.size) (hw : w.heap.size ≤ wr.heap.size) : LDF w w6 bS bM (dF F) ∧ SPG (KFq g6) okF w6 bS bM (dF F) := by
  have hz := Below.size hP.ld.below
  have hB : Below w.heap.size w w6 := hP.ld.below.grown hG hz (fun q hq => (row_own hR q hq).1)
  cases hv : v.ownBlock with
  | none =>
    rw [hv] at hG hK
    have hg : g6 = wY.heap.size := hK.resolve_left (fun h => by cases h)
    have h := SPG.fresh hP.ld.sp (fun i hi => hG.block i hi (by simp)) g6 (by omega)
    exact ⟨⟨h.1, hB, hP.ld.hS, hP.ld.hM⟩, h.2⟩
  | some q =>
    rw [hv] at hG hK
    obtain ⟨h1, h2⟩ := hP.sep q hv
    have hq : q ≠ bS ∧ q ≠ bM := hP.nq q hv
    have h := SPG.own h2 hq (fun i hi hne => hG.block i hi (by simpa using hne)) g6 (by
      rcases hK with h | h
      · cases h; exact .inl rfl
      · exact .inr (by omega))
    exact ⟨⟨h.1, hB, hP.ld.hS, hP.ld.hM⟩, h.2⟩
theorem lit4s (X : World) (a b c d : ByteArray) (q : Nat) (hq : X.heap.size = q) : SSl (X.alloc (.cells #[.string a, .string b, .string c, .string d] 9)) (.slice (some ⟨q, 0, none⟩) 4 4) [a, b, c, d] := by
  subst hq
  exact SSl.lit X [a, b, c, d] (by simp)
set_option maxRecDepth 100000 in
set_option maxHeartbeats 8000000 in
theorem fields_walk (fs : List (ByteArray × ByteArray)) (v0 : Value) (w : World) (hT : Tab w) (h0 : FSl w v0 fs) (h1 : 1 ≤ fs.length) (h12 : fs.length ≤ 12) : Calls Tryz.prog 7 #[v0] w fun e w' => e = .returned (.bool true) ∧ Below w.heap.size w w' := by
  have NW := Lib.hid (fun X => New9 X)
  obtain ⟨aA, cap, rfl, p1, p2, p3⟩ := h0
  obtain ⟨blk, off, rfl, hblt, hc⟩ := p3 (by intro e; rw [e] at h1; simp at h1)
  have CA := Lib.hid (show ∀ Y, Below w.heap.size w Y → ∀ (i : Nat) p, fs[i]? = some p → Y.cell? ⟨blk, off + i * 2, none⟩ = some (.string p.1) ∧ Y.cell? ⟨blk, off + i * 2 + 1, none⟩ = some (.string p.2) from fun Y hY i p hp => ⟨(hY.cell (p := ⟨blk, off + i * 2, none⟩) hblt).trans (hc i p hp).1, (hY.cell (p := ⟨blk, off + i * 2 + 1, none⟩) hblt).trans (hc i p hp).2⟩)
  obtain ⟨n, hn⟩ : ∃ n : Nat, fs.length = n := ⟨_, rfl⟩
  rw [hn] at h1 h12
  simp only [hn]
  have HN := Lib.hid hn
  have q1 : ¬ (n : Int) = 0 := by omega
  have q2 : ¬ (12 : Int) < (n : Int) := by omega
  have q1b : ((n : Int) == 0) = false := by rw [beq_eq_false_iff_ne]; exact q1
  have q2b : decide ((12 : Int) < (n : Int)) = false := decide_eq_false q2
  have TL := Lib.hid (fun X (hX : Below w.heap.size w X) => told (W0 := X) (Tab.at_ hT hX))
  clear p1 p2 p3 hc hn hblt
  go_enter Tryz.func7, Tryz.ntmps7
  go_wp2_with (first | (go_at_call 11; (with_reducible refine (NW.out _).mono ?_); rintro e v0 ⟨bS, bM, rfl, hS0, hbS, hbM, hB0⟩; have L0 := Lib.hid (LD.mk0 KF okF hS0 hB0 hbS hbM); clear hS0 hbS hbM hB0; refine Hid.out ?_))
  refine Lib.hid ?_
  go_wp2
  go_loopw [4, 5] (fun lv iv wr => ∃ (i : Nat) (A : Option Addr) (C : Nat) (G : List (ByteArray × ByteArray)), i ≤ n ∧ lv = .slice A G.length C ∧ iv = .int .i64 i ∧ Hid (G.length ≤ i ∧ FBd G 50 ∧ LDF w wr bS bM (dF G) ∧ RF wr w.heap.size (.slice A G.length C) G ∧ (∀ q, (Value.slice A G.length C).ownBlock = some q → SPG (KFq q) okF wr bS bM (dF G)))) (fun _ iv _ => n - (intOf iv).toNat)
  case atStart => exact ⟨0, none, 0, [], Nat.zero_le _, rfl, rfl, Lib.hid ⟨Nat.le_refl _, FBd.nil _, L0.out, World.ownsRow_nil _ _ _ _, fun q hq => by cases hq⟩⟩
  case round =>
    obtain ⟨i, A, C, G, hi, rfl, rfl, HQ⟩ := hrel
    by_cases hlt : i < n
    · obtain ⟨p, hp⟩ : ∃ p, fs[i]? = some p := ⟨_, List.getElem?_eq_getElem (by rw [HN.out]; exact hlt)⟩
      have q3 : (i : Int) < (n : Int) := by omega
      obtain ⟨d0, d1⟩ := CA.out _ HQ.out.2.2.1.below i p hp
      have TL0 := Lib.hid (TL.out _ HQ.out.2.2.1.below)
      have HB0 := Lib.hid HQ.out.2.2.1.below
      by_cases z1 : p.1.size ≤ 50
      · by_cases z2 : p.2.size ≤ 50
        · have z1b : decide ((50 : Int) < (p.1.size : Int)) = false := decide_eq_false (by omega)
          have z2b : decide ((50 : Int) < (p.2.size : Int)) = false := decide_eq_false (by omega)
          obtain ⟨m, r, hm, hq, he, hr, hcase⟩ : ∃ (m : Nat) (r : Int), m ≤ G.length ∧ (∀ q x, q < m → G[q]? = some x → x.1 ≠ p.1) ∧ (m = G.length ∨ ∃ t, G[m]? = some (p.1, t)) ∧ r = (if m = G.length then -1 else (m : Int)) ∧ ((findD p.1 G = none ∧ r = -1) ∨ (∃ t0, findD p.1 G = some t0 ∧ G[m]? = some (p.1, t0) ∧ r = m ∧ m < G.length ∧ putD p.1 p.2 G = G.set m (p.1, p.2))) := by
            cases hf : findD p.1 G with
            | none => 
              have h9 : ∀ (q : Nat) (x : ByteArray × ByteArray), q < G.length → G[q]? = some x → x.1 ≠ p.1 := fun q x _ hx e => by
                have h2 := mem_names.1 (List.mem_map.2 ⟨x, List.mem_of_getElem? hx, e⟩)
                rw [hf] at h2
                cases h2
              exact ⟨G.length, -1, Nat.le_refl _, h9, .inl rfl, by rw [if_pos rfl], .inl ⟨rfl, rfl⟩⟩
            | some t0 =>
              obtain ⟨m, h1, h2, h3⟩ := find_at hf
              have h4 := (List.getElem?_eq_some_iff.1 h1).1
              exact ⟨m, m, Nat.le_of_lt h4, h2, .inr ⟨t0, h1⟩, by rw [if_neg (by omega)], .inr ⟨t0, rfl, h1, rfl, h4, h3 p.2⟩⟩
          obtain ⟨x, hx⟩ : ∃ x : Int, (if (findD p.1 G).isNone = true then 1 else 0) = x := ⟨_, rfl⟩
          have PL := Lib.hid (place_m w.heap.size A C G G.length rfl (by have := HQ.out.1; omega) p.1 m hm hq he r hr wr HQ.out.2.2.2.1)
          have HCS := Lib.hid hcase
          have HXX := Lib.hid hx
          clear hq he hr hcase
          go_wp2_with (first | (go_at_call 22; (with_reducible refine (PL.out).mono ?_); rintro e w1 ⟨rfl, hb1⟩; have B1 := Lib.hid hb1; clear hb1; refine Hid.out ?_))
          refine Lib.hid ?_
          have P1 := Lib.hid (show PS w wr bS bM G (fun q => (Value.slice A G.length C).ownBlock = some q) w1 from PS.old ⟨HQ.out.2.2.1, fun q hq => ⟨(row_own HQ.out.2.2.2.1 q hq).2, HQ.out.2.2.2.2 q hq⟩, Kp.refl _ _ _, fun q hq => by
              obtain ⟨cs, hcs⟩ := row_typ HQ.out.2.2.2.1 q hq
              exact HQ.out.2.2.1.ne hcs (by decide)⟩ B1.out)
          have hfb := HQ.out.2.1
          have DO := Lib.hid (fun Y v hY hv => PS.set (w := w) (wr := wr) (bS := bS) (bM := bM) (F := G) (Qs := fun q => (Value.slice A G.length C).ownBlock = some q) 50 (by omega) hfb p.1 p.2 z1 z2 x hx Y v hY hv)
          have CX := Lib.hid (show ∀ Y, Below w.heap.size w Y → (Y.cell? ⟨blk, off + i * 2, none⟩ = some (.string p.1) ∧ Y.cell? ⟨blk, off + i * 2 + 1, none⟩ = some (.string p.2)) from fun Y hY => CA.out Y hY i p hp)
          have hww := Below.size HB0.out
          have hw1 : wr.heap.size ≤ w1.heap.size := Below.size B1.out
          have Ba := Lib.hid (show ∀ o : Obj, Below w1.heap.size w1 (w1.alloc o).drew from fun o => alloc_old.drew)
          have Bb := Lib.hid (show ∀ o o2 : Obj, Below w1.heap.size w1 ((w1.alloc o).alloc o2).drew from fun o o2 => (alloc_old.trans (alloc_old.mono (by simp))).drew)
          have SA := Lib.hid (fun o => CX.out _ (P1.out.old (Ba.out o)).ld.below)
          have SA2 := Lib.hid (fun o o2 => CX.out _ (P1.out.old (Bb.out o o2)).ld.below)
          have SO := Lib.hid (fun Y (o : Obj) (hb : Below w.heap.size w Y) => CX.out _ (hb.trans ((alloc_old (w := Y) (o := o)).mono (Below.size hb))))
          have SB := Lib.hid (fun Y b v0 v1 v2 v3 (hb : Below w.heap.size w Y) (hw : w.heap.size ≤ b) => CX.out _ ((((hb.setCell (p := ⟨b, 0, none⟩) hw v0).setCell (p := ⟨b, 1, none⟩) hw v1).setCell (p := ⟨b, 2, none⟩) hw v2).setCell (p := ⟨b, 3, none⟩) hw v3))
          have SC := Lib.hid (fun Y (o : Obj) b v0 v1 v2 v3 (hb : Below w.heap.size w Y) (hw : w.heap.size ≤ b) => CX.out _ (((((hb.trans ((alloc_old (w := Y) (o := o)).mono (Below.size hb))).setCell (p := ⟨b, 0, none⟩) hw v0).setCell (p := ⟨b, 1, none⟩) hw v1).setCell (p := ⟨b, 2, none⟩) hw v2).setCell (p := ⟨b, 3, none⟩) hw v3))
          have y1 := CX.out _ (P1.out.old (Below.refl w1.heap.size w1).drew).ld.below
          have Da := Lib.hid (DO.out (w1.alloc (.cells #[.string ⟨#[72, 83, 69, 84]⟩, .string ⟨#[107]⟩, .string p.1, .string p.2] 9)).drew (.slice (some ⟨w1.heap.size, 0, none⟩) 4 4) (P1.out.old (Ba.out _)) ((lit4s _ _ _ _ _ _ rfl).below (Below.refl _ _).drew))
          have Db := Lib.hid (DO.out ((w1.alloc (.cells #[.string ⟨#[72, 83, 69, 84]⟩, .string ⟨#[107]⟩, .string p.1, .string p.2] 9)).alloc (.cells #[.int .i64 0, .int .i64 0, .string ⟨#[]⟩, .slice none 0 0] 29)).drew (.slice (some ⟨w1.heap.size, 0, none⟩) 4 4) (P1.out.old (Bb.out _ _)) (((lit4s w1 _ _ _ _ _ rfl).below (alloc_old (w := w1.alloc (.cells #[.string ⟨#[72, 83, 69, 84]⟩, .string ⟨#[107]⟩, .string p.1, .string p.2] 9)))).below (Below.refl _ _).drew))
          have Dc := Lib.hid (DO.out ((w1.alloc (.cells #[.int .i64 0, .int .i64 0, .string ⟨#[]⟩, .slice none 0 0] 29)).alloc (.cells #[.string ⟨#[72, 83, 69, 84]⟩, .string ⟨#[107]⟩, .string p.1, .string p.2] 9)).drew (.slice (some ⟨w1.heap.size + 1, 0, none⟩) 4 4) (P1.out.old (Bb.out _ _)) ((lit4s _ _ _ _ _ _ (by simp)).below (Below.refl _ _).drew))
          have Rb := Lib.hid (show ((w1.alloc (.cells #[.string ⟨#[72, 83, 69, 84]⟩, .string ⟨#[107]⟩, .string p.1, .string p.2] 9)).alloc (.cells #[.int .i64 0, .int .i64 0, .string ⟨#[]⟩, .slice none 0 0] 29)).drew.heap[w1.heap.size + 1]? = some (.cells #[.int .i64 0, .int .i64 0, .string ⟨#[]⟩, .slice none 0 0] 29) from heap2L w1 _)
          have Rc := Lib.hid (show ((w1.alloc (.cells #[.int .i64 0, .int .i64 0, .string ⟨#[]⟩, .slice none 0 0] 29)).alloc (.cells #[.string ⟨#[72, 83, 69, 84]⟩, .string ⟨#[107]⟩, .string p.1, .string p.2] 9)).drew.heap[w1.heap.size]? = some (.cells #[.int .i64 0, .int .i64 0, .string ⟨#[]⟩, .slice none 0 0] 29) from by show ((w1.alloc (.cells #[.int .i64 0, .int .i64 0, .string ⟨#[]⟩, .slice none 0 0] 29)).alloc (.cells #[.string ⟨#[72, 83, 69, 84]⟩, .string ⟨#[107]⟩, .string p.1, .string p.2] 9)).heap[w1.heap.size]? = _; exact blk_below (heap_alloc_new w1 _) alloc_old)
          have Z1 : w.heap.size ≤ w1.heap.size := Nat.le_trans hww hw1
          have Z2 : w.heap.size ≤ w1.heap.size + 1 := Nat.le_succ_of_le Z1
          clear hfb hp hx
          go_wp2
          go_cut [8] from 28 to 99 (fun r wx => ∃ b, r = .pointer (some ⟨b, 0, none⟩) ∧ Hid (wx.heap[b]? = some (.cells #[.int .i64 3, .int .i64 x, .string ⟨#[]⟩, .slice none 0 0] 29) ∧ PS w wr bS bM (putD p.1 p.2 G) (fun q => (Value.slice A G.length C).ownBlock = some q) wx))
          case first =>
            go_region_held3 (fun X => X.cell? ⟨blk, off + i * 2, none⟩ = some (.string p.1) ∧ X.cell? ⟨blk, off + i * 2 + 1, none⟩ = some (.string p.2)) (first | (with_reducible exact y1) | (with_reducible exact SA.out _) | (with_reducible exact SA2.out _ _) | assumption | (with_reducible refine CX.out _ ?_; assumption) | (with_reducible refine SO.out _ _ ?_; assumption) | (with_reducible refine SB.out _ _ _ _ _ _ ?_ ?_ <;> assumption) | (with_reducible refine SC.out _ _ _ _ _ _ _ ?_ ?_ <;> assumption)) (first | (go_at_call 23; (first | ((with_reducible refine (Da.out).mono ?_); rintro e wb ⟨rfl, hP, hk⟩; have P2 := Lib.hid hP; have B2 := hP.ld.below; have Z3 := Below.size B2; clear hP hk) | ((with_reducible refine (Db.out).mono ?_); rintro e wb ⟨rfl, hP, hk⟩; have P2 := Lib.hid hP; have C2 := Lib.hid (hk _ _ _ Rb.out (by decide)); have B2 := hP.ld.below; obtain ⟨⟨d0, d1, d2, d3⟩, ⟨f0, f1, f2, f3⟩⟩ := cells4 C2.out; clear hP hk) | ((with_reducible refine (Dc.out).mono ?_); rintro e wb ⟨rfl, hP, hk⟩; have P2 := Lib.hid hP; have C2 := Lib.hid (hk _ _ _ Rc.out (by decide)); have B2 := hP.ld.below; obtain ⟨⟨d0, d1, d2, d3⟩, ⟨f0, f1, f2, f3⟩⟩ := cells4 C2.out; clear hP hk))))
            all_goals (go_wp2_with fail)
            all_goals go_meet
            all_goals (first | exact ⟨_, rfl, Lib.hid ⟨heap_alloc_new wb _, P2.out.old alloc_old⟩⟩ | exact ⟨_, rfl, Lib.hid ⟨blk4 C2.out _ _ _ _, P2.out.set4 C2.out hw1 hww _ _ _ _⟩⟩ | exact ⟨_, rfl, Lib.hid ⟨blk4 C2.out _ _ _ _, P2.out.set4 C2.out (Nat.le_succ_of_le hw1) hww _ _ _ _⟩⟩)
          case rest =>
            obtain ⟨b, rfl, HC⟩ := hcut
            have P5 := Lib.hid HC.out.2
            obtain ⟨⟨c0, c1, c2, c3⟩, _⟩ := cells4 HC.out.1
            obtain ⟨e0, e1⟩ := CX.out _ P5.out.ld.below
            have RFc := Lib.hid (show RF wc w.heap.size (.slice A G.length C) G from HQ.out.2.2.2.1.kept (fun g hg => by
              obtain ⟨cs, hcs⟩ := row_typ HQ.out.2.2.2.1 g hg
              have hne := HQ.out.2.2.1.ne hcs (by decide)
              exact P5.out.kp.block g (lt_blk hcs) hne))
            rcases HCS.out with ⟨hf, rfl⟩ | ⟨t0, hf, hgm, rfl, hml, hput⟩
            · have hx := HXX.out
              rw [hf] at hx
              have hx1 : x = 1 := hx.symm
              subst hx1
              have e5 : putD p.1 p.2 G = G ++ [(p.1, p.2)] := putD_end _ _ _ hf
              have b5 := Lib.hid (heap_alloc_new wc (.cells #[.string p.1, .string p.2] 41))
              have A5 := Lib.hid (alloc_old (w := wc) (o := .cells #[.string p.1, .string p.2] 41))
              have R5 := Lib.hid (RFc.out.below A5.out)
              have P6 := Lib.hid (P5.out.old A5.out)
              have z5 := Lib.hid (Below.size P6.out.ld.below)
              have HE5 := Lib.hid e5
              have hgl := HQ.out.1
              clear hf hx e5
              go_wp2_with (first | (at_builtin; refine append_RF2 _ rfl _ _ rfl w.heap.size _ G G.length rfl rfl R5.out p _ rfl b5.out (by omega) z5.out ?_; intro g6 C6 w6 h6 h7 h8; have R6 := Lib.hid h6; have G6 := Lib.hid h7; have K6 := Lib.hid h8; clear h6 h7 h8))
              have hst := ap_state HQ.out.2.2.2.1 P6.out G6.out K6.out (Below.size HQ.out.2.2.1.below)
              have hb6 := HQ.out.2.1.put p.1 p.2 z1 z2 (by rw [HE5.out]; simp; omega)
              refine ⟨⟨i + 1, some ⟨g6, 0, none⟩, C6, putD p.1 p.2 G, by omega, by rw [HE5.out]; simp, by go_num, Lib.hid ⟨by rw [HE5.out]; simp; omega, hb6, hst.1, ?_, ?_⟩⟩, by simp [intOf]; omega⟩
              · rw [HE5.out]
                have h9 := R6.out
                simpa using h9
              · rintro q hq
                cases hq
                exact hst.2
            · have hx := HXX.out
              rw [hf] at hx
              have hx1 : x = 0 := hx.symm
              subst hx1
              have hG0 : G ≠ [] := by rintro rfl; simp at hml
              obtain ⟨gA, C', hA, _⟩ := RFc.out.form hG0
              cases hA
              obtain ⟨cs, hcs⟩ := row_typ RFc.out gA rfl
              have zf : wc.frozen? ⟨gA, m * 2 + 1, none⟩ = false := frozen_of_row wc gA _ _ _ hcs
              have hgA := (row_own HQ.out.2.2.2.1 gA rfl).1
              obtain ⟨_, dm⟩ := RFc.out.at rfl m (p.1, t0) hgm
              obtain ⟨h1q, h2q⟩ := P5.out.sep gA rfl
              have hnq := P5.out.nq gA rfl
              have i0 : (m : Int) < (G.length : Int) := by omega
              have hb6 := HQ.out.2.1.put p.1 p.2 z1 z2 (by rw [hput, List.length_set]; exact HQ.out.2.1.few)
              have hS := Lib.hid (RFc.out.setText rfl m (p.1, t0) hgm p.2)
              have HO := Lib.hid (SPG.own (w' := wc.setCell ⟨gA, m * 2 + 1, none⟩ (.string p.2)) h2q hnq (fun i _ hi => Below.heap_setCell _ ⟨gA, m * 2 + 1, none⟩ _ _ hi) gA (.inl rfl))
              have HPT := Lib.hid hput
              have hgl := HQ.out.1
              have HB6 := Lib.hid hb6
              clear hf hx hput hgm hcs h2q hb6 hG0
              go_wp2
              refine ⟨⟨i + 1, some ⟨gA, 0, none⟩, C, putD p.1 p.2 G, by omega, by rw [HPT.out, List.length_set], by go_num, Lib.hid ⟨by rw [HPT.out, List.length_set]; omega, HB6.out, ⟨HO.out.1, P5.out.ld.below.setCell (p := ⟨gA, m * 2 + 1, none⟩) hgA _, P5.out.ld.hS, P5.out.ld.hM⟩, ?_, ?_⟩⟩, by simp [intOf]; omega⟩
              · rw [HPT.out, List.length_set]
                exact hS.out
              · rintro q hq
                cases hq
                exact HO.out.2
        · have z1b : decide ((50 : Int) < (p.1.size : Int)) = false := decide_eq_false (by omega)
          have z2b : decide ((50 : Int) < (p.2.size : Int)) = true := decide_eq_true (by omega)
          go_wp2_with (first | (go_at_call 21; (with_reducible refine (TL0.out).mono ?_); rintro e w1 ⟨rfl, hb1⟩; have B1 := Lib.hid hb1; clear hb1))
          go_ret
          exact ⟨rfl, belT HB0.out B1.out⟩
      · have z1b : decide ((50 : Int) < (p.1.size : Int)) = true := decide_eq_true (by omega)
        go_wp2_with (first | (go_at_call 21; (with_reducible refine (TL0.out).mono ?_); rintro e w1 ⟨rfl, hb1⟩; have B1 := Lib.hid hb1; clear hb1))
        go_ret
        exact ⟨rfl, belT HB0.out B1.out⟩
    · obtain rfl : i = n := by omega
      have q3 : ¬ (i : Int) < (i : Int) := by omega
      obtain ⟨w2, rfl⟩ : ∃ w2, w2 = wr := ⟨_, rfl⟩
      have FB := Lib.hid HQ.out.2.1
      have L2 := Lib.hid HQ.out.2.2.1
      have RG := Lib.hid HQ.out.2.2.2.1
      have D1 := Lib.hid (q_keys w bS bM G 50 (by omega) FB.out w2 L2.out w2.heap.size rfl)
      clear HQ hi hlt CA
      go_wp2_with (first | (go_at_call 23; (with_reducible refine (D1.out).mono ?_); rintro e v1 ⟨A1, m1, c1, rfl, hR1, hL1, hK1⟩; have K1 := Lib.hid hK1; have R1 := Lib.hid hR1; have L3 := Lib.hid hL1; clear hR1 hL1 hK1; refine Hid.out ?_))
      refine Lib.hid ?_
      have D2 := Lib.hid (q_vals w bS bM G 50 (by omega) FB.out v1 L3.out v1.heap.size rfl)
      go_wp2_with (first | (go_at_call 23; (with_reducible refine (D2.out).mono ?_); rintro e v2 ⟨A2, m2, c2, rfl, hR2, hL2, hK2⟩; have K2 := Lib.hid hK2; have R2 := Lib.hid hR2; have L4 := Lib.hid hL2; clear hR2 hL2 hK2; refine Hid.out ?_))
      refine Lib.hid ?_
      have fK1 := fun n X => fld1 n X
      have fK2 := fun t X => fld2 t X
      have hm1 : m1 = G.length := by
        obtain ⟨A', C', e, _⟩ := row_form R1.out
        cases e
        simp [len_names, len_srtF]
      have hm2 : m2 = G.length := by
        obtain ⟨A', C', e, _⟩ := row_form R2.out
        cases e
        simp [len_srtF]
      subst hm1 hm2
      have AA := Lib.hid (show Below v2.heap.size v2 ((v2.alloc (.cells #[.int .i64 6, .int .i64 0, .string ⟨#[]⟩, .slice A1 G.length c1] 29)).alloc (.cells #[.int .i64 6, .int .i64 0, .string ⟨#[]⟩, .slice A2 G.length c2] 29)) from alloc_old.trans (alloc_old.mono (by simp)))
      have L5 := Lib.hid (L4.out.old AA.out)
      have RN2 := Lib.hid ((RO.keepD K2.out L3.out R1.out).below AA.out)
      have RT2 := Lib.hid (R2.out.below AA.out)
      have RG2 := Lib.hid (RF.below ((RG.out.keepD K1.out L2.out).keepD K2.out L3.out) AA.out)
      have N1 := Lib.hid (show ((v2.alloc (.cells #[.int .i64 6, .int .i64 0, .string ⟨#[]⟩, .slice A1 G.length c1] 29)).alloc (.cells #[.int .i64 6, .int .i64 0, .string ⟨#[]⟩, .slice A2 G.length c2] 29)).heap[v2.heap.size]? = some (.cells #[.int .i64 6, .int .i64 0, .string ⟨#[]⟩, .slice A1 G.length c1] 29) from blk_below (heap_alloc_new v2 (.cells #[.int .i64 6, .int .i64 0, .string ⟨#[]⟩, .slice A1 G.length c1] 29)) alloc_old)
      have N2 := Lib.hid (show ((v2.alloc (.cells #[.int .i64 6, .int .i64 0, .string ⟨#[]⟩, .slice A1 G.length c1] 29)).alloc (.cells #[.int .i64 6, .int .i64 0, .string ⟨#[]⟩, .slice A2 G.length c2] 29)).heap[v2.heap.size + 1]? = some (.cells #[.int .i64 6, .int .i64 0, .string ⟨#[]⟩, .slice A2 G.length c2] 29) from heap2L v2 _)
      have D3 := Lib.hid (q_len w bS bM G 50 (by omega) FB.out ((v2.alloc (.cells #[.int .i64 6, .int .i64 0, .string ⟨#[]⟩, .slice A1 G.length c1] 29)).alloc (.cells #[.int .i64 6, .int .i64 0, .string ⟨#[]⟩, .slice A2 G.length c2] 29)) L5.out (v2.heap.size + 1 + 1) (by simp))
      obtain ⟨⟨a0, a1, a2, a3⟩, _⟩ := cells4 N1.out
      obtain ⟨⟨b0, b1, b2, b3⟩, _⟩ := cells4 N2.out
      go_wp2_with (first | (go_at_call 23; (with_reducible refine (D3.out).mono ?_); rintro e v3 ⟨rfl, hL3, hK3⟩; have K3 := Lib.hid hK3; have L6 := Lib.hid hL3; clear hL3 hK3; refine Hid.out ?_))
      refine Lib.hid ?_
      have RN3 := Lib.hid (RO.keepD K3.out L5.out RN2.out)
      have RT3 := Lib.hid (RO.keepD K3.out L5.out RT2.out)
      have RG3 := Lib.hid (RG2.out.keepD K3.out L5.out)
      have N13 := Lib.hid (keepL K3.out L5.out N1.out (by decide))
      have N23 := Lib.hid (keepL K3.out L5.out N2.out (by decide))
      clear a0 a1 a2 a3 b0 b1 b2 b3 N1 N2 RN2 RT2 RG2 K1 K2 K3 R1 R2 RG L2 L3 L4 L5 D1 D2 D3 AA
      obtain ⟨N, hN⟩ : ∃ N : Nat, G.length = N := ⟨_, rfl⟩
      simp only [hN] at RN3 RT3 RG3 N13 N23 ⊢
      have HN2 := Lib.hid hN
      have hN15 : N ≤ 15 := by rw [← hN]; exact FB.out.few
      clear hN
      go_wp2
      go_loopw [11] (fun iv wr => ∃ k : Nat, k ≤ N ∧ iv = .int .i64 k ∧ Hid (LDF w wr bS bM (dF G) ∧ Kp v3.heap.size (fun i => i ≠ bS ∧ i ≠ bM) v3 wr)) (fun iv _ => N - (intOf iv).toNat)
      case atStart => exact ⟨0, Nat.zero_le _, rfl, Lib.hid ⟨L6.out, Kp.refl _ _ _⟩⟩
      case round =>
        obtain ⟨k, hk, rfl, HK⟩ := hrel
        obtain ⟨⟨a0, a1, a2, a3⟩, _⟩ := cells4 (keepL HK.out.2 L6.out N13.out (by decide))
        by_cases hlt : k < N
        · have i0 : (k : Int) < (N : Int) := by omega
          have hGl : (srtF G).length = N := by rw [len_srtF]; exact HN2.out
          obtain ⟨pk, hpk⟩ : ∃ pk, (srtF G)[k]? = some pk := ⟨_, List.getElem?_eq_getElem (by rw [hGl]; exact hlt)⟩
          have hfk : findD pk.1 G = some pk.2 := findD_of_mem FB.out.nd (mem_srtF (List.mem_of_getElem? hpk))
          have hsz := FB.out.sz pk (mem_srtF (List.mem_of_getElem? hpk))
          obtain ⟨m, hgm, hqm, _⟩ := find_at hfk
          have hml : m < N := by rw [← HN2.out]; exact (List.getElem?_eq_some_iff.1 hgm).1
          have hN0 : N ≠ 0 := by omega
          obtain ⟨A3, c3, hA3, hA3', _⟩ := row_form RN3.out
          obtain ⟨A4, c4, hA4, hA4', _⟩ := row_form RT3.out
          obtain ⟨A5, c5, hA5, hA5', _⟩ := row_form RG3.out
          have hl1 : (List.map some (namesD (srtF G))).length = N := by rw [List.length_map, len_names, hGl]
          have hl2 : (List.map some (List.map Prod.snd (srtF G))).length = N := by rw [List.length_map, List.length_map, hGl]
          rw [hl1] at hA3 hA3'
          rw [hl2] at hA4 hA4'
          rw [HN2.out] at hA5 hA5'
          cases hA3
          cases hA4
          cases hA5
          obtain ⟨gN, rfl⟩ := hA3'.resolve_left hN0
          obtain ⟨gT, rfl⟩ := hA4'.resolve_left hN0
          obtain ⟨gG, rfl⟩ := hA5'.resolve_left hN0
          have FN := Lib.hid (show ∀ X, Kp v3.heap.size (fun i => i ≠ bS ∧ i ≠ bM) v3 X → ∀ (j : Nat) p, (srtF G)[j]? = some p → X.cell? ⟨gN, j * 4 + 2, none⟩ = some (.string p.1) from fun X hX j p hp => by
            have h := RO.keepD hX L6.out RN3.out
            unfold RO at h
            rw [← hl1] at h
            exact row_cell h (j * 4 + 2) _ (repC_at _ j 2 (some p.1) _ (by unfold namesD; rw [List.getElem?_map, List.getElem?_map, hp]; rfl) rfl))
          have FT := Lib.hid (show ∀ X, Kp v3.heap.size (fun i => i ≠ bS ∧ i ≠ bM) v3 X → ∀ (j : Nat) p, (srtF G)[j]? = some p → X.cell? ⟨gT, j * 4 + 2, none⟩ = some (.string p.2) from fun X hX j p hp => by
            have h := RO.keepD hX L6.out RT3.out
            unfold RO at h
            rw [← hl2] at h
            exact row_cell h (j * 4 + 2) _ (repC_at _ j 2 (some p.2) _ (by rw [List.getElem?_map, List.getElem?_map, hp]; rfl) rfl))
          have FA := Lib.hid (fun X (hX : Kp v3.heap.size (fun i => i ≠ bS ∧ i ≠ bM) v3 X) => cells4 (keepL hX L6.out N13.out (by decide)))
          have FB2 := Lib.hid (fun X (hX : Kp v3.heap.size (fun i => i ≠ bS ∧ i ≠ bM) v3 X) => cells4 (keepL hX L6.out N23.out (by decide)))
          have rn := FN.out wr HK.out.2 k pk hpk
          have PLk := Lib.hid (place_m w.heap.size (some ⟨gG, 0, none⟩) C G N HN2.out (by have := FB.out.few; rw [HN2.out] at this; omega) pk.1 m (Nat.le_of_lt hml) hqm (.inr ⟨pk.2, hgm⟩) (m : Int) (by rw [if_neg (by omega)]) wr (RG3.out.keepD HK.out.2 L6.out))
          have im : (m : Int) < (N : Int) := by omega
          have HPK := Lib.hid hpk
          have HGM := Lib.hid hgm
          have HFK := Lib.hid hfk
          have HSZ := Lib.hid hsz
          clear hpk hgm hfk hsz hqm hl1 hl2 hGl hA3' hA4' hA5'
          go_wp2_with (first | (go_at_call 22; (with_reducible refine (PLk.out).mono ?_); rintro e x0 ⟨rfl, hb1⟩; have H0 := Lib.hid (show LDF w x0 bS bM (dF G) ∧ Kp v3.heap.size (fun i => i ≠ bS ∧ i ≠ bM) v3 x0 from ⟨HK.out.1.old hb1, HK.out.2.trans ((Kp.of hb1).mono HK.out.2.size (fun _ h => h))⟩); clear hb1; refine Hid.out ?_))
          refine Lib.hid ?_
          clear rn
          obtain ⟨⟨t0, t1, t2, t3⟩, _⟩ := FB2.out x0 H0.out.2
          have rt := FT.out x0 H0.out.2 k pk HPK.out
          obtain ⟨_, rg⟩ := (RG3.out.keepD H0.out.2 L6.out).at HN2.out m _ HGM.out
          have hne1 : (pk.2.toList != pk.2.toList) = false := by simp
          have D1 := Lib.hid (q_get w bS bM G 50 (by omega) FB.out pk.1 pk.2 HSZ.out.1 HFK.out x0 H0.out.1 x0.heap.size rfl)
          go_wp2_with (first | (go_at_call 23; (with_reducible refine (D1.out).mono ?_); rintro e x1 ⟨rfl, hL, hK⟩; have H1 := Lib.hid (show LDF w x1 bS bM (dF G) ∧ Kp v3.heap.size (fun i => i ≠ bS ∧ i ≠ bM) v3 x1 from ⟨hL, H0.out.2.trans (hK.mono H0.out.2.size (fun _ h => h))⟩); clear hL hK; refine Hid.out ?_))
          refine Lib.hid ?_
          have D2 := Lib.hid (q_strlen w bS bM G 50 (by omega) FB.out pk.1 pk.2 HSZ.out.1 HFK.out x1 H1.out.1 x1.heap.size rfl)
          go_wp2_with (first | (go_at_call 23; (with_reducible refine (D2.out).mono ?_); rintro e x2 ⟨rfl, hL, hK⟩; have H2 := Lib.hid (show LDF w x2 bS bM (dF G) ∧ Kp v3.heap.size (fun i => i ≠ bS ∧ i ≠ bM) v3 x2 from ⟨hL, H1.out.2.trans (hK.mono H1.out.2.size (fun _ h => h))⟩); clear hL hK; refine Hid.out ?_))
          refine Lib.hid ?_
          have D3 := Lib.hid (q_exists1 w bS bM G 50 (by omega) FB.out pk.1 pk.2 HSZ.out.1 HFK.out x2 H2.out.1 x2.heap.size rfl)
          go_wp2_with (first | (go_at_call 23; (with_reducible refine (D3.out).mono ?_); rintro e x3 ⟨rfl, hL, hK⟩; have H3 := Lib.hid (show LDF w x3 bS bM (dF G) ∧ Kp v3.heap.size (fun i => i ≠ bS ∧ i ≠ bM) v3 x3 from ⟨hL, H2.out.2.trans (hK.mono H2.out.2.size (fun _ h => h))⟩); clear hL hK; refine Hid.out ?_))
          refine Lib.hid ?_
          by_cases hk0 : k = 0
          · subst hk0
            have D4 := Lib.hid (q_setnx w bS bM G 50 (by omega) FB.out pk.1 pk.2 HSZ.out.1 HFK.out x3 H3.out.1 x3.heap.size rfl)
            go_wp2_with (first | (go_at_call 23; (with_reducible refine (D4.out).mono ?_); rintro e x4 ⟨rfl, hL, hK⟩; have H4 := Lib.hid (show LDF w x4 bS bM (dF G) ∧ Kp v3.heap.size (fun i => i ≠ bS ∧ i ≠ bM) v3 x4 from ⟨hL, H3.out.2.trans (hK.mono H3.out.2.size (fun _ h => h))⟩); clear hL hK))
            exact ⟨⟨1, by omega, by go_num, H4⟩, by simp [intOf]; omega⟩
          · have hkb : decide ((0 : Int) < (k : Int)) = true := decide_eq_true (by omega)
            obtain ⟨pq, hpq⟩ : ∃ pq, (srtF G)[k - 1]? = some pq := ⟨_, List.getElem?_eq_getElem (by rw [len_srtF, HN2.out]; omega)⟩
            obtain ⟨⟨s0, s1, s2, s3⟩, _⟩ := FA.out x3 H3.out.2
            have rp := FN.out x3 H3.out.2 (k - 1) pq hpq
            have hlt2 := srt_strict FB.out.nd (k - 1) pq pk hpq (by rw [show k - 1 + 1 = k by omega]; exact HPK.out)
            have w1' : wrap64 ((k : Int) - 1) = (k : Int) - 1 := by unfold wrap64; omega
            have n1 : ((k : Int) - 1).toNat = k - 1 := by omega
            have j1 : (0 : Int) ≤ (k : Int) - 1 := by omega
            have j2 : (k : Int) - 1 < (N : Int) := by omega
            have hlb : Op.bytesLess pq.1.toList pk.1.toList = true := by rw [less_bl]; exact decide_eq_true hlt2
            clear hpq hlt2
            have D4 := Lib.hid (q_setnx w bS bM G 50 (by omega) FB.out pk.1 pk.2 HSZ.out.1 HFK.out x3 H3.out.1 x3.heap.size rfl)
            go_wp2_with (first | (go_at_call 23; (with_reducible refine (D4.out).mono ?_); rintro e x4 ⟨rfl, hL, hK⟩; have H4 := Lib.hid (show LDF w x4 bS bM (dF G) ∧ Kp v3.heap.size (fun i => i ≠ bS ∧ i ≠ bM) v3 x4 from ⟨hL, H3.out.2.trans (hK.mono H3.out.2.size (fun _ h => h))⟩); clear hL hK))
            exact ⟨⟨k + 1, by omega, by go_num, H4⟩, by simp [intOf]; omega⟩
        · obtain rfl : k = N := by omega
          have i0 : ¬ (k : Int) < (k : Int) := by omega
          have HK0 := Lib.hid (show LDF w wr bS bM (dF ((srtF G).drop 0)) ∧ Kp v3.heap.size (fun i => i ≠ bS ∧ i ≠ bM) v3 wr from ⟨by rw [List.drop_zero, dF_congr (srt_srt FB.out.nd)]; exact HK.out.1, HK.out.2⟩)
          obtain ⟨w4, rfl⟩ : ∃ w4, w4 = wr := ⟨_, rfl⟩
          have hGl : (srtF G).length = k := by rw [len_srtF]; exact HN2.out
          have HGL := Lib.hid hGl
          clear HK hk hlt hGl
          go_wp2
          go_loopw [15] (fun iv wr => ∃ j : Nat, j ≤ k ∧ iv = .int .i64 j ∧ Hid (LDF w wr bS bM (dF ((srtF G).drop j)) ∧ Kp v3.heap.size (fun i => i ≠ bS ∧ i ≠ bM) v3 wr)) (fun iv _ => k - (intOf iv).toNat)
          case atStart => exact ⟨0, Nat.zero_le _, rfl, HK0⟩
          case round =>
            obtain ⟨j, hj, rfl, HJ⟩ := hrel
            obtain ⟨⟨s0, s1, s2, s3⟩, _⟩ := cells4 (keepL HJ.out.2 L6.out N13.out (by decide))
            by_cases hlt : j < k
            · have i1 : (j : Int) < (k : Int) := by omega
              obtain ⟨pk, hpk⟩ : ∃ pk, (srtF G)[j]? = some pk := ⟨_, List.getElem?_eq_getElem (by rw [HGL.out]; exact hlt)⟩
              have hdrop : (srtF G).drop j = pk :: (srtF G).drop (j + 1) := by
                rw [List.drop_eq_getElem_cons (by rw [HGL.out]; exact hlt)]
                rw [List.getElem?_eq_getElem (by rw [HGL.out]; exact hlt)] at hpk
                rw [Option.some.inj hpk]
              obtain ⟨r, hr⟩ : ∃ r, (srtF G).drop (j + 1) = r := ⟨_, rfl⟩
              have hsr : srtF r = r := by rw [← hr]; exact srt_drop FB.out.nd (j + 1)
              have hsp : srtF (pk :: r) = pk :: r := by rw [← hr, ← hdrop]; exact srt_drop FB.out.nd j
              have hfb : FBd (pk :: r) 50 := by rw [← hr, ← hdrop]; exact FB.out.srt.drop j
              have hfr : FBd r 50 := hfb.drop 1
              have hfn : findD pk.1 r = none := findD_none_of (List.nodup_cons.1 hfb.nd).1
              have hJ := HJ.out
              rw [hdrop, hr] at hJ
              have HJ2 := Lib.hid hJ
              obtain ⟨A3, c3, hA3, hA3', _⟩ := row_form RN3.out
              have hl1 : (List.map some (namesD (srtF G))).length = k := by rw [List.length_map, len_names, HGL.out]
              rw [hl1] at hA3 hA3'
              cases hA3
              obtain ⟨gN, rfl⟩ := hA3'.resolve_left (by omega)
              have FN := Lib.hid (show ∀ X, Kp v3.heap.size (fun i => i ≠ bS ∧ i ≠ bM) v3 X → X.cell? ⟨gN, j * 4 + 2, none⟩ = some (.string pk.1) from fun X hX => by
                have h := RO.keepD hX L6.out RN3.out
                unfold RO at h
                rw [← hl1] at h
                exact row_cell h (j * 4 + 2) _ (repC_at _ j 2 (some pk.1) _ (by unfold namesD; rw [List.getElem?_map, List.getElem?_map, hpk]; rfl) rfl))
              have rn := FN.out wr HJ.out.2
              have DD := Lib.hid (q_del w bS bM pk r 50 (by omega) hfb hsp hsr wr HJ2.out.1 wr.heap.size rfl)
              have HR := Lib.hid hr
              have EX := Lib.hid (fun X hX => q_exists0 w bS bM r 50 (by omega) hfr pk.1 (hfb.sz pk List.mem_cons_self).1 hfn X hX X.heap.size rfl)
              clear hpk hdrop hr hsr hsp hfb hfr hfn hJ hl1 hA3'
              go_wp2_with (first | (go_at_call 23; (with_reducible refine (DD.out).mono ?_); rintro e x1 ⟨rfl, hL, hK⟩; have H1 := Lib.hid (show LDF w x1 bS bM (dF r) ∧ Kp v3.heap.size (fun i => i ≠ bS ∧ i ≠ bM) v3 x1 from ⟨hL, HJ.out.2.trans (hK.mono HJ.out.2.size (fun _ h => h))⟩); clear hL hK; refine Hid.out ?_))
              refine Lib.hid ?_
              obtain ⟨⟨t0, t1, t2, t3⟩, _⟩ := cells4 (keepL H1.out.2 L6.out N13.out (by decide))
              have rn2 := FN.out x1 H1.out.2
              have D2 := Lib.hid (EX.out x1 H1.out.1)
              clear rn s0 s1 s2 s3
              go_wp2_with (first | (go_at_call 23; (with_reducible refine (D2.out).mono ?_); rintro e x2 ⟨rfl, hL, hK⟩; have H2 := Lib.hid (show LDF w x2 bS bM (dF r) ∧ Kp v3.heap.size (fun i => i ≠ bS ∧ i ≠ bM) v3 x2 from ⟨hL, H1.out.2.trans (hK.mono H1.out.2.size (fun _ h => h))⟩); clear hL hK))
              exact ⟨⟨j + 1, by omega, by go_num, by rw [HR.out]; exact H2⟩, by simp [intOf]; omega⟩
            · obtain rfl : j = k := by omega
              have i1 : ¬ (j : Int) < (j : Int) := by omega
              have hJ := HJ.out.1
              rw [List.drop_of_length_le (by rw [HGL.out]; exact Nat.le_refl _), show dF [] = [] from if_pos rfl] at hJ
              have HJ3 := Lib.hid hJ
              have TLj := Lib.hid (TL.out wr hJ.below)
              clear hJ
              go_wp2_with (first | (go_at_call 21; (with_reducible refine (TLj.out).mono ?_); rintro e x1 ⟨rfl, hb1⟩; have H4 := Lib.hid (HJ3.out.old hb1); clear hb1; refine Hid.out ?_))
              refine Lib.hid ?_
              have AL := Lib.hid (All0 bS bM x1 (LD.sp0 H4.out))
              go_wp2_with (first | (go_at_call 24; (with_reducible refine (AL.out).mono ?_); rintro e x2 ⟨rfl, hb2⟩; have H5 := Lib.hid (H4.out.old hb2); clear hb2))
              go_ret
              exact ⟨by simp, H5.out.below⟩
end Go.Proofs.YticlacjpgjkhcaaGreatDoor
