/- The walk of the law SessionFull. -/
import Derived.Test.YtnfflkappbjoeaaSe10
import Derived.Lib.LazyBuf
namespace Go.Proofs.Ytnfflkappbjoeaa
open Go.ChangeShapes Go.WideShapes Go.ChangeAt Go.RowKit Go.Resp

theorem OwnG.of_made {c n g : Nat} {w : World} (h : w.ownsRow c 5 1 (.slice (some ⟨g, 0, none⟩) n n) n (madeCells (Value.int .u8 0).cells (n * 1)).toList) : OwnG c w (.slice (some ⟨g, 0, none⟩) n n) (List.replicate n 0) := by
  rcases h.2 with ⟨hv, _⟩ | ⟨g', cap, cur, hv, hB, hh, _, hc, hs, ht⟩
  · cases hv
  · injection hv with e1 e2 e3
    injection e1 with e1
    injection e1 with e1
    subst e1 e3
    refine .inl ⟨g, 0, n, by simp, hB, lt_of_block hh, by simp, hc, fun i x hi => ?_, fun j hj => ⟨?_, ?_⟩⟩
    · obtain ⟨hi1, hi2⟩ := List.getElem?_eq_some_iff.1 hi
      simp at hi1 hi2
      subst hi2
      have hcell := World.ownsRow.cells h (g := g) rfl i (.int .u8 0) (by
        rw [Array.getElem?_toList]
        simp [madeCells, Value.cells, hi1, Nat.mod_one])
      rw [Addr.add_lit] at hcell
      exact hcell
    · rw [cell_of_row _ _ _ _ _ _ hh, Nat.zero_add]
      simp; omega
    · unfold World.frozen?; rw [hh]; simp
theorem wpList_copy_str {ops : Array Oper} {rest : List Oper} {o : Oper} {a : Act} {Q : Exit → Act → World → Prop} (w : World) (hg : o.guard = none) (d x : Operand) (tx : TypeId) (hop : o.op = Op.call { callee := Callee.builtin Builtin.copy, args := #[d, x], argTypes := #[36, tx] })
    (c g n cap : Nat) (l : List UInt8) (t : ByteArray) (hd : a.eval d = .slice (some ⟨g, 0, none⟩) n cap) (h : OwnG c w (.slice (some ⟨g, 0, none⟩) n cap) l) (hx : a.eval x = .string t) (hle : t.size ≤ n)
    (k : ∀ w', OwnG c w' (.slice (some ⟨g, 0, none⟩) n cap) (t.data.toList ++ l.drop t.size) → Below c w w' → wpList Try.prog ops Q rest (a.put o.dst (goInt t.size)) w') : wpList Try.prog ops Q (o :: rest) a w := by
  obtain ⟨i0, hi, hz0, hz1, hz2⟩ := info_parts Try.info5
  rcases h with ⟨g', off, cap', h1, h2, h3, h4, h5, h6, h7⟩ | ⟨_, h⟩
  · injection h1 with e1 e2 e3
    injection e1 with e1
    injection e1 with e1 e4
    subst e1 e3
    subst e2
    subst e4
    have hts : t.data.toList.length = t.size := by simp
    have hrun := Go.run_copy_string (P := Try.prog) w 36 tx o.type 5 g 0 l.length cap t Try.underlying36 (fun w => by simp [sizeOf, typeInfo, hi, hz1]) hle (fun j hj => (h7 j (by omega)).1) (fun j hj => (h7 j (by omega)).2)
    refine wpList_plain hg fun K hK' => ?_
    unfold Oper.wp
    simp [execOp, hop, resolve, invoke, builtin, hd, hx, hrun, Result.andThen]
    refine hK' _ _ (k _ ?_ (below_setCells _ _ _ _ _ h2))
    have hl : (t.data.toList ++ l.drop t.size).length = l.length := by rw [List.length_append, List.length_drop, hts]; omega
    refine .inl ⟨g, 0, cap, by rw [hl], h2, by rw [size_setCells]; exact h3, by rw [hl]; exact h4, h5, ?_, fun j hj => ⟨?_, ?_⟩⟩
    · intro i x hi
      by_cases hil : i < t.size
      · rw [List.getElem?_append_left (by omega)] at hi
        have := World.cell?_setCells_in g (t.data.toList.map fun x => Value.int .u8 (x.toNat : Int)) 0 w (fun j hj => by
          rw [List.length_map] at hj
          exact (h7 j (by omega)).1) i (by rw [List.length_map]; omega)
        rw [this]
        obtain ⟨h1, h2⟩ := List.getElem?_eq_some_iff.1 hi
        simp only [List.getElem_map, h2]
      · rw [World.cell?_setCells_out g _ _ w _ (fun _ _ => .inr (by rw [List.length_map]; simp only; omega))]
        rw [List.getElem?_append_right (by omega), List.getElem?_drop] at hi
        exact h6 i x (by rw [← hi]; congr 1; omega)
    · exact World.isSome_setCells g _ _ w _ (h7 j hj).1
    · rw [World.frozen?_setCells]; exact (h7 j hj).2
  · cases h
theorem near12 (n : Int) : ∃ a : Nat, wrap64 (65530 + wrap64 ((IntKind.u64.wrap n).tmod 12)) = (a : Int) ∧ 65530 ≤ a ∧ a ≤ 65541 := by
  have e : IntKind.u64.wrap n = n % 18446744073709551616 := IntKind.wrap_u64 n
  have hm : (IntKind.u64.wrap n).tmod 12 = (n % 18446744073709551616) % 12 := by
    rw [e]; exact Int.tmod_eq_emod_of_nonneg (Int.emod_nonneg _ (by decide))
  rw [hm, IntWalk.wrap64_in ((n % 18446744073709551616) % 12) (by omega), IntWalk.wrap64_in _ (by omega)]
  exact ⟨(65530 + n % 18446744073709551616 % 12).toNat, by omega, by omega, by omega⟩
def HEAD : ByteArray := ⟨#[42, 49, 13, 10, 36, 52, 13, 10, 80, 73, 78, 71, 13, 10, 42, 49, 13, 10, 36, 49, 54, 48, 48, 48, 13, 10]⟩
def fullL (a : Nat) : List UInt8 := HEAD.data.toList ++ (List.replicate a 0).drop HEAD.size
theorem fullL_len (a : Nat) (h : 65530 ≤ a) : (fullL a).length = a := by
  unfold fullL
  rw [List.length_append, List.length_drop, List.length_replicate]
  have : HEAD.data.toList.length = 26 := rfl
  have : HEAD.size = 26 := rfl
  omega
theorem read_full (a : Nat) : readT (fullL a) = ([[80, 73, 78, 71]], 14, 0) := by
  have e : fullL a = [42, 49, 13, 10, 36, 52, 13, 10, 80, 73, 78, 71, 13, 10] ++ ([42, 49, 13, 10, 36, 49, 54, 48, 48, 48, 13, 10] ++ (List.replicate a 0).drop HEAD.size) := rfl
  have h : readT [42, 49, 13, 10, 36, 52, 13, 10, 80, 73, 78, 71, 13, 10] = ([[80, 73, 78, 71]], 14, 0) := by kernel_rfl
  rw [e, readT_more _ _ (by rw [h]; decide), h]
set_option maxRecDepth 100000 in
set_option maxHeartbeats 4000000 in
theorem full_walk (n : Int) (w : World) : Calls Try.prog 4 #[.int .i64 n] w fun e w' => e = .returned (.bool true) ∧ Below w.heap.size w w' := by
  have N := Lib.hid (fun w => New5 w)
  have T := Lib.hid (fun w => told10 w)
  obtain ⟨a, ha, a1, a2⟩ := near12 n
  obtain ⟨i0, hi, hz0, hz1, hz2⟩ := info_parts Try.info5
  have HI := Lib.hid (And.intro hi (And.intro hz0 (And.intro hz1 hz2)))
  have ha1 : (0 : Int) ≤ (a : Int) := by omega
  clear hi hz0 hz1 hz2
  go_enter Try.func4, Try.ntmps4
  go_wp2_with (first | (go_at_call 5; (with_reducible refine (N.out _).mono ?_); rintro e w1 ⟨rfl, hw1⟩; refine Hid.out ?_))
  obtain ⟨b, hb⟩ : ∃ b, w.heap.size = b := ⟨_, rfl⟩
  have S1 : Ses w1 b ses0 := by rw [← hw1, ← hb]; exact heap_alloc_new w _
  have b1 : Below b w w1 := by rw [← hw1]; exact (Below.refl _ _).alloc (by omega) _
  have z1 : b + 1 ≤ w1.heap.size := S1.lt
  rw [hb]
  unfold ses0 at S1
  have HS1 := Lib.hid S1
  have HB1 := Lib.hid b1
  have HW := Lib.hid hb
  clear S1 b1 hw1 hb
  refine Lib.hid ?_
  have qa : i0.bytes * a ≤ 281474976710656 := by rw [HI.out.2.2.2]; omega
  have qb : a ≤ maxLen := by unfold maxLen; omega
  go_wp2_with (first | (at_make; refine wpList_make_full _ rfl _ _ 36 rfl (b + 1) 5 i0 (.int .u8 0) 1 Try.underlying36 HI.out.1 HI.out.2.1 HI.out.2.2.1 .i64 .i64 _ _ a rfl rfl ha ha qa qb z1 ?_; intro w2 hown2 hgrow2; refine Hid.out ?_))
  have hB2 : Below w1.heap.size w1 w2 := ⟨hgrow2.os, hgrow2.tape, hgrow2.output, hgrow2.size, fun i hi => hgrow2.block i hi (by simp)⟩
  have HO2 := Lib.hid (OwnG.of_made hown2)
  have HS2 := Lib.hid (HS1.out.below hB2)
  have HB2 := Lib.hid (HB1.out.trans (hB2.mono (by omega)))
  have z2 : b + 1 ≤ w2.heap.size := Nat.le_trans z1 hB2.size
  clear hown2 hgrow2 hB2
  refine Lib.hid ?_
  have h26 : HEAD.size ≤ a := by show 26 ≤ a; omega
  go_wp2_with (first | (refine wpList_copy_str (o := ⟨some 26, _, _, _, _, _⟩) w2 rfl _ _ 9 rfl (b + 1) w1.heap.size a a _ HEAD rfl HO2.out rfl h26 ?_; intro w3 hO3 hb3; refine Hid.out ?_))
  have HS3 := Lib.hid (HS2.out.far (hb3.block b (Nat.lt_succ_self b)))
  have HB3 := Lib.hid (HB2.out.trans (hb3.mono (by omega)))
  have z3 : b + 1 ≤ w3.heap.size := Nat.le_trans z2 hb3.size
  have hcv := conv_bs hO3.slice
  obtain ⟨s, hs⟩ : ∃ s : ByteArray, ⟨(HEAD.data.toList ++ (List.replicate a 0).drop HEAD.size).toArray⟩ = s := ⟨_, rfl⟩
  rw [hs] at hcv
  have hsl : s.data.toList = fullL a := by rw [← hs]; rfl
  have hsz : s.size = a := by rw [size_list, hsl, fullL_len a a1]
  have HSZ := Lib.hid (And.intro hsl hsz)
  clear hO3 hb3 hs hsl hsz
  refine Lib.hid ?_
  by_cases hbig : 65536 < a
  · have PF := Lib.hid (Push_full b s [] w3 _ _ _ _ _ _ _ _ HS3.out ⟨none, 0, rfl, Nat.le_refl _, Nat.zero_le _, fun h => absurd rfl h⟩ (by decide) (by rw [HSZ.out.2]; simp; omega))
    have hbig' : (65536 : Int) < (a : Int) := by omega
    have N3 := Lib.hid (Next_more b [] w3 _ _ _ _ _ _ _ _ _ HS3.out ⟨none, 0, rfl, Nat.le_refl _, Nat.zero_le _, fun h => absurd rfl h⟩ rfl)
    go_wp2_with (first | (go_at_call 11; (with_reducible refine PF.out.mono ?_); rintro e w4 ⟨rfl, rfl⟩) | (go_at_call 12; (with_reducible refine N3.out.mono ?_); rintro e w4 ⟨rfl, hb4⟩; have HB4 := Lib.hid hb4; clear hb4) | (go_at_call 10; (with_reducible refine (T.out _).mono ?_); rintro e w5 ⟨rfl, hb5⟩; have HB5 := Lib.hid hb5; clear hb5))
    go_ret
    exact ⟨by simp, by rw [HW.out]; exact (HB3.out.trans (HB4.out.mono (by omega))).trans (HB5.out.mono (by have := HB4.out.size; omega))⟩
  · have P1 := Lib.hid (Push_ok b (b + 1) (Nat.lt_succ_self b) s [] w3 _ _ _ _ _ _ _ _ HS3.out (.inr ⟨rfl, rfl⟩) z3 (by rw [HSZ.out.2]; simp; omega))
    have hbig' : ¬ (65536 : Int) < (a : Int) := by omega
    go_wp2_with (first | (go_at_call 11; (with_reducible refine P1.out.mono ?_); rintro e w4 ⟨rfl, vin4, hs4, ho4, hb4⟩; refine Hid.out ?_))
    have HS4 := Lib.hid hs4
    have HO4 := Lib.hid ho4
    have HB4 := Lib.hid (HB3.out.trans (hb4.below (by omega)))
    have z4 : b + 1 ≤ w4.heap.size := Nat.le_trans z3 hb4.size
    have ns4 : noStr #[vin4, .slice none 0 0, .bool false, .bool false, .bool false, .slice none 0 0, .slice none 0 0, .slice none 0 0, .slice none 0 0] = true := by
      obtain ⟨A, c, h, _⟩ := ho4.slice
      rw [h]; rfl
    have hll : ([] ++ s.data.toList).length = a := by rw [List.nil_append, HSZ.out.1, fullL_len a a1]
    have HLL := Lib.hid hll
    clear hs4 ho4 hb4 hll
    refine Lib.hid ?_
    have P2 := Lib.hid (Push_full b ⟨#[49, 50, 51, 52, 53, 54, 55]⟩ _ w4 _ _ _ _ _ _ _ _ HS4.out HO4.out.slice (by rw [HLL.out]; omega) (by rw [HLL.out]; show (65536 : Int) < _ + 7; omega))
    have N4 := Lib.hid (Next_ok b (b + 1) (Nat.lt_succ_self b) _ [[80, 73, 78, 71]] 14 w4 _ _ _ _ _ _ _ _ _ HS4.out HO4.out (by rw [List.nil_append, HSZ.out.1]; exact read_full a) (by decide) (by rw [HLL.out]; omega) (by decide) z4 ns4)
    clear ns4
    go_wp2_with (first | (go_at_call 11; (with_reducible refine P2.out.mono ?_); rintro e w5 ⟨rfl, rfl⟩) | (go_at_call 12; (with_reducible refine N4.out.mono ?_); rintro e w5 ⟨⟨v5, rfl, hx5⟩, vin5, hs5, ho5, hb5⟩; refine Hid.out ?_))
    have HB5 := Lib.hid (HB4.out.trans (hb5.below (by omega)))
    obtain ⟨A5, c5, rfl, _, _, hcell⟩ := hx5
    obtain ⟨g5, o5, rfl, hg5, hcell5⟩ := hcell (by simp)
    have hc5 := Lib.hid (hcell5 0 _ rfl)
    have E1 : ([[80, 73, 78, 71]].map fun l : List UInt8 => (⟨l.toArray⟩ : ByteArray)).length = 1 := rfl
    rw [E1]
    have z5 : b ≤ w5.heap.size := by have := hb5.size; omega
    clear hs5 ho5 hb5 hcell hcell5 E1
    have N5 := Lib.hid (Next_nil w5)
    refine Lib.hid ?_
    go_wp2_with (first | (go_at_call 12; (with_reducible refine N5.out.mono ?_); rintro e w6 ⟨rfl, rfl⟩) | (go_at_call 10; (with_reducible refine (T.out _).mono ?_); rintro e w6 ⟨rfl, hb6⟩; refine Hid.out ?_))
    have hc6 : w6.cell? ⟨g5, o5, none⟩ = some (.string ⟨#[80, 73, 78, 71]⟩) := (hb6.cell (p := ⟨g5, o5, none⟩) hg5).trans hc5.out
    have HB6 := Lib.hid (HB5.out.trans (hb6.mono z5))
    have PN := Lib.hid (Push_nil ⟨#[120]⟩ w6)
    have TN := Lib.hid (Take_nil w6)
    have MN := Lib.hid (Multi_nil w6)
    have h7 : ((65536 : Int) < (a : Int) + 7) := by omega
    clear hb6
    refine Lib.hid ?_
    go_wp2_with (first | (go_at_call 11; (with_reducible refine PN.out.mono ?_); rintro e w7 ⟨rfl, rfl⟩) | (go_at_call 13; (with_reducible refine TN.out.mono ?_); rintro e w7 ⟨rfl, rfl⟩) | (go_at_call 8; (with_reducible refine MN.out.mono ?_); rintro e w7 ⟨rfl, rfl⟩))
    go_ret
    exact ⟨by simp, by rw [HW.out]; exact HB6.out⟩
end Go.Proofs.Ytnfflkappbjoeaa
