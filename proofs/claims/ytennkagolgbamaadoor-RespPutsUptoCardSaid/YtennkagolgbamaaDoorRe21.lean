/- resp.Put: what it tells of a reply. -/
import Derived.Test.YtennkagolgbamaaDoorRe20
import Derived.Deep.RegionLaw
namespace Go.Proofs.YtennkagolgbamaaDoor
open Go.ChangeShapes Go.WideShapes Go.ChangeAt Go.RowKit Go.Resp

theorem OwnB.mono {B B' : Nat} {w : World} {v : Value} {l : List UInt8} (h : OwnB B w v l) (hB : B' ≤ B) : OwnB B' w v l := by
  obtain ⟨g, cap, h1, h2, h3⟩ := h
  exact ⟨g, cap, h1, Nat.le_trans hB h2, h3⟩
theorem run_append_B (w : World) (ty : TypeId) (B : Nat) (l l2 : List UInt8) (v u : Value) (h : OwnB B w v l) (h2 : BSl w u l2) (hne : l2 ≠ []) (hb : l.length + l2.length ≤ 140737488355328) (hB : B ≤ w.heap.size) :
    ∃ v' w', (Builtin.append_ #[27, 27] ty #[v, u]).run Tryd.prog w = .ok v' w' ∧ OwnB B w' v' (l ++ l2) ∧ Below B w w' := by
  obtain ⟨i0, hi, hz0, hz1, hz2⟩ := info_parts Tryd.info5
  obtain ⟨g, cap, rfl, hBg, hlt, hlc, hcm, hcell, hsp⟩ := h
  obtain ⟨A, cap2, rfl, h21, h22, h23⟩ := h2
  obtain ⟨blk, off, rfl, hblk, hby⟩ := h23 hne
  have hnews : ∀ j u, (l2.map cellB)[j]? = some u → w.cell? ((⟨blk, off, none⟩ : Addr).add j) = some u := by
    intro j u hj
    rw [List.getElem?_map] at hj
    obtain ⟨c, hc, rfl⟩ := Option.map_eq_some_iff.1 hj
    have := hby j c hc
    rw [show cellB c = .int .u8 (c.toNat : Int) from rfl, ← this]
    unfold Addr.add
    by_cases h0 : j = 0
    · subst h0; simp
    · simp [h0]
  have hone : ∀ u ∈ l2.map cellB, u.oneCell' = true := by
    intro u hu
    obtain ⟨c, _, rfl⟩ := List.mem_map.1 hu
    rfl
  have holds : ∀ j u, (l.map cellB)[j]? = some u → w.cell? ((⟨g, 0, none⟩ : Addr).add j) = some u := by
    intro j u hj
    rw [List.getElem?_map] at hj
    obtain ⟨c, hc, rfl⟩ := Option.map_eq_some_iff.1 hj
    rw [Addr.add_mid]
    exact hcell j c hc
  by_cases hr : l.length + l2.length ≤ cap
  · have hin : ∀ j, j < (l2.map cellB).length → (w.cell? ⟨g, 0 + l.length * 1 + j, none⟩).isSome = true := fun j hj => by
      rw [List.length_map] at hj
      have := (hsp (l.length + j) (by omega)).1
      simpa using this
    have hfz : ∀ j, j < (l2.map cellB).length → w.frozen? ⟨g, 0 + l.length * 1 + j, none⟩ = false := fun j hj => by
      rw [List.length_map] at hj
      have := (hsp (l.length + j) (by omega)).2
      simpa using this
    have hrun := run_append_room_cells (P := Tryd.prog) w 27 ty 5 i0 Tryd.underlying27 hi g 0 l.length cap ⟨blk, off, none⟩ l2.length cap2 (l2.map cellB) (by rw [hz1]; simp) hnews hone hr (by rw [hz1]; exact hin) (by rw [hz1]; exact hfz)
    rw [hz1] at hrun
    refine ⟨_, _, hrun, ⟨g, cap, by rw [List.length_append], hBg, by rw [size_setCells]; exact hlt, by rw [List.length_append]; exact hr, hcm, ?_, fun j hj => ⟨?_, ?_⟩⟩, below_setCells B w g _ _ hBg⟩
    · intro i c hc
      by_cases hil : i < l.length
      · rw [World.cell?_setCells_out g _ _ w _ (fun _ _ => .inl (by simp; omega))]
        rw [List.getElem?_append_left hil] at hc
        exact hcell i c hc
      · rw [List.getElem?_append_right (by omega)] at hc
        have hj : i - l.length < (l2.map cellB).length := by rw [List.length_map]; exact (List.getElem?_eq_some_iff.1 hc).1
        have := World.cell?_setCells_in g (l2.map cellB) (0 + l.length * 1) w hin (i - l.length) hj
        rw [show 0 + l.length * 1 + (i - l.length) = 0 + i by omega] at this
        rw [this]
        have e : (l2.map cellB)[i - l.length] = cellB c := by
          obtain ⟨h1, h2⟩ := List.getElem?_eq_some_iff.1 hc
          simp [h2]
        rw [e]; rfl
    · exact World.isSome_setCells g _ _ w _ (hsp j hj).1
    · rw [World.frozen?_setCells]; exact (hsp j hj).2
  · obtain ⟨v', w', hrun, hown, hgr⟩ := run_append_arg_grows (P := Tryd.prog) w 27 ty 5 i0 (.int .u8 0) 1 1 Tryd.underlying27 hi hz0 hz1 hz2 rfl (by decide) ⟨g, 0, none⟩ l.length cap (l.map cellB) (by simp) holds ⟨blk, off, none⟩ l2.length cap2 (l2.map cellB) (by simp) hnews (by omega) (by unfold maxLen; omega) (by omega)
    have e : l.map cellB ++ l2.map cellB = (l ++ l2).map cellB := by simp
    rw [e, ← List.length_append] at hown
    obtain ⟨g', cap', h31, h32, h33⟩ := OwnB.of_own hown (by simp [hne])
    exact ⟨v', w', hrun, ⟨g', cap', h31, by omega, h33⟩, ⟨hgr.os, hgr.tape, hgr.output, hgr.size, fun i hi => hgr.block i (by omega) (by simp)⟩⟩
theorem step_append_B {ops : Array Oper} {o : Oper} {a : Act} {K : Act → World → Prop} {Q : Exit → Act → World → Prop} {E : Prop} (w : World) (hgd : o.guard = none) (s x : Operand) (hop : o.op = Op.call { callee := Callee.builtin Builtin.append, args := #[s, x], argTypes := #[27, 27] })
    (B : Nat) (l l2 : List UInt8) (v u : Value) (hs : a.eval s = v) (h : OwnB B w v l) (hx : a.eval x = u) (h2 : BSl w u l2) (hne : l2 ≠ []) (hb : l.length + l2.length ≤ 140737488355328) (hB : B ≤ w.heap.size)
    (k : ∀ v' w', OwnB B w' v' (l ++ l2) → Below B w w' → K (a.put o.dst v') w') :
    if Region.wanted o (yielded ops a.tmps) = true then Oper.wp Tryd.prog o a w K Q else E := by
  have hw : Region.wanted o (yielded ops a.tmps) = true := by simp [Region.wanted, hgd]
  rw [if_pos hw]
  obtain ⟨v', w', hr, h1, h3⟩ := run_append_B w o.type B l l2 v u h h2 hne hb hB
  unfold Oper.wp execOp
  simp only [hop, resolve, invoke, builtin, Sem.run_bind, Sem.run_pure, Result.andThen_ok, List.map_toArray, List.map_cons, List.map_nil, hs, hx, hr]
  exact k v' w' h1 h3
theorem Fmt22 {w0 : World} (hT : Tab w0) (n : Int) (hn : Fits n) (w : World) (hi : Inv w0 w) : Calls Tryd.prog 22 #[.int .i64 n, .int .i64 10] w fun e w' => e = .returned (.string ⟨(Lib.itoa n).toArray⟩) ∧ Below w.heap.size w w' := by
  refine (Tryd.strconv_FormatInt_10 n hn.1 hn.2 w (Lib.tabBelow_of_tabIs hT w hi)).mono ?_
  rintro e w' ⟨rfl, k, os, rfl⟩
  exact ⟨rfl, Lib.below_grow _ w (Nat.le_refl _) k os⟩
theorem Itoa23 {w0 : World} (hT : Tab w0) (n : Nat) (hn : n ≤ 9223372036854775807) (w : World) (hi : Inv w0 w) : Calls Tryd.prog 23 #[.int .i64 (n : Int)] w fun e w' => e = .returned (.string (digB n)) ∧ Below w.heap.size w w' := by
  refine (Tryd.strconv_Itoa n (by omega) (by omega) w (Lib.tabBelow_of_tabIs hT w hi)).mono ?_
  rintro e w' ⟨rfl, k, os, rfl⟩
  refine ⟨by rw [Lib.itoa_nonneg]; rfl, Lib.below_grow _ w (Nat.le_refl _) k os⟩
def PutAt (w0 : World) (k n : Int) (s : ByteArray) (l : Value) (out : List UInt8) : Prop := ∀ w, Inv w0 w → Calls Tryd.prog 11 #[.agg #[.int .i64 k, .int .i64 n, .string s, l]] w fun e w' => ∃ v, e = .returned v ∧ OwnN w.heap.size w' v out ∧ Below w.heap.size w w'
theorem itoaB_size (n : Int) (hn : Fits n) : (⟨(Lib.itoa n).toArray⟩ : ByteArray).size ≤ 21 := itoaB_len n hn
theorem own_out {w w1 w2 : World} {v : Value} {l l' : List UInt8} (h1 : Below w.heap.size w w1) (hO : OwnB w1.heap.size w2 v l) (hb : Below w1.heap.size w1 w2) (e : l = l') : OwnN w.heap.size w2 v l' ∧ Below w.heap.size w w2 := by
  subst e
  exact ⟨.inl (hO.mono (Below.size h1)), h1.trans (hb.mono (Below.size h1))⟩
theorem box_below (w : World) (o : Obj) : Below w.heap.size w (w.alloc o) := (Below.refl _ _).alloc (Nat.le_refl _) _
set_option maxHeartbeats 2000000 in
theorem put_one (w0 : World) (n : Int) (s : ByteArray) (l : Value) (hs : s.size ≤ 1048576) : PutAt w0 1 n s l (lineL (43 :: s.data.toList)) := by
  intro w hi
  have L := Lib.hid lineO
  have hd : ({ data := #[43] } ++ s : ByteArray).size = 1 + s.size := by rw [ByteArray.size_append]; rfl
  go_enter Tryd.func11, Tryd.ntmps11
  go_wp2_with (first | (go_at_call 21; (with_reducible refine (L.out _ (by rw [hd]; omega) _).mono ?_); rintro e w2 ⟨v2, rfl, hO, hb2⟩))
  go_ret
  exact ⟨_, rfl, own_out (box_below _ _) hO hb2 (by unfold lineL; simp)⟩
set_option maxHeartbeats 2000000 in
theorem put_two {w0 : World} (hT : Tab w0) (n : Int) (hn : Fits n) (s : ByteArray) (l : Value) : PutAt w0 2 n s l (lineL (45 :: 69 :: 82 :: 82 :: 32 :: Lib.itoa n)) := by
  intro w hi
  have L := Lib.hid lineO
  have F := Lib.hid (fun w => Fmt22 hT n hn w)
  have HI := Lib.hid (hi.on (box_below w (.cells #[.int .i64 2, .int .i64 n, .string s, l] 24)))
  have hq := itoaB_size n hn
  have hq2 := itoaB_len n hn
  have hd : ({ data := #[45, 69, 82, 82, 32] } ++ (⟨(Lib.itoa n).toArray⟩ : ByteArray)).size = 5 + (⟨(Lib.itoa n).toArray⟩ : ByteArray).size := by rw [ByteArray.size_append]; rfl
  clear hi
  go_enter Tryd.func11, Tryd.ntmps11
  go_wp2_with (first | (go_at_call 22; (with_reducible refine (F.out _ HI.out).mono ?_); rintro e w1 ⟨rfl, hb1⟩; have HB1 := Lib.hid hb1; clear hb1) | (go_at_call 21; (with_reducible refine (L.out _ (by rw [hd]; omega) _).mono ?_); rintro e w2 ⟨v2, rfl, hO, hb2⟩))
  go_ret
  exact ⟨_, rfl, own_out ((box_below _ _).trans (HB1.out.mono (by simp))) hO hb2 (by unfold lineL; simp)⟩
set_option maxHeartbeats 2000000 in
theorem put_three {w0 : World} (hT : Tab w0) (n : Int) (hn : Fits n) (s : ByteArray) (l : Value) : PutAt w0 3 n s l (lineL (58 :: Lib.itoa n)) := by
  intro w hi
  have L := Lib.hid lineO
  have F := Lib.hid (fun w => Fmt22 hT n hn w)
  have HI := Lib.hid (hi.on (box_below w (.cells #[.int .i64 3, .int .i64 n, .string s, l] 24)))
  have hq := itoaB_size n hn
  have hq2 := itoaB_len n hn
  have hd : ({ data := #[58] } ++ (⟨(Lib.itoa n).toArray⟩ : ByteArray)).size = 1 + (⟨(Lib.itoa n).toArray⟩ : ByteArray).size := by rw [ByteArray.size_append]; rfl
  clear hi
  go_enter Tryd.func11, Tryd.ntmps11
  go_wp2_with (first | (go_at_call 22; (with_reducible refine (F.out _ HI.out).mono ?_); rintro e w1 ⟨rfl, hb1⟩; have HB1 := Lib.hid hb1; clear hb1) | (go_at_call 21; (with_reducible refine (L.out _ (by rw [hd]; omega) _).mono ?_); rintro e w2 ⟨v2, rfl, hO, hb2⟩))
  go_ret
  exact ⟨_, rfl, own_out ((box_below _ _).trans (HB1.out.mono (by simp))) hO hb2 (by unfold lineL; simp)⟩
set_option maxHeartbeats 2000000 in
theorem put_five (w0 : World) (n : Int) (s : ByteArray) (l : Value) : PutAt w0 5 n s l (lineL [36, 45, 49]) := by
  intro w hi
  have L := Lib.hid (lineO ⟨#[36, 45, 49]⟩ (by decide))
  go_enter Tryd.func11, Tryd.ntmps11
  go_wp2_with (first | (go_at_call 21; (with_reducible refine (L.out _).mono ?_); rintro e w2 ⟨v2, rfl, hO, hb2⟩))
  go_ret
  exact ⟨_, rfl, own_out (box_below _ _) hO hb2 rfl⟩
set_option maxHeartbeats 2000000 in
theorem put_seven (w0 : World) (n : Int) (s : ByteArray) (l : Value) : PutAt w0 7 n s l (lineL [42, 45, 49]) := by
  intro w hi
  have L := Lib.hid (lineO ⟨#[42, 45, 49]⟩ (by decide))
  go_enter Tryd.func11, Tryd.ntmps11
  go_wp2_with (first | (go_at_call 21; (with_reducible refine (L.out _).mono ?_); rintro e w2 ⟨v2, rfl, hO, hb2⟩))
  go_ret
  exact ⟨_, rfl, own_out (box_below _ _) hO hb2 rfl⟩
set_option maxHeartbeats 2000000 in
theorem put_none (w0 : World) (k n : Int) (s : ByteArray) (l : Value) (h1 : k ≠ 1) (h2 : k ≠ 2) (h3 : k ≠ 3) (h4 : k ≠ 4) (h5 : k ≠ 5) (h6 : k ≠ 6) (h7 : k ≠ 7) : PutAt w0 k n s l [] := by
  intro w hi
  go_enter Tryd.func11, Tryd.ntmps11
  go_wp2
  go_ret
  exact ⟨_, rfl, .inr ⟨rfl, rfl⟩, box_below _ _⟩
end Go.Proofs.YtennkagolgbamaaDoor
