/- Texts joined: S6, V1S, G13, G19 -/
import Derived.Test.YticlacjpgjkhcaaGreatDoorQs18
import Derived.Test.YticlacjpgjkhcaaGreatDoorQs15
import Derived.Test.YticlacjpgjkhcaaGreatDoorQs5
import Derived.Test.YticlacjpgjkhcaaGreatDoorQs4
set_option linter.unusedVariables false
set_option linter.unusedSimpArgs false

/- A skip list: the node of a rank, how many there are, a name's score. -/
namespace Go.Proofs.YticlacjpgjkhcaaGreatDoor
open Go.ChangeShapes Go.WideShapes Go.ChangeAt Go.RowKit

set_option maxRecDepth 100000 in
set_option maxHeartbeats 8000000 in
/-- skip.node of a rank that there is. -/
theorem node_any (c sp bM : Nat) (hd : Nd) (L : List Nd) (made high : Int) (rk : Nat) (y9 : Nd) (hr : L[rk]? = some y9) (w : World) (hs : w.heap[sp]? = some (.cells #[.pointer (some ⟨hd.a, 0, none⟩), .map (some bM), .int .u64 made, .int .i64 high] 197)) (h : SKm w c hd L) (hlen : L.length ≤ 1000000) : Calls Tryz.prog 180 #[.pointer (some ⟨sp, 0, none⟩), .int .i64 (rk : Nat)] w fun e w' => e = .returned (.pointer (some ⟨y9.a, 0, none⟩)) ∧ Below w.heap.size w w' := by
  have H := Lib.hid (fun X (hX : Below w.heap.size w X) => h.below hX)
  obtain ⟨⟨c0, c1, c2, c3⟩, _⟩ := cells4 hs
  have hrl : rk < L.length := (List.getElem?_eq_some_iff.1 hr).1
  have hhd := h.head
  have HLEN := Lib.hid hlen
  have HRL := Lib.hid hrl
  have HR := Lib.hid hr
  clear hs hlen h hrl hr
  go_enter Tryz.func180, Tryz.ntmps180
  go_wp2
  clear c0 c1 c2 c3
  go_loopw [5, 6, 7] (fun av nv kv wr => ∃ (kk : Nat) (P : List Nd) (y : Nd) (T : List Nd), kk ≤ 20 ∧ av = .pointer (some ⟨y.a, 0, none⟩) ∧ nv = .int .i64 ((P.length : Int) - 1) ∧ kv = .int .i64 ((kk : Int) - 1) ∧ Hid (hd :: L = P ++ y :: T ∧ kk ≤ y.h ∧ P.length ≤ rk + 1 ∧ (kk = 0 → P.length = rk + 1) ∧ Below w.heap.size w wr)) (fun _ _ kv _ => (intOf kv + 1).toNat)
  case atStart => exact ⟨20, [], hd, L, by omega, rfl, rfl, rfl, Lib.hid ⟨rfl, by omega, by simp, by omega, Below.refl _ _⟩⟩
  case round =>
    obtain ⟨kk, P0, y0, T0, hkk, rfl, rfl, rfl, HQ⟩ := hrel
    obtain ⟨w5, rfl⟩ : ∃ w5, w5 = wr := ⟨_, rfl⟩
    rcases Nat.eq_zero_or_pos kk with rfl | hpos
    · have hy : y0 = y9 := by
        obtain ⟨h1, _, _, h4, _⟩ := HQ.out
        have h5 := HR.out
        have h6 : (hd :: L)[rk + 1]? = some y9 := by simpa using h5
        rw [h1, ← h4 rfl, List.getElem?_append_right (Nat.le_refl _), Nat.sub_self] at h6
        simpa using h6
      subst hy
      go_wp2
      go_ret
      exact ⟨rfl, HQ.out.2.2.2.2⟩
    · obtain ⟨k, rfl⟩ : ∃ k, kk = k + 1 := ⟨kk - 1, by omega⟩
      have e : ((k + 1 : Nat) : Int) - 1 = (k : Int) := by omega
      simp only [e]
      have hk20 : k < 20 := by omega
      have k0 : (0 : Int) ≤ (k : Int) := by omega
      clear e hkk hpos
      go_wp2
      go_loopw [5, 6] (fun av nv wx => ∃ (P : List Nd) (y : Nd) (T : List Nd), av = .pointer (some ⟨y.a, 0, none⟩) ∧ nv = .int .i64 ((P.length : Int) - 1) ∧ Hid (hd :: L = P ++ y :: T ∧ k < y.h ∧ P.length ≤ rk + 1 ∧ Below w.heap.size w wx)) (fun _ nv _ => L.length + 1 - (intOf nv + 1).toNat)
      case atStart => exact ⟨P0, y0, T0, rfl, rfl, Lib.hid ⟨HQ.out.1, HQ.out.2.1, HQ.out.2.2.1, HQ.out.2.2.2.2⟩⟩
      case round =>
        obtain ⟨P, y, T, rfl, rfl, HX⟩ := hrel
        obtain ⟨wx, rfl⟩ : ∃ wx, wx = wr := ⟨_, rfl⟩
        have hbw := HX.out.2.2.2
        have hyN : y ∈ hd :: L := by rw [HX.out.1]; simp
        have hyk : k < y.h := HX.out.2.1
        have hyi : (k : Int) < (y.h : Int) := by omega
        have hm := H.out wx hbw
        obtain ⟨a1, a2⟩ := LvM.at (HX.out.1 ▸ hm.lv k hk20) hyk
        obtain ⟨_, _, c2, c3⟩ := ptr_cell (hm.nodes y hyN)
        have hPl : P.length ≤ L.length := by have := congrArg List.length HX.out.1; simp at this; omega
        obtain ⟨n, hn⟩ : ∃ n : Nat, P.length = n := ⟨_, rfl⟩
        have HN := Lib.hid hn
        rw [hn] at hPl ⊢
        have HPL := Lib.hid hPl
        cases hf : fstN k T with
        | some z =>
          obtain ⟨P', Q, rfl, h1, h2, h3⟩ := fstN_some hf
          rw [hf] at a1
          replace a1 : wx.cell? ⟨y.nx, k, none⟩ = some (.pointer (some ⟨z.a, 0, none⟩)) := a1
          rw [h3] at a2
          obtain ⟨d, hd9⟩ : ∃ d : Nat, P'.length + 1 = d := ⟨_, rfl⟩
          rw [hd9] at a2
          have hnd : n + d ≤ L.length := by have := congrArg List.length HX.out.1; simp at this; omega
          have hlen := HLEN.out
          have hw : IntKind.i64.wrap ((n : Int) - 1 + (d : Int)) = (n : Int) - 1 + (d : Int) := by rw [IntKind.wrap_i64]; omega
          have hw2 : wrap64 ((n : Int) - 1 + (d : Int)) = (n : Int) - 1 + (d : Int) := by unfold wrap64; omega
          have HD := Lib.hid hd9
          have HZ := Lib.hid h2
          have HND := Lib.hid hnd
          by_cases hle : n + d ≤ rk + 1
          · have hc : ((n : Int) - 1 + (d : Int)) ≤ (rk : Int) := by omega
            have HLE := Lib.hid hle
            clear hf h1 h2 h3 hd9 hnd hlen hle hPl hn hm hbw hyN hyk
            go_wp2
            go_region
            go_wp2_with fail
            exact ⟨⟨P ++ y :: P', z, Q, rfl, by have := HD.out; have := HN.out; simp; omega, Lib.hid ⟨by rw [HX.out.1]; simp, HZ.out, by have := HD.out; have := HN.out; have := HLE.out; simp; omega, HX.out.2.2.2.drew⟩⟩, by have := HD.out; have := HND.out; simp only [intOf]; omega⟩
          · have hc : ¬ ((n : Int) - 1 + (d : Int)) ≤ (rk : Int) := by omega
            have HE := Lib.hid (show k = 0 → P.length = rk + 1 from fun hk => by
              subst hk
              have hp : P' = [] := by
                cases P' with
                | nil => rfl
                | cons u P' => exact absurd (Nat.lt_of_lt_of_le Nat.zero_lt_one ((hm.nodes u (by rw [HX.out.1]; simp)).h1)) (h1 u (by simp))
              subst hp
              have h9 : P.length ≤ rk + 1 := HX.out.2.2.1
              simp at hd9
              omega)
            clear hf h1 h2 h3 hd9 hnd hlen hle hPl hm hbw hyN hyk
            go_wp2
            exact ⟨⟨k, P, y, P' ++ z :: Q, by omega, rfl, by rw [hn], by go_num, Lib.hid ⟨HX.out.1, Nat.le_of_lt HX.out.2.1, HX.out.2.2.1, HE.out, HX.out.2.2.2⟩⟩, by simp [intOf]⟩
        | none =>
          obtain ⟨h1, _⟩ := fstN_none hf
          rw [hf] at a1
          replace a1 : wx.cell? ⟨y.nx, k, none⟩ = some (.pointer none) := a1
          have HE := Lib.hid (show k = 0 → P.length = rk + 1 from fun hk => by
            subst hk
            have hp : T = [] := by
              cases T with
              | nil => rfl
              | cons u T => exact absurd (Nat.lt_of_lt_of_le Nat.zero_lt_one ((hm.nodes u (by rw [HX.out.1]; simp)).h1)) (h1 u (by simp))
            subst hp
            have h9 : P.length ≤ rk + 1 := HX.out.2.2.1
            have h8 := congrArg List.length HX.out.1
            have h7 := HRL.out
            simp at h8
            omega)
          clear hf h1 hPl hm hbw hyN hyk a2
          go_wp2
          exact ⟨⟨k, P, y, T, by omega, rfl, by rw [hn], by go_num, Lib.hid ⟨HX.out.1, Nat.le_of_lt HX.out.2.1, HX.out.2.2.1, HE.out, HX.out.2.2.2⟩⟩, by simp [intOf]⟩
set_option maxRecDepth 100000 in
set_option maxHeartbeats 8000000 in
theorem Len_any (c sp bM : Nat) (hd : Nd) (L : List Nd) (E : List (ByteArray × Int)) (made high : Int) (w : World) (h : SKs w c sp bM hd L E made high) : Calls Tryz.prog 123 #[.pointer (some ⟨sp, 0, none⟩)] w fun e w' => e = .returned (.int .i64 (L.length : Nat)) ∧ w' = w := by
  have LN := MapT.run_len Tryz.underlying49 h.map
  rw [List.length_map, h.len] at LN
  obtain ⟨⟨c0, c1, c2, c3⟩, _⟩ := cells4 h.set
  clear h
  go_enter Tryz.func123, Tryz.ntmps123
  go_wp2
  go_ret
  exact ⟨rfl, rfl⟩
set_option maxRecDepth 100000 in
set_option maxHeartbeats 8000000 in
theorem Score_any (c sp bM : Nat) (hd : Nd) (L : List Nd) (E : List (ByteArray × Int)) (made high : Int) (k : ByteArray) (w : World) (h : SKs w c sp bM hd L E made high) : Calls Tryz.prog 117 #[.pointer (some ⟨sp, 0, none⟩), .string k] w fun e w' => e = .returned (.tuple #[.int .i64 ((findD k (zN L)).getD 0), .bool (findD k (zN L)).isSome]) ∧ w' = w := by
  have LK := MapT.run_lookup (P := Tryz.prog) Tryz.underlying49 Tryz.underlying9 h.map k true (.int .i64 0) (by kernel_rfl)
  rw [findE, h.same] at LK
  obtain ⟨o, ho⟩ : ∃ o, findD k (zN L) = o := ⟨_, rfl⟩
  rw [ho] at LK ⊢
  obtain ⟨⟨c0, c1, c2, c3⟩, _⟩ := cells4 h.set
  clear h ho
  cases o with
  | none =>
    simp only [Option.map_none, Option.getD_none, Option.isSome_none, if_true] at LK ⊢
    go_enter Tryz.func117, Tryz.ntmps117
    go_wp2
    exact bodyPost_ret (v := .tuple #[.int .i64 0, .bool false]) (by simp [results, Tryz.results117, go_sem]) rfl ⟨rfl, rfl⟩
  | some s =>
    simp only [Option.map_some, Option.getD_some, Option.isSome_some, if_true] at LK ⊢
    go_enter Tryz.func117, Tryz.ntmps117
    go_wp2
    exact bodyPost_ret (v := .tuple #[.int .i64 s, .bool true]) (by simp [results, Tryz.results117, go_sem]) rfl ⟨rfl, rfl⟩
end Go.Proofs.YticlacjpgjkhcaaGreatDoor

/- Rows of elements of two cells (kind S): cells, copies. -/
namespace Go.Proofs.YticlacjpgjkhcaaGreatDoor
open Go.ChangeShapes Go.WideShapes Go.ChangeAt Go.RowKit

def cS (p : ByteArray × Int) : List Value := [.string p.1, .int .i64 p.2]
theorem cS_len (l : List (ByteArray × Int)) : (l.flatMap cS).length = l.length * 2 := by
  induction l with
  | nil => rfl
  | cons p r ih => rw [List.flatMap_cons, List.length_append, ih, List.length_cons]; simp [cS]; omega
theorem cS_at (l : List (ByteArray × Int)) (i j : Nat) (p : ByteArray × Int) (v : Value) (hi : l[i]? = some p) (hv : (cS p)[j]? = some v) : (l.flatMap cS)[i * 2 + j]? = some v := by
  induction l generalizing i with
  | nil => simp at hi
  | cons q r ih =>
    rw [List.flatMap_cons]
    have hj : j < 2 := by have := (List.getElem?_eq_some_iff.1 hv).1; simpa [cS] using this
    cases i with
    | zero =>
      simp at hi
      subst hi
      rw [Nat.zero_mul, Nat.zero_add, List.getElem?_append_left (by simpa [cS] using hj)]
      exact hv
    | succ i =>
      rw [List.getElem?_append_right (by simp [cS]; omega)]
      have e : (i + 1) * 2 + j - (cS q).length = i * 2 + j := by simp [cS]; omega
      rw [e]
      exact ih i (by simpa using hi)
theorem cS_one (l : List (ByteArray × Int)) : ∀ u ∈ l.flatMap cS, u.oneCell' = true := by
  intro u hu
  obtain ⟨p, _, h⟩ := List.mem_flatMap.1 hu
  simp [cS] at h
  rcases h with rfl | rfl <;> rfl
theorem iS : (Tryz.prog.info? 52).map (fun i => (i.zero, i.size, i.bytes)) = some (some (.agg #[.string ⟨#[]⟩, .int .i64 0]), 2, 24) := by kernel_rfl
/-- A row of elements. -/
def RS (w : World) (c : Nat) (v : Value) (l : List (ByteArray × Int)) : Prop := w.ownsRow c 52 2 v l.length (l.flatMap cS)
theorem RS.mono {w : World} {c c' : Nat} {v : Value} {l : List (ByteArray × Int)} (h : RS w c v l) (hc : c' ≤ c) : RS w c' v l := row_mono h hc
theorem RS.below {w w' : World} {c : Nat} {v : Value} {l : List (ByteArray × Int)} (h : RS w c v l) (hb : Below w.heap.size w w') : RS w' c v l := row_below h hb
theorem RS.kept {w w' : World} {c : Nat} {v : Value} {l : List (ByteArray × Int)} (h : RS w c v l) (hb : ∀ g, v.ownBlock = some g → w'.heap[g]? = w.heap[g]?) : RS w' c v l := row_kept h hb
theorem RS.at {w : World} {c g C n : Nat} {l : List (ByteArray × Int)} (h : RS w c (.slice (some ⟨g, 0, none⟩) n C) l) (hn : l.length = n) (i : Nat) (p : ByteArray × Int) (hi : l[i]? = some p) : w.cell? ⟨g, i * 2, none⟩ = some (.string p.1) ∧ w.cell? ⟨g, i * 2 + 1, none⟩ = some (.int .i64 p.2) := by
  subst hn
  exact ⟨row_cell h (i * 2) _ (cS_at l i 0 p _ hi rfl), row_cell h (i * 2 + 1) _ (cS_at l i 1 p _ hi rfl)⟩
theorem RS.form {w : World} {c : Nat} {v : Value} {l : List (ByteArray × Int)} (h : RS w c v l) (hne : l ≠ []) : ∃ g C, v = .slice (some ⟨g, 0, none⟩) l.length C ∧ l.length ≤ C := by
  obtain ⟨A, C, rfl, hA, hC⟩ := row_form h
  rcases hA with hA | ⟨g, rfl⟩
  · exact absurd (List.length_eq_zero_iff.1 hA) hne
  · exact ⟨g, C, rfl, hC⟩
set_option maxRecDepth 100000 in
set_option maxHeartbeats 4000000 in
/-- slices.Clone of them. -/
theorem CloneS (c g C : Nat) (l : List (ByteArray × Int)) (n : Nat) (hn : l.length = n) (h1 : 1 ≤ n) (hm : n ≤ 1000000) (w : World) (h : RS w c (.slice (some ⟨g, 0, none⟩) n C) l) : Calls Tryz.prog 147 #[.slice (some ⟨g, 0, none⟩) n C] w fun e w' => ∃ g' C', e = .returned (.slice (some ⟨g', 0, none⟩) n C') ∧ RS w' w.heap.size (.slice (some ⟨g', 0, none⟩) n C') l ∧ Below w.heap.size w w' := by
  have hq : ∀ w, (binOp .eql 48 (.slice (some ⟨g, 0, none⟩) n C) (.slice none 0 0)).run Tryz.prog w = .ok (.bool false) w := fun w => by kernel_rfl
  have A1 := Lib.hid (alloc_old (w := w) (o := .cells #[] 52))
  have R0 := Lib.hid (World.ownsRow_made (base := w.heap.size) (size := 2) (e := 52) w #[] 0 (Nat.le_refl _) (by decide) rfl)
  have h' := h.below A1.out
  have HN := Lib.hid hn
  subst hn
  have NW := Lib.hid (show ∀ (j : Nat) (u : Value), (l.flatMap cS)[j]? = some u → (w.alloc (.cells #[] 52)).cell? ((⟨g, 0, none⟩ : Addr).add j) = some u from fun j u hu => by
    rw [Addr.add_lit, Nat.zero_add]
    exact row_cell h' j u hu)
  have ON := Lib.hid (cS_one l)
  have LN := Lib.hid (cS_len l)
  obtain ⟨i0, hi0, hz0, hz1, hz2⟩ := info_parts iS
  have ZZ := Lib.hid (show w.heap.size ≤ (w.alloc (.cells #[] 52)).heap.size by simp)
  obtain ⟨n, hn⟩ : ∃ n, l.length = n := ⟨_, rfl⟩
  rw [hn] at h1 hm hq LN ⊢
  have HL := Lib.hid hn
  clear h h' HN hn
  go_enter Tryz.func147, Tryz.ntmps147
  go_wp2_with (first | (at_builtin; refine wpList_append_lies _ rfl _ _ 48 rfl w.heap.size 52 i0 _ 2 24 Tryz.underlying48 hi0 hz0 hz1 hz2 rfl (by decide) (.slice (some ⟨w.heap.size, 0, none⟩) 0 0) 0 [] rfl R0.out ⟨g, 0, none⟩ n C (l.flatMap cS) rfl LN.out NW.out ON.out (by omega) (by unfold maxLen; omega) (by omega) ZZ.out _ rfl ?_; intro g5 C5 w5 hO5 hG5 h5 h6; have O5 := Lib.hid hO5; have G5 := Lib.hid hG5; clear hO5 hG5 h5 h6))
  go_ret
  refine ⟨g5, C5, rfl, ?_, A1.out.grown G5.out ZZ.out (fun k hk => (row_own R0.out k hk).1)⟩
  unfold RS
  rw [HL.out]
  have := O5.out
  rw [Nat.zero_add, List.nil_append] at this
  exact this
end Go.Proofs.YticlacjpgjkhcaaGreatDoor

/- job.Span at any places. -/
namespace Go.Proofs.YticlacjpgjkhcaaGreatDoor
open Go.ChangeShapes Go.WideShapes Go.ChangeAt Go.RowKit

/-- The place from which a part goes. -/
def spA (i n : Int) : Int := if i < 0 then max i (-n) + n else i
/-- The place up to which it goes. -/
def spC (j n : Int) : Int := min (if j < 0 then max j (-n - 1) + n else j) (n - 1)
set_option maxHeartbeats 2000000 in
theorem Span_yes (i j : Int) (n : Nat) (hi : -1000000000 ≤ i ∧ i ≤ 1000000000) (hj : -1000000000 ≤ j ∧ j ≤ 1000000000) (hn : n ≤ 1000000) (h : spA i n ≤ spC j n) (w : World) : Calls Tryz.prog 125 #[.int .i64 i, .int .i64 j, .int .i64 n] w fun e w' => e = .returned (.tuple #[.int .i64 (spA i n), .int .i64 (spC j n + 1), .bool true]) ∧ Below w.heap.size w w' := by
  have w1 : wrap64 (-(n : Int)) = -(n : Int) := IntWalk.wrap64_in _ (by omega)
  have w2 : wrap64 (-(n : Int) - 1) = -(n : Int) - 1 := IntWalk.wrap64_in _ (by omega)
  have w3 : wrap64 ((n : Int) - 1) = (n : Int) - 1 := IntWalk.wrap64_in _ (by omega)
  have w4 : wrap64 (-(n : Int) + (n : Int)) = 0 := (IntWalk.wrap64_in _ (by omega)).trans (by omega)
  have w5 : wrap64 (-(n : Int) - 1 + (n : Int)) = -1 := (IntWalk.wrap64_in _ (by omega)).trans (by omega)
  have w6 : wrap64 (i + (n : Int)) = i + (n : Int) := IntWalk.wrap64_in _ (by omega)
  have w7 : wrap64 (j + (n : Int)) = j + (n : Int) := IntWalk.wrap64_in _ (by omega)
  have w8 : wrap64 (j + (n : Int) + 1) = j + (n : Int) + 1 := IntWalk.wrap64_in _ (by omega)
  have w9 : wrap64 (j + 1) = j + 1 := IntWalk.wrap64_in _ (by omega)
  have w10 : wrap64 ((n : Int) - 1 + 1) = n := (IntWalk.wrap64_in _ (by omega)).trans (by omega)
  have SI : ¬ i < 0 ∨ (i < 0 ∧ i < -(n : Int)) ∨ (i < 0 ∧ ¬ i < -(n : Int)) := by omega
  have SJ : ¬ j < 0 ∨ (j < 0 ∧ j < -(n : Int) - 1) ∨ (j < 0 ∧ ¬ j < -(n : Int) - 1) := by omega
  rcases SI with si | si | si
  · have a1 : ¬ i < 0 := si
    have hA : spA i n = i := by unfold spA; split <;> omega
    rcases SJ with sj | sj | sj
    · have b1 : ¬ j < 0 := sj
      by_cases sc : (n : Int) - 1 < j
      · have hc : spC j n = (n : Int) - 1 := by unfold spC; split <;> omega
        rw [hA, hc] at h ⊢
        have ht : ¬ (n : Int) - 1 < i := by omega
        clear hA hc h si sj hi hj
        go_enter Tryz.func125, Tryz.ntmps125
        go_wp2
        all_goals (go_ret3; exact ⟨by simp <;> omega, Below.refl _ _⟩)
      · have hc : spC j n = j := by unfold spC; split <;> omega
        rw [hA, hc] at h ⊢
        have ht : ¬ j < i := by omega
        clear hA hc h si sj hi hj
        go_enter Tryz.func125, Tryz.ntmps125
        go_wp2
        all_goals (go_ret3; exact ⟨by simp <;> omega, Below.refl _ _⟩)
    · have b1 : j < 0 := sj.1
      have b2 : j < -(n : Int) - 1 := sj.2
      by_cases sc : (n : Int) - 1 < (-1)
      · have hc : spC j n = (n : Int) - 1 := by unfold spC; split <;> omega
        rw [hA, hc] at h ⊢
        have ht : ¬ (n : Int) - 1 < i := by omega
        clear hA hc h si sj hi hj
        go_enter Tryz.func125, Tryz.ntmps125
        go_wp2
        all_goals (go_ret3; exact ⟨by simp <;> omega, Below.refl _ _⟩)
      · have hc : spC j n = (-1) := by unfold spC; split <;> omega
        rw [hA, hc] at h ⊢
        have ht : ¬ (-1) < i := by omega
        clear hA hc h si sj hi hj
        go_enter Tryz.func125, Tryz.ntmps125
        go_wp2
        all_goals (go_ret3; exact ⟨by simp <;> omega, Below.refl _ _⟩)
    · have b1 : j < 0 := sj.1
      have b2 : ¬ j < -(n : Int) - 1 := sj.2
      by_cases sc : (n : Int) - 1 < (j + (n : Int))
      · have hc : spC j n = (n : Int) - 1 := by unfold spC; split <;> omega
        rw [hA, hc] at h ⊢
        have ht : ¬ (n : Int) - 1 < i := by omega
        clear hA hc h si sj hi hj
        go_enter Tryz.func125, Tryz.ntmps125
        go_wp2
        all_goals (go_ret3; exact ⟨by simp <;> omega, Below.refl _ _⟩)
      · have hc : spC j n = (j + (n : Int)) := by unfold spC; split <;> omega
        rw [hA, hc] at h ⊢
        have ht : ¬ (j + (n : Int)) < i := by omega
        clear hA hc h si sj hi hj
        go_enter Tryz.func125, Tryz.ntmps125
        go_wp2
        all_goals (go_ret3; exact ⟨by simp <;> omega, Below.refl _ _⟩)
  · have a1 : i < 0 := si.1
    have a2 : i < -(n : Int) := si.2
    have hA : spA i n = 0 := by unfold spA; split <;> omega
    rcases SJ with sj | sj | sj
    · have b1 : ¬ j < 0 := sj
      by_cases sc : (n : Int) - 1 < j
      · have hc : spC j n = (n : Int) - 1 := by unfold spC; split <;> omega
        rw [hA, hc] at h ⊢
        have ht : ¬ (n : Int) - 1 < 0 := by omega
        clear hA hc h si sj hi hj
        go_enter Tryz.func125, Tryz.ntmps125
        go_wp2
        all_goals (go_ret3; exact ⟨by simp <;> omega, Below.refl _ _⟩)
      · have hc : spC j n = j := by unfold spC; split <;> omega
        rw [hA, hc] at h ⊢
        have ht : ¬ j < 0 := by omega
        clear hA hc h si sj hi hj
        go_enter Tryz.func125, Tryz.ntmps125
        go_wp2
        all_goals (go_ret3; exact ⟨by simp <;> omega, Below.refl _ _⟩)
    · have b1 : j < 0 := sj.1
      have b2 : j < -(n : Int) - 1 := sj.2
      by_cases sc : (n : Int) - 1 < (-1)
      · have hc : spC j n = (n : Int) - 1 := by unfold spC; split <;> omega
        rw [hA, hc] at h ⊢
        have ht : ¬ (n : Int) - 1 < 0 := by omega
        clear hA hc h si sj hi hj
        go_enter Tryz.func125, Tryz.ntmps125
        go_wp2
        all_goals (go_ret3; exact ⟨by simp <;> omega, Below.refl _ _⟩)
      · have hc : spC j n = (-1) := by unfold spC; split <;> omega
        rw [hA, hc] at h ⊢
        have ht : ¬ (-1) < 0 := by omega
        clear hA hc h si sj hi hj
        go_enter Tryz.func125, Tryz.ntmps125
        go_wp2
        all_goals (go_ret3; exact ⟨by simp <;> omega, Below.refl _ _⟩)
    · have b1 : j < 0 := sj.1
      have b2 : ¬ j < -(n : Int) - 1 := sj.2
      by_cases sc : (n : Int) - 1 < (j + (n : Int))
      · have hc : spC j n = (n : Int) - 1 := by unfold spC; split <;> omega
        rw [hA, hc] at h ⊢
        have ht : ¬ (n : Int) - 1 < 0 := by omega
        clear hA hc h si sj hi hj
        go_enter Tryz.func125, Tryz.ntmps125
        go_wp2
        all_goals (go_ret3; exact ⟨by simp <;> omega, Below.refl _ _⟩)
      · have hc : spC j n = (j + (n : Int)) := by unfold spC; split <;> omega
        rw [hA, hc] at h ⊢
        have ht : ¬ (j + (n : Int)) < 0 := by omega
        clear hA hc h si sj hi hj
        go_enter Tryz.func125, Tryz.ntmps125
        go_wp2
        all_goals (go_ret3; exact ⟨by simp <;> omega, Below.refl _ _⟩)
  · have a1 : i < 0 := si.1
    have a2 : ¬ i < -(n : Int) := si.2
    have hA : spA i n = i + (n : Int) := by unfold spA; split <;> omega
    rcases SJ with sj | sj | sj
    · have b1 : ¬ j < 0 := sj
      by_cases sc : (n : Int) - 1 < j
      · have hc : spC j n = (n : Int) - 1 := by unfold spC; split <;> omega
        rw [hA, hc] at h ⊢
        have ht : ¬ (n : Int) - 1 < i + (n : Int) := by omega
        clear hA hc h si sj hi hj
        go_enter Tryz.func125, Tryz.ntmps125
        go_wp2
        all_goals (go_ret3; exact ⟨by simp <;> omega, Below.refl _ _⟩)
      · have hc : spC j n = j := by unfold spC; split <;> omega
        rw [hA, hc] at h ⊢
        have ht : ¬ j < i + (n : Int) := by omega
        clear hA hc h si sj hi hj
        go_enter Tryz.func125, Tryz.ntmps125
        go_wp2
        all_goals (go_ret3; exact ⟨by simp <;> omega, Below.refl _ _⟩)
    · have b1 : j < 0 := sj.1
      have b2 : j < -(n : Int) - 1 := sj.2
      by_cases sc : (n : Int) - 1 < (-1)
      · have hc : spC j n = (n : Int) - 1 := by unfold spC; split <;> omega
        rw [hA, hc] at h ⊢
        have ht : ¬ (n : Int) - 1 < i + (n : Int) := by omega
        clear hA hc h si sj hi hj
        go_enter Tryz.func125, Tryz.ntmps125
        go_wp2
        all_goals (go_ret3; exact ⟨by simp <;> omega, Below.refl _ _⟩)
      · have hc : spC j n = (-1) := by unfold spC; split <;> omega
        rw [hA, hc] at h ⊢
        have ht : ¬ (-1) < i + (n : Int) := by omega
        clear hA hc h si sj hi hj
        go_enter Tryz.func125, Tryz.ntmps125
        go_wp2
        all_goals (go_ret3; exact ⟨by simp <;> omega, Below.refl _ _⟩)
    · have b1 : j < 0 := sj.1
      have b2 : ¬ j < -(n : Int) - 1 := sj.2
      by_cases sc : (n : Int) - 1 < (j + (n : Int))
      · have hc : spC j n = (n : Int) - 1 := by unfold spC; split <;> omega
        rw [hA, hc] at h ⊢
        have ht : ¬ (n : Int) - 1 < i + (n : Int) := by omega
        clear hA hc h si sj hi hj
        go_enter Tryz.func125, Tryz.ntmps125
        go_wp2
        all_goals (go_ret3; exact ⟨by simp <;> omega, Below.refl _ _⟩)
      · have hc : spC j n = (j + (n : Int)) := by unfold spC; split <;> omega
        rw [hA, hc] at h ⊢
        have ht : ¬ (j + (n : Int)) < i + (n : Int) := by omega
        clear hA hc h si sj hi hj
        go_enter Tryz.func125, Tryz.ntmps125
        go_wp2
        all_goals (go_ret3; exact ⟨by simp <;> omega, Below.refl _ _⟩)
set_option maxHeartbeats 2000000 in
theorem Span_no (i j : Int) (n : Nat) (hi : -1000000000 ≤ i ∧ i ≤ 1000000000) (hj : -1000000000 ≤ j ∧ j ≤ 1000000000) (hn : n ≤ 1000000) (h : spC j n < spA i n) (w : World) : Calls Tryz.prog 125 #[.int .i64 i, .int .i64 j, .int .i64 n] w fun e w' => e = .returned (.tuple #[.int .i64 0, .int .i64 0, .bool false]) ∧ Below w.heap.size w w' := by
  have w1 : wrap64 (-(n : Int)) = -(n : Int) := IntWalk.wrap64_in _ (by omega)
  have w2 : wrap64 (-(n : Int) - 1) = -(n : Int) - 1 := IntWalk.wrap64_in _ (by omega)
  have w3 : wrap64 ((n : Int) - 1) = (n : Int) - 1 := IntWalk.wrap64_in _ (by omega)
  have w4 : wrap64 (-(n : Int) + (n : Int)) = 0 := (IntWalk.wrap64_in _ (by omega)).trans (by omega)
  have w5 : wrap64 (-(n : Int) - 1 + (n : Int)) = -1 := (IntWalk.wrap64_in _ (by omega)).trans (by omega)
  have w6 : wrap64 (i + (n : Int)) = i + (n : Int) := IntWalk.wrap64_in _ (by omega)
  have w7 : wrap64 (j + (n : Int)) = j + (n : Int) := IntWalk.wrap64_in _ (by omega)
  have w8 : wrap64 (j + (n : Int) + 1) = j + (n : Int) + 1 := IntWalk.wrap64_in _ (by omega)
  have w9 : wrap64 (j + 1) = j + 1 := IntWalk.wrap64_in _ (by omega)
  have w10 : wrap64 ((n : Int) - 1 + 1) = n := (IntWalk.wrap64_in _ (by omega)).trans (by omega)
  have SI : ¬ i < 0 ∨ (i < 0 ∧ i < -(n : Int)) ∨ (i < 0 ∧ ¬ i < -(n : Int)) := by omega
  have SJ : ¬ j < 0 ∨ (j < 0 ∧ j < -(n : Int) - 1) ∨ (j < 0 ∧ ¬ j < -(n : Int) - 1) := by omega
  rcases SI with si | si | si
  · have a1 : ¬ i < 0 := si
    have hA : spA i n = i := by unfold spA; split <;> omega
    rcases SJ with sj | sj | sj
    · have b1 : ¬ j < 0 := sj
      by_cases sc : (n : Int) - 1 < j
      · have hc : spC j n = (n : Int) - 1 := by unfold spC; split <;> omega
        rw [hA, hc] at h
        have ht : (n : Int) - 1 < i := by omega
        clear hA hc h si sj hi hj
        go_enter Tryz.func125, Tryz.ntmps125
        go_wp2
        all_goals (go_ret3; exact ⟨by simp, Below.refl _ _⟩)
      · have hc : spC j n = j := by unfold spC; split <;> omega
        rw [hA, hc] at h
        have ht : j < i := by omega
        clear hA hc h si sj hi hj
        go_enter Tryz.func125, Tryz.ntmps125
        go_wp2
        all_goals (go_ret3; exact ⟨by simp, Below.refl _ _⟩)
    · have b1 : j < 0 := sj.1
      have b2 : j < -(n : Int) - 1 := sj.2
      by_cases sc : (n : Int) - 1 < (-1)
      · have hc : spC j n = (n : Int) - 1 := by unfold spC; split <;> omega
        rw [hA, hc] at h
        have ht : (n : Int) - 1 < i := by omega
        clear hA hc h si sj hi hj
        go_enter Tryz.func125, Tryz.ntmps125
        go_wp2
        all_goals (go_ret3; exact ⟨by simp, Below.refl _ _⟩)
      · have hc : spC j n = (-1) := by unfold spC; split <;> omega
        rw [hA, hc] at h
        have ht : (-1) < i := by omega
        clear hA hc h si sj hi hj
        go_enter Tryz.func125, Tryz.ntmps125
        go_wp2
        all_goals (go_ret3; exact ⟨by simp, Below.refl _ _⟩)
    · have b1 : j < 0 := sj.1
      have b2 : ¬ j < -(n : Int) - 1 := sj.2
      by_cases sc : (n : Int) - 1 < (j + (n : Int))
      · have hc : spC j n = (n : Int) - 1 := by unfold spC; split <;> omega
        rw [hA, hc] at h
        have ht : (n : Int) - 1 < i := by omega
        clear hA hc h si sj hi hj
        go_enter Tryz.func125, Tryz.ntmps125
        go_wp2
        all_goals (go_ret3; exact ⟨by simp, Below.refl _ _⟩)
      · have hc : spC j n = (j + (n : Int)) := by unfold spC; split <;> omega
        rw [hA, hc] at h
        have ht : (j + (n : Int)) < i := by omega
        clear hA hc h si sj hi hj
        go_enter Tryz.func125, Tryz.ntmps125
        go_wp2
        all_goals (go_ret3; exact ⟨by simp, Below.refl _ _⟩)
  · have a1 : i < 0 := si.1
    have a2 : i < -(n : Int) := si.2
    have hA : spA i n = 0 := by unfold spA; split <;> omega
    rcases SJ with sj | sj | sj
    · have b1 : ¬ j < 0 := sj
      by_cases sc : (n : Int) - 1 < j
      · have hc : spC j n = (n : Int) - 1 := by unfold spC; split <;> omega
        rw [hA, hc] at h
        have ht : (n : Int) - 1 < 0 := by omega
        clear hA hc h si sj hi hj
        go_enter Tryz.func125, Tryz.ntmps125
        go_wp2
        all_goals (go_ret3; exact ⟨by simp, Below.refl _ _⟩)
      · have hc : spC j n = j := by unfold spC; split <;> omega
        rw [hA, hc] at h
        have ht : j < 0 := by omega
        clear hA hc h si sj hi hj
        go_enter Tryz.func125, Tryz.ntmps125
        go_wp2
        all_goals (go_ret3; exact ⟨by simp, Below.refl _ _⟩)
    · have b1 : j < 0 := sj.1
      have b2 : j < -(n : Int) - 1 := sj.2
      by_cases sc : (n : Int) - 1 < (-1)
      · have hc : spC j n = (n : Int) - 1 := by unfold spC; split <;> omega
        rw [hA, hc] at h
        have ht : (n : Int) - 1 < 0 := by omega
        clear hA hc h si sj hi hj
        go_enter Tryz.func125, Tryz.ntmps125
        go_wp2
        all_goals (go_ret3; exact ⟨by simp, Below.refl _ _⟩)
      · have hc : spC j n = (-1) := by unfold spC; split <;> omega
        rw [hA, hc] at h
        have ht : (-1) < 0 := by omega
        clear hA hc h si sj hi hj
        go_enter Tryz.func125, Tryz.ntmps125
        go_wp2
        all_goals (go_ret3; exact ⟨by simp, Below.refl _ _⟩)
    · have b1 : j < 0 := sj.1
      have b2 : ¬ j < -(n : Int) - 1 := sj.2
      by_cases sc : (n : Int) - 1 < (j + (n : Int))
      · have hc : spC j n = (n : Int) - 1 := by unfold spC; split <;> omega
        rw [hA, hc] at h
        have ht : (n : Int) - 1 < 0 := by omega
        clear hA hc h si sj hi hj
        go_enter Tryz.func125, Tryz.ntmps125
        go_wp2
        all_goals (go_ret3; exact ⟨by simp, Below.refl _ _⟩)
      · have hc : spC j n = (j + (n : Int)) := by unfold spC; split <;> omega
        rw [hA, hc] at h
        have ht : (j + (n : Int)) < 0 := by omega
        clear hA hc h si sj hi hj
        go_enter Tryz.func125, Tryz.ntmps125
        go_wp2
        all_goals (go_ret3; exact ⟨by simp, Below.refl _ _⟩)
  · have a1 : i < 0 := si.1
    have a2 : ¬ i < -(n : Int) := si.2
    have hA : spA i n = i + (n : Int) := by unfold spA; split <;> omega
    rcases SJ with sj | sj | sj
    · have b1 : ¬ j < 0 := sj
      by_cases sc : (n : Int) - 1 < j
      · have hc : spC j n = (n : Int) - 1 := by unfold spC; split <;> omega
        rw [hA, hc] at h
        have ht : (n : Int) - 1 < i + (n : Int) := by omega
        clear hA hc h si sj hi hj
        go_enter Tryz.func125, Tryz.ntmps125
        go_wp2
        all_goals (go_ret3; exact ⟨by simp, Below.refl _ _⟩)
      · have hc : spC j n = j := by unfold spC; split <;> omega
        rw [hA, hc] at h
        have ht : j < i + (n : Int) := by omega
        clear hA hc h si sj hi hj
        go_enter Tryz.func125, Tryz.ntmps125
        go_wp2
        all_goals (go_ret3; exact ⟨by simp, Below.refl _ _⟩)
    · have b1 : j < 0 := sj.1
      have b2 : j < -(n : Int) - 1 := sj.2
      by_cases sc : (n : Int) - 1 < (-1)
      · have hc : spC j n = (n : Int) - 1 := by unfold spC; split <;> omega
        rw [hA, hc] at h
        have ht : (n : Int) - 1 < i + (n : Int) := by omega
        clear hA hc h si sj hi hj
        go_enter Tryz.func125, Tryz.ntmps125
        go_wp2
        all_goals (go_ret3; exact ⟨by simp, Below.refl _ _⟩)
      · have hc : spC j n = (-1) := by unfold spC; split <;> omega
        rw [hA, hc] at h
        have ht : (-1) < i + (n : Int) := by omega
        clear hA hc h si sj hi hj
        go_enter Tryz.func125, Tryz.ntmps125
        go_wp2
        all_goals (go_ret3; exact ⟨by simp, Below.refl _ _⟩)
    · have b1 : j < 0 := sj.1
      have b2 : ¬ j < -(n : Int) - 1 := sj.2
      by_cases sc : (n : Int) - 1 < (j + (n : Int))
      · have hc : spC j n = (n : Int) - 1 := by unfold spC; split <;> omega
        rw [hA, hc] at h
        have ht : (n : Int) - 1 < i + (n : Int) := by omega
        clear hA hc h si sj hi hj
        go_enter Tryz.func125, Tryz.ntmps125
        go_wp2
        all_goals (go_ret3; exact ⟨by simp, Below.refl _ _⟩)
      · have hc : spC j n = (j + (n : Int)) := by unfold spC; split <;> omega
        rw [hA, hc] at h
        have ht : (j + (n : Int)) < i + (n : Int) := by omega
        clear hA hc h si sj hi hj
        go_enter Tryz.func125, Tryz.ntmps125
        go_wp2
        all_goals (go_ret3; exact ⟨by simp, Below.refl _ _⟩)
end Go.Proofs.YticlacjpgjkhcaaGreatDoor

/- Commands over data: what they read of a job, what they leave. -/
namespace Go.Proofs.YticlacjpgjkhcaaGreatDoor
open Go.ChangeShapes Go.WideShapes Go.ChangeAt Go.RowKit

theorem JD.mono {α : Type} (K : Kd α) {w : World} {j bS : Nat} {now : Int} {vA : Value} {c d : Nat} {vl : Value} {des : List (ByteArray × Option α)} (h : JD K w j bS now vA c vl des) (hd : d ≤ c) : JD K w j bS now vA d vl des := by
  obtain ⟨h1, h2, css, h3, h4⟩ := h
  exact ⟨h1, h2, css, h3.mono hd, ALC.mono K hd h4⟩
/-- What a command that only reads leaves. -/
theorem endD {α : Type} (K : Kd α) {w w' : World} {j bS : Nat} {now : Int} {vA : Value} {k n : Int} {s : ByteArray} (hj : JB w j bS now vA (.slice none 0 0)) (hb : Below w.heap.size w w') : ∃ A m c, (Ending.returned (.agg #[.int .i64 k, .int .i64 n, .string s, .slice none 0 0])) = Ending.returned (.agg #[.int .i64 k, .int .i64 n, .string s, .slice A m c]) ∧ R0 w.heap.size w' (.slice A m c) ∧ (∃ vl, JD K w' j bS now vA w.heap.size vl ([] : List (ByteArray × Option α))) ∧ Kp w.heap.size (fun i => i ≠ j) w w' :=
  ⟨none, 0, 0, rfl, rfl, ⟨_, JD.nil K _ (hj.below hb)⟩, .of hb⟩
/-- What a command leaves that laid effects. -/
theorem endT {α : Type} (K : Kd α) {w w3 : World} {j bS : Nat} {now : Int} {vA vl : Value} {k n : Int} {s : ByteArray} {des : List (ByteArray × Option α)} {cs : Array Value} (hjw : j < w.heap.size) (hJ : JD K w3 j bS now vA w.heap.size vl des) (hr : w3.heap[w.heap.size]? = some (.cells cs 29)) (hK : Kp w.heap.size (fun i => i ≠ j) w w3) (v0 v1 v2 v3 : Value) :
    ∃ A m c, (Ending.returned (.agg #[.int .i64 k, .int .i64 n, .string s, .slice none 0 0]) = .returned (.agg #[.int .i64 k, .int .i64 n, .string s, .slice A m c])) ∧ R0 w.heap.size ((((w3.setCell ⟨w.heap.size, 0, none⟩ v0).setCell ⟨w.heap.size, 1, none⟩ v1).setCell ⟨w.heap.size, 2, none⟩ v2).setCell ⟨w.heap.size, 3, none⟩ v3) (.slice A m c) ∧ (∃ vl, JD K ((((w3.setCell ⟨w.heap.size, 0, none⟩ v0).setCell ⟨w.heap.size, 1, none⟩ v1).setCell ⟨w.heap.size, 2, none⟩ v2).setCell ⟨w.heap.size, 3, none⟩ v3) j bS now vA w.heap.size vl des) ∧ Kp w.heap.size (fun i => i ≠ j) w ((((w3.setCell ⟨w.heap.size, 0, none⟩ v0).setCell ⟨w.heap.size, 1, none⟩ v1).setCell ⟨w.heap.size, 2, none⟩ v2).setCell ⟨w.heap.size, 3, none⟩ v3) := by
  obtain ⟨h1, h2, css, h3, h4⟩ := hJ
  refine ⟨none, 0, 0, rfl, rfl, ⟨vl, h1, h2.kept (far4 _ _ _ _ (by omega)), css, h3.kept (fun g hg => far4 _ _ _ _ (fun e => ?_)), ALC.kept K (fun x a b d e hV _ g hg => far4 _ _ _ _ (fun e => ?_)) h4⟩, ?_⟩
  · subst e
    obtain ⟨_, cur, hh⟩ := h3.own _ hg
    rw [hr] at hh
    simp at hh
  · subst e
    obtain ⟨cs', t, g1, _, _, _, _, g6⟩ := K.typ hV hg
    rw [hr] at g1
    cases g1
    exact g6 rfl
  · exact ((((hK.setCell (p := ⟨w.heap.size, 0, none⟩) (by simp) v0).setCell (p := ⟨w.heap.size, 1, none⟩) (by simp) v1).setCell (p := ⟨w.heap.size, 2, none⟩) (by simp) v2).setCell (p := ⟨w.heap.size, 3, none⟩) (by simp) v3)
/-- A command's arguments in memory. -/
structure AR (w : World) (j : Nat) (now : Int) (blk off cap : Nat) (xs : List ByteArray) : Prop where
  job : ∀ Y, Below w.heap.size w Y → Y.cell? ⟨j, 2, none⟩ = some (.slice (some ⟨blk, off, none⟩) xs.length cap) ∧ Y.cell? ⟨j, 1, none⟩ = some (.int .i64 now)
  arg : ∀ Y, Below w.heap.size w Y → ∀ (i : Nat) (s : ByteArray), xs[i]? = some s → Y.cell? ⟨blk, off + i, none⟩ = some (.string s)
  len : xs.length ≤ cap
  cap : cap ≤ 9223372036854775807
theorem AR.of {w : World} {j bS : Nat} {now : Int} {vA vl : Value} {xs : List ByteArray} (hj : JB w j bS now vA vl) (hA : SSl w vA xs) (hne : xs ≠ []) : ∃ blk off cap, vA = .slice (some ⟨blk, off, none⟩) xs.length cap ∧ AR w j now blk off cap xs := by
  obtain ⟨aA, cap, rfl, p1, p2, p3⟩ := hA
  obtain ⟨blk, off, rfl, hblt, hc⟩ := p3 hne
  refine ⟨blk, off, cap, rfl, fun Y hY => ⟨(hj.below hY).cells.2.2.1, (hj.below hY).cells.2.1⟩, fun Y hY i s hs => (hY.cell (p := ⟨blk, off + i, none⟩) hblt).trans (hc i s hs), p1, by unfold maxLen at p2; omega⟩
theorem AR.below {w w' : World} {j : Nat} {now : Int} {blk off cap : Nat} {xs : List ByteArray} (h : AR w j now blk off cap xs) (hb : Below w.heap.size w w') : AR w' j now blk off cap xs :=
  ⟨fun Y hY => h.job Y (belT hb hY), fun Y hY => h.arg Y (belT hb hY), h.len, h.cap⟩
/-- A job's number, by a written place. -/
theorem JIn (ix : Int) (j bS : Nat) (now : Int) (vA vl : Value) (xs : List ByteArray) (i : Nat) (hix : ix = i) (t : ByteArray) (n : Int) (ht : t.size ≤ 100000) (hp : parseI t.data.toList = some n) (hi : xs[i]? = some t) (w : World) (hj : JB w j bS now vA vl) (hA : SSl w vA xs) : Calls Tryz.prog 110 #[.pointer (some ⟨j, 0, none⟩), .int .i64 ix] w fun e w' => e = .returned (.int .i64 n) ∧ Below w.heap.size w w' := by
  subst hix
  exact JInt_ok j bS now vA vl xs i t n ht hp hi w hj hA
end Go.Proofs.YticlacjpgjkhcaaGreatDoor
