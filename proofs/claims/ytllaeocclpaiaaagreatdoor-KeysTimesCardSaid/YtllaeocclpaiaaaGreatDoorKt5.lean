/- The keys of a space with one key; all entries of it. -/
import Derived.Test.YtllaeocclpaiaaaGreatDoorIter
import Derived.Test.YtllaeocclpaiaaaGreatDoorSt26
import Derived.Deep.AppendLies
namespace Go.Proofs.YtllaeocclpaiaaaGreatDoor
set_option linter.unusedVariables false
open Go.ChangeShapes Go.WideShapes Go.ChangeAt Go.RowKit Go.WideElems Go.Sort

theorem keys1 {w : World} {b : Nat} {k : ByteArray} {v : Value} (hk : k.size ≤ maxLen) (h : MapT.MB w b [(k, v)]) : ∃ (D0 : DataW Unit) (R : Value → Option (DataW Unit × List MemPlace)), w.ownsMap Tryz.prog 9 R b 1 D0 ∧ Maps.size D0 = 1 ∧ strKeys D0 = [k.data.toList] := by
  obtain ⟨es, c, h1, h2, h3⟩ := h
  obtain ⟨e, he, hek⟩ : ∃ e, es.toList = [e] ∧ e.key = .string k := by
    cases hl : es.toList with
    | nil => rw [hl] at h2; simp [MapT.pairs, MapT.vals] at h2
    | cons e r =>
      rw [hl] at h2
      simp only [MapT.pairs, MapT.vals, List.map_cons, List.map_nil, List.cons.injEq, Prod.mk.injEq] at h2
      have : r = [] := by
        cases r with
        | nil => rfl
        | cons a b => simp at h2
      subst this
      exact ⟨e, rfl, h2.1.1⟩
  have hrd : rd Tryz.prog 9 (fun _ => some ((.lit (.bool true) : DataW Unit), [])) e = some (.string k.data.toList, .lit (.bool true)) := by
    obtain ⟨ek, ev, eb⟩ := e
    subst hek
    exact rd_mk (yv := (.lit (.bool true), [])) (WideMaps.keyOf_string_mk Tryz.underlying9 hk) rfl
  have hsz : es.size = 1 := by rw [← Array.length_toList, he]; rfl
  refine ⟨_, fun _ => some (.lit (.bool true), []), ⟨es, c, h1, ⟨by rw [hsz]; unfold maxLen; decide, h3, fun x hx => ?_⟩, by omega, rfl⟩, ?_, ?_⟩
  · rw [he] at hx
    rw [List.mem_singleton.1 hx]
    exact ⟨_, hrd⟩
  · rw [he, List.map_cons, List.map_nil, rg_of hrd]
    rfl
  · rw [he, List.map_cons, List.map_nil, rg_of hrd]
    rfl
theorem iE : (Tryz.prog.info? 33).map (fun i => (i.zero, i.size, i.bytes)) = some (some (.agg #[.string ⟨#[]⟩, .int .i64 0, .string ⟨#[]⟩, .slice none 0 0, .slice none 0 0, .slice none 0 0, .slice none 0 0, .int .i64 0]), 8, 144) := by kernel_rfl
theorem news_blk {w : World} {b : Nat} {cs : List Value} {t : TypeId} (hb : w.heap[b]? = some (.cells cs.toArray t)) : ∀ (j : Nat) (u : Value), cs[j]? = some u → w.cell? ((⟨b, 0, none⟩ : Addr).add j) = some u := by
  intro j u hj
  have := cell_of_row w b j _ t (0, 0) hb
  unfold Addr.add
  by_cases h0 : j = 0
  · subst h0; simpa [hj] using this
  · simp [h0]; rw [this]; simpa using hj
theorem row_cell {w : World} {c : Nat} {e : TypeId} {m g n cap : Nat} {xs : List Value} (h : w.ownsRow c e m (.slice (some ⟨g, 0, none⟩) n cap) n xs) (i : Nat) (v : Value) (hi : xs[i]? = some v) : w.cell? ⟨g, i, none⟩ = some v := by
  unfold World.ownsRow at h
  obtain ⟨hl, ⟨h0, _⟩ | ⟨g', cap', cur, h0, h1, h2, h3, h4, h5, h6⟩⟩ := h
  · cases h0
  · cases h0
    rw [cell_of_row _ g _ _ e (0, 0) h2]
    have hlt := (List.getElem?_eq_some_iff.1 hi).1
    rw [← h6, List.getElem?_take_of_lt (by omega)] at hi
    rw [← Array.getElem?_toList]
    exact hi
theorem i9k : (Tryz.prog.info? 9).map (fun i => (i.zero, i.size, i.bytes)) = some (some (.string ⟨#[]⟩), 1, 16) := by kernel_rfl
theorem row_below9 {w w' : World} {c : Nat} {e : TypeId} {m : Nat} {v : Value} {n : Nat} {xs : List Value} (h : w.ownsRow c e m v n xs) (hb : Below w.heap.size w w') : w'.ownsRow c e m v n xs := by
  refine World.ownsRow.kept (row := none) h ⟨hb.os, hb.tape, hb.output, hb.size, fun k hk _ => hb.block k hk⟩ ?_
  cases v.ownBlock with
  | none => exact .inl rfl
  | some g => exact .inr (by simp)
/-- The one key of a space with one key, as a slice. -/
theorem Sorted1 (bM : Nat) (k : ByteArray) (v : Value) (hk : k.size ≤ maxLen) (w : World) (h : MapT.MB w bM [(k, v)]) : Calls Tryz.prog 82 #[.func (.func 101) #[] #[.pointer (some ⟨w.heap.size, 0, none⟩)]] (w.alloc (.cells #[.map (some bM)] 44)) fun e w' => ∃ g cap, e = .returned (.slice (some ⟨g, 0, none⟩) 1 cap) ∧ w'.cell? ⟨g, 0, none⟩ = some (.string k) ∧ Below w.heap.size w w' := by
  obtain ⟨D0, R, hown, hs, hK⟩ := keys1 hk h
  refine (callsIn_wide.1 (Tryz.slices_Sorted_keys_82_83 bM 1 D0 R w hown (by rw [hs]; unfold maxLen; decide) (by rw [hs]; decide))).mono ?_
  rintro e w' ⟨v', ss, rfl, hp, hrow, hnil, hb⟩
  rw [hK] at hp
  have hss : ss = [k.data.toList] := List.perm_singleton.1 hp
  subst hss
  rw [List.mergeSort_singleton] at hrow
  obtain ⟨g, cap, rfl, _, _⟩ := World.ownsRow.form hrow (by simp)
  refine ⟨g, cap, rfl, ?_, alloc_old.trans (hb.mono (by simp))⟩
  exact row_cell hrow 0 (encStr k.data.toList) rfl
set_option maxRecDepth 100000 in
set_option maxHeartbeats 8000000 in
theorem All1 (bS bM : Nat) (k t : ByteArray) (u : Int) (hk : k.size ≤ maxLen) (w : World) (h : SP w bS bM [(k, .agg #[.string k, .int .i64 1, .string t, .slice none 0 0, .slice none 0 0, .slice none 0 0, .slice none 0 0, .int .i64 u])]) : Calls Tryz.prog 57 #[.pointer (some ⟨bS, 0, none⟩)] w fun e w' => ∃ g C, e = .returned (.slice (some ⟨g, 0, none⟩) 1 C) ∧ w'.ownsRow w.heap.size 33 8 (.slice (some ⟨g, 0, none⟩) 1 C) 1 [.string k, .int .i64 1, .string t, .slice none 0 0, .slice none 0 0, .slice none 0 0, .slice none 0 0, .int .i64 u] ∧ Below w.heap.size w w' := by
  have MK := Lib.hid (callsIn_wide.1 (Tryz.maps_Keys_83 (some bM) w))
  have SO := Lib.hid (Sorted1 bM k _ hk w h.2.1)
  have HS := Lib.hid h
  obtain ⟨hs1, hs2⟩ := h.cell
  have hM := Lib.hid h.2.1
  have CL := Lib.hid (fun w => clone17 k 1 t u w)
  have hr : (if false = true then Value.tuple #[(MapT.find k [(k, .agg #[.string k, .int .i64 1, .string t, .slice none 0 0, .slice none 0 0, .slice none 0 0, .slice none 0 0, .int .i64 u])]).getD (.agg #[.string ⟨#[]⟩, .int .i64 0, .string ⟨#[]⟩, .slice none 0 0, .slice none 0 0, .slice none 0 0, .slice none 0 0, .int .i64 0]), .bool (MapT.find k [(k, .agg #[.string k, .int .i64 1, .string t, .slice none 0 0, .slice none 0 0, .slice none 0 0, .slice none 0 0, .int .i64 u])]).isSome] else (MapT.find k [(k, .agg #[.string k, .int .i64 1, .string t, .slice none 0 0, .slice none 0 0, .slice none 0 0, .slice none 0 0, .int .i64 u])]).getD (.agg #[.string ⟨#[]⟩, .int .i64 0, .string ⟨#[]⟩, .slice none 0 0, .slice none 0 0, .slice none 0 0, .slice none 0 0, .int .i64 0])) = .agg #[.string k, .int .i64 1, .string t, .slice none 0 0, .slice none 0 0, .slice none 0 0, .slice none 0 0, .int .i64 u] := by rw [show MapT.find k [(k, .agg #[.string k, .int .i64 1, .string t, .slice none 0 0, .slice none 0 0, .slice none 0 0, .slice none 0 0, .int .i64 u])] = some (.agg #[.string k, .int .i64 1, .string t, .slice none 0 0, .slice none 0 0, .slice none 0 0, .slice none 0 0, .int .i64 u]) from by simp [MapT.find]]; rfl
  have HR := Lib.hid hr
  clear h hr
  go_enter Tryz.func57, Tryz.ntmps57
  go_wp2_with (first | (go_at_call 83; (with_reducible refine (MK.out).mono ?_); rintro e w1 ⟨rfl, rfl⟩) | (go_at_call 82; (with_reducible refine (SO.out).mono ?_); rintro e w2 ⟨g, cap, rfl, hc2, hb2⟩; have B2 := Lib.hid hb2; have C2 := Lib.hid hc2; clear hb2 hc2; refine Hid.out ?_))
  refine Lib.hid ?_
  go_wp2_with fail
  go_loopw [3, 15] (fun lv iv wr => Hid ((iv = .int .i64 0 ∧ lv = .slice none 0 0 ∧ Below w.heap.size w wr ∧ wr.cell? ⟨g, 0, none⟩ = some (.string k)) ∨ (∃ g2 C2, iv = .int .i64 1 ∧ lv = .slice (some ⟨g2, 0, none⟩) 1 C2 ∧ Below w.heap.size w wr ∧ wr.ownsRow w.heap.size 33 8 (.slice (some ⟨g2, 0, none⟩) 1 C2) 1 [.string k, .int .i64 1, .string t, .slice none 0 0, .slice none 0 0, .slice none 0 0, .slice none 0 0, .int .i64 u]))) (fun _ iv _ => 1 - (intOf iv).toNat)
  case atStart => exact Lib.hid (.inl ⟨rfl, rfl, B2.out, C2.out⟩)
  case round =>
    rcases hrel.out with ⟨rfl, rfl, hB, hC⟩ | ⟨g2, C2, rfl, rfl, hB, hR⟩
    · have HB := Lib.hid hB
      have y1 := (HS.out.below hB).cell.1
      have MM := Lib.hid (HS.out.below hB).2.1
      clear hB hs1
      go_wp2_with (first | (at_lookup; refine MapT.at_look _ rfl _ _ false rfl Tryz.underlying44 Tryz.underlying9 bM _ rfl MM.out k rfl _ (zero33 _) _ HR.out ?_) | (go_at_call 12; (with_reducible refine (CL.out _).mono ?_); rintro e w3 ⟨rfl, h3⟩; have B3 := Lib.hid (HB.out.trans (h3.mono (Below.size HB.out))); clear h3; refine Hid.out ?_))
      refine Lib.hid ?_
      have B4 := Lib.hid (show Below w.heap.size w (w3.alloc (.cells #[.string k, .int .i64 1, .string t, .slice none 0 0, .slice none 0 0, .slice none 0 0, .slice none 0 0, .int .i64 u] 33)) from B3.out.trans (alloc_old.mono (Below.size B3.out)))
      have N4 := Lib.hid (heap_alloc_new w3 (.cells #[.string k, .int .i64 1, .string t, .slice none 0 0, .slice none 0 0, .slice none 0 0, .slice none 0 0, .int .i64 u] 33))
      have Z4 := Lib.hid (Below.size B4.out)
      obtain ⟨i0, hi0, hz0, hz1, hz2⟩ := info_parts iE
      have RW := Lib.hid (World.ownsRow_nil (w3.alloc (.cells #[.string k, .int .i64 1, .string t, .slice none 0 0, .slice none 0 0, .slice none 0 0, .slice none 0 0, .int .i64 u] 33)) w.heap.size 33 8)
      have NB := Lib.hid (news_blk N4.out)
      have ON := Lib.hid (show ∀ u9 ∈ ([.string k, .int .i64 1, .string t, .slice none 0 0, .slice none 0 0, .slice none 0 0, .slice none 0 0, .int .i64 u] : List Value), u9.oneCell' = true from fun u9 hu => by simp at hu; rcases hu with rfl | rfl | rfl | rfl | rfl | rfl <;> rfl)
      go_wp2_with (first | (at_builtin; refine wpList_append_lies _ rfl _ _ 85 rfl w.heap.size 33 i0 _ 8 144 Tryz.underlying85 hi0 hz0 hz1 hz2 rfl (by decide) (.slice none 0 0) 0 [] rfl RW.out ⟨w3.heap.size, 0, none⟩ 1 1 [.string k, .int .i64 1, .string t, .slice none 0 0, .slice none 0 0, .slice none 0 0, .slice none 0 0, .int .i64 u] rfl rfl NB.out ON.out (by decide) (by decide) (by decide) Z4.out _ rfl ?_; intro g5 C5 w5 hO5 hG5 _ _; have O5 := Lib.hid hO5; have G5 := Lib.hid hG5; clear hO5 hG5))
      exact ⟨Lib.hid (.inr ⟨g5, C5, rfl, rfl, B4.out.grown G5.out Z4.out (fun k9 hk9 => by cases hk9), O5.out⟩), by simp [intOf]⟩
    · have HB := Lib.hid hB
      have HO := Lib.hid hR
      clear hB hR
      go_wp2
      go_ret
      exact ⟨g2, C2, rfl, HO.out, HB.out⟩
set_option maxRecDepth 100000 in
set_option maxHeartbeats 8000000 in
theorem Keys1_yes (bS bM : Nat) (k t : ByteArray) (u now : Int) (hk : k.size ≤ maxLen) (hv : Lives u now) (w : World) (h : SP w bS bM [(k, .agg #[.string k, .int .i64 1, .string t, .slice none 0 0, .slice none 0 0, .slice none 0 0, .slice none 0 0, .int .i64 u])]) : Calls Tryz.prog 31 #[.pointer (some ⟨bS, 0, none⟩), .int .i64 now] w fun e w' => ∃ A C, e = .returned (.slice A 1 C) ∧ Below w.heap.size w w' := by
  have AL := Lib.hid (All1 bS bM k t u hk w h)
  have OV := Lib.hid (fun w => Over_kd k t 1 u now hv w)
  clear h
  go_enter Tryz.func31, Tryz.ntmps31
  go_wp2_with (first | (go_at_call 57; (with_reducible refine (AL.out).mono ?_); rintro e w1 ⟨g, C, rfl, hO, hB⟩; have HO := Lib.hid hO; have HB := Lib.hid hB; clear hO hB; refine Hid.out ?_))
  refine Lib.hid ?_
  go_wp2_with fail
  go_loopw [5, 11] (fun lv iv wr => ∃ (i q : Nat) (A : Option Addr) (C9 : Nat), i ≤ 1 ∧ iv = .int .i64 i ∧ lv = .slice A q C9 ∧ Hid ((i = 0 → lv = .slice none 0 0 ∧ Below w1.heap.size w1 wr) ∧ (i = 1 → q = 1 ∧ Below w.heap.size w wr))) (fun _ iv _ => 1 - (intOf iv).toNat)
  case atStart => exact ⟨0, 0, none, 0, by omega, rfl, rfl, Lib.hid ⟨fun _ => ⟨rfl, Below.refl _ _⟩, fun h => by omega⟩⟩
  case round =>
    obtain ⟨i, q, A, C9, hi, rfl, rfl, HQ⟩ := hrel
    by_cases hlt : i < 1
    · have hi0 : i = 0 := by omega
      subst hi0
      obtain ⟨hv9, hB9⟩ := HQ.out.1 rfl
      cases hv9
      have HR := row_below9 HO.out hB9
      have HB9 := Lib.hid hB9
      have x0 := row_cell HR 0 _ rfl
      have x1 := row_cell HR 1 _ rfl
      have x2 := row_cell HR 2 _ rfl
      have x3 := row_cell HR 3 _ rfl
      have x4 := row_cell HR 4 _ rfl
      have x5 := row_cell HR 5 _ rfl
      have x6 := row_cell HR 6 _ rfl
      have x7 := row_cell HR 7 _ rfl
      have bw := Lib.hid (HB.out.trans (hB9.mono (Below.size HB.out)))
      clear HR hB9
      go_wp2_with (first | (go_at_call 58; (with_reducible refine (OV.out _).mono ?_); rintro e w3 ⟨rfl, h3⟩; have B3 := Lib.hid (belA (Below.refl wr.heap.size wr) h3); have E3 := Lib.hid (blk_below (heap_alloc_new wr (.cells #[.string k, .int .i64 1, .string t, .slice none 0 0, .slice none 0 0, .slice none 0 0, .slice none 0 0, .int .i64 u] 33)) h3); clear h3; refine Hid.out ?_))
      refine Lib.hid ?_
      clear x0 x1 x2 x3 x4 x5 x6 x7
      obtain ⟨⟨e0, _⟩, _⟩ := cells8 E3.out
      obtain ⟨i0, hi0, hz0, hz1, hz2⟩ := info_parts i9k
      have RW := Lib.hid (World.ownsRow_nil (w3.alloc (.cells #[.string k] 9)) w.heap.size 9 1)
      have NB := Lib.hid (news_blk (cs := [.string k]) (heap_alloc_new w3 (.cells #[.string k] 9)))
      have ON := Lib.hid (show ∀ u9 ∈ ([.string k] : List Value), u9.oneCell' = true from fun u9 hu => by simp at hu; rcases hu with rfl; rfl)
      have B4 := Lib.hid (bw.out.trans ((B3.out.trans (alloc_old (o := .cells #[.string k] 9) |>.mono (Below.size B3.out))).mono (Below.size bw.out)))
      have Z4 := Lib.hid (Below.size B4.out)
      go_wp2_with (first | (at_builtin; refine wpList_append_lies _ rfl _ _ 26 rfl w.heap.size 9 i0 _ 1 16 Tryz.underlying26 hi0 hz0 hz1 hz2 rfl (by decide) (.slice none 0 0) 0 [] rfl RW.out ⟨w3.heap.size, 0, none⟩ 1 1 [.string k] rfl rfl NB.out ON.out (by decide) (by decide) (by decide) Z4.out _ rfl ?_; intro g5 C5 w5 hO5 hG5 _ _; have G5 := Lib.hid hG5; clear hO5 hG5))
      exact ⟨⟨1, 1, some ⟨g5, 0, none⟩, C5, by omega, by go_num, rfl, Lib.hid ⟨fun h => by omega, fun _ => ⟨rfl, B4.out.grown G5.out Z4.out (fun k9 hk9 => by cases hk9)⟩⟩⟩, by simp [intOf]⟩
    · have hi1 : i = 1 := by omega
      subst hi1
      obtain ⟨rfl, hB9⟩ := HQ.out.2 rfl
      have HB9 := Lib.hid hB9
      clear hB9
      go_wp2
      go_ret
      exact ⟨⟨A, C9, rfl⟩, HB9.out⟩
set_option maxRecDepth 100000 in
set_option maxHeartbeats 8000000 in
theorem Keys1_over (bS bM : Nat) (k t : ByteArray) (u now : Int) (hk : k.size ≤ maxLen) (h0 : 0 < u) (h1 : u ≤ now) (w : World) (h : SP w bS bM [(k, .agg #[.string k, .int .i64 1, .string t, .slice none 0 0, .slice none 0 0, .slice none 0 0, .slice none 0 0, .int .i64 u])]) : Calls Tryz.prog 31 #[.pointer (some ⟨bS, 0, none⟩), .int .i64 now] w fun e w' => ∃ A C, e = .returned (.slice A 0 C) ∧ Below w.heap.size w w' := by
  have AL := Lib.hid (All1 bS bM k t u hk w h)
  have OV := Lib.hid (fun w => Over_yes k t 1 u now h0 h1 w)
  clear h
  go_enter Tryz.func31, Tryz.ntmps31
  go_wp2_with (first | (go_at_call 57; (with_reducible refine (AL.out).mono ?_); rintro e w1 ⟨g, C, rfl, hO, hB⟩; have HO := Lib.hid hO; have HB := Lib.hid hB; clear hO hB; refine Hid.out ?_))
  refine Lib.hid ?_
  go_wp2_with fail
  go_loopw [5, 11] (fun lv iv wr => ∃ (i q : Nat) (A : Option Addr) (C9 : Nat), i ≤ 1 ∧ iv = .int .i64 i ∧ lv = .slice A q C9 ∧ Hid ((i = 0 → lv = .slice none 0 0 ∧ Below w1.heap.size w1 wr) ∧ (i = 1 → q = 0 ∧ Below w.heap.size w wr))) (fun _ iv _ => 1 - (intOf iv).toNat)
  case atStart => exact ⟨0, 0, none, 0, by omega, rfl, rfl, Lib.hid ⟨fun _ => ⟨rfl, Below.refl _ _⟩, fun h => by omega⟩⟩
  case round =>
    obtain ⟨i, q, A, C9, hi, rfl, rfl, HQ⟩ := hrel
    by_cases hlt : i < 1
    · have hi0 : i = 0 := by omega
      subst hi0
      obtain ⟨hv9, hB9⟩ := HQ.out.1 rfl
      cases hv9
      have HR := row_below9 HO.out hB9
      have HB9 := Lib.hid hB9
      have x0 := row_cell HR 0 _ rfl
      have x1 := row_cell HR 1 _ rfl
      have x2 := row_cell HR 2 _ rfl
      have x3 := row_cell HR 3 _ rfl
      have x4 := row_cell HR 4 _ rfl
      have x5 := row_cell HR 5 _ rfl
      have x6 := row_cell HR 6 _ rfl
      have x7 := row_cell HR 7 _ rfl
      have bw := Lib.hid (HB.out.trans (hB9.mono (Below.size HB.out)))
      clear HR hB9
      go_wp2_with (first | (go_at_call 58; (with_reducible refine (OV.out _).mono ?_); rintro e w3 ⟨rfl, h3⟩; have B3 := Lib.hid (belA (Below.refl wr.heap.size wr) h3); have E3 := Lib.hid (blk_below (heap_alloc_new wr (.cells #[.string k, .int .i64 1, .string t, .slice none 0 0, .slice none 0 0, .slice none 0 0, .slice none 0 0, .int .i64 u] 33)) h3); clear h3; refine Hid.out ?_))
      refine Lib.hid ?_
      clear x0 x1 x2 x3 x4 x5 x6 x7
      go_wp2
      exact ⟨⟨1, 0, none, 0, by omega, by go_num, rfl, Lib.hid ⟨fun h => by omega, fun _ => ⟨rfl, bw.out.trans (B3.out.mono (Below.size bw.out))⟩⟩⟩, by simp [intOf]⟩
    · have hi1 : i = 1 := by omega
      subst hi1
      obtain ⟨rfl, hB9⟩ := HQ.out.2 rfl
      have HB9 := Lib.hid hB9
      clear hB9
      go_wp2
      go_ret
      exact ⟨⟨A, C9, rfl⟩, HB9.out⟩
set_option maxRecDepth 100000 in
set_option maxHeartbeats 8000000 in
theorem size_yes (W0 : World) (bS bM : Nat) (now : Int) (xs : List ByteArray) (k t : ByteArray) (u : Int) (hk : k.size ≤ maxLen) (hv : Lives u now) : CmdOk W0 32 bS bM [(k, .agg #[.string k, .int .i64 1, .string t, .slice none 0 0, .slice none 0 0, .slice none 0 0, .slice none 0 0, .int .i64 u])] now xs 3 1 ⟨#[]⟩ R0 [] := by
  intro w j vA _ hS hj hA
  have A1 := Lib.hid (alloc_old (w := w) (o := .cells #[.int .i64 0, .int .i64 0, .string ⟨#[]⟩, .slice none 0 0] 36))
  have hr := Lib.hid (heap_alloc_new w (.cells #[.int .i64 0, .int .i64 0, .string ⟨#[]⟩, .slice none 0 0] 36))
  have HJ := Lib.hid hj
  have KC := Lib.hid (fun X (hX : Below w.heap.size w X) => Keys1_yes bS bM k t u now hk hv X (hS.below hX))
  have IN := Lib.hid (fun w => Int75 1 w)
  obtain ⟨W, hW⟩ : ∃ W, (w.alloc (.cells #[.int .i64 0, .int .i64 0, .string ⟨#[]⟩, .slice none 0 0] 36)) = W := ⟨_, rfl⟩
  have BD := Lib.hid (show Below w.heap.size w W.drew from by rw [← hW]; exact A1.out.drew)
  have RD := Lib.hid (show W.drew.heap[w.heap.size]? = some (.cells #[.int .i64 0, .int .i64 0, .string ⟨#[]⟩, .slice none 0 0] 36) from by rw [← hW]; exact hr.out)
  have y0 := (hj.below BD.out).cells.1
  have y1 := (hj.below BD.out).cells.2.1
  have K4 := Lib.hid (KC.out _ BD.out)
  clear hS hj hA
  go_enter Tryz.func32, Tryz.ntmps32
  go_wp2_with fail
  clear hW
  go_still_tail 8, (by kernel_rfl)
  repeat still_step
  change wpList _ _ _ _ _ W.drew
  generalize W.drew = w2 at BD RD K4 y0 y1 ⊢
  go_wp2_with (first | (go_at_call 31; (with_reducible refine (K4.out).mono ?_); rintro e w3 ⟨A, C, rfl, h3⟩; have B3 := Lib.hid h3; clear h3) | (go_at_call 33; (with_reducible refine (IN.out _).mono ?_); rintro e w4 ⟨rfl, h4⟩; have B4 := Lib.hid (belT B3.out h4); clear h4; obtain ⟨⟨c0, c1, c2, c3⟩, ⟨f0, f1, f2, f3⟩⟩ := cells4 (blk_below RD.out B4.out)))
  exact bodyPost_ret (v := .agg #[.int .i64 3, .int .i64 1, .string ⟨#[]⟩, .slice none 0 0]) (by simp [results, Tryz.results32, go_sem, c0, c1, c2, c3]) rfl (read_end HJ.out (((((BD.out.trans (B4.out.mono (Below.size BD.out))).setCell (Nat.le_refl _) _).setCell (Nat.le_refl _) _).setCell (Nat.le_refl _) _).setCell (Nat.le_refl _) _))
set_option maxRecDepth 100000 in
set_option maxHeartbeats 8000000 in
theorem size_over (W0 : World) (bS bM : Nat) (now : Int) (xs : List ByteArray) (k t : ByteArray) (u : Int) (hk : k.size ≤ maxLen) (h0 : 0 < u) (h1 : u ≤ now) : CmdOk W0 32 bS bM [(k, .agg #[.string k, .int .i64 1, .string t, .slice none 0 0, .slice none 0 0, .slice none 0 0, .slice none 0 0, .int .i64 u])] now xs 3 0 ⟨#[]⟩ R0 [] := by
  intro w j vA _ hS hj hA
  have A1 := Lib.hid (alloc_old (w := w) (o := .cells #[.int .i64 0, .int .i64 0, .string ⟨#[]⟩, .slice none 0 0] 36))
  have hr := Lib.hid (heap_alloc_new w (.cells #[.int .i64 0, .int .i64 0, .string ⟨#[]⟩, .slice none 0 0] 36))
  have HJ := Lib.hid hj
  have KC := Lib.hid (fun X (hX : Below w.heap.size w X) => Keys1_over bS bM k t u now hk h0 h1 X (hS.below hX))
  have IN := Lib.hid (fun w => Int75 0 w)
  obtain ⟨W, hW⟩ : ∃ W, (w.alloc (.cells #[.int .i64 0, .int .i64 0, .string ⟨#[]⟩, .slice none 0 0] 36)) = W := ⟨_, rfl⟩
  have BD := Lib.hid (show Below w.heap.size w W.drew from by rw [← hW]; exact A1.out.drew)
  have RD := Lib.hid (show W.drew.heap[w.heap.size]? = some (.cells #[.int .i64 0, .int .i64 0, .string ⟨#[]⟩, .slice none 0 0] 36) from by rw [← hW]; exact hr.out)
  have y0 := (hj.below BD.out).cells.1
  have y1 := (hj.below BD.out).cells.2.1
  have K4 := Lib.hid (KC.out _ BD.out)
  clear hS hj hA
  go_enter Tryz.func32, Tryz.ntmps32
  go_wp2_with fail
  clear hW
  go_still_tail 8, (by kernel_rfl)
  repeat still_step
  change wpList _ _ _ _ _ W.drew
  generalize W.drew = w2 at BD RD K4 y0 y1 ⊢
  go_wp2_with (first | (go_at_call 31; (with_reducible refine (K4.out).mono ?_); rintro e w3 ⟨A, C, rfl, h3⟩; have B3 := Lib.hid h3; clear h3) | (go_at_call 33; (with_reducible refine (IN.out _).mono ?_); rintro e w4 ⟨rfl, h4⟩; have B4 := Lib.hid (belT B3.out h4); clear h4; obtain ⟨⟨c0, c1, c2, c3⟩, ⟨f0, f1, f2, f3⟩⟩ := cells4 (blk_below RD.out B4.out)))
  exact bodyPost_ret (v := .agg #[.int .i64 3, .int .i64 0, .string ⟨#[]⟩, .slice none 0 0]) (by simp [results, Tryz.results32, go_sem, c0, c1, c2, c3]) rfl (read_end HJ.out (((((BD.out.trans (B4.out.mono (Below.size BD.out))).setCell (Nat.le_refl _) _).setCell (Nat.le_refl _) _).setCell (Nat.le_refl _) _).setCell (Nat.le_refl _) _))
end Go.Proofs.YtllaeocclpaiaaaGreatDoor
