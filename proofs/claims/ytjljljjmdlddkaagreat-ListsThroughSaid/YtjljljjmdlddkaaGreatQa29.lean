/- Texts joined: G18, T1 -/
import Derived.Test.YtjljljjmdlddkaaGreatQa28
import Derived.Deep.AppendLies

/- All entries of a space with one key. -/
namespace Go.Proofs.YtjljljjmdlddkaaGreat
open Go.ChangeShapes Go.WideShapes Go.ChangeAt Go.RowKit Go.WideElems Go.Sort

theorem keys1 {w : World} {b : Nat} {k : ByteArray} {v : Value} (hk : k.size ≤ maxLen) (h : MapT.MB w b [(k, v)]) : ∃ (D0 : DataW Unit) (R : Value → Option (DataW Unit × List MemPlace)), w.ownsMap Tryz.prog 9 R b 1 D0 ∧ Maps.size D0 = 1 ∧ strKeys D0 = [k.data.toList] := by
  obtain ⟨es, c, h1, h2, h3⟩ := h
  obtain ⟨e, he, hek⟩ : ∃ e, es.toList = [e] ∧ e.key = .string k := by
    cases hl : es.toList with
    | nil => rw [hl] at h2; simp [MapT.pairs, MapT.vals] at h2
    | cons e r =>
      rw [hl] at h2
      simp only [MapT.pairs, MapT.vals, List.map_cons, List.map_nil, List.cons.injEq, Prod.mk.injEq] at h2
      have : r = [] := by
        cases r with
        | nil => rfl
        | cons a b => simp at h2
      subst this
      exact ⟨e, rfl, h2.1.1⟩
  have hrd : WideElems.rd Tryz.prog 9 (fun _ => some ((.lit (.bool true) : DataW Unit), [])) e = some (.string k.data.toList, .lit (.bool true)) := by
    obtain ⟨ek, ev, eb⟩ := e
    subst hek
    exact WideElems.rd_mk (yv := (.lit (.bool true), [])) (WideMaps.keyOf_string_mk Tryz.underlying9 hk) rfl
  have hsz : es.size = 1 := by rw [← Array.length_toList, he]; rfl
  refine ⟨_, fun _ => some (.lit (.bool true), []), ⟨es, c, h1, ⟨by rw [hsz]; unfold maxLen; decide, h3, fun x hx => ?_⟩, by omega, rfl⟩, ?_, ?_⟩
  · rw [he] at hx
    rw [List.mem_singleton.1 hx]
    exact ⟨_, hrd⟩
  · rw [he, List.map_cons, List.map_nil, WideElems.rg_of hrd]
    rfl
  · rw [he, List.map_cons, List.map_nil, WideElems.rg_of hrd]
    rfl
/-- The one key of a space with one key, as a slice. -/
theorem Sorted1 (bM : Nat) (k : ByteArray) (v : Value) (hk : k.size ≤ maxLen) (w : World) (h : MapT.MB w bM [(k, v)]) : Calls Tryz.prog 11 #[.func (.func 33) #[] #[.pointer (some ⟨w.heap.size, 0, none⟩)]] (w.alloc (.cells #[.map (some bM)] 33)) fun e w' => ∃ g cap, e = .returned (.slice (some ⟨g, 0, none⟩) 1 cap) ∧ w'.cell? ⟨g, 0, none⟩ = some (.string k) ∧ Below w.heap.size w w' := by
  obtain ⟨D0, R, hown, hs, hK⟩ := keys1 hk h
  refine (callsIn_wide.1 (Tryz.slices_Sorted_keys_11_12 bM 1 D0 R w hown (by rw [hs]; unfold maxLen; decide) (by rw [hs]; decide))).mono ?_
  rintro e w' ⟨v', ss, rfl, hp, hrow, hnil, hb⟩
  rw [hK] at hp
  have hss : ss = [k.data.toList] := List.perm_singleton.1 hp
  subst hss
  rw [List.mergeSort_singleton] at hrow
  obtain ⟨g, cap, rfl, _, _⟩ := World.ownsRow.form hrow (by simp)
  refine ⟨g, cap, rfl, ?_, alloc_old.trans (hb.mono (by simp))⟩
  exact row_cell hrow 0 (encStr k.data.toList) rfl
theorem iEnt : (Tryz.prog.info? 45).map (fun i => (i.zero, i.size, i.bytes)) = some (some (.agg #[.string ⟨#[]⟩, .int .i64 0, .string ⟨#[]⟩, .slice none 0 0, .slice none 0 0, .slice none 0 0, .slice none 0 0, .int .i64 0]), 8, 144) := by kernel_rfl
set_option maxRecDepth 100000 in
set_option maxHeartbeats 8000000 in
theorem All1E (bS bM : Nat) (k : ByteArray) (kd : Int) (A3 A4 A5 A6 : Option Addr) (an3 ac3 an4 ac4 an5 ac5 an6 ac6 : Nat) (w : World) (hk : k.size ≤ maxLen) (hCL : ∀ X, Below w.heap.size w X → Calls Tryz.prog 13 #[.agg #[.string k, .int .i64 kd, .string ⟨#[]⟩, .slice A3 an3 ac3, .slice A4 an4 ac4, .slice A5 an5 ac5, .slice A6 an6 ac6, .int .i64 0]] X fun e w' => ∃ (Y3 Y4 Y5 Y6 : Option Addr) (yn3 yc3 yn4 yc4 yn5 yc5 yn6 yc6 : Nat), e = .returned (.agg #[.string k, .int .i64 kd, .string ⟨#[]⟩, .slice Y3 yn3 yc3, .slice Y4 yn4 yc4, .slice Y5 yn5 yc5, .slice Y6 yn6 yc6, .int .i64 0]) ∧ Below X.heap.size X w') (h : SP w bS bM [(k, .agg #[.string k, .int .i64 kd, .string ⟨#[]⟩, .slice A3 an3 ac3, .slice A4 an4 ac4, .slice A5 an5 ac5, .slice A6 an6 ac6, .int .i64 0])]) : Calls Tryz.prog 7 #[.pointer (some ⟨bS, 0, none⟩)] w fun e w' => (∃ g C, e = .returned (.slice (some ⟨g, 0, none⟩) 1 C)) ∧ Below w.heap.size w w' := by
  have MK := Lib.hid (callsIn_wide.1 (Tryz.maps_Keys_12 (some bM) w))
  have SO := Lib.hid (Sorted1 bM k _ hk w h.2.1)
  have HS := Lib.hid h
  obtain ⟨hs1, hs2⟩ := h.cell
  have hM := Lib.hid h.2.1
  have CL := Lib.hid hCL
  have hr : (if false = true then Value.tuple #[(MapT.find k [(k, .agg #[.string k, .int .i64 kd, .string ⟨#[]⟩, .slice A3 an3 ac3, .slice A4 an4 ac4, .slice A5 an5 ac5, .slice A6 an6 ac6, .int .i64 0])]).getD (.agg #[.string ⟨#[]⟩, .int .i64 0, .string ⟨#[]⟩, .slice none 0 0, .slice none 0 0, .slice none 0 0, .slice none 0 0, .int .i64 0]), .bool (MapT.find k [(k, .agg #[.string k, .int .i64 kd, .string ⟨#[]⟩, .slice A3 an3 ac3, .slice A4 an4 ac4, .slice A5 an5 ac5, .slice A6 an6 ac6, .int .i64 0])]).isSome] else (MapT.find k [(k, .agg #[.string k, .int .i64 kd, .string ⟨#[]⟩, .slice A3 an3 ac3, .slice A4 an4 ac4, .slice A5 an5 ac5, .slice A6 an6 ac6, .int .i64 0])]).getD (.agg #[.string ⟨#[]⟩, .int .i64 0, .string ⟨#[]⟩, .slice none 0 0, .slice none 0 0, .slice none 0 0, .slice none 0 0, .int .i64 0])) = .agg #[.string k, .int .i64 kd, .string ⟨#[]⟩, .slice A3 an3 ac3, .slice A4 an4 ac4, .slice A5 an5 ac5, .slice A6 an6 ac6, .int .i64 0] := by rw [show MapT.find k [(k, .agg #[.string k, .int .i64 kd, .string ⟨#[]⟩, .slice A3 an3 ac3, .slice A4 an4 ac4, .slice A5 an5 ac5, .slice A6 an6 ac6, .int .i64 0])] = some (.agg #[.string k, .int .i64 kd, .string ⟨#[]⟩, .slice A3 an3 ac3, .slice A4 an4 ac4, .slice A5 an5 ac5, .slice A6 an6 ac6, .int .i64 0]) from by simp [MapT.find]]; rfl
  have HR := Lib.hid hr
  clear h hr hCL
  go_enter Tryz.func7, Tryz.ntmps7
  go_wp2_with (first | (go_at_call 12; (with_reducible refine (MK.out).mono ?_); rintro e w1 ⟨rfl, rfl⟩) | (go_at_call 11; (with_reducible refine (SO.out).mono ?_); rintro e w2 ⟨g, cap, rfl, hc2, hb2⟩; have B2 := Lib.hid hb2; have C2 := Lib.hid hc2; clear hb2 hc2; refine Hid.out ?_))
  refine Lib.hid ?_
  go_wp2_with fail
  go_loopw [3, 15] (fun lv iv wr => Hid ((iv = .int .i64 0 ∧ lv = .slice none 0 0 ∧ Below w.heap.size w wr ∧ wr.cell? ⟨g, 0, none⟩ = some (.string k)) ∨ (∃ g2 C2, iv = .int .i64 1 ∧ lv = .slice (some ⟨g2, 0, none⟩) 1 C2 ∧ Below w.heap.size w wr))) (fun _ iv _ => 1 - (intOf iv).toNat)
  case atStart => exact Lib.hid (.inl ⟨rfl, rfl, B2.out, C2.out⟩)
  case round =>
    rcases hrel.out with ⟨rfl, rfl, hB, hC⟩ | ⟨g2, C2, rfl, rfl, hB⟩
    · have HB := Lib.hid hB
      have y1 := (HS.out.below hB).cell.1
      have MM := Lib.hid (HS.out.below hB).2.1
      have CB := Lib.hid (CL.out wr hB)
      clear hB hs1
      go_wp2_with (first | (at_lookup; refine MapT.at_look _ rfl _ _ false rfl Tryz.underlying33 Tryz.underlying9 bM _ rfl MM.out k rfl _ (zero33 _) _ HR.out ?_) | (go_at_call 13; (with_reducible refine (CB.out).mono ?_); rintro e w3 ⟨Y3, Y4, Y5, Y6, yn3, yc3, yn4, yc4, yn5, yc5, yn6, yc6, rfl, h3⟩; have B3 := Lib.hid (HB.out.trans (h3.mono (Below.size HB.out))); clear h3; refine Hid.out ?_))
      refine Lib.hid ?_
      have B4 := Lib.hid (show Below w.heap.size w (w3.alloc (.cells #[.string k, .int .i64 kd, .string ⟨#[]⟩, .slice Y3 yn3 yc3, .slice Y4 yn4 yc4, .slice Y5 yn5 yc5, .slice Y6 yn6 yc6, .int .i64 0] 45)) from B3.out.trans (alloc_old.mono (Below.size B3.out)))
      have N4 := Lib.hid (heap_alloc_new w3 (.cells #[.string k, .int .i64 kd, .string ⟨#[]⟩, .slice Y3 yn3 yc3, .slice Y4 yn4 yc4, .slice Y5 yn5 yc5, .slice Y6 yn6 yc6, .int .i64 0] 45))
      have Z4 := Lib.hid (Below.size B4.out)
      obtain ⟨i0, hi0, hz0, hz1, hz2⟩ := info_parts iEnt
      have RW := Lib.hid (World.ownsRow_nil (w3.alloc (.cells #[.string k, .int .i64 kd, .string ⟨#[]⟩, .slice Y3 yn3 yc3, .slice Y4 yn4 yc4, .slice Y5 yn5 yc5, .slice Y6 yn6 yc6, .int .i64 0] 45)) w.heap.size 45 8)
      have NB := Lib.hid (news_blk (cs := [.string k, .int .i64 kd, .string ⟨#[]⟩, .slice Y3 yn3 yc3, .slice Y4 yn4 yc4, .slice Y5 yn5 yc5, .slice Y6 yn6 yc6, .int .i64 0]) N4.out)
      have ON := Lib.hid (show ∀ u9 ∈ ([.string k, .int .i64 kd, .string ⟨#[]⟩, .slice Y3 yn3 yc3, .slice Y4 yn4 yc4, .slice Y5 yn5 yc5, .slice Y6 yn6 yc6, .int .i64 0] : List Value), u9.oneCell' = true from fun u9 hu => by simp at hu; rcases hu with rfl | rfl | rfl | rfl | rfl | rfl | rfl | rfl <;> rfl)
      go_wp2_with (first | (at_builtin; refine wpList_append_lies _ rfl _ _ 30 rfl w.heap.size 45 i0 _ 8 144 Tryz.underlying30 hi0 hz0 hz1 hz2 rfl (by decide) (.slice none 0 0) 0 [] rfl RW.out ⟨w3.heap.size, 0, none⟩ 1 1 [.string k, .int .i64 kd, .string ⟨#[]⟩, .slice Y3 yn3 yc3, .slice Y4 yn4 yc4, .slice Y5 yn5 yc5, .slice Y6 yn6 yc6, .int .i64 0] rfl rfl NB.out ON.out (by decide) (by decide) (by decide) Z4.out _ rfl ?_; intro g5 C5 w5 hO5 hG5 _ _; have G5 := Lib.hid hG5; clear hO5 hG5))
      exact ⟨Lib.hid (.inr ⟨g5, C5, rfl, rfl, B4.out.grown G5.out Z4.out (fun k9 hk9 => by cases hk9)⟩), by simp [intOf]⟩
    · have HB := Lib.hid hB
      clear hB
      go_wp2
      go_ret
      refine ⟨⟨g2, C2, rfl⟩, HB.out⟩
theorem All1G {α : Type} (K : Kd α) (ok : ByteArray → α → Prop) (hO : KdOk K ok) (bS bM : Nat) (k : ByteArray) (x : α) (hk : k.size ≤ maxLen) (w : World) (h : SPG K ok w bS bM [(k, x)]) : Calls Tryz.prog 7 #[.pointer (some ⟨bS, 0, none⟩)] w fun e w' => (∃ g C, e = .returned (.slice (some ⟨g, 0, none⟩) 1 C)) ∧ Below w.heap.size w w' := by
  obtain ⟨⟨l, hS, hA⟩, hall⟩ := h
  have hok := hall (k, x) (by simp)
  match l, hA with
  | [(y, v)], hA =>
    obtain ⟨⟨h1, A3, A4, A5, A6, an3, ac3, an4, ac4, an5, ac5, an6, ac6, h2, h3⟩, _⟩ := hA
    have h1 : y = k := h1
    have h2 : v = _ := h2
    subst h1 h2
    refine All1E bS bM y K.kd A3 A4 A5 A6 an3 ac3 an4 ac4 an5 ac5 an6 ac6 w hk (fun X hX => ?_) hS
    refine (hO.clone y x A3 A4 A5 A6 an3 ac3 an4 ac4 an5 ac5 an6 ac6 X hok (K.below h3 hX)).mono ?_
    rintro e w' ⟨Y3, Y4, Y5, Y6, yn3, yc3, yn4, yc4, yn5, yc5, yn6, yc6, rfl, _, _, hb⟩
    exact ⟨Y3, Y4, Y5, Y6, yn3, yc3, yn4, yc4, yn5, yc5, yn6, yc6, rfl, hb⟩
end Go.Proofs.YtjljljjmdlddkaaGreat

/- The law ListsThrough: its plain parts, its calls. -/
namespace Go.Proofs.YtjljljjmdlddkaaGreat
open Go.ChangeShapes Go.WideShapes Go.ChangeAt Go.RowKit

/-- Two keys' rows; a row without texts is none. -/
def ne2 (a b : ByteArray) (xs ys : List ByteArray) : List (ByteArray × List ByteArray) := (if xs = [] then [] else [(a, xs)]) ++ (if ys = [] then [] else [(b, ys)])
theorem ne2_a {a b : ByteArray} (hab : a ≠ b) (xs ys : List ByteArray) : (findD a (ne2 a b xs ys)).getD [] = xs := by
  have hba : ¬ b = a := fun h => hab h.symm
  unfold ne2
  by_cases h1 : xs = [] <;> by_cases h2 : ys = [] <;> simp [h1, h2, findD, hba]
theorem ne2_b {a b : ByteArray} (hab : a ≠ b) (xs ys : List ByteArray) : (findD b (ne2 a b xs ys)).getD [] = ys := by
  unfold ne2
  by_cases h1 : xs = [] <;> by_cases h2 : ys = [] <;> simp [h1, h2, findD, hab]
theorem ne2_fa {a b : ByteArray} (_hab : a ≠ b) (xs ys : List ByteArray) (h : xs ≠ []) : findD a (ne2 a b xs ys) = some xs := by
  unfold ne2
  simp [h, findD]
theorem ne2_putb {a b : ByteArray} (hab : a ≠ b) (xs ys : List ByteArray) (zs : List ByteArray) (h : zs ≠ []) : putD b zs (ne2 a b xs ys) = ne2 a b xs zs := by
  unfold ne2
  by_cases h1 : xs = [] <;> by_cases h2 : ys = [] <;> simp [h, h1, h2, putD, hab]
theorem ne2_puta {a b : ByteArray} (_hab : a ≠ b) (xs : List ByteArray) (zs : List ByteArray) (h : zs ≠ []) : putD a zs (ne2 a b xs []) = ne2 a b zs [] := by
  unfold ne2
  by_cases h1 : xs = [] <;> simp [h, h1, putD]
theorem ne2_seta {a b : ByteArray} (_hab : a ≠ b) (xs ys : List ByteArray) (zs : List ByteArray) (h : xs ≠ []) : setD a zs (ne2 a b xs ys) = ne2 a b zs ys := by
  unfold ne2 setD
  by_cases h1 : zs = [] <;> by_cases h2 : ys = [] <;> simp [h, h1, h2, putD, delD]
theorem ne2_len (a b : ByteArray) (xs ys : List ByteArray) : (ne2 a b xs ys).length ≤ 2 := by
  unfold ne2
  split <;> split <;> simp
theorem ne2_b0 (a b c : ByteArray) (ys : List ByteArray) : ne2 a b [] ys = ne2 b c ys [] := by
  unfold ne2
  simp
theorem ne2_b1 (a b : ByteArray) (ys : List ByteArray) (h : ys ≠ []) : ne2 a b [] ys = [(b, ys)] := by
  unfold ne2
  simp [h]
theorem kj : (⟨#[107]⟩ : ByteArray) ≠ ⟨#[106]⟩ := by decide
theorem ji : (⟨#[106]⟩ : ByteArray) ≠ ⟨#[105]⟩ := by decide
theorem drop_at (xs : List ByteArray) (i : Nat) (s : ByteArray) (h : xs[i]? = some s) : xs.drop i = s :: xs.drop (i + 1) := by
  obtain ⟨h1, h2⟩ := List.getElem?_eq_some_iff.1 h
  rw [List.drop_eq_getElem_cons h1, h2]
theorem take_last (xs : List ByteArray) (m : Nat) (s : ByteArray) (h : xs[m]? = some s) : (xs.take (m + 1))[(xs.take (m + 1)).length - 1]? = some s ∧ (xs.take (m + 1)).eraseIdx ((xs.take (m + 1)).length - 1) = xs.take m := by
  have h1 := (List.getElem?_eq_some_iff.1 h).1
  have hl : (xs.take (m + 1)).length = m + 1 := by simp; omega
  have hl2 : (xs.take m).length = m := by simp; omega
  rw [hl]
  rw [take_at xs m s h]
  constructor
  · rw [List.getElem?_append_right (by omega), hl2]
    simp
  · rw [List.eraseIdx_append_of_length_le (by omega), hl2]
    simp
theorem rev_at (l : List ByteArray) (n i : Nat) (hn : l.length = n) (hi : i < n) : l.reverse[i]? = l[n - 1 - i]? := by
  rw [List.getElem?_reverse (by omega), hn]
theorem spanT_whole (zs : List ByteArray) : spanT 0 (-1) zs = zs := by
  rcases Nat.eq_zero_or_pos zs.length with h | h
  · obtain rfl := List.length_eq_zero_iff.1 h
    unfold spanT
    split <;> simp
  · have e1 : spA 0 (zs.length : Int) = 0 := rfl
    have e2 : spC (-1) (zs.length : Int) = (zs.length : Int) - 1 := by
      unfold spC
      rw [if_pos (by omega)]
      omega
    unfold spanT
    rw [e1, e2, if_pos (by omega)]
    rw [show (0 : Int).toNat = 0 from rfl, List.drop_zero]
    exact List.take_of_length_le (by omega)
def few (n : Nat) (zs : List ByteArray) : Prop := zs.length ≤ n ∧ n ≤ 15 ∧ ∀ s ∈ zs, s.size ≤ 100
theorem few.ok {n : Nat} {zs : List ByteArray} (h : few n zs) (hne : zs ≠ []) (k : ByteArray) (h1 : 1 ≤ k.size) (h2 : k.size ≤ 512) : okL k zs := ⟨h1, h2, hne, by have := h.1; have := h.2.1; omega, fun s hs => Nat.le_trans (h.2.2 s hs) (by decide)⟩
theorem p_pushF (W0 : World) (bS bM : Nat) (xs : List ByteArray) (s : ByteArray) (n : Nat) (hn : xs.length = n) (hfew : few 15 (pushT false xs [s])) (X : World) (hL : LD W0 X bS bM (ne2 ⟨#[107]⟩ ⟨#[106]⟩ xs [])) (q : Nat) (hq : X.heap.size = q) : Calls Tryz.prog 6 #[.pointer (some ⟨bS, 0, none⟩), .slice (some ⟨q, 0, none⟩) 3 3] (X.alloc (.cells #[.string ⟨#[82, 80, 85, 83, 72]⟩, .string ⟨#[107]⟩, .string s] 9)) fun e w' => e = .returned (.agg #[.int .i64 3, .int .i64 ((n + 1 : Nat) : Int), .string ⟨#[]⟩, .slice none 0 0]) ∧ LD W0 w' bS bM (ne2 ⟨#[107]⟩ ⟨#[106]⟩ (pushT false xs [s]) []) ∧ Kp X.heap.size (fun i => i ≠ bS ∧ i ≠ bM) X w' := by
  subst hq
  exact lit0 X hL [⟨#[82, 80, 85, 83, 72]⟩, ⟨#[107]⟩, s] (by simp) (fun vA w h hA => d_RPUSH W0 bS bM (ne2 ⟨#[107]⟩ ⟨#[106]⟩ xs []) ⟨#[107]⟩ [s] (by rw [ne2_a kj]; have := hfew.1; rw [pushT_len] at this; simp at this; simp; omega) (by simp) (by rw [ne2_a kj]; exact hfew.ok (by simp [pushT]) _ (by decide) (by decide)) (by have := ne2_len ⟨#[107]⟩ ⟨#[106]⟩ xs []; omega) vA w h hA) (by rw [ne2_a kj]; exact ne2_puta kj _ _ (by simp [pushT])) (by rw [ne2_a kj, hn]; rfl)
theorem p_pushT (W0 : World) (bS bM : Nat) (xs : List ByteArray) (s : ByteArray) (n : Nat) (hn : xs.length = n) (hfew : few 15 (pushT true xs [s])) (X : World) (hL : LD W0 X bS bM (ne2 ⟨#[107]⟩ ⟨#[106]⟩ xs [])) (q : Nat) (hq : X.heap.size = q) : Calls Tryz.prog 6 #[.pointer (some ⟨bS, 0, none⟩), .slice (some ⟨q, 0, none⟩) 3 3] (X.alloc (.cells #[.string ⟨#[76, 80, 85, 83, 72]⟩, .string ⟨#[107]⟩, .string s] 9)) fun e w' => e = .returned (.agg #[.int .i64 3, .int .i64 ((n + 1 : Nat) : Int), .string ⟨#[]⟩, .slice none 0 0]) ∧ LD W0 w' bS bM (ne2 ⟨#[107]⟩ ⟨#[106]⟩ (pushT true xs [s]) []) ∧ Kp X.heap.size (fun i => i ≠ bS ∧ i ≠ bM) X w' := by
  subst hq
  exact lit0 X hL [⟨#[76, 80, 85, 83, 72]⟩, ⟨#[107]⟩, s] (by simp) (fun vA w h hA => d_LPUSH W0 bS bM (ne2 ⟨#[107]⟩ ⟨#[106]⟩ xs []) ⟨#[107]⟩ [s] (by rw [ne2_a kj]; have := hfew.1; rw [pushT_len] at this; simp at this; simp; omega) (by simp) (by rw [ne2_a kj]; exact hfew.ok (by simp [pushT]) _ (by decide) (by decide)) (by have := ne2_len ⟨#[107]⟩ ⟨#[106]⟩ xs []; omega) vA w h hA) (by rw [ne2_a kj]; exact ne2_puta kj _ _ (by simp [pushT])) (by rw [ne2_a kj, hn]; rfl)
theorem p_popF (W0 : World) (bS bM : Nat) (xs ys : List ByteArray) (s : ByteArray) (hs : xs[0]? = some s) (X : World) (hL : LD W0 X bS bM (ne2 ⟨#[107]⟩ ⟨#[106]⟩ xs ys)) (q : Nat) (hq : X.heap.size = q) : Calls Tryz.prog 6 #[.pointer (some ⟨bS, 0, none⟩), .slice (some ⟨q, 0, none⟩) 2 2] (X.alloc (.cells #[.string ⟨#[76, 80, 79, 80]⟩, .string ⟨#[107]⟩] 9)) fun e w' => e = .returned (.agg #[.int .i64 4, .int .i64 0, .string s, .slice none 0 0]) ∧ LD W0 w' bS bM (ne2 ⟨#[107]⟩ ⟨#[106]⟩ (xs.eraseIdx 0) ys) ∧ Kp X.heap.size (fun i => i ≠ bS ∧ i ≠ bM) X w' := by
  subst hq
  exact lit0 X hL [⟨#[76, 80, 79, 80]⟩, ⟨#[107]⟩] (by simp) (fun vA w h hA => d_LPOP W0 bS bM (ne2 ⟨#[107]⟩ ⟨#[106]⟩ xs ys) ⟨#[107]⟩ xs (ne2_fa kj _ _ (by rintro rfl; simp at hs)) s hs (by have := ne2_len ⟨#[107]⟩ ⟨#[106]⟩ xs ys; omega) vA w h hA) (ne2_seta kj _ _ _ (by rintro rfl; simp at hs)) rfl
theorem p_popT (W0 : World) (bS bM : Nat) (xs ys : List ByteArray) (s : ByteArray) (hs : xs[xs.length - 1]? = some s) (X : World) (hL : LD W0 X bS bM (ne2 ⟨#[107]⟩ ⟨#[106]⟩ xs ys)) (q : Nat) (hq : X.heap.size = q) : Calls Tryz.prog 6 #[.pointer (some ⟨bS, 0, none⟩), .slice (some ⟨q, 0, none⟩) 2 2] (X.alloc (.cells #[.string ⟨#[82, 80, 79, 80]⟩, .string ⟨#[107]⟩] 9)) fun e w' => e = .returned (.agg #[.int .i64 4, .int .i64 0, .string s, .slice none 0 0]) ∧ LD W0 w' bS bM (ne2 ⟨#[107]⟩ ⟨#[106]⟩ (xs.eraseIdx (xs.length - 1)) ys) ∧ Kp X.heap.size (fun i => i ≠ bS ∧ i ≠ bM) X w' := by
  subst hq
  exact lit0 X hL [⟨#[82, 80, 79, 80]⟩, ⟨#[107]⟩] (by simp) (fun vA w h hA => d_RPOP W0 bS bM (ne2 ⟨#[107]⟩ ⟨#[106]⟩ xs ys) ⟨#[107]⟩ xs (ne2_fa kj _ _ (by rintro rfl; simp at hs)) s hs (by have := ne2_len ⟨#[107]⟩ ⟨#[106]⟩ xs ys; omega) vA w h hA) (ne2_seta kj _ _ _ (by rintro rfl; simp at hs)) rfl
theorem p_pushj (W0 : World) (bS bM : Nat) (xs ys : List ByteArray) (s : ByteArray) (n : Nat) (hn : ys.length = n) (hfew : few 15 (ys ++ [s])) (X : World) (hL : LD W0 X bS bM (ne2 ⟨#[107]⟩ ⟨#[106]⟩ xs ys)) (q : Nat) (hq : X.heap.size = q) : Calls Tryz.prog 6 #[.pointer (some ⟨bS, 0, none⟩), .slice (some ⟨q, 0, none⟩) 3 3] (X.alloc (.cells #[.string ⟨#[82, 80, 85, 83, 72]⟩, .string ⟨#[106]⟩, .string s] 9)) fun e w' => e = .returned (.agg #[.int .i64 3, .int .i64 ((n + 1 : Nat) : Int), .string ⟨#[]⟩, .slice none 0 0]) ∧ LD W0 w' bS bM (ne2 ⟨#[107]⟩ ⟨#[106]⟩ xs (ys ++ [s])) ∧ Kp X.heap.size (fun i => i ≠ bS ∧ i ≠ bM) X w' := by
  subst hq
  exact lit0 X hL [⟨#[82, 80, 85, 83, 72]⟩, ⟨#[106]⟩, s] (by simp) (fun vA w h hA => d_RPUSH W0 bS bM (ne2 ⟨#[107]⟩ ⟨#[106]⟩ xs ys) ⟨#[106]⟩ [s] (by rw [ne2_b kj]; have := hfew.1; simp at this; simp; omega) (by simp) (by rw [ne2_b kj]; exact hfew.ok (show ys ++ [s] ≠ [] by simp) _ (by decide) (by decide)) (by have := ne2_len ⟨#[107]⟩ ⟨#[106]⟩ xs ys; omega) vA w h hA) (by rw [ne2_b kj]; exact ne2_putb kj _ _ _ (show ys ++ [s] ≠ [] by simp)) (by rw [ne2_b kj, hn]; rfl)
theorem p_over (W0 : World) (bS bM : Nat) (ys zs : List ByteArray) (s : ByteArray) (hs : ys[ys.length - 1]? = some s) (hfew : few 15 (s :: zs)) (X : World) (hL : LD W0 X bS bM (ne2 ⟨#[106]⟩ ⟨#[105]⟩ ys zs)) (q : Nat) (hq : X.heap.size = q) : Calls Tryz.prog 6 #[.pointer (some ⟨bS, 0, none⟩), .slice (some ⟨q, 0, none⟩) 3 3] (X.alloc (.cells #[.string ⟨#[82, 80, 79, 80, 76, 80, 85, 83, 72]⟩, .string ⟨#[106]⟩, .string ⟨#[105]⟩] 9)) fun e w' => e = .returned (.agg #[.int .i64 4, .int .i64 0, .string s, .slice none 0 0]) ∧ LD W0 w' bS bM (ne2 ⟨#[106]⟩ ⟨#[105]⟩ (ys.eraseIdx (ys.length - 1)) (s :: zs)) ∧ Kp X.heap.size (fun i => i ≠ bS ∧ i ≠ bM) X w' := by
  subst hq
  exact lit0 X hL [⟨#[82, 80, 79, 80, 76, 80, 85, 83, 72]⟩, ⟨#[106]⟩, ⟨#[105]⟩] (by simp) (fun vA w h hA => d_OVER W0 bS bM (ne2 ⟨#[106]⟩ ⟨#[105]⟩ ys zs) ⟨#[106]⟩ ⟨#[105]⟩ ji ys (ne2_fa ji _ _ (by rintro rfl; simp at hs)) (by have := ne2_len ⟨#[106]⟩ ⟨#[105]⟩ ys zs; omega) s hs (by have := hfew.2.2 s (by simp); omega) zs (ne2_b ji _ _) (hfew.ok (by simp) _ (by decide) (by decide)) vA w h hA) (by rw [ne2_seta ji _ _ _ (by rintro rfl; simp at hs)]; exact ne2_putb ji _ _ _ (by simp)) rfl
theorem p_allI (W0 : World) (bS bM : Nat) (zs : List ByteArray) (hz : zs.length ≤ 15) (X : World) (hL : LD W0 X bS bM [(⟨#[105]⟩, zs)]) (q : Nat) (hq : X.heap.size = q) : Calls Tryz.prog 6 #[.pointer (some ⟨bS, 0, none⟩), .slice (some ⟨q, 0, none⟩) 4 4] (X.alloc (.cells #[.string ⟨#[76, 82, 65, 78, 71, 69]⟩, .string ⟨#[105]⟩, .string ⟨#[48]⟩, .string ⟨#[45, 49]⟩] 9)) fun e w' => ∃ A m c, e = .returned (.agg #[.int .i64 6, .int .i64 0, .string ⟨#[]⟩, .slice A m c]) ∧ (RO (zs.map some)) X.heap.size w' (.slice A m c) ∧ LD W0 w' bS bM [(⟨#[105]⟩, zs)] ∧ Kp X.heap.size (fun i => i ≠ bS ∧ i ≠ bM) X w' := by
  subst hq
  exact litR (RO.keep _) X hL [⟨#[76, 82, 65, 78, 71, 69]⟩, ⟨#[105]⟩, ⟨#[48]⟩, ⟨#[45, 49]⟩] (by simp) (fun vA w h hA => d_LRANGE W0 bS bM [(⟨#[105]⟩, zs)] ⟨#[105]⟩ ⟨#[48]⟩ (0) (by decide) (by kernel_rfl) (by omega) ⟨#[45, 49]⟩ (-1) (by decide) (by kernel_rfl) (by omega) zs (by simp [findD]) (by omega) vA w h hA) rfl rfl (by rw [spanT_whole])
theorem p_lenk (W0 : World) (bS bM : Nat) (zs : List ByteArray) (X : World) (hL : LD W0 X bS bM [(⟨#[105]⟩, zs)]) (q : Nat) (hq : X.heap.size = q) : Calls Tryz.prog 6 #[.pointer (some ⟨bS, 0, none⟩), .slice (some ⟨q, 0, none⟩) 2 2] (X.alloc (.cells #[.string ⟨#[76, 76, 69, 78]⟩, .string ⟨#[107]⟩] 9)) fun e w' => e = .returned (.agg #[.int .i64 3, .int .i64 0, .string ⟨#[]⟩, .slice none 0 0]) ∧ LD W0 w' bS bM [(⟨#[105]⟩, zs)] ∧ Kp X.heap.size (fun i => i ≠ bS ∧ i ≠ bM) X w' := by
  subst hq
  exact lit0 X hL [⟨#[76, 76, 69, 78]⟩, ⟨#[107]⟩] (by simp) (fun vA w h hA => d_LLEN W0 bS bM [(⟨#[105]⟩, zs)] ⟨#[107]⟩ vA w h hA) rfl (by simp [findD])
theorem p_lenj (W0 : World) (bS bM : Nat) (zs : List ByteArray) (X : World) (hL : LD W0 X bS bM [(⟨#[105]⟩, zs)]) (q : Nat) (hq : X.heap.size = q) : Calls Tryz.prog 6 #[.pointer (some ⟨bS, 0, none⟩), .slice (some ⟨q, 0, none⟩) 2 2] (X.alloc (.cells #[.string ⟨#[76, 76, 69, 78]⟩, .string ⟨#[106]⟩] 9)) fun e w' => e = .returned (.agg #[.int .i64 3, .int .i64 0, .string ⟨#[]⟩, .slice none 0 0]) ∧ LD W0 w' bS bM [(⟨#[105]⟩, zs)] ∧ Kp X.heap.size (fun i => i ≠ bS ∧ i ≠ bM) X w' := by
  subst hq
  exact lit0 X hL [⟨#[76, 76, 69, 78]⟩, ⟨#[106]⟩] (by simp) (fun vA w h hA => d_LLEN W0 bS bM [(⟨#[105]⟩, zs)] ⟨#[106]⟩ vA w h hA) rfl (by simp [findD])
end Go.Proofs.YtjljljjmdlddkaaGreat
