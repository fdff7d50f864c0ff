/- Parts of texts, texts turned, places of texts: what the law LibParts calls. -/
import Derived.Test.YtjoegdnefdaokaaDoorLb8
import Derived.Lib.IndexBytes
import Derived.Lib.IndexLaws
namespace Go.Proofs.YtjoegdnefdaokaaDoor
open Go.ChangeShapes Go.WideShapes Go.ChangeAt Go.RowKit

theorem ext_empty (s : ByteArray) (a b : Nat) (h : b ≤ a) : s.extract a b = ⟨#[]⟩ := by
  apply bytes_inj
  rw [Lib.extract_data, show b - a = 0 by omega]
  rfl
theorem text_head (s : ByteArray) (hs : s.size ≤ 1000000) (k : Nat) (hk : k ≤ s.size) (w : World) :
    Calls Tryd.prog 7 #[.string ⟨#[115, 117, 98]⟩, .slice (some ⟨w.heap.size, 0, none⟩) 3 3] (w.alloc (.cells #[.int .i64 3, .int .i64 0, .string s, .slice none 0 0, .int .i64 2, .int .i64 1, .string ⟨#[]⟩, .slice none 0 0, .int .i64 2, .int .i64 (k : Int), .string ⟨#[]⟩, .slice none 0 0] 28)) fun e w' => e = .returned (.tuple #[.string (s.extract 0 k), .bool true]) ∧ Below w.heap.size w w' :=
  on_row (text7 _ _ _ (s.extract 0 k) (call_sub s _ _ [(3, 0, s), (2, 1, ⟨#[]⟩), (2, (k : Int), ⟨#[]⟩)] (ASl.lit w [(3, 0, s), (2, 1, ⟨#[]⟩), (2, (k : Int), ⟨#[]⟩)] (by simp)) rfl 3 0 0 (s.extract 0 k) fun w1 hb => of_sub_two s _ w1 [(3, 0, s), (2, 1, ⟨#[]⟩), (2, (k : Int), ⟨#[]⟩)] ((ASl.lit w [(3, 0, s), (2, 1, ⟨#[]⟩), (2, (k : Int), ⟨#[]⟩)] (by simp)).below hb) 1 k rfl rfl (s.extract 0 k) fun w2 => by
    by_cases hz : 1 ≤ k
    · exact sub_lt s hs 1 k (Nat.le_refl _) hz hk w2
    · rw [ext_empty s 0 k (by omega)]; exact sub_gt s 1 k (Nat.le_refl _) (by omega) hk w2))
theorem text_tail (s : ByteArray) (hs : s.size ≤ 1000000) (k : Nat) (hk1 : 1 ≤ k) (w : World) :
    Calls Tryd.prog 7 #[.string ⟨#[115, 117, 98]⟩, .slice (some ⟨w.heap.size, 0, none⟩) 2 2] (w.alloc (.cells #[.int .i64 3, .int .i64 0, .string s, .slice none 0 0, .int .i64 2, .int .i64 (k : Int), .string ⟨#[]⟩, .slice none 0 0] 28)) fun e w' => e = .returned (.tuple #[.string (s.extract (k - 1) s.size), .bool true]) ∧ Below w.heap.size w w' :=
  on_row (text7 _ _ _ (s.extract (k - 1) s.size) (call_sub s _ _ [(3, 0, s), (2, (k : Int), ⟨#[]⟩)] (ASl.lit w [(3, 0, s), (2, (k : Int), ⟨#[]⟩)] (by simp)) rfl 3 0 0 (s.extract (k - 1) s.size) fun w1 hb => of_sub_one s _ w1 [(3, 0, s), (2, (k : Int), ⟨#[]⟩)] ((ASl.lit w [(3, 0, s), (2, (k : Int), ⟨#[]⟩)] (by simp)).below hb) k rfl rfl (s.extract (k - 1) s.size) fun w2 => by
    by_cases hz : k ≤ s.size
    · exact sub_m1 s hs k hk1 hz w2
    · rw [ext_empty s (k - 1) s.size (by omega)]; exact sub_m1e s hs k hk1 (by omega) w2))
theorem data_app (a b : ByteArray) : (a ++ b).data.toList = a.data.toList ++ b.data.toList := by simp
theorem parts_join (s : ByteArray) (k : Nat) : s.extract 0 k ++ s.extract k s.size = s := by
  apply bytes_inj
  rw [data_app, Lib.extract_data, Lib.extract_data, List.drop_zero, Nat.sub_zero]
  rw [List.take_of_length_le (l := s.data.toList.drop k) (by simp), List.take_append_drop]
def revT (s : ByteArray) : ByteArray := ⟨((List.range s.size).map (revAt s)).toArray⟩
def upT (s : ByteArray) : ByteArray := ⟨((List.range s.size).map (upAt s)).toArray⟩
def lowT (s : ByteArray) : ByteArray := ⟨((List.range s.size).map (lowAt s)).toArray⟩
theorem mk_size (n : Nat) (f : Nat → UInt8) : (⟨((List.range n).map f).toArray⟩ : ByteArray).size = n := by
  show ((List.range n).map f).toArray.size = n
  simp
theorem mk_byteAt (n : Nat) (f : Nat → UInt8) (j : Nat) (hj : j < n) : byteAt ⟨((List.range n).map f).toArray⟩ j = f j := by
  unfold byteAt
  show ((List.range n).map f).getD j 0 = f j
  rw [List.getD, List.getElem?_map, List.getElem?_range hj]
  rfl
theorem self_mk (s : ByteArray) : (⟨((List.range s.size).map (byteAt s)).toArray⟩ : ByteArray) = s := by
  apply bytes_inj
  show (List.range s.size).map (byteAt s) = s.data.toList
  apply List.ext_getElem?
  intro j
  by_cases hj : j < s.size
  · rw [List.getElem?_map, List.getElem?_range hj]
    have hl : j < s.data.toList.length := by simpa using hj
    show some (byteAt s j) = _
    unfold byteAt
    rw [List.getD, List.getElem?_eq_getElem hl]
    rfl
  · have hl : s.data.toList.length ≤ j := by simp; omega
    rw [List.getElem?_eq_none (by simp; omega), List.getElem?_eq_none hl]
theorem map_congr_range (n : Nat) (f g : Nat → UInt8) (h : ∀ j, j < n → f j = g j) : (List.range n).map f = (List.range n).map g :=
  List.map_congr_left fun j hj => h j (List.mem_range.1 hj)
theorem rev_rev (s : ByteArray) : revT (revT s) = s := by
  have e : revT (revT s) = ⟨((List.range s.size).map (byteAt s)).toArray⟩ := by
    have hsz : (revT s).size = s.size := mk_size _ _
    show (⟨((List.range (revT s).size).map (revAt (revT s))).toArray⟩ : ByteArray) = _
    rw [hsz]
    congr 2
    refine map_congr_range _ _ _ fun j hj => ?_
    unfold revAt
    rw [hsz]
    show byteAt (⟨((List.range s.size).map (revAt s)).toArray⟩ : ByteArray) _ = _
    rw [mk_byteAt _ _ _ (by omega)]
    unfold revAt
    rw [show s.size - 1 - (s.size - 1 - j) = j by omega]
  rw [e, self_mk]
theorem lowB_upB (c : UInt8) : lowB (upB c) = lowB c := by
  unfold lowB upB
  have hlt := c.toNat_lt
  by_cases h : 97 ≤ c.toNat ∧ c.toNat ≤ 122
  · rw [if_pos h]
    have e : (UInt8.ofNat (c.toNat - 32)).toNat = c.toNat - 32 := by rw [UInt8.toNat_ofNat']; omega
    rw [e, if_pos (by omega), if_neg (by omega)]
    apply UInt8.toNat_inj.1
    rw [UInt8.toNat_ofNat']
    omega
  · rw [if_neg h]
theorem low_up (s : ByteArray) : lowT (upT s) = lowT s := by
  have hsz : (upT s).size = s.size := mk_size _ _
  show (⟨((List.range (upT s).size).map (lowAt (upT s))).toArray⟩ : ByteArray) = ⟨((List.range s.size).map (lowAt s)).toArray⟩
  rw [hsz]
  congr 2
  refine map_congr_range _ _ _ fun j hj => ?_
  unfold lowAt
  show lowB (byteAt (⟨((List.range s.size).map (upAt s)).toArray⟩ : ByteArray) j) = _
  rw [mk_byteAt _ _ _ hj]
  exact lowB_upB _
theorem text_reverse (s : ByteArray) (hs : s.size ≤ 1000000) (w : World) :
    Calls Tryd.prog 7 #[.string ⟨#[114, 101, 118, 101, 114, 115, 101]⟩, .slice (some ⟨w.heap.size, 0, none⟩) 1 1] (w.alloc (.cells #[.int .i64 3, .int .i64 0, .string s, .slice none 0 0] 28)) fun e w' => e = .returned (.tuple #[.string (revT s), .bool true]) ∧ Below w.heap.size w w' :=
  on_row (text7 _ _ _ (revT s) (call_reverse s _ _ [(3, 0, s)] (ASl.lit w [(3, 0, s)] (by simp)) rfl 3 0 0 (revT s) fun w1 hb => of_reverse s hs _ w1))
theorem text_upper (s : ByteArray) (hs : s.size ≤ 1000000) (w : World) :
    Calls Tryd.prog 7 #[.string ⟨#[117, 112, 112, 101, 114]⟩, .slice (some ⟨w.heap.size, 0, none⟩) 1 1] (w.alloc (.cells #[.int .i64 3, .int .i64 0, .string s, .slice none 0 0] 28)) fun e w' => e = .returned (.tuple #[.string (upT s), .bool true]) ∧ Below w.heap.size w w' :=
  on_row (text7 _ _ _ (upT s) (call_upper s _ _ [(3, 0, s)] (ASl.lit w [(3, 0, s)] (by simp)) rfl 3 0 0 (upT s) fun w1 hb => of_upper s hs _ w1))
theorem text_lower (s : ByteArray) (hs : s.size ≤ 1000000) (w : World) :
    Calls Tryd.prog 7 #[.string ⟨#[108, 111, 119, 101, 114]⟩, .slice (some ⟨w.heap.size, 0, none⟩) 1 1] (w.alloc (.cells #[.int .i64 3, .int .i64 0, .string s, .slice none 0 0] 28)) fun e w' => e = .returned (.tuple #[.string (lowT s), .bool true]) ∧ Below w.heap.size w w' :=
  on_row (text7 _ _ _ (lowT s) (call_lower s _ _ [(3, 0, s)] (ASl.lit w [(3, 0, s)] (by simp)) rfl 3 0 0 (lowT s) fun w1 hb => of_lower s hs _ w1))
/-- Where a text stands first in another one behind which it stands. -/
theorem least (P : Nat → Bool) (n : Nat) (h : P n = true) : ∃ q, q ≤ n ∧ P q = true ∧ ∀ j, j < q → P j = false := by
  induction n using Nat.strongRecOn with
  | _ n ih =>
    by_cases hx : ∃ j, j < n ∧ P j = true
    · obtain ⟨j, hj, hp⟩ := hx
      obtain ⟨q, h1, h2, h3⟩ := ih j hj hp
      exact ⟨q, by omega, h2, h3⟩
    · exact ⟨n, Nat.le_refl _, h, fun j hj => by
        cases hb : P j with
        | false => rfl
        | true => exact absurd ⟨j, hj, hb⟩ hx⟩
theorem place (s t : ByteArray) : ∃ q, q ≤ s.size ∧ Lib.index (s ++ t).data.toList t.data.toList = (q : Int) ∧ (s ++ t).extract q (q + t.size) = t ∧ ∀ j, j < q → ¬ (s ++ t).extract j (j + t.size) = t := by
  have hsz : (s ++ t).size = s.size + t.size := ByteArray.size_append
  have hd : (s ++ t).data.toList = s.data.toList ++ t.data.toList := by simp
  have el : s.data.toList.length = s.size := by simp
  obtain ⟨q, h1, h2, h3⟩ := least (fun i => Lib.occAt (s ++ t).data.toList t.data.toList i) s.size (by
    show Lib.occAt _ _ _ = true
    unfold Lib.occAt
    rw [hd, List.drop_left' el]
    exact List.isPrefixOf_iff_prefix.2 (List.prefix_refl _))
  refine ⟨q, h1, Lib.index_first (by rw [hd, List.length_append, el]; omega) h2 h3, ?_, fun j hj e => ?_⟩
  · have := Lib.occ_of_piece (s ++ t) t q (by omega)
    rw [h2] at this
    have e := beq_iff_eq.1 this.symm
    apply bytes_inj
    rw [← ByteArray.toList_eq, ← ByteArray.toList_eq]
    exact e
  · have := Lib.occ_of_piece (s ++ t) t j (by omega)
    rw [e, h3 j hj] at this
    simp at this
theorem call_place (s t : ByteArray) (hs : s.size ≤ 1000) (w0 : World) (m : Int) (hm : w0.cell? ⟨0, 0, none⟩ = some (.int .i64 m)) (h0 : 0 < w0.heap.size) (q : Nat) (hq : q ≤ 1000) (he : Lib.index s.data.toList t.data.toList = (q : Int)) (w : World) (hi : Inv w0 w) :
    Calls Tryd.prog 10 #[.string ⟨#[102, 105, 110, 100]⟩, .slice (some ⟨w.heap.size, 0, none⟩) 2 2] (w.alloc (.cells #[.int .i64 3, .int .i64 0, .string s, .slice none 0 0, .int .i64 3, .int .i64 0, .string t, .slice none 0 0] 28)) fun e w' => e = .returned (.tuple #[.agg #[.int .i64 2, .int .i64 ((q : Int) + 1), .string ⟨#[]⟩, .slice none 0 0], .int .i64 0, .bool true]) ∧ Below w.heap.size w w' :=
  on_row (call_find s _ _ [(3, 0, s), (3, 0, t)] (ASl.lit w [(3, 0, s), (3, 0, t)] (by simp)) rfl 2 ((q : Int) + 1) 0 ⟨#[]⟩ fun w1 hb => of_find s _ w1 [(3, 0, s), (3, 0, t)] ((ASl.lit w [(3, 0, s), (3, 0, t)] (by simp)).below hb) t rfl q (by omega) fun w2 hb2 => by
    have c : w2.cell? ⟨0, 0, none⟩ = some (.int .i64 m) := (Below.cell (Below.trans (Below.alloc hi (Inv.size hi) _) ((belT hb hb2).mono (by have := Inv.size hi; simp; omega))) (p := ⟨0, 0, none⟩) h0).trans hm
    have := Tryd.strings_Index s t m w2 (by omega) c
    rw [he] at this
    exact this.mono fun _ _ ⟨g1, g2⟩ => ⟨g1, g2.symm⟩)
end Go.Proofs.YtjoegdnefdaokaaDoor
