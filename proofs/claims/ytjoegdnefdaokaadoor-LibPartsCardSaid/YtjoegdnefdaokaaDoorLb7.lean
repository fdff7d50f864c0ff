/- Calls over rows that the law writes out: rep, sub; the law LibTimes. -/
import Derived.Test.YtjoegdnefdaokaaDoorLb6
import Derived.Deep.RegionHeld3
namespace Go.Proofs.YtjoegdnefdaokaaDoor
open Go.ChangeShapes Go.WideShapes Go.ChangeAt Go.RowKit

def repT (s : ByteArray) (k : Nat) : ByteArray := ⟨(Lib.repeatL s.data.toList k).toArray⟩
theorem repT_size (s : ByteArray) (k : Nat) : (repT s k).size = k * s.size := by
  unfold repT
  show (Lib.repeatL s.data.toList k).toArray.size = _
  rw [List.size_toArray, Lib.repeatL_length]
  simp
theorem repT_part (s : ByteArray) (k i : Nat) (h : i < k) : (repT s k).extract (i * s.size) ((i + 1) * s.size) = s := by
  apply bytes_inj
  obtain ⟨d, rfl⟩ : ∃ d, k = i + (1 + d) := ⟨k - i - 1, by omega⟩
  have e : (s.data.toList).length = s.size := by simp
  rw [Lib.extract_data]
  show List.take ((i + 1) * s.size - i * s.size) (List.drop (i * s.size) (Lib.repeatL s.data.toList (i + (1 + d)))) = s.data.toList
  rw [Lib.repeatL_add, Lib.repeatL_add, Lib.repeatL_one, List.drop_left' (by rw [Lib.repeatL_length, e]), List.take_left' (by rw [e, Nat.succ_mul]; omega)]
theorem call_rep_ok (s : ByteArray) (h0 : 1 ≤ s.size) (hs : s.size ≤ 100) (k : Nat) (hk : k * s.size ≤ 4096) (w : World) :
    Calls Tryd.prog 10 #[.string ⟨#[114, 101, 112]⟩, .slice (some ⟨w.heap.size, 0, none⟩) 2 2] (w.alloc (.cells #[.int .i64 3, .int .i64 0, .string s, .slice none 0 0, .int .i64 2, .int .i64 (k : Int), .string ⟨#[]⟩, .slice none 0 0] 28)) fun e w' => e = .returned (.tuple #[.agg #[.int .i64 3, .int .i64 0, .string (repT s k), .slice none 0 0], .int .i64 0, .bool true]) ∧ Below w.heap.size w w' := by
  refine on_row (call_rep s _ _ [(3, 0, s), (2, (k : Int), ⟨#[]⟩)] (ASl.lit w [(3, 0, s), (2, (k : Int), ⟨#[]⟩)] (by simp)) rfl 3 0 0 (repT s k) fun w1 hb => ?_)
  by_cases hz : k = 0
  · subst hz
    exact of_rep_zero s _ w1 [(3, 0, s), (2, ((0 : Nat) : Int), ⟨#[]⟩)] ((ASl.lit w [(3, 0, s), (2, ((0 : Nat) : Int), ⟨#[]⟩)] (by simp)).below hb) rfl
  · exact of_rep s (by omega) _ w1 [(3, 0, s), (2, (k : Int), ⟨#[]⟩)] ((ASl.lit w [(3, 0, s), (2, (k : Int), ⟨#[]⟩)] (by simp)).below hb) k h0 (by omega) hk rfl
theorem call_rep_long (s : ByteArray) (h0 : 1 ≤ s.size) (hs : s.size ≤ 100) (k : Nat) (hk : 4096 < k * s.size) (w : World) :
    Calls Tryd.prog 10 #[.string ⟨#[114, 101, 112]⟩, .slice (some ⟨w.heap.size, 0, none⟩) 2 2] (w.alloc (.cells #[.int .i64 3, .int .i64 0, .string s, .slice none 0 0, .int .i64 2, .int .i64 (k : Int), .string ⟨#[]⟩, .slice none 0 0] 28)) fun e w' => e = .returned (.tuple #[.agg #[.int .i64 0, .int .i64 0, .string ⟨#[]⟩, .slice none 0 0], .int .i64 8, .bool true]) ∧ Below w.heap.size w w' :=
  on_row (call_rep s _ _ [(3, 0, s), (2, (k : Int), ⟨#[]⟩)] (ASl.lit w [(3, 0, s), (2, (k : Int), ⟨#[]⟩)] (by simp)) rfl 0 0 8 ⟨#[]⟩ fun w1 hb => of_rep_long s (by omega) _ w1 [(3, 0, s), (2, (k : Int), ⟨#[]⟩)] ((ASl.lit w [(3, 0, s), (2, (k : Int), ⟨#[]⟩)] (by simp)).below hb) k h0 (by rcases Nat.eq_zero_or_pos k with h | h; subst h; omega; exact h) hk rfl)
theorem made_rep_ok (s : ByteArray) (h0 : 1 ≤ s.size) (hs : s.size ≤ 100) (k : Nat) (hk : k * s.size ≤ 4096) (w : World) :
    Calls Tryd.prog 11 #[.string ⟨#[114, 101, 112]⟩, .slice (some ⟨w.heap.size, 0, none⟩) 2 2] (w.alloc (.cells #[.int .i64 3, .int .i64 0, .string s, .slice none 0 0, .int .i64 2, .int .i64 (k : Int), .string ⟨#[]⟩, .slice none 0 0] 28)) fun e w' => e = .returned (.int .i64 ((repT s k).size : Nat)) ∧ Below (w.alloc (.cells #[.int .i64 3, .int .i64 0, .string s, .slice none 0 0, .int .i64 2, .int .i64 (k : Int), .string ⟨#[]⟩, .slice none 0 0] 28)).heap.size (w.alloc (.cells #[.int .i64 3, .int .i64 0, .string s, .slice none 0 0, .int .i64 2, .int .i64 (k : Int), .string ⟨#[]⟩, .slice none 0 0] 28)) w' := by
  refine (made_rep _ _ (repT s k) (by rw [repT_size]; omega) fun w1 hb => ?_)
  refine call_rep s _ w1 [(3, 0, s), (2, (k : Int), ⟨#[]⟩)] ((ASl.lit w [(3, 0, s), (2, (k : Int), ⟨#[]⟩)] (by simp)).below hb) rfl 3 0 0 (repT s k) fun w3 hb3 => ?_
  by_cases hz : k = 0
  · subst hz
    exact of_rep_zero s _ w3 [(3, 0, s), (2, ((0 : Nat) : Int), ⟨#[]⟩)] (((ASl.lit w [(3, 0, s), (2, ((0 : Nat) : Int), ⟨#[]⟩)] (by simp)).below hb).below hb3) rfl
  · exact of_rep s (by omega) _ w3 [(3, 0, s), (2, (k : Int), ⟨#[]⟩)] (((ASl.lit w [(3, 0, s), (2, (k : Int), ⟨#[]⟩)] (by simp)).below hb).below hb3) k h0 (by omega) hk rfl
theorem made_rep_long (s : ByteArray) (h0 : 1 ≤ s.size) (hs : s.size ≤ 100) (k : Nat) (hk : 4096 < k * s.size) (w : World) :
    Calls Tryd.prog 11 #[.string ⟨#[114, 101, 112]⟩, .slice (some ⟨w.heap.size, 0, none⟩) 2 2] (w.alloc (.cells #[.int .i64 3, .int .i64 0, .string s, .slice none 0 0, .int .i64 2, .int .i64 (k : Int), .string ⟨#[]⟩, .slice none 0 0] 28)) fun e w' => e = .returned (.int .i64 (-1)) ∧ Below w.heap.size w w' := by
  refine on_row (made_rep_no _ _ fun w1 hb => ?_)
  exact call_rep s _ w1 [(3, 0, s), (2, (k : Int), ⟨#[]⟩)] ((ASl.lit w [(3, 0, s), (2, (k : Int), ⟨#[]⟩)] (by simp)).below hb) rfl 0 0 8 ⟨#[]⟩ fun w3 hb3 => of_rep_long s (by omega) _ w3 [(3, 0, s), (2, (k : Int), ⟨#[]⟩)] (((ASl.lit w [(3, 0, s), (2, (k : Int), ⟨#[]⟩)] (by simp)).below hb).below hb3) k h0 (by rcases Nat.eq_zero_or_pos k with h | h; subst h; omega; exact h) hk rfl
theorem text_sub (r : ByteArray) (hr : r.size ≤ 1000000) (lo hi : Nat) (h1 : 1 ≤ lo) (h2 : lo ≤ hi) (h3 : hi ≤ r.size) (w : World) :
    Calls Tryd.prog 7 #[.string ⟨#[115, 117, 98]⟩, .slice (some ⟨w.heap.size, 0, none⟩) 3 3] (w.alloc (.cells #[.int .i64 3, .int .i64 0, .string r, .slice none 0 0, .int .i64 2, .int .i64 (lo : Int), .string ⟨#[]⟩, .slice none 0 0, .int .i64 2, .int .i64 (hi : Int), .string ⟨#[]⟩, .slice none 0 0] 28)) fun e w' => e = .returned (.tuple #[.string (r.extract (lo - 1) hi), .bool true]) ∧ Below (w.alloc (.cells #[.int .i64 3, .int .i64 0, .string r, .slice none 0 0, .int .i64 2, .int .i64 (lo : Int), .string ⟨#[]⟩, .slice none 0 0, .int .i64 2, .int .i64 (hi : Int), .string ⟨#[]⟩, .slice none 0 0] 28)).heap.size (w.alloc (.cells #[.int .i64 3, .int .i64 0, .string r, .slice none 0 0, .int .i64 2, .int .i64 (lo : Int), .string ⟨#[]⟩, .slice none 0 0, .int .i64 2, .int .i64 (hi : Int), .string ⟨#[]⟩, .slice none 0 0] 28)) w' :=
  (text7 _ _ _ (r.extract (lo - 1) hi) (call_sub r _ _ [(3, 0, r), (2, (lo : Int), ⟨#[]⟩), (2, (hi : Int), ⟨#[]⟩)] (ASl.lit w [(3, 0, r), (2, (lo : Int), ⟨#[]⟩), (2, (hi : Int), ⟨#[]⟩)] (by simp)) rfl 3 0 0 (r.extract (lo - 1) hi) fun w1 hb => of_sub_two r _ w1 [(3, 0, r), (2, (lo : Int), ⟨#[]⟩), (2, (hi : Int), ⟨#[]⟩)] ((ASl.lit w [(3, 0, r), (2, (lo : Int), ⟨#[]⟩), (2, (hi : Int), ⟨#[]⟩)] (by simp)).below hb) lo hi rfl rfl (r.extract (lo - 1) hi) (sub_lt r hr lo hi h1 h2 h3)))
end Go.Proofs.YtjoegdnefdaokaaDoor
