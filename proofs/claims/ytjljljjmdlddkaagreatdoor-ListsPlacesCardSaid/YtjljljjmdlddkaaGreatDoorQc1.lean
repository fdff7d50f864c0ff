/- Texts joined: L21, L22, L24, L25 -/
import Derived.Test.YtjljljjmdlddkaaGreatDoorQb31
import Derived.Test.YtjljljjmdlddkaaGreatDoorQb25

/- The law ListsPlaces: its plain parts. -/
namespace Go.Proofs.YtjljljjmdlddkaaGreatDoor
open Go.ChangeShapes Go.WideShapes Go.ChangeAt Go.RowKit

def chr (x : Nat) : ByteArray := ⟨#[UInt8.ofNat (97 + x)]⟩
def lets (k : Nat) : List ByteArray := (List.range k).map chr
theorem lets_len (k : Nat) : (lets k).length = k := by simp [lets]
theorem lets_at (k a : Nat) (h : a < k) : (lets k)[a]? = some (chr a) := by
  unfold lets
  rw [List.getElem?_map, List.getElem?_range h]
  rfl
theorem lets_snoc (k : Nat) : lets (k + 1) = lets k ++ [chr k] := by simp [lets, List.range_succ]
theorem lets_mem (k : Nat) (s : ByteArray) (h : s ∈ lets k) : s.size = 1 := by
  obtain ⟨x, _, rfl⟩ := List.mem_map.1 h
  rfl
theorem chr_inj {a b : Nat} (ha : a < 16) (hb : b < 16) (h : chr a = chr b) : a = b := by
  have h1 := congrArg (fun s : ByteArray => (s.data.toList.map UInt8.toNat)) h
  simp [chr] at h1
  omega
theorem lets_first (k a q : Nat) (hk : k ≤ 15) (ha : a < k) (hq : q < a) (t : ByteArray) (ht : (lets k)[q]? = some t) : t ≠ chr a := by
  rw [lets_at k q (by omega)] at ht
  cases ht
  intro e
  have := chr_inj (by omega) (by omega) e
  omega
/-- All of a text are taken out. -/
theorem remF0 (s : ByteArray) (ys : List ByteArray) : ∀ i, i ≤ ys.length → (remF 0 s ys i).1 = (((ys.take i).filter (fun t => decide (t = s))).length : Int) ∧ ∀ q, (remF 0 s ys i).2 q = decide (q < i ∧ ys[q]? = some s)
  | 0, _ => by
    refine ⟨by simp [remF], fun q => ?_⟩
    show false = _
    simp
  | i + 1, hi => by
    obtain ⟨h1, h2⟩ := remF0 s ys i (by omega)
    obtain ⟨t, ht⟩ : ∃ t, ys[i]? = some t := ⟨_, List.getElem?_eq_getElem (by omega)⟩
    have hk : remK 0 ys.length i = i := by unfold remK; rw [if_neg (by omega)]
    rw [take_at ys i t ht, List.filter_append, List.length_append]
    by_cases hts : t = s
    · subst hts
      rw [remF_hit 0 t ys i i hk ht (.inl rfl)]
      refine ⟨by rw [h1]; simp, fun q => ?_⟩
      by_cases hq : q = i
      · subst hq
        simp [ht]
      · simp only [hq, if_false, h2 q]
        by_cases hh : ys[q]? = some t
        · simp only [hh, and_true]
          exact decide_eq_decide.2 ⟨fun h => by omega, fun h => by omega⟩
        · simp [hh]
    · rw [remF_miss 0 s ys i (by rw [hk, ht]; rintro ⟨h, _⟩; exact hts (Option.some.inj h))]
      refine ⟨by rw [h1]; simp [hts], fun q => ?_⟩
      rw [h2 q]
      by_cases hh : ys[q]? = some s
      · simp only [hh, and_true]
        refine decide_eq_decide.2 ⟨fun h => by omega, fun h => ?_⟩
        rcases Nat.lt_or_ge q i with h9 | h9
        · exact h9
        · obtain rfl : q = i := by omega
          rw [ht] at hh
          exact absurd (Option.some.inj hh) hts
      · simp [hh]
theorem leftT0 (s : ByteArray) (ys : List ByteArray) (g : Nat → Bool) (hg : ∀ q, q < ys.length → g q = decide (ys[q]? = some s)) : ∀ i, i ≤ ys.length → leftT g ys i = (ys.take i).filter (fun t => decide (t ≠ s))
  | 0, _ => by simp [leftT]
  | i + 1, hi => by
    obtain ⟨t, ht⟩ : ∃ t, ys[i]? = some t := ⟨_, List.getElem?_eq_getElem (by omega)⟩
    show (if g i then _ else _) = _
    rw [take_at ys i t ht, List.filter_append, leftT0 s ys g hg i (by omega), hg i (by omega), ht]
    by_cases hts : t = s
    · subst hts
      simp
    · have : ¬ (some t = some s) := fun e => hts (Option.some.inj e)
      simp [hts]
theorem remT0 (s : ByteArray) (ys : List ByteArray) : remT 0 s ys = ys.filter (fun t => decide (t ≠ s)) := by
  unfold remT
  rw [leftT0 s ys _ (fun q hq => by rw [(remF0 s ys ys.length (Nat.le_refl _)).2 q]; simp [hq]) ys.length (Nat.le_refl _), List.take_length]
theorem filter_ne (s : ByteArray) : ∀ ys : List ByteArray, (∀ t ∈ ys, t ≠ s) → ys.filter (fun t => decide (t ≠ s)) = ys := fun _ h => List.filter_eq_self.2 fun t ht => decide_eq_true (h t ht)
theorem filter_eq0 (s : ByteArray) (ys : List ByteArray) (h : ∀ t ∈ ys, t ≠ s) : (ys.filter (fun t => decide (t = s))).length = 0 := by
  rw [List.filter_eq_nil_iff.2 (fun t ht => by simp [h t ht])]
  rfl
theorem ins_rem (m : Nat) (s : ByteArray) (ys : List ByteArray) (h : ∀ t ∈ ys, t ≠ s) : remT 0 s (insT m s ys) = ys ∧ (remF 0 s (insT m s ys) (insT m s ys).length).1 = 1 := by
  have ht : ∀ t ∈ ys.take m, t ≠ s := fun t ht => h t (List.mem_of_mem_take ht)
  have hd : ∀ t ∈ ys.drop m, t ≠ s := fun t ht => h t (List.mem_of_mem_drop ht)
  constructor
  · rw [remT0]
    unfold insT
    rw [List.filter_append, List.filter_cons_of_neg (by simp), filter_ne s _ ht, filter_ne s _ hd, List.take_append_drop]
  · rw [(remF0 s _ _ (Nat.le_refl _)).1, List.take_length]
    unfold insT
    rw [List.filter_append, List.filter_cons_of_pos (by simp), List.length_append, List.length_cons, filter_eq0 s _ ht, filter_eq0 s _ hd]
    rfl
theorem span_one (b : Nat) (s : ByteArray) (zs : List ByteArray) (h : zs[b]? = some s) : spanT b b zs = [s] := by
  have hb := (List.getElem?_eq_some_iff.1 h).1
  have e1 : spA (b : Int) (zs.length : Int) = b := by unfold spA; split <;> omega
  have e2 : spC (b : Int) (zs.length : Int) = b := by unfold spC; split <;> omega
  unfold spanT
  rw [e1, e2, if_pos (Int.le_refl _), Int.toNat_natCast, show b + 1 - b = 1 from by omega, List.drop_eq_getElem_cons hb]
  rw [List.getElem?_eq_getElem hb] at h
  rw [Option.some.inj h]
  rfl
theorem ins_at (a : Nat) (s : ByteArray) (ys : List ByteArray) (h : a ≤ ys.length) : (insT a s ys)[a]? = some s := by rw [insT_get a s ys h a]; simp
theorem dK_of (zs : List ByteArray) (h : zs ≠ []) : dK zs = [(⟨#[107]⟩, zs)] := if_neg h
end Go.Proofs.YtjljljjmdlddkaaGreatDoor

/- The law ListsPlaces: its calls. -/
namespace Go.Proofs.YtjljljjmdlddkaaGreatDoor
open Go.ChangeShapes Go.WideShapes Go.ChangeAt Go.RowKit

theorem set_d1 (ys zs : List ByteArray) (h : zs ≠ []) : setD ⟨#[107]⟩ zs [(⟨#[107]⟩, ys)] = [(⟨#[107]⟩, zs)] := by
  unfold setD
  rw [if_neg h]
  simp [putD]
theorem put_d1 (ys zs : List ByteArray) : putD ⟨#[107]⟩ zs [(⟨#[107]⟩, ys)] = [(⟨#[107]⟩, zs)] := by simp [putD]
theorem find_d1 (ys : List ByteArray) : findD ⟨#[107]⟩ [(⟨#[107]⟩, ys)] = some ys := by simp [findD]
theorem upAfter (X : World) : Calls Tryz.prog 49 #[.string ⟨#[97, 102, 116, 101, 114]⟩] X fun e w' => e = .returned (.string ⟨#[65, 70, 84, 69, 82]⟩) ∧ Below X.heap.size X w' := UpperG _ (by decide) X
theorem p_ins (W0 : World) (bS bM : Nat) (ys : List ByteArray) (n : Nat) (hn : ys.length = n) (hn15 : n ≤ 15) (pv s : ByteArray) (hs : s.size ≤ 100) (m : Nat) (hm : ys[m]? = some pv) (hfirst : ∀ q t, q < m → ys[q]? = some t → t ≠ pv) (X : World) (hL : LD W0 X bS bM [(⟨#[107]⟩, ys)]) (q : Nat) (hq : X.heap.size = q) : Calls Tryz.prog 8 #[.pointer (some ⟨bS, 0, none⟩), .slice (some ⟨q, 0, none⟩) 5 5] (X.alloc (.cells #[.string ⟨#[76, 73, 78, 83, 69, 82, 84]⟩, .string ⟨#[107]⟩, .string ⟨#[97, 102, 116, 101, 114]⟩, .string pv, .string s] 9)) fun e w' => e = .returned (.agg #[.int .i64 3, .int .i64 ((n : Int) + 1), .string ⟨#[]⟩, .slice none 0 0]) ∧ LD W0 w' bS bM [(⟨#[107]⟩, insT (m + 1) s ys)] ∧ Kp X.heap.size (fun i => i ≠ bS ∧ i ≠ bM) X w' := by
  subst hq
  exact lit0 X hL [⟨#[76, 73, 78, 83, 69, 82, 84]⟩, ⟨#[107]⟩, ⟨#[97, 102, 116, 101, 114]⟩, pv, s] (by simp) (fun vA w h hA => d_LINSERT W0 bS bM [(⟨#[107]⟩, ys)] ⟨#[107]⟩ ⟨#[97, 102, 116, 101, 114]⟩ pv s upAfter ys (find_d1 ys) (by simp) m hm hfirst (by omega) (by omega) vA w h hA) (put_d1 _ _) (by rw [hn]; rfl)
theorem p_ind (W0 : World) (bS bM : Nat) (ys : List ByteArray) (hn15 : ys.length ≤ 100) (s : ByteArray) (x : Int) (m : Nat) (hx : x = m) (hm : ys[m]? = some s) (X : World) (hL : LD W0 X bS bM [(⟨#[107]⟩, ys)]) (q : Nat) (hq : X.heap.size = q) : Calls Tryz.prog 8 #[.pointer (some ⟨bS, 0, none⟩), .slice (some ⟨q, 0, none⟩) 3 3] (X.alloc (.cells #[.string ⟨#[76, 73, 78, 68, 69, 88]⟩, .string ⟨#[107]⟩, .string (numT x)] 9)) fun e w' => e = .returned (.agg #[.int .i64 4, .int .i64 0, .string s, .slice none 0 0]) ∧ LD W0 w' bS bM [(⟨#[107]⟩, ys)] ∧ Kp X.heap.size (fun i => i ≠ bS ∧ i ≠ bM) X w' := by
  subst hq
  have hlt := (List.getElem?_eq_some_iff.1 hm).1
  exact lit0 X hL [⟨#[76, 73, 78, 68, 69, 88]⟩, ⟨#[107]⟩, numT x] (by simp) (fun vA w h hA => d_LINDEX W0 bS bM [(⟨#[107]⟩, ys)] ⟨#[107]⟩ (numT x) x (Nat.le_trans (numT_size x ⟨by omega, by omega⟩) (by decide)) (parse_numT x ⟨by omega, by omega⟩) (by omega) m s ys (by rw [find_d1]; rfl) (by omega) (.inl ⟨by omega, by omega, by omega⟩) hm vA w h hA) rfl rfl
theorem p_rem (W0 : World) (bS bM : Nat) (ys : List ByteArray) (hne : ys ≠ []) (m : Nat) (s : ByteArray) (h : ∀ t ∈ ys, t ≠ s) (X : World) (hL : LD W0 X bS bM [(⟨#[107]⟩, insT m s ys)]) (q : Nat) (hq : X.heap.size = q) : Calls Tryz.prog 8 #[.pointer (some ⟨bS, 0, none⟩), .slice (some ⟨q, 0, none⟩) 4 4] (X.alloc (.cells #[.string ⟨#[76, 82, 69, 77]⟩, .string ⟨#[107]⟩, .string ⟨#[48]⟩, .string s] 9)) fun e w' => e = .returned (.agg #[.int .i64 3, .int .i64 1, .string ⟨#[]⟩, .slice none 0 0]) ∧ LD W0 w' bS bM [(⟨#[107]⟩, ys)] ∧ Kp X.heap.size (fun i => i ≠ bS ∧ i ≠ bM) X w' := by
  subst hq
  exact lit0 X hL [⟨#[76, 82, 69, 77]⟩, ⟨#[107]⟩, ⟨#[48]⟩, s] (by simp) (fun vA w h hA => d_LREM W0 bS bM [(⟨#[107]⟩, insT m s ys)] ⟨#[107]⟩ ⟨#[48]⟩ (0) (by decide) (by kernel_rfl) (by omega) s (insT m s ys) (find_d1 _) (by simp) vA w h hA) (by rw [(ins_rem m s ys h).1]; exact set_d1 _ _ hne) (ins_rem m s ys h).2
theorem p_set (W0 : World) (bS bM : Nat) (ys : List ByteArray) (hn15 : ys.length ≤ 100) (s : ByteArray) (hs : s.size ≤ 100) (x : Int) (m : Nat) (hm : m < ys.length) (hx : x = (m : Int) - (ys.length : Int)) (X : World) (hL : LD W0 X bS bM [(⟨#[107]⟩, ys)]) (q : Nat) (hq : X.heap.size = q) : Calls Tryz.prog 8 #[.pointer (some ⟨bS, 0, none⟩), .slice (some ⟨q, 0, none⟩) 4 4] (X.alloc (.cells #[.string ⟨#[76, 83, 69, 84]⟩, .string ⟨#[107]⟩, .string (numT x), .string s] 9)) fun e w' => e = .returned (.agg #[.int .i64 1, .int .i64 0, .string ⟨#[79, 75]⟩, .slice none 0 0]) ∧ LD W0 w' bS bM [(⟨#[107]⟩, ys.set m s)] ∧ Kp X.heap.size (fun i => i ≠ bS ∧ i ≠ bM) X w' := by
  subst hq
  exact lit0 X hL [⟨#[76, 83, 69, 84]⟩, ⟨#[107]⟩, numT x, s] (by simp) (fun vA w h hA => d_LSET W0 bS bM [(⟨#[107]⟩, ys)] ⟨#[107]⟩ (numT x) x (Nat.le_trans (numT_size x ⟨by omega, by omega⟩) (by decide)) (parse_numT x ⟨by omega, by omega⟩) (by omega) s (by omega) ys (find_d1 _) (by simp) m (.inr ⟨by omega, by omega, by omega⟩) vA w h hA) (put_d1 _ _) rfl
theorem p_trim (W0 : World) (bS bM : Nat) (ys : List ByteArray) (hn15 : ys.length ≤ 100) (s : ByteArray) (x : Int) (m : Nat) (hx : x = m) (hm : ys[m]? = some s) (X : World) (hL : LD W0 X bS bM [(⟨#[107]⟩, ys)]) (q : Nat) (hq : X.heap.size = q) : Calls Tryz.prog 8 #[.pointer (some ⟨bS, 0, none⟩), .slice (some ⟨q, 0, none⟩) 4 4] (X.alloc (.cells #[.string ⟨#[76, 84, 82, 73, 77]⟩, .string ⟨#[107]⟩, .string (numT x), .string (numT x)] 9)) fun e w' => e = .returned (.agg #[.int .i64 1, .int .i64 0, .string ⟨#[79, 75]⟩, .slice none 0 0]) ∧ LD W0 w' bS bM [(⟨#[107]⟩, [s])] ∧ Kp X.heap.size (fun i => i ≠ bS ∧ i ≠ bM) X w' := by
  subst hq
  have hlt := (List.getElem?_eq_some_iff.1 hm).1
  exact lit0 X hL [⟨#[76, 84, 82, 73, 77]⟩, ⟨#[107]⟩, numT x, numT x] (by simp) (fun vA w h hA => d_LTRIM W0 bS bM [(⟨#[107]⟩, ys)] ⟨#[107]⟩ (numT x) x (Nat.le_trans (numT_size x ⟨by omega, by omega⟩) (by decide)) (parse_numT x ⟨by omega, by omega⟩) (by omega) (numT x) x (Nat.le_trans (numT_size x ⟨by omega, by omega⟩) (by decide)) (parse_numT x ⟨by omega, by omega⟩) (by omega) ys (find_d1 _) (by simp) vA w h hA) (by rw [hx, span_one m s ys hm]; exact set_d1 _ _ (by simp)) rfl
theorem p_all (W0 : World) (bS bM : Nat) (s : ByteArray) (X : World) (hL : LD W0 X bS bM [(⟨#[107]⟩, [s])]) (q : Nat) (hq : X.heap.size = q) : Calls Tryz.prog 8 #[.pointer (some ⟨bS, 0, none⟩), .slice (some ⟨q, 0, none⟩) 4 4] (X.alloc (.cells #[.string ⟨#[76, 82, 65, 78, 71, 69]⟩, .string ⟨#[107]⟩, .string ⟨#[48]⟩, .string ⟨#[45, 49]⟩] 9)) fun e w' => ∃ A m c, e = .returned (.agg #[.int .i64 6, .int .i64 0, .string ⟨#[]⟩, .slice A m c]) ∧ (RO [some s]) X.heap.size w' (.slice A m c) ∧ LD W0 w' bS bM [(⟨#[107]⟩, [s])] ∧ Kp X.heap.size (fun i => i ≠ bS ∧ i ≠ bM) X w' := by
  subst hq
  exact litR (RO.keep _) X hL [⟨#[76, 82, 65, 78, 71, 69]⟩, ⟨#[107]⟩, ⟨#[48]⟩, ⟨#[45, 49]⟩] (by simp) (fun vA w h hA => d_LRANGE W0 bS bM [(⟨#[107]⟩, [s])] ⟨#[107]⟩ ⟨#[48]⟩ (0) (by decide) (by kernel_rfl) (by omega) ⟨#[45, 49]⟩ (-1) (by decide) (by kernel_rfl) (by omega) [s] (by rw [find_d1]; rfl) (by simp) vA w h hA) rfl rfl (by rw [spanT_all]; rfl)
theorem p_fail (W0 : World) (bS bM : Nat) (s : ByteArray) (X : World) (hL : LD W0 X bS bM [(⟨#[107]⟩, [s])]) (q : Nat) (hq : X.heap.size = q) : Calls Tryz.prog 8 #[.pointer (some ⟨bS, 0, none⟩), .slice (some ⟨q, 0, none⟩) 4 4] (X.alloc (.cells #[.string ⟨#[76, 83, 69, 84]⟩, .string ⟨#[107]⟩, .string ⟨#[49]⟩, .string ⟨#[121]⟩] 9)) fun e w' => e = .returned (.agg #[.int .i64 2, .int .i64 7, .string ⟨#[]⟩, .slice none 0 0]) ∧ LD W0 w' bS bM [(⟨#[107]⟩, [s])] := by
  subst hq
  have hb : Below X.heap.size X (X.alloc (.cells ([⟨#[76, 83, 69, 84]⟩, ⟨#[107]⟩, ⟨#[49]⟩, ⟨#[121]⟩].map Value.string).toArray 9)) := alloc_old
  refine (d_LSETf W0 bS bM [(⟨#[107]⟩, [s])] ⟨#[107]⟩ ⟨#[49]⟩ (1) (by decide) (by kernel_rfl) (by omega) ⟨#[121]⟩ [s] (find_d1 _) (by simp) _ _ (hL.old hb) (SSl.lit X [⟨#[76, 83, 69, 84]⟩, ⟨#[107]⟩, ⟨#[49]⟩, ⟨#[121]⟩] (by simp))).mono ?_
  rintro e w' ⟨h1, h2, _⟩
  exact ⟨h1, h2⟩
end Go.Proofs.YtjljljjmdlddkaaGreatDoor

/- The law ListsPlaces: its walk. -/
namespace Go.Proofs.YtjljljjmdlddkaaGreatDoor
open Go.ChangeShapes Go.WideShapes Go.ChangeAt Go.RowKit

theorem dK_lets (k : Nat) (h : 0 < k) : dK (lets k) = [(⟨#[107]⟩, lets k)] := dK_of _ (by intro e; have := lets_len k; rw [e] at this; simp at this; omega)
theorem lets_ne (k : Nat) (s : ByteArray) (h : s.size ≠ 1) : ∀ t ∈ lets k, t ≠ s := by
  intro t ht e
  subst e
  exact h (lets_mem k t ht)
theorem okL_lets (k : Nat) (h : k ≤ 15) (h0 : 0 < k) : okL ⟨#[107]⟩ (lets k) := ⟨by decide, by decide, by intro e; have := lets_len k; rw [e] at this; simp at this; omega, by rw [lets_len]; omega, fun s hs => by rw [lets_mem k s hs]; omega⟩
theorem conv_chr (X : World) (q : Nat) (hq : X.heap.size = q) (x : Nat) (hx : x < 16) : (convert 30 9 (.slice (some ⟨q, 0, none⟩) 1 1)).run Tryz.prog (X.alloc (.cells #[.int .u8 (97 + (x : Int))] 5)) = .ok (.string (chr x)) (X.alloc (.cells #[.int .u8 (97 + (x : Int))] 5)) := by
  subst hq
  refine conv1 _ X.heap.size 0 1 (UInt8.ofNat (97 + x)) ?_
  have h := heap_alloc_new X (.cells #[.int .u8 (97 + (x : Int))] 5)
  unfold World.cell?
  simp only [h]
  have e : ((UInt8.ofNat (97 + x)).toNat : Int) = 97 + (x : Int) := by
    simp
    omega
  rw [e]
  rfl
theorem u8_facts (x : Nat) (hx : x < 16) : IntKind.u8.wrap (x : Int) = (x : Int) ∧ IntKind.u8.wrap (97 + (x : Int)) = 97 + (x : Int) := ⟨IntWalk.u8_in _ (by omega), IntWalk.u8_in _ (by omega)⟩
theorem set_at (ys : List ByteArray) (b : Nat) (s : ByteArray) (h : b < ys.length) : (ys.set b s)[b]? = some s := by simp [h]
theorem rpushq (w : World) (bS bM : Nat) (X : World) (xs : List ByteArray) (s : ByteArray) (n : Nat) (hn : n ≤ 15) (hx : xs.length ≤ n) (hL : LD w X bS bM (dK xs)) (hok : okL ⟨#[107]⟩ (xs ++ [s])) (q : Nat) (hq : X.heap.size = q) : Calls Tryz.prog 8 #[.pointer (some ⟨bS, 0, none⟩), .slice (some ⟨q, 0, none⟩) 3 3] (X.alloc (.cells #[.string ⟨#[82, 80, 85, 83, 72]⟩, .string ⟨#[107]⟩, .string s] 9)) fun e w' => e = .returned (.agg #[.int .i64 3, .int .i64 ((xs.length + 1 : Nat) : Int), .string ⟨#[]⟩, .slice none 0 0]) ∧ LD w w' bS bM (dK (xs ++ [s])) := by
  subst hq
  refine (rpush1 w bS bM X xs s n hn hx hL hok).mono ?_
  rintro e w' ⟨h1, h2, _⟩
  exact ⟨h1, h2⟩
theorem u64_pos (a : Int) : 0 ≤ IntKind.u64.wrap a := by rw [IntKind.wrap_u64]; omega
theorem kOf_facts (a : Int) : 2 ≤ wrap64 (2 + wrap64 ((IntKind.u64.wrap a).tmod 14)) ∧ wrap64 (2 + wrap64 ((IntKind.u64.wrap a).tmod 14)) ≤ 15 := by
  have h1 := Int.tmod_nonneg (14 : Int) (u64_pos a)
  have h2 := Int.tmod_lt_of_pos (IntKind.u64.wrap a) (b := 14) (by decide)
  generalize (IntKind.u64.wrap a).tmod 14 = z at h1 h2 ⊢
  unfold wrap64
  omega
theorem mod_facts (a : Int) (k : Nat) (h : 2 ≤ k ∧ k ≤ 15) : ∃ b : Nat, b < k ∧ wrap64 ((IntKind.u64.wrap a).tmod (k : Int)) = (b : Int) := by
  have h1 := Int.tmod_nonneg (k : Int) (u64_pos a)
  have h2 := Int.tmod_lt_of_pos (IntKind.u64.wrap a) (b := (k : Int)) (by omega)
  generalize (IntKind.u64.wrap a).tmod (k : Int) = z at h1 h2 ⊢
  refine ⟨z.toNat, by omega, ?_⟩
  unfold wrap64
  omega
set_option maxRecDepth 100000 in
set_option maxHeartbeats 8000000 in
theorem places_walk (s : ByteArray) (a0 a1 a2 : Int) (w : World) (hT : Tab w) (hs : s.size ≤ 100) (hs1 : s.size ≠ 1) (_hi0 : I64 a0) (_hi1 : I64 a1) (_hi2 : I64 a2) : Calls Tryz.prog 3 #[.int .i64 a0, .int .i64 a1, .int .i64 a2, .string s] w fun e w' => e = .returned (.bool true) ∧ Below w.heap.size w w' := by
  have NW := Lib.hid (fun X => New9 X)
  have TL := Lib.hid (fun X => told X)
  have q1 : ¬ (100 : Int) < (s.size : Int) := by omega
  have q1b : decide ((100 : Int) < (s.size : Int)) = false := decide_eq_false q1
  have q2 : ¬ (s.size : Int) = 1 := by omega
  have q2b : ((s.size : Int) == 1) = false := by rw [beq_eq_false_iff_ne]; exact q2
  go_enter Tryz.func3, Tryz.ntmps3
  go_wp2_with (first | (go_at_call 7; (with_reducible refine (NW.out _).mono ?_); rintro e v0 ⟨bS, bM, rfl, hS0, hbS, hbM, hB0⟩; have L0 := Lib.hid (LD.mk0 hS0 hB0 hbS hbM); clear hS0 hbS hbM hB0; refine Hid.out ?_))
  refine Lib.hid ?_
  go_wp2
  have hkf := kOf_facts a0
  have HK := Lib.hid hkf
  generalize wrap64 (2 + wrap64 ((IntKind.u64.wrap a0).tmod 14)) = kz at HK ⊢
  obtain ⟨k, rfl, hk2, hk15⟩ : ∃ k : Nat, kz = (k : Int) ∧ 2 ≤ k ∧ k ≤ 15 := ⟨kz.toNat, by have := HK.out; omega, by have := HK.out; omega, by have := HK.out; omega⟩
  clear HK hkf
  go_loopw [11] (fun xv wr => ∃ x : Nat, x ≤ k ∧ xv = .int .i64 x ∧ Hid (LD w wr bS bM (dK (lets x)))) (fun xv _ => k - (intOf xv).toNat)
  case atStart => exact ⟨0, Nat.zero_le _, rfl, L0⟩
  case round =>
    obtain ⟨x, hx, rfl, HL⟩ := hrel
    by_cases hlt : x < k
    · have q3 : (x : Int) < (k : Int) := by omega
      obtain ⟨u1, u2⟩ := u8_facts x (by omega)
      have cv := conv_chr wr _ rfl x (by omega)
      have A1 := Lib.hid (HL.out.old (alloc_old (o := .cells #[.int .u8 (97 + (x : Int))] 5)))
      have D1 := Lib.hid (rpushq w bS bM (wr.alloc (.cells #[.int .u8 (97 + (x : Int))] 5)) (lets x) (chr x) 15 (by omega) (by rw [lets_len]; omega) A1.out (by rw [← lets_snoc]; exact okL_lets (x + 1) (by omega) (by omega)) (wr.heap.size + 1) (by simp))
      go_wp2_with (first | (go_at_call 8; (with_reducible refine (D1.out).mono ?_); rintro e w4 ⟨rfl, h4⟩; have L4 := Lib.hid h4; clear h4))
      exact ⟨⟨x + 1, by omega, by go_num, by rw [lets_snoc]; exact L4⟩, by simp [intOf]; omega⟩
    · obtain rfl : k = x := by omega
      have q3 : ¬ (k : Int) < (k : Int) := by omega
      obtain ⟨w3, rfl⟩ : ∃ w3, w3 = wr := ⟨_, rfl⟩
      have L3 := Lib.hid (show LD w w3 bS bM [(⟨#[107]⟩, lets k)] by have := HL.out; rw [dK_lets k (by omega)] at this; exact this)
      clear HL hx hlt
      obtain ⟨a, hak, hka⟩ := mod_facts a1 k (by omega)
      obtain ⟨b, hbk, hkb⟩ := mod_facts a2 k (by omega)
      have HKA := Lib.hid hka
      have HKB := Lib.hid hkb
      have ek : IntKind.u64.wrap (k : Int) = (k : Int) := by rw [IntKind.wrap_u64]; omega
      have ek0 : ¬ (k : Int) = 0 := by omega
      have ek1 : ((k : Int) == 0) = false := by rw [beq_eq_false_iff_ne]; exact ek0
      clear hka hkb q3
      go_wp2
      go_region
      rw [HKA.out, HKB.out]
      have L4 := Lib.hid (L3.out.old (Below.refl _ _).drew)
      generalize w3.drew = w4 at L4 ⊢
      clear L3 HKA HKB ek ek0 ek1
      have HNE := Lib.hid (lets_ne k s hs1)
      have HFI := Lib.hid (show ∀ q t, q < a → (lets k)[q]? = some t → t ≠ chr a from fun q t hq ht => lets_first k a q hk15 hak hq t ht)
      have HLN := Lib.hid (show lets k ≠ [] by intro e; have := lets_len k; rw [e] at this; simp at this; omega)
      have HSB := Lib.hid (show (lets k).length = k ∧ ((lets k).set b s).length = k by simp [lets_len])
      have HMB := Lib.hid (set_at (lets k) b s (by rw [lets_len]; exact hbk))
      have HIA := Lib.hid (ins_at (a + 1) s (lets k) (by rw [lets_len]; omega))
      have HIL := Lib.hid (insT_len (a + 1) s (lets k) (by rw [lets_len]; omega))
      have hu8 := u8_facts a (by omega)
      have u1 := hu8.1
      have u2 := hu8.2
      have cv := conv_chr w4 _ rfl a (by omega)
      clear hu8
      have M0 := Lib.hid (L4.out.old (alloc_old (o := .cells #[.int .u8 (97 + (a : Int))] 5)))
      have my0 := Lib.hid (heap_alloc_new w4 (.cells #[.int .u8 (97 + (a : Int))] 5))
      have D1 := Lib.hid (p_ins w bS bM (lets k) k (lets_len k) (by omega) (chr a) s hs a (lets_at k a hak) HFI.out (w4.alloc (.cells #[.int .u8 (97 + (a : Int))] 5)) M0.out (w4.heap.size + 1) (by simp))
      go_wp2_with (first | (go_at_call 8; (with_reducible refine (D1.out).mono ?_); rintro e v1 ⟨rfl, hL1, hK1⟩; have L1 := Lib.hid hL1; clear hL1 hK1; refine Hid.out ?_))
      refine Lib.hid ?_
      have M1 := Lib.hid (L1.out.old (alloc_old (o := .cells #[.int .i64 3, .int .i64 ((k : Int) + 1), .string ⟨#[]⟩, .slice none 0 0] 28)))
      have ma1 := Lib.hid (heap_alloc_new v1 (.cells #[.int .i64 3, .int .i64 ((k : Int) + 1), .string ⟨#[]⟩, .slice none 0 0] 28))
      clear cv u1 u2
      have N1 := Lib.hid (Number13 hT ((a : Int) + 1) ⟨by omega, by omega⟩ (v1.alloc (.cells #[.int .i64 3, .int .i64 ((k : Int) + 1), .string ⟨#[]⟩, .slice none 0 0] 28)) M1.out.below)
      go_wp2_with (first | (go_at_call 9; (with_reducible refine (N1.out).mono ?_); rintro e y1 ⟨rfl, hB⟩; have L2 := Lib.hid (M1.out.old hB); have ka2 := Lib.hid (blk_below ma1.out hB); clear hB; refine Hid.out ?_))
      refine Lib.hid ?_
      have D3 := Lib.hid (p_ind w bS bM (insT (a + 1) s (lets k)) (by rw [HIL.out, HSB.out.1]; omega) s ((a : Int) + 1) (a + 1) (by omega) HIA.out (y1) L2.out (y1.heap.size) rfl)
      go_wp2_with (first | (go_at_call 8; (with_reducible refine (D3.out).mono ?_); rintro e v3 ⟨rfl, hL3, hK3⟩; have L3 := Lib.hid hL3; have ka3 := Lib.hid (keepL hK3 L2.out ka2.out (by decide)); clear hL3 hK3; refine Hid.out ?_))
      refine Lib.hid ?_
      have M3 := Lib.hid (L3.out.old (alloc_old (o := .cells #[.int .i64 4, .int .i64 0, .string s, .slice none 0 0] 28)))
      have ma3 := Lib.hid (blk_below ka3.out (alloc_old (o := .cells #[.int .i64 4, .int .i64 0, .string s, .slice none 0 0] 28)))
      have mc3 := Lib.hid (heap_alloc_new v3 (.cells #[.int .i64 4, .int .i64 0, .string s, .slice none 0 0] 28))
      have D4 := Lib.hid (p_rem w bS bM (lets k) HLN.out (a + 1) s HNE.out (v3.alloc (.cells #[.int .i64 4, .int .i64 0, .string s, .slice none 0 0] 28)) M3.out (v3.heap.size + 1) (by simp))
      go_wp2_with (first | (go_at_call 8; (with_reducible refine (D4.out).mono ?_); rintro e v4 ⟨rfl, hL4, hK4⟩; have L4 := Lib.hid hL4; have ka4 := Lib.hid (keepL hK4 M3.out ma3.out (by decide)); have kc4 := Lib.hid (keepL hK4 M3.out mc3.out (by decide)); clear hL4 hK4; refine Hid.out ?_))
      refine Lib.hid ?_
      have M4 := Lib.hid (L4.out.old (alloc_old (o := .cells #[.int .i64 3, .int .i64 1, .string ⟨#[]⟩, .slice none 0 0] 28)))
      have ma4 := Lib.hid (blk_below ka4.out (alloc_old (o := .cells #[.int .i64 3, .int .i64 1, .string ⟨#[]⟩, .slice none 0 0] 28)))
      have mc4 := Lib.hid (blk_below kc4.out (alloc_old (o := .cells #[.int .i64 3, .int .i64 1, .string ⟨#[]⟩, .slice none 0 0] 28)))
      have md4 := Lib.hid (heap_alloc_new v4 (.cells #[.int .i64 3, .int .i64 1, .string ⟨#[]⟩, .slice none 0 0] 28))
      have N2 := Lib.hid (Number13 hT ((b : Int) - (k : Int)) ⟨by omega, by omega⟩ (v4.alloc (.cells #[.int .i64 3, .int .i64 1, .string ⟨#[]⟩, .slice none 0 0] 28)) M4.out.below)
      go_wp2_with (first | (go_at_call 9; (with_reducible refine (N2.out).mono ?_); rintro e y2 ⟨rfl, hB⟩; have L5 := Lib.hid (M4.out.old hB); have ka5 := Lib.hid (blk_below ma4.out hB); have kc5 := Lib.hid (blk_below mc4.out hB); have kd5 := Lib.hid (blk_below md4.out hB); clear hB; refine Hid.out ?_))
      refine Lib.hid ?_
      have D6 := Lib.hid (p_set w bS bM (lets k) (by rw [HSB.out.1]; omega) s hs ((b : Int) - (k : Int)) b (by rw [HSB.out.1]; exact hbk) (by rw [HSB.out.1]) (y2) L5.out (y2.heap.size) rfl)
      go_wp2_with (first | (go_at_call 8; (with_reducible refine (D6.out).mono ?_); rintro e v6 ⟨rfl, hL6, hK6⟩; have L6 := Lib.hid hL6; have ka6 := Lib.hid (keepL hK6 L5.out ka5.out (by decide)); have kc6 := Lib.hid (keepL hK6 L5.out kc5.out (by decide)); have kd6 := Lib.hid (keepL hK6 L5.out kd5.out (by decide)); clear hL6 hK6; refine Hid.out ?_))
      refine Lib.hid ?_
      have M6 := Lib.hid (L6.out.old (alloc_old (o := .cells #[.int .i64 1, .int .i64 0, .string ⟨#[79, 75]⟩, .slice none 0 0] 28)))
      have ma6 := Lib.hid (blk_below ka6.out (alloc_old (o := .cells #[.int .i64 1, .int .i64 0, .string ⟨#[79, 75]⟩, .slice none 0 0] 28)))
      have mc6 := Lib.hid (blk_below kc6.out (alloc_old (o := .cells #[.int .i64 1, .int .i64 0, .string ⟨#[79, 75]⟩, .slice none 0 0] 28)))
      have md6 := Lib.hid (blk_below kd6.out (alloc_old (o := .cells #[.int .i64 1, .int .i64 0, .string ⟨#[79, 75]⟩, .slice none 0 0] 28)))
      have mf6 := Lib.hid (heap_alloc_new v6 (.cells #[.int .i64 1, .int .i64 0, .string ⟨#[79, 75]⟩, .slice none 0 0] 28))
      have N3 := Lib.hid (Number13 hT (b : Int) ⟨by omega, by omega⟩ (v6.alloc (.cells #[.int .i64 1, .int .i64 0, .string ⟨#[79, 75]⟩, .slice none 0 0] 28)) M6.out.below)
      go_wp2_with (first | (go_at_call 9; (with_reducible refine (N3.out).mono ?_); rintro e y3 ⟨rfl, hB⟩; have L7 := Lib.hid (M6.out.old hB); have ka7 := Lib.hid (blk_below ma6.out hB); have kc7 := Lib.hid (blk_below mc6.out hB); have kd7 := Lib.hid (blk_below md6.out hB); have kf7 := Lib.hid (blk_below mf6.out hB); clear hB; refine Hid.out ?_))
      refine Lib.hid ?_
      have D8 := Lib.hid (p_ind w bS bM ((lets k).set b s) (by rw [HSB.out.2]; omega) s (b : Int) b rfl HMB.out (y3) L7.out (y3.heap.size) rfl)
      go_wp2_with (first | (go_at_call 8; (with_reducible refine (D8.out).mono ?_); rintro e v8 ⟨rfl, hL8, hK8⟩; have L8 := Lib.hid hL8; have ka8 := Lib.hid (keepL hK8 L7.out ka7.out (by decide)); have kc8 := Lib.hid (keepL hK8 L7.out kc7.out (by decide)); have kd8 := Lib.hid (keepL hK8 L7.out kd7.out (by decide)); have kf8 := Lib.hid (keepL hK8 L7.out kf7.out (by decide)); clear hL8 hK8; refine Hid.out ?_))
      refine Lib.hid ?_
      have M8 := Lib.hid (L8.out.old (alloc_old (o := .cells #[.int .i64 4, .int .i64 0, .string s, .slice none 0 0] 28)))
      have ma8 := Lib.hid (blk_below ka8.out (alloc_old (o := .cells #[.int .i64 4, .int .i64 0, .string s, .slice none 0 0] 28)))
      have mc8 := Lib.hid (blk_below kc8.out (alloc_old (o := .cells #[.int .i64 4, .int .i64 0, .string s, .slice none 0 0] 28)))
      have md8 := Lib.hid (blk_below kd8.out (alloc_old (o := .cells #[.int .i64 4, .int .i64 0, .string s, .slice none 0 0] 28)))
      have mf8 := Lib.hid (blk_below kf8.out (alloc_old (o := .cells #[.int .i64 4, .int .i64 0, .string s, .slice none 0 0] 28)))
      have mh8 := Lib.hid (heap_alloc_new v8 (.cells #[.int .i64 4, .int .i64 0, .string s, .slice none 0 0] 28))
      have N4 := Lib.hid (Number13 hT (b : Int) ⟨by omega, by omega⟩ (v8.alloc (.cells #[.int .i64 4, .int .i64 0, .string s, .slice none 0 0] 28)) M8.out.below)
      go_wp2_with (first | (go_at_call 9; (with_reducible refine (N4.out).mono ?_); rintro e y4 ⟨rfl, hB⟩; have L9 := Lib.hid (M8.out.old hB); have ka9 := Lib.hid (blk_below ma8.out hB); have kc9 := Lib.hid (blk_below mc8.out hB); have kd9 := Lib.hid (blk_below md8.out hB); have kf9 := Lib.hid (blk_below mf8.out hB); have kh9 := Lib.hid (blk_below mh8.out hB); clear hB; refine Hid.out ?_))
      refine Lib.hid ?_
      have N5 := Lib.hid (Number13 hT (b : Int) ⟨by omega, by omega⟩ (y4) L9.out.below)
      go_wp2_with (first | (go_at_call 9; (with_reducible refine (N5.out).mono ?_); rintro e y5 ⟨rfl, hB⟩; have L10 := Lib.hid (L9.out.old hB); have ka10 := Lib.hid (blk_below ka9.out hB); have kc10 := Lib.hid (blk_below kc9.out hB); have kd10 := Lib.hid (blk_below kd9.out hB); have kf10 := Lib.hid (blk_below kf9.out hB); have kh10 := Lib.hid (blk_below kh9.out hB); clear hB; refine Hid.out ?_))
      refine Lib.hid ?_
      have D11 := Lib.hid (p_trim w bS bM ((lets k).set b s) (by rw [HSB.out.2]; omega) s (b : Int) b rfl HMB.out (y5) L10.out (y5.heap.size) rfl)
      go_wp2_with (first | (go_at_call 8; (with_reducible refine (D11.out).mono ?_); rintro e v11 ⟨rfl, hL11, hK11⟩; have L11 := Lib.hid hL11; have ka11 := Lib.hid (keepL hK11 L10.out ka10.out (by decide)); have kc11 := Lib.hid (keepL hK11 L10.out kc10.out (by decide)); have kd11 := Lib.hid (keepL hK11 L10.out kd10.out (by decide)); have kf11 := Lib.hid (keepL hK11 L10.out kf10.out (by decide)); have kh11 := Lib.hid (keepL hK11 L10.out kh10.out (by decide)); clear hL11 hK11; refine Hid.out ?_))
      refine Lib.hid ?_
      have M11 := Lib.hid (L11.out.old (alloc_old (o := .cells #[.int .i64 1, .int .i64 0, .string ⟨#[79, 75]⟩, .slice none 0 0] 28)))
      have ma11 := Lib.hid (blk_below ka11.out (alloc_old (o := .cells #[.int .i64 1, .int .i64 0, .string ⟨#[79, 75]⟩, .slice none 0 0] 28)))
      have mc11 := Lib.hid (blk_below kc11.out (alloc_old (o := .cells #[.int .i64 1, .int .i64 0, .string ⟨#[79, 75]⟩, .slice none 0 0] 28)))
      have md11 := Lib.hid (blk_below kd11.out (alloc_old (o := .cells #[.int .i64 1, .int .i64 0, .string ⟨#[79, 75]⟩, .slice none 0 0] 28)))
      have mf11 := Lib.hid (blk_below kf11.out (alloc_old (o := .cells #[.int .i64 1, .int .i64 0, .string ⟨#[79, 75]⟩, .slice none 0 0] 28)))
      have mh11 := Lib.hid (blk_below kh11.out (alloc_old (o := .cells #[.int .i64 1, .int .i64 0, .string ⟨#[79, 75]⟩, .slice none 0 0] 28)))
      have mk11 := Lib.hid (heap_alloc_new v11 (.cells #[.int .i64 1, .int .i64 0, .string ⟨#[79, 75]⟩, .slice none 0 0] 28))
      have D12 := Lib.hid (p_all w bS bM s (v11.alloc (.cells #[.int .i64 1, .int .i64 0, .string ⟨#[79, 75]⟩, .slice none 0 0] 28)) M11.out (v11.heap.size + 1) (by simp))
      go_wp2_with (first | (go_at_call 8; (with_reducible refine (D12.out).mono ?_); rintro e v12 ⟨A12, m12, c12, rfl, hR12, hL12, hK12⟩; have L12 := Lib.hid hL12; have ka12 := Lib.hid (keepL hK12 M11.out ma11.out (by decide)); have kc12 := Lib.hid (keepL hK12 M11.out mc11.out (by decide)); have kd12 := Lib.hid (keepL hK12 M11.out md11.out (by decide)); have kf12 := Lib.hid (keepL hK12 M11.out mf11.out (by decide)); have kh12 := Lib.hid (keepL hK12 M11.out mh11.out (by decide)); have kk12 := Lib.hid (keepL hK12 M11.out mk11.out (by decide)); have kR12 := Lib.hid hR12; clear hL12 hK12 hR12; refine Hid.out ?_))
      refine Lib.hid ?_
      have M12 := Lib.hid (L12.out.old (alloc_old (o := .cells #[.int .i64 6, .int .i64 0, .string ⟨#[]⟩, .slice A12 m12 c12] 28)))
      have ma12 := Lib.hid (blk_below ka12.out (alloc_old (o := .cells #[.int .i64 6, .int .i64 0, .string ⟨#[]⟩, .slice A12 m12 c12] 28)))
      have mc12 := Lib.hid (blk_below kc12.out (alloc_old (o := .cells #[.int .i64 6, .int .i64 0, .string ⟨#[]⟩, .slice A12 m12 c12] 28)))
      have md12 := Lib.hid (blk_below kd12.out (alloc_old (o := .cells #[.int .i64 6, .int .i64 0, .string ⟨#[]⟩, .slice A12 m12 c12] 28)))
      have mf12 := Lib.hid (blk_below kf12.out (alloc_old (o := .cells #[.int .i64 6, .int .i64 0, .string ⟨#[]⟩, .slice A12 m12 c12] 28)))
      have mh12 := Lib.hid (blk_below kh12.out (alloc_old (o := .cells #[.int .i64 6, .int .i64 0, .string ⟨#[]⟩, .slice A12 m12 c12] 28)))
      have mk12 := Lib.hid (blk_below kk12.out (alloc_old (o := .cells #[.int .i64 6, .int .i64 0, .string ⟨#[]⟩, .slice A12 m12 c12] 28)))
      have mR1212 := Lib.hid (RO.below kR12.out (alloc_old (o := .cells #[.int .i64 6, .int .i64 0, .string ⟨#[]⟩, .slice A12 m12 c12] 28)))
      have ml12 := Lib.hid (heap_alloc_new v12 (.cells #[.int .i64 6, .int .i64 0, .string ⟨#[]⟩, .slice A12 m12 c12] 28))
      go_wp2_with (first | (go_at_call 6; (with_reducible refine (TL.out _).mono ?_); rintro e z1 ⟨rfl, hB⟩; have L13 := Lib.hid (M12.out.old hB); have ka13 := Lib.hid (blk_below ma12.out hB); have kc13 := Lib.hid (blk_below mc12.out hB); have kd13 := Lib.hid (blk_below md12.out hB); have kf13 := Lib.hid (blk_below mf12.out hB); have kh13 := Lib.hid (blk_below mh12.out hB); have kk13 := Lib.hid (blk_below mk12.out hB); have kR1213 := Lib.hid (RO.below mR1212.out hB); have kl13 := Lib.hid (blk_below ml12.out hB); clear hB; refine Hid.out ?_))
      refine Lib.hid ?_
      obtain ⟨⟨a0, a1, a2, a3⟩, _⟩ := cells4 ka13.out
      obtain ⟨⟨c0, c1, c2, c3⟩, _⟩ := cells4 kc13.out
      obtain ⟨⟨d0, d1, d2, d3⟩, _⟩ := cells4 kd13.out
      obtain ⟨⟨f0, f1, f2, f3⟩, _⟩ := cells4 kf13.out
      obtain ⟨⟨h0, h1, h2, h3⟩, _⟩ := cells4 kh13.out
      obtain ⟨⟨k0, k1, k2, k3⟩, _⟩ := cells4 kk13.out
      obtain ⟨⟨l0, l1, l2, l3⟩, _⟩ := cells4 kl13.out
      have hR9 := kR1213.out
      obtain ⟨rfl, ⟨g, rfl⟩, hcc⟩ := hR9.form (by simp)
      have cw := row_cell hR9 2 (.string s) rfl
      have fN : ∀ X, (Instr.field 28 (.agg #[.int .i64 2, .int .i64 7, .string ⟨#[]⟩, .slice none 0 0]) 1).run Tryz.prog X = .ok (.int .i64 7) X := fun X => by kernel_rfl
      have D99 := Lib.hid (p_fail w bS bM s z1 L13.out _ rfl)
      have z9 : IntKind.i64.wrap ((k : Int) + 1) = (k : Int) + 1 := IntWalk.i64_in _ (by omega)
      clear hR9 hcc
      go_wp2_with (first | (go_at_call 8; (with_reducible refine (D99.out).mono ?_); rintro e z2 ⟨rfl, hL99⟩; have L99 := Lib.hid hL99; clear hL99))
      go_ret
      exact ⟨by simp, L99.out.below⟩
end Go.Proofs.YtjljljjmdlddkaaGreatDoor

/- The law ListsPlaces, whole. -/
namespace Go.Proofs.YtjljljjmdlddkaaGreatDoor
open Go.ChangeShapes Go.WideShapes Go.ChangeAt Go.RowKit

theorem tab_places {W : World} (h : laidMetH Tryz.prog Rows.listsPlacesRow.laid W) : Tab W :=
  Lib.tabIs_of_head (rest := []) (zs := Lib.pow10Tab) gPow gPowType (by kernel_rfl) (by kernel_rfl) cellsE cellsTb (laidMet.tail (laidMet.tail h))
set_option maxRecDepth 100000 in
set_option maxHeartbeats 8000000 in
theorem places_none (s : ByteArray) (a0 a1 a2 : Int) (w : World) (h : 100 < s.size ∨ s.size = 1) : Calls Tryz.prog 3 #[.int .i64 a0, .int .i64 a1, .int .i64 a2, .string s] w fun e w' => e = .returned (.bool true) ∧ Below w.heap.size w w' := by
  have TL := Lib.hid (fun X => told X)
  by_cases h1 : 100 < s.size
  · have q1 : (100 : Int) < (s.size : Int) := by omega
    go_enter Tryz.func3, Tryz.ntmps3
    go_wp2_with (first | (go_at_call 6; (with_reducible refine (TL.out _).mono ?_); rintro e w7 ⟨rfl, h7⟩; have B7 := Lib.hid h7; clear h7))
    exact bodyPost_ret (v := .bool true) (by simp [results, Tryz.results3, go_sem]) rfl ⟨rfl, B7.out⟩
  · have q1 : ¬ (100 : Int) < (s.size : Int) := by omega
    have q2 : (s.size : Int) = 1 := by omega
    have q1b : decide ((100 : Int) < (s.size : Int)) = false := decide_eq_false q1
    go_enter Tryz.func3, Tryz.ntmps3
    go_wp2_with (first | (go_at_call 6; (with_reducible refine (TL.out _).mono ?_); rintro e w7 ⟨rfl, h7⟩; have B7 := Lib.hid h7; clear h7))
    exact bodyPost_ret (v := .bool true) (by simp [results, Tryz.results3, go_sem]) rfl ⟨rfl, B7.out⟩
theorem places_law {W : World} (hT : Tab W) (a0 a1 a2 : Int) (s : ByteArray) (h0 : I64 a0) (h1 : I64 a1) (h2 : I64 a2) : Calls Tryz.prog 3 #[.int .i64 a0, .int .i64 a1, .int .i64 a2, .string s] W fun e w' => e = .returned (.bool true) ∧ Below W.heap.size W w' := by
  by_cases h : s.size ≤ 100 ∧ s.size ≠ 1
  · exact places_walk s a0 a1 a2 W hT h.1 h.2 h0 h1 h2
  · exact places_none s a0 a1 a2 W (by omega)
end Go.Proofs.YtjljljjmdlddkaaGreatDoor
