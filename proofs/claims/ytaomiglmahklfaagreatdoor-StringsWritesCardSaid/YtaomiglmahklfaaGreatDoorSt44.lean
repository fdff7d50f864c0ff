/- What StringsWrites needs: rows that come in, and SETRANGE, GETRANGE, STRLEN at a text that may be empty. -/
import Derived.Test.YtaomiglmahklfaaGreatDoorSt39
import Derived.Stop.LaidErr
import Derived.ProofKit
import Derived.SliceStrings
import Derived.Deep.Slices
import Derived.Lib.LaidTab
namespace Go.Proofs.YtaomiglmahklfaaGreatDoor
open Go.ChangeShapes Go.WideShapes Go.ChangeAt Go.RowKit

/-- A slice of whole numbers. -/
def ISl (w : World) (v : Value) (zs : List Int) : Prop := ∃ A cap, v = .slice A zs.length cap ∧ zs.length ≤ cap ∧ cap ≤ maxLen ∧
  (zs ≠ [] → ∃ blk off, A = some ⟨blk, off, none⟩ ∧ blk < w.heap.size ∧ ∀ i z, zs[i]? = some z → w.cell? ⟨blk, off + i, none⟩ = some (.int .i64 z))
theorem ISl.below {w w' : World} {v : Value} {xs : List Int} (h : ISl w v xs) (hb : Below w.heap.size w w') : ISl w' v xs := by
  obtain ⟨A, cap, h1, h2, h3, h4⟩ := h
  refine ⟨A, cap, h1, h2, h3, fun hne => ?_⟩
  obtain ⟨blk, off, h5, h6, h7⟩ := h4 hne
  have := Below.size hb
  exact ⟨blk, off, h5, by omega, fun i s hs => (hb.cell (p := ⟨blk, off + i, none⟩) h6).trans (h7 i s hs)⟩
section
variable {H : Type} {enc : TypeId × Value → H} {W : World}
theorem at_of {a : Addr} {n : Nat} {f : Nat → Value} (h : ∀ i, i < n → W.cell? (a.add i) = some (f i)) (hp : 0 < n) :
    ∃ b off, a = ⟨b, off, none⟩ ∧ b < W.heap.size ∧ ∀ j, j < n → W.cell? ⟨b, off + j, none⟩ = some (f j) := by
  obtain ⟨b, off, spot⟩ := a
  have hspot : spot = none := by simpa [Addr.add] using World.cell?_spot (h 0 hp)
  subst hspot
  have h2 : ∀ j, j < n → W.cell? ⟨b, off + j, none⟩ = some (f j) := fun j hj => by rw [← Go.WideShapes.add_plain]; exact h j hj
  refine ⟨b, off, rfl, ?_, h2⟩
  have h0 := h2 0 hp
  rcases Nat.lt_or_ge b W.heap.size with hb | hb
  · exact hb
  · unfold World.cell? at h0
    simp only [Array.getElem?_eq_none hb] at h0
    cases h0
theorem SSl.of_trod {v : Value} {d : DataW H} {ps : List MemPlace} (h : DataW.Trod enc Tryz.prog W 0 (fun _ => true) true 22 v d ps) (hv : ∃ A n c, v = .slice A n c) : ∃ xs, SSl W v xs := by
  obtain ⟨A, n, c, rfl⟩ := hv
  obtain ⟨m, hm⟩ := h
  rcases open_strings Tryz.underlying22 Tryz.underlying9 (by kernel_rfl) hm with ⟨hcs, _⟩ | ⟨a, len, cap, ss, hcs, _, hl, hc, hs, _, hcell, _⟩
  · obtain ⟨rfl, rfl, rfl⟩ : A = none ∧ n = 0 ∧ c = 0 := by simpa [Value.cells] using hcs
    exact ⟨[], none, 0, rfl, Nat.le_refl _, Nat.zero_le _, fun h => absurd rfl h⟩
  · obtain ⟨rfl, rfl, rfl⟩ : A = some a ∧ n = len ∧ c = cap := by simpa [Value.cells] using hcs
    simp only [if_true] at hs
    have e : (ss.take n).length = n := by rw [List.length_take]; omega
    refine ⟨ss.take n, some a, c, by rw [e], by rw [e]; exact hl, hc, fun hne => ?_⟩
    have hn : 0 < n := by
      rcases Nat.eq_zero_or_pos n with h | h
      · subst h; simp at hne
      · exact h
    obtain ⟨b, off, rfl, hb, hcell'⟩ := at_of hcell (by omega)
    refine ⟨b, off, rfl, hb, fun i s hi => ?_⟩
    obtain ⟨hi1, hi2⟩ := List.getElem?_eq_some_iff.1 hi
    rw [e] at hi1
    rw [hcell' i (by omega)]
    rw [List.getElem?_take_of_lt hi1] at hi
    rw [List.getD, hi]; rfl
theorem ISl.of_trod {v : Value} {d : DataW H} {ps : List MemPlace} (h : DataW.Trod enc Tryz.prog W 0 (fun _ => true) true 44 v d ps) (hv : ∃ A n c, v = .slice A n c) : ∃ l, ISl W v l := by
  obtain ⟨A, n, c, rfl⟩ := hv
  obtain ⟨m, hm⟩ := h
  rcases open_ints Tryz.underlying44 Tryz.underlying3 (by kernel_rfl) hm with ⟨hcs, _⟩ | ⟨a, len, cap, zs, hcs, _, hl, hc, hs, _, hcell, hw⟩
  · obtain ⟨rfl, rfl, rfl⟩ : A = none ∧ n = 0 ∧ c = 0 := by simpa [Value.cells] using hcs
    exact ⟨[], none, 0, rfl, Nat.le_refl _, Nat.zero_le _, fun h => absurd rfl h⟩
  · obtain ⟨rfl, rfl, rfl⟩ : A = some a ∧ n = len ∧ c = cap := by simpa [Value.cells] using hcs
    simp only [if_true] at hs
    have e : (zs.take n).length = n := by rw [List.length_take]; omega
    refine ⟨zs.take n, some a, c, by rw [e], by rw [e]; exact hl, hc, fun hne => ?_⟩
    have hn : 0 < n := by
      rcases Nat.eq_zero_or_pos n with h | h
      · subst h; simp at hne
      · exact h
    obtain ⟨b, off, rfl, hb, hcell'⟩ := at_of hcell (by omega)
    refine ⟨b, off, rfl, hb, fun i s hi => ?_⟩
    obtain ⟨hi1, hi2⟩ := List.getElem?_eq_some_iff.1 hi
    rw [e] at hi1
    rw [hcell' i (by omega)]
    rw [List.getElem?_take_of_lt hi1] at hi
    rw [List.getD, hi]; rfl
end
theorem empty_of (w : ByteArray) (h : w.size = 0) : w = ⟨#[]⟩ := by
  apply bytes_inj
  have : w.data.toList.length = 0 := by simpa using h
  rw [List.eq_nil_of_length_eq_zero this]
/-- What the space holds: the text, if there is any. -/
def lst (T : ByteArray) : MapT.Ents := if T.size = 0 then [] else (MapT.put ⟨#[107]⟩ (.agg #[.string ⟨#[107]⟩, .int .i64 1, .string T, .slice none 0 0, .slice none 0 0, .slice none 0 0, .slice none 0 0, .int .i64 0]) [])
theorem lst_no {T : ByteArray} (h : T.size = 0) : lst T = [] := if_pos h
theorem lst_yes {T : ByteArray} (h : 0 < T.size) : lst T = (MapT.put ⟨#[107]⟩ (.agg #[.string ⟨#[107]⟩, .int .i64 1, .string T, .slice none 0 0, .slice none 0 0, .slice none 0 0, .slice none 0 0, .int .i64 0]) []) := if_neg (by omega)
/-- What one piece makes of the text. -/
def wrT (T s : ByteArray) (p : Nat) : ByteArray := if s.size = 0 then T else ovT T s p
theorem wrT_no {T s : ByteArray} {p : Nat} (h : s.size = 0) : wrT T s p = T := if_pos h
theorem wrT_yes {T s : ByteArray} {p : Nat} (h : 0 < s.size) : wrT T s p = ovT T s p := if_neg (by omega)
theorem do_litG (W0 : World) (NAME : ByteArray) (F : FuncId) (bS bM : Nat) (l : MapT.Ents) (xs : List ByteArray) (k n : Int) (s : ByteArray) (es : List Ent) (hF : CmdOk W0 F bS bM l 1 xs k n s R0 es) (hes : es.length ≤ 100000) (hm : MayApply es l)
    (hf : MapT.find NAME flT = some (.func (.func F) #[] #[])) (hx : xs[0]? = some NAME) (hent : ∀ (args : Array Value) (w : World), (callFunc F args).run Tryz.prog w = .ok (.enter F args) w) (hfit : ∀ v X, SSl X v xs → Calls Tryz.prog 61 #[v] X fun e w' => e = .returned (.int .i64 0) ∧ Below X.heap.size X w') (hup : ∀ X, Calls Tryz.prog 62 #[.string NAME] X fun e w' => e = .returned (.string NAME) ∧ Below X.heap.size X w') (Y : World) (v : Value) (hL : LW W0 Y bS bM l) (hv : SSl Y v xs) :
    Calls Tryz.prog 11 #[.pointer (some ⟨bS, 0, none⟩), v] Y fun e w' => e = .returned (.agg #[.int .i64 k, .int .i64 n, .string s, .slice none 0 0]) ∧ LW W0 w' bS bM (applyE es l) ∧ Kp Y.heap.size (fun i => i ≠ bS ∧ i ≠ bM) Y w' := by
  refine (do_ok W0 NAME F bS bM l xs _ k n s R0 es hF R0.keep hes hm _ hL.below hL.sp hv hf hx hent (hfit _) hup).mono ?_
  rintro e w' ⟨A, m, c, rfl, hR, hS, hK⟩
  cases hR
  exact ⟨rfl, hL.step hS hK, hK⟩
theorem g_over0 (W0 : World) (bS bM : Nat) (l : MapT.Ents) (k a s : ByteArray) (p : Nat) (hpm : p ≤ 4096) (haz : a.size ≤ 100000) (hap : parseI a.data.toList = some (p : Int)) (t : ByteArray) (u : Int) (hne : t = ovT t s p) (nn0 : Nat) (hn0 : max t.size (p + s.size) = nn0) (hsp : 0 < s.size) (hse : p + s.size ≤ 4096) (hts : t.size ≤ 4096) (hf : MapT.find k l = some (.agg #[.string k, .int .i64 1, .string t, .slice none 0 0, .slice none 0 0, .slice none 0 0, .slice none 0 0, .int .i64 u])) (hv : Lives u 1) (Y : World) (v0 : Value) (hL : LW W0 Y bS bM l) (hv0 : SSl Y v0 [⟨#[83, 69, 84, 82, 65, 78, 71, 69]⟩, k, a, s]) : Calls Tryz.prog 11 #[.pointer (some ⟨bS, 0, none⟩), v0] Y fun e w' => e = .returned (.agg #[.int .i64 3, .int .i64 (nn0 : Int), .string ⟨#[]⟩, .slice none 0 0]) ∧ LW W0 w' bS bM l ∧ Kp Y.heap.size (fun i => i ≠ bS ∧ i ≠ bM) Y w' := by
  exact do_litG W0 ⟨#[83, 69, 84, 82, 65, 78, 71, 69]⟩ 42 bS bM l [⟨#[83, 69, 84, 82, 65, 78, 71, 69]⟩, k, a, s] 3 ((nn0 : Int)) ⟨#[]⟩ [] (over_same W0 bS bM l 1 k a s p hpm haz hap t u hne hts hf hv nn0 hn0 hsp hse) (by simp) trivial find_SETRANGE rfl ent_SETRANGE (fun vv X h => Fits_SETRANGE vv [⟨#[83, 69, 84, 82, 65, 78, 71, 69]⟩, k, a, s] rfl (by simp) (by simp) X h) hu_SETRANGE Y v0 hL hv0
theorem g_over1 (W0 : World) (bS bM : Nat) (l : MapT.Ents) (k a s : ByteArray) (p : Nat) (hpm : p ≤ 4096) (haz : a.size ≤ 100000) (hap : parseI a.data.toList = some (p : Int)) (t : ByteArray) (u : Int) (hne : t ≠ ovT t s p) (hk1 : 1 ≤ k.size) (hk : k.size ≤ 512) (hu0 : 0 ≤ u) (hu1 : u ≤ 1125899906842624) (nn0 : Nat) (hn0 : max t.size (p + s.size) = nn0) (hsp : 0 < s.size) (hse : p + s.size ≤ 4096) (hts : t.size ≤ 4096) (hlen : l.length < 4096) (hf : MapT.find k l = some (.agg #[.string k, .int .i64 1, .string t, .slice none 0 0, .slice none 0 0, .slice none 0 0, .slice none 0 0, .int .i64 u])) (hv : Lives u 1) (Y : World) (v0 : Value) (hL : LW W0 Y bS bM l) (hv0 : SSl Y v0 [⟨#[83, 69, 84, 82, 65, 78, 71, 69]⟩, k, a, s]) : Calls Tryz.prog 11 #[.pointer (some ⟨bS, 0, none⟩), v0] Y fun e w' => e = .returned (.agg #[.int .i64 3, .int .i64 (nn0 : Int), .string ⟨#[]⟩, .slice none 0 0]) ∧ LW W0 w' bS bM (MapT.put k (.agg #[.string k, .int .i64 1, .string (ovT t s p), .slice none 0 0, .slice none 0 0, .slice none 0 0, .slice none 0 0, .int .i64 u]) l) ∧ Kp Y.heap.size (fun i => i ≠ bS ∧ i ≠ bM) Y w' := by
  exact do_litG W0 ⟨#[83, 69, 84, 82, 65, 78, 71, 69]⟩ 42 bS bM l [⟨#[83, 69, 84, 82, 65, 78, 71, 69]⟩, k, a, s] 3 ((nn0 : Int)) ⟨#[]⟩ [⟨k, 1, (ovT t s p), u⟩] (over_diff W0 bS bM l 1 k a s p hpm haz hap t u hne hk1 hk hu0 hu1 hts hf hv nn0 hn0 hsp hse) (by simp) ⟨.inl ⟨rfl, hk1, hk, (by show (ovT t s p).size ≤ 4096; rw [ovT_size]; omega), hu0, hu1, hlen, .inr ⟨t, u, (by omega), hf⟩⟩, trivial⟩ find_SETRANGE rfl ent_SETRANGE (fun vv X h => Fits_SETRANGE vv [⟨#[83, 69, 84, 82, 65, 78, 71, 69]⟩, k, a, s] rfl (by simp) (by simp) X h) hu_SETRANGE Y v0 hL hv0
theorem g_overN (W0 : World) (bS bM : Nat) (l : MapT.Ents) (k a s : ByteArray) (p : Nat) (hpm : p ≤ 4096) (haz : a.size ≤ 100000) (hap : parseI a.data.toList = some (p : Int)) (hk1 : 1 ≤ k.size) (hk : k.size ≤ 512) (nn0 : Nat) (hn0 : max 0 (p + s.size) = nn0) (hsp : 0 < s.size) (hse : p + s.size ≤ 4096) (hlen : l.length < 4096) (hf : MapT.find k l = none) (Y : World) (v0 : Value) (hL : LW W0 Y bS bM l) (hv0 : SSl Y v0 [⟨#[83, 69, 84, 82, 65, 78, 71, 69]⟩, k, a, s]) : Calls Tryz.prog 11 #[.pointer (some ⟨bS, 0, none⟩), v0] Y fun e w' => e = .returned (.agg #[.int .i64 3, .int .i64 (nn0 : Int), .string ⟨#[]⟩, .slice none 0 0]) ∧ LW W0 w' bS bM (MapT.put k (.agg #[.string k, .int .i64 1, .string (ovT ⟨#[]⟩ s p), .slice none 0 0, .slice none 0 0, .slice none 0 0, .slice none 0 0, .int .i64 0]) l) ∧ Kp Y.heap.size (fun i => i ≠ bS ∧ i ≠ bM) Y w' := by
  exact do_litG W0 ⟨#[83, 69, 84, 82, 65, 78, 71, 69]⟩ 42 bS bM l [⟨#[83, 69, 84, 82, 65, 78, 71, 69]⟩, k, a, s] 3 ((nn0 : Int)) ⟨#[]⟩ [⟨k, 1, (ovT ⟨#[]⟩ s p), 0⟩] (over_new W0 bS bM l 1 k a s p hpm haz hap hk1 hk hf nn0 hn0 hsp hse) (by simp) ⟨.inl ⟨rfl, hk1, hk, (by show (ovT ⟨#[]⟩ s p).size ≤ 4096; rw [ovT_size]; show max 0 (p + s.size) ≤ 4096; omega), (of_decide_eq_true rfl), (of_decide_eq_true rfl), hlen, .inl hf⟩, trivial⟩ find_SETRANGE rfl ent_SETRANGE (fun vv X h => Fits_SETRANGE vv [⟨#[83, 69, 84, 82, 65, 78, 71, 69]⟩, k, a, s] rfl (by simp) (by simp) X h) hu_SETRANGE Y v0 hL hv0
theorem g_overE (W0 : World) (bS bM : Nat) (l : MapT.Ents) (k a : ByteArray) (p : Nat) (hpm : p ≤ 4096) (haz : a.size ≤ 100000) (hap : parseI a.data.toList = some (p : Int)) (t : ByteArray) (u : Int) (hf : MapT.find k l = some (.agg #[.string k, .int .i64 1, .string t, .slice none 0 0, .slice none 0 0, .slice none 0 0, .slice none 0 0, .int .i64 u])) (hv : Lives u 1) (Y : World) (v0 : Value) (hL : LW W0 Y bS bM l) (hv0 : SSl Y v0 [⟨#[83, 69, 84, 82, 65, 78, 71, 69]⟩, k, a, ⟨#[]⟩]) : Calls Tryz.prog 11 #[.pointer (some ⟨bS, 0, none⟩), v0] Y fun e w' => e = .returned (.agg #[.int .i64 3, .int .i64 (t.size : Int), .string ⟨#[]⟩, .slice none 0 0]) ∧ LW W0 w' bS bM l ∧ Kp Y.heap.size (fun i => i ≠ bS ∧ i ≠ bM) Y w' := by
  exact do_litG W0 ⟨#[83, 69, 84, 82, 65, 78, 71, 69]⟩ 42 bS bM l [⟨#[83, 69, 84, 82, 65, 78, 71, 69]⟩, k, a, ⟨#[]⟩] 3 ((t.size : Int)) ⟨#[]⟩ [] (over_ey W0 bS bM l 1 k a p hpm haz hap t u hf hv) (by simp) trivial find_SETRANGE rfl ent_SETRANGE (fun vv X h => Fits_SETRANGE vv [⟨#[83, 69, 84, 82, 65, 78, 71, 69]⟩, k, a, ⟨#[]⟩] rfl (by simp) (by simp) X h) hu_SETRANGE Y v0 hL hv0
theorem g_overEN (W0 : World) (bS bM : Nat) (l : MapT.Ents) (k a : ByteArray) (p : Nat) (hpm : p ≤ 4096) (haz : a.size ≤ 100000) (hap : parseI a.data.toList = some (p : Int)) (hf : MapT.find k l = none) (Y : World) (v0 : Value) (hL : LW W0 Y bS bM l) (hv0 : SSl Y v0 [⟨#[83, 69, 84, 82, 65, 78, 71, 69]⟩, k, a, ⟨#[]⟩]) : Calls Tryz.prog 11 #[.pointer (some ⟨bS, 0, none⟩), v0] Y fun e w' => e = .returned (.agg #[.int .i64 3, .int .i64 0, .string ⟨#[]⟩, .slice none 0 0]) ∧ LW W0 w' bS bM l ∧ Kp Y.heap.size (fun i => i ≠ bS ∧ i ≠ bM) Y w' := by
  exact do_litG W0 ⟨#[83, 69, 84, 82, 65, 78, 71, 69]⟩ 42 bS bM l [⟨#[83, 69, 84, 82, 65, 78, 71, 69]⟩, k, a, ⟨#[]⟩] 3 (0) ⟨#[]⟩ [] (over_en W0 bS bM l 1 k a p hpm haz hap hf) (by simp) trivial find_SETRANGE rfl ent_SETRANGE (fun vv X h => Fits_SETRANGE vv [⟨#[83, 69, 84, 82, 65, 78, 71, 69]⟩, k, a, ⟨#[]⟩] rfl (by simp) (by simp) X h) hu_SETRANGE Y v0 hL hv0
theorem wr_setG (W0 : World) (bS bM : Nat) (T s : ByteArray) (p : Nat) (hT : T.size ≤ 1000) (hs : s.size ≤ 30) (hp : p ≤ 60) (T2 : ByteArray) (hT2 : wrT T s p = T2) (Y : World) (v0 : Value) (hL : LW W0 Y bS bM (lst T)) (hv0 : SSl Y v0 [⟨#[83, 69, 84, 82, 65, 78, 71, 69]⟩, ⟨#[107]⟩, (numT (p : Int)), s]) : Calls Tryz.prog 11 #[.pointer (some ⟨bS, 0, none⟩), v0] Y fun e w' => e = .returned (.agg #[.int .i64 3, .int .i64 (T2.size : Int), .string ⟨#[]⟩, .slice none 0 0]) ∧ LW W0 w' bS bM (lst T2) ∧ Kp Y.heap.size (fun i => i ≠ bS ∧ i ≠ bM) Y w' := by
  subst hT2
  have hI : I64 (p : Int) := ⟨by omega, by omega⟩
  have z := numT_size _ hI
  by_cases hse : s.size = 0
  · rw [wrT_no hse]
    obtain rfl := empty_of s hse
    by_cases hTe : T.size = 0
    · rw [lst_no hTe] at hL ⊢
      rw [hTe]
      exact g_overEN W0 bS bM [] ⟨#[107]⟩ (numT (p : Int)) p (by omega) (by omega) (parse_numT _ hI) rfl Y v0 hL hv0
    · rw [lst_yes (by omega)] at hL ⊢
      exact g_overE W0 bS bM (MapT.put ⟨#[107]⟩ (.agg #[.string ⟨#[107]⟩, .int .i64 1, .string T, .slice none 0 0, .slice none 0 0, .slice none 0 0, .slice none 0 0, .int .i64 0]) []) ⟨#[107]⟩ (numT (p : Int)) p (by omega) (by omega) (parse_numT _ hI) T 0 (find_now _ _ _) (.inl rfl) Y v0 hL hv0
  · rw [wrT_yes (by omega)]
    have hsz := ovT_size T s p
    by_cases hTe : T.size = 0
    · obtain rfl := empty_of T hTe
      rw [lst_no rfl] at hL
      rw [lst_yes (by rw [hsz]; omega), hsz]
      exact g_overN W0 bS bM [] ⟨#[107]⟩ (numT (p : Int)) s p (by omega) (by omega) (parse_numT _ hI) (by decide) (by decide) _ rfl (by omega) (by omega) (by decide) rfl Y v0 hL hv0
    · rw [lst_yes (by omega)] at hL
      rw [lst_yes (by rw [hsz]; omega), hsz]
      by_cases he : T = ovT T s p
      · have := g_over0 W0 bS bM (MapT.put ⟨#[107]⟩ (.agg #[.string ⟨#[107]⟩, .int .i64 1, .string T, .slice none 0 0, .slice none 0 0, .slice none 0 0, .slice none 0 0, .int .i64 0]) []) ⟨#[107]⟩ (numT (p : Int)) s p (by omega) (by omega) (parse_numT _ hI) T 0 he _ rfl (by omega) (by omega) (by omega) (find_now _ _ _) (.inl rfl) Y v0 hL hv0
        rw [← he]
        exact this
      · have := g_over1 W0 bS bM (MapT.put ⟨#[107]⟩ (.agg #[.string ⟨#[107]⟩, .int .i64 1, .string T, .slice none 0 0, .slice none 0 0, .slice none 0 0, .slice none 0 0, .int .i64 0]) []) ⟨#[107]⟩ (numT (p : Int)) s p (by omega) (by omega) (parse_numT _ hI) T 0 he (by decide) (by decide) (by decide) (by decide) _ rfl (by omega) (by omega) (by omega) (by simp [MapT.put]) (find_now _ _ _) (.inl rfl) Y v0 hL hv0
        rw [put_put] at this
        exact this
theorem wr_get (W0 : World) (bS bM : Nat) (T c : ByteArray) (x y : Int) (hT : T.size ≤ 1000) (hx : -1000 ≤ x ∧ x ≤ 1000) (hy : -1000 ≤ y ∧ y ≤ 1000) (hc : (if spA x (T.size : Int) ≤ spC y (T.size : Int) then T.extract (spA x (T.size : Int)).toNat (spC y (T.size : Int) + 1).toNat else ⟨#[]⟩) = c) (X : World) (hL : LW W0 X bS bM (lst T)) (q : Nat) (hq0 : X.heap.size = q) : Calls Tryz.prog 11 #[.pointer (some ⟨bS, 0, none⟩), .slice (some ⟨q, 0, none⟩) 4 4] (X.alloc (.cells #[.string ⟨#[71, 69, 84, 82, 65, 78, 71, 69]⟩, .string ⟨#[107]⟩, .string (numT x), .string (numT y)] 9)) fun e w' => e = .returned (.agg #[.int .i64 4, .int .i64 0, .string c, .slice none 0 0]) ∧ LW W0 w' bS bM (lst T) ∧ Kp X.heap.size (fun i => i ≠ bS ∧ i ≠ bM) X w' := by
  subst hc
  have hI : I64 x := ⟨by omega, by omega⟩
  have hJ : I64 y := ⟨by omega, by omega⟩
  have z := numT_size _ hI
  have z2 := numT_size _ hJ
  by_cases hTe : T.size = 0
  · have hno : ¬ spA x ((0 : Nat) : Int) ≤ spC y ((0 : Nat) : Int) := by unfold spA spC; split <;> split <;> omega
    rw [hTe, if_neg hno]
    rw [lst_no hTe] at hL ⊢
    exact d_partN W0 bS bM [] ⟨#[107]⟩ (numT x) (numT y) x y (by omega) (by omega) (parse_numT _ hI) (parse_numT _ hJ) (by omega) (by omega) rfl (by omega) X hL q hq0
  · rw [lst_yes (by omega)] at hL ⊢
    by_cases hs : spA x (T.size : Int) ≤ spC y (T.size : Int)
    · rw [if_pos hs]
      exact d_part1 W0 bS bM (MapT.put ⟨#[107]⟩ (.agg #[.string ⟨#[107]⟩, .int .i64 1, .string T, .slice none 0 0, .slice none 0 0, .slice none 0 0, .slice none 0 0, .int .i64 0]) []) ⟨#[107]⟩ (numT x) (numT y) x y (by omega) (by omega) (parse_numT _ hI) (parse_numT _ hJ) (by omega) (by omega) T 0 (by omega) (find_now _ _ _) (.inl rfl) hs X hL q hq0
    · rw [if_neg hs]
      exact d_part0 W0 bS bM (MapT.put ⟨#[107]⟩ (.agg #[.string ⟨#[107]⟩, .int .i64 1, .string T, .slice none 0 0, .slice none 0 0, .slice none 0 0, .slice none 0 0, .int .i64 0]) []) ⟨#[107]⟩ (numT x) (numT y) x y (by omega) (by omega) (parse_numT _ hI) (parse_numT _ hJ) (by omega) (by omega) T 0 (by omega) (find_now _ _ _) (.inl rfl) (by omega) X hL q hq0
theorem wr_len (W0 : World) (bS bM : Nat) (T : ByteArray) (X : World) (hL : LW W0 X bS bM (lst T)) (q : Nat) (hq0 : X.heap.size = q) : Calls Tryz.prog 11 #[.pointer (some ⟨bS, 0, none⟩), .slice (some ⟨q, 0, none⟩) 2 2] (X.alloc (.cells #[.string ⟨#[83, 84, 82, 76, 69, 78]⟩, .string ⟨#[107]⟩] 9)) fun e w' => e = .returned (.agg #[.int .i64 3, .int .i64 (T.size : Int), .string ⟨#[]⟩, .slice none 0 0]) ∧ LW W0 w' bS bM (lst T) ∧ Kp X.heap.size (fun i => i ≠ bS ∧ i ≠ bM) X w' := by
  by_cases hTe : T.size = 0
  · rw [lst_no hTe] at hL ⊢
    rw [hTe]
    exact d_lenno W0 bS bM [] ⟨#[107]⟩ rfl X hL q hq0
  · rw [lst_yes (by omega)] at hL ⊢
    exact d_len W0 bS bM (MapT.put ⟨#[107]⟩ (.agg #[.string ⟨#[107]⟩, .int .i64 1, .string T, .slice none 0 0, .slice none 0 0, .slice none 0 0, .slice none 0 0, .int .i64 0]) []) ⟨#[107]⟩ T 0 (find_now _ _ _) (.inl rfl) X hL q hq0
theorem OwnG.keptK {c bS bM : Nat} {X w' : World} {v : Value} {l : List UInt8} (h : OwnG c X v l) (hS : bS < c) (hM : bM < c) (hK : Kp X.heap.size (fun i => i ≠ bS ∧ i ≠ bM) X w') : OwnG c w' v l :=
  h.kept hK.size (fun k hk hlt => hK.block k hlt ⟨by omega, by omega⟩)
theorem OwnG.back_part {c g off n cap a b : Nat} {w : World} {l : List UInt8} (h : OwnG c w (.slice (Option.some ⟨g, off, none⟩) n cap) l) (hab : a ≤ b) (hb : b ≤ n) (C : Nat) : (convert 34 9 (.slice (Option.some ⟨g, off + a, none⟩) (b - a) C)).run Tryz.prog w = .ok (.string ⟨((l.drop a).take (b - a)).toArray⟩) w := by
  rcases h with ⟨g', off', cap', h1, h2, h3, h4, h5, h6, h7⟩ | ⟨_, h⟩
  · obtain ⟨⟨e1, e4⟩, e2, e3⟩ : (g = g' ∧ off = off') ∧ n = l.length ∧ cap = cap' := by simpa using h1
    subst e1 e3
    subst e2
    subst e4
    have hlen : ((l.drop a).take (b - a)).length = b - a := by rw [List.length_take, List.length_drop]; omega
    have := run_convert_bytes_back (P := Tryz.prog) w 34 9 5 ⟨g, off + a, none⟩ C ((l.drop a).take (b - a)) Tryz.underlying34 Tryz.underlying5 Tryz.underlying9 (fun j hj => by
      rw [hlen] at hj
      have := h6 (a + j) l[a + j] (List.getElem?_eq_getElem (by omega))
      rw [Addr.add_lit]
      show w.cell? ⟨g, off + a + j, none⟩ = _
      rw [Nat.add_assoc, this, List.getElem_take, List.getElem_drop])
    rw [hlen] at this
    exact this
  · cases h
end Go.Proofs.YtaomiglmahklfaaGreatDoor
