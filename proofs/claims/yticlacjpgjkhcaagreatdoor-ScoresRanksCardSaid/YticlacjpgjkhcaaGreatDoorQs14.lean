/- Texts joined: G14, Tb1, G16, G2 -/
import Derived.Test.YticlacjpgjkhcaaGreatDoorQs11
import Derived.Test.YticlacjpgjkhcaaGreatDoorQs5
import Derived.Deep.AppendLies
import Derived.Test.YticlacjpgjkhcaaGreatDoorQs13
import Derived.Test.YticlacjpgjkhcaaGreatDoorQs7
import Derived.Test.YticlacjpgjkhcaaGreatDoorQs6
set_option linter.unusedVariables false
set_option linter.unusedSimpArgs false

/- Rows of replies of the call's own. -/
namespace Go.Proofs.YticlacjpgjkhcaaGreatDoor
open Go.ChangeShapes Go.WideShapes Go.ChangeAt Go.RowKit

theorem row_kept {w w' : World} {c : Nat} {e : TypeId} {m : Nat} {v : Value} {n : Nat} {xs : List Value} (h : w.ownsRow c e m v n xs) (hb : ∀ g, v.ownBlock = some g → w'.heap[g]? = w.heap[g]?) : w'.ownsRow c e m v n xs := by
  unfold World.ownsRow at h ⊢
  obtain ⟨h1, h2⟩ := h
  refine ⟨h1, ?_⟩
  rcases h2 with h2 | ⟨g, cap, cur, hv, hg, hh, r⟩
  · exact .inl h2
  · exact .inr ⟨g, cap, cur, hv, hg, by rw [hb g (by rw [hv]; rfl)]; exact hh, r⟩
theorem row_mono {w : World} {c d : Nat} {e : TypeId} {m : Nat} {v : Value} {n : Nat} {xs : List Value} (h : w.ownsRow c e m v n xs) (hd : d ≤ c) : w.ownsRow d e m v n xs := by
  unfold World.ownsRow at h ⊢
  obtain ⟨h1, h2⟩ := h
  refine ⟨h1, ?_⟩
  rcases h2 with h2 | ⟨g, cap, cur, hv, hg, r⟩
  · exact .inl h2
  · exact .inr ⟨g, cap, cur, hv, by omega, r⟩
theorem row_own {w : World} {c : Nat} {e : TypeId} {m : Nat} {v : Value} {n : Nat} {xs : List Value} (h : w.ownsRow c e m v n xs) : ∀ g, v.ownBlock = some g → c ≤ g ∧ g < w.heap.size := by
  intro g hg
  unfold World.ownsRow at h
  obtain ⟨_, ⟨rfl, _⟩ | ⟨g', cap, cur, rfl, h1, h2, _⟩⟩ := h
  · cases hg
  · cases hg
    exact ⟨h1, (Array.getElem?_eq_some_iff.1 h2).1⟩
theorem row_below {w w' : World} {c : Nat} {e : TypeId} {m : Nat} {v : Value} {n : Nat} {xs : List Value} (h : w.ownsRow c e m v n xs) (hb : Below w.heap.size w w') : w'.ownsRow c e m v n xs :=
  row_kept h (fun g hg => hb.block g (row_own h g hg).2)
/-- A row's cells. -/
theorem row_cell {w : World} {c : Nat} {e : TypeId} {m g n cap : Nat} {xs : List Value} (h : w.ownsRow c e m (.slice (some ⟨g, 0, none⟩) n cap) n xs) (i : Nat) (v : Value) (hi : xs[i]? = some v) : w.cell? ⟨g, i, none⟩ = some v := by
  unfold World.ownsRow at h
  obtain ⟨hl, ⟨h0, _⟩ | ⟨g', cap', cur, h0, h1, h2, h3, h4, h5, h6⟩⟩ := h
  · cases h0
  · cases h0
    rw [cell_of_row _ g _ _ e (0, 0) h2]
    have hlt := (List.getElem?_eq_some_iff.1 hi).1
    rw [← h6, List.getElem?_take_of_lt (by omega)] at hi
    rw [← Array.getElem?_toList]
    exact hi
/-- A reply of MGET: a text, or nothing. -/
def repC : Option ByteArray → List Value
  | some t => [.int .i64 4, .int .i64 0, .string t, .slice none 0 0]
  | none => [.int .i64 5, .int .i64 0, .string ⟨#[]⟩, .slice none 0 0]
def RO (rs : List (Option ByteArray)) (c : Nat) (w : World) (v : Value) : Prop := w.ownsRow c 29 4 v rs.length (rs.flatMap repC)
theorem RO.keep (rs : List (Option ByteArray)) : RKeep (RO rs) :=
  ⟨fun _ _ _ _ h _ hb => row_kept h (fun g hg => hb g (row_own h g hg).1 (row_own h g hg).2), fun _ _ _ _ h hd => row_mono h hd⟩
theorem repC_len (r : Option ByteArray) : (repC r).length = 4 := by cases r <;> rfl
theorem repC_at (rs : List (Option ByteArray)) : ∀ (i j : Nat) (r : Option ByteArray) (v : Value), rs[i]? = some r → (repC r)[j]? = some v → (rs.flatMap repC)[i * 4 + j]? = some v := by
  induction rs with
  | nil => intro i j r v h; cases h
  | cons q t ih =>
    intro i j r v h hv
    have hj : j < 4 := by have := (List.getElem?_eq_some_iff.1 hv).1; rw [repC_len] at this; exact this
    rw [List.flatMap_cons]
    cases i with
    | zero =>
      cases h
      rw [List.getElem?_append_left (by rw [repC_len]; omega), Nat.zero_mul, Nat.zero_add]
      exact hv
    | succ i =>
      rw [List.getElem?_append_right (by rw [repC_len]; omega), repC_len, show (i + 1) * 4 + j - 4 = i * 4 + j by omega]
      exact ih i j r v h hv
theorem i37 : (Tryz.prog.info? 29).map (fun i => (i.zero, i.size, i.bytes)) = some (some (.agg #[.int .i64 0, .int .i64 0, .string ⟨#[]⟩, .slice none 0 0]), 4, 56) := by kernel_rfl
theorem news_blk {w : World} {b : Nat} {cs : List Value} {t : TypeId} (hb : w.heap[b]? = some (.cells cs.toArray t)) : ∀ (j : Nat) (u : Value), cs[j]? = some u → w.cell? ((⟨b, 0, none⟩ : Addr).add j) = some u := by
  intro j u hj
  rw [Addr.add_lit, cell_of_row _ b _ _ t (0, 0) hb, Nat.zero_add]
  simpa using hj
theorem repC_one (r : Option ByteArray) : ∀ u ∈ repC r, u.oneCell' = true := by
  cases r <;> (intro u hu; simp [repC] at hu; rcases hu with rfl | rfl | rfl | rfl <;> rfl)
theorem map_one (xs : List ByteArray) : ∀ u ∈ xs.map Value.string, u.oneCell' = true := by
  intro u hu
  obtain ⟨s, _, rfl⟩ := List.mem_map.1 hu
  rfl
/-- One reply is appended to a row of replies. -/
theorem append_RO {ops : Array Oper} {rest : List Oper} {o : Oper} {a : Act} {Q : Exit → Act → World → Prop} (w : World) (hg : o.guard = none) (s x : Operand) (hop : o.op = Op.call { callee := Callee.builtin Builtin.append, args := #[s, x], argTypes := #[27, 27] })
    (c : Nat) (v : Value) (rs : List (Option ByteArray)) (N : Nat) (hN : rs.length = N) (hs : a.eval s = v) (h : RO rs c w v) (r : Option ByteArray) (b : Nat) (hx : a.eval x = .slice (some ⟨b, 0, none⟩) 1 1) (hb : w.heap[b]? = some (.cells (repC r).toArray 29)) (hl : N ≤ 100000) (hc : c ≤ w.heap.size)
    (k : ∀ g cap w', RO (rs ++ [r]) c w' (.slice (some ⟨g, 0, none⟩) (N + 1) cap) → Below c w w' → wpList Tryz.prog ops Q rest (a.put o.dst (.slice (some ⟨g, 0, none⟩) (N + 1) cap)) w') : wpList Tryz.prog ops Q (o :: rest) a w := by
  subst hN
  obtain ⟨i0, hi, hz0, hz1, hz2⟩ := info_parts i37
  refine wpList_append_lies w hg s x 27 hop c 29 i0 _ 4 56 Tryz.underlying27 hi hz0 hz1 hz2 rfl (by decide) v rs.length _ hs h ⟨b, 0, none⟩ 1 1 (repC r) hx (by rw [repC_len]) (news_blk hb) (repC_one r) (by decide) (by unfold maxLen; omega) (by omega) hc _ rfl ?_
  intro g cap w' h1 h2 _ _
  refine k g cap w' ?_ ((Below.refl _ _).grown h2 hc (fun k hk => (row_own h k hk).1))
  unfold RO
  rw [List.length_append, List.flatMap_append, show [r].length = 1 from rfl, show [r].flatMap repC = repC r by simp]
  exact h1
end Go.Proofs.YticlacjpgjkhcaaGreatDoor

/- A table: a name's slot; a table in memory. -/
namespace Go.Proofs.YticlacjpgjkhcaaGreatDoor
open Go.ChangeShapes Go.WideShapes Go.ChangeAt Go.RowKit

/-- A name's number. -/
def fnvI (l : List UInt8) : Int := l.foldl (fun h b => bits .xor .u32 h ((b.toNat : Int) % 4294967296) * 16777619 % 4294967296) 2166136261
theorem fnv_snoc (l : List UInt8) (b : UInt8) : fnvI (l ++ [b]) = bits .xor .u32 (fnvI l) ((b.toNat : Int) % 4294967296) * 16777619 % 4294967296 := by simp [fnvI]
theorem fnv_range (l : List UInt8) : 0 ≤ fnvI l ∧ fnvI l < 4294967296 := by
  rcases List.eq_nil_or_concat l with rfl | ⟨L, b, rfl⟩
  · exact ⟨by decide, by decide⟩
  · rw [List.concat_eq_append, fnv_snoc]
    omega
/-- A name's slot. -/
def slotT (s : ByteArray) : Nat := ((fnvI (bl s)).tmod 8).toNat
theorem slot_lt (s : ByteArray) : slotT s < 8 := by
  have h := fnv_range (bl s)
  have h1 := Int.tmod_nonneg 8 h.1
  have h2 := Int.tmod_lt_of_pos (fnvI (bl s)) (b := 8) (by decide)
  unfold slotT
  omega
theorem slot_eq (s : ByteArray) : (fnvI (bl s)).tmod 8 = (slotT s : Int) := by
  have h1 := Int.tmod_nonneg 8 (fnv_range (bl s)).1
  unfold slotT
  omega
theorem place_num (s : ByteArray) : wrap64 ((fnvI (bl s)).tmod 8) = (slotT s : Int) := by
  rw [slot_eq]
  have := slot_lt s
  unfold wrap64
  omega
set_option maxRecDepth 100000 in
set_option maxHeartbeats 4000000 in
theorem hash_any (s : ByteArray) (hs : s.size ≤ 1000000) (w : World) : Calls Tryz.prog 242 #[.string s] w fun e w' => e = .returned (.int .u32 (fnvI (bl s))) ∧ w' = w := by
  go_enter Tryz.func242, Tryz.ntmps242
  go_wp2
  go_loopw [3, 7] (fun hv iv wr => ∃ i : Nat, i ≤ s.size ∧ hv = .int .u32 (fnvI ((bl s).take i)) ∧ iv = .int .i64 i ∧ wr = w) (fun _ iv _ => s.size - (intOf iv).toNat)
  case atStart => exact ⟨0, Nat.zero_le _, rfl, rfl, rfl⟩
  case round =>
    obtain ⟨i, hi, rfl, rfl, rfl⟩ := hrel
    by_cases hlt : i < s.size
    · have q1 : (i : Int) < (s.size : Int) := by omega
      have hb : (bl s)[i]? = some s[i] := by
        unfold bl
        rw [List.getElem?_eq_getElem (by simpa using hlt)]
        rfl
      have e := fnv_snoc ((bl s).take i) s[i]
      have e2 : (bl s).take (i + 1) = (bl s).take i ++ [s[i]] := by rw [List.take_add_one, hb]; rfl
      rw [← e2] at e
      have HE := Lib.hid e
      clear hb e e2
      generalize fnvI ((bl s).take i) = hv at HE ⊢
      go_wp2
      exact ⟨⟨i + 1, hlt, by rw [HE.out], by go_num, trivial⟩, by simp [intOf]; omega⟩
    · have q1 : ¬ (i : Int) < (s.size : Int) := by omega
      have e : (bl s).take i = bl s := List.take_of_length_le (by simp [bl]; omega)
      rw [e]
      go_wp2
      go_ret
      exact ⟨rfl, rfl⟩
set_option maxRecDepth 100000 in
set_option maxHeartbeats 4000000 in
theorem place_any (g : Nat) (s : ByteArray) (hs : s.size ≤ 1000000) (w : World) : Calls Tryz.prog 216 #[.slice (some ⟨g, 0, none⟩) 8 8, .string s] w fun e w' => e = .returned (.int .i64 (slotT s : Int)) ∧ w' = w := by
  have H := Lib.hid (hash_any s hs w)
  have HP := Lib.hid (place_num s)
  go_enter Tryz.func216, Tryz.ntmps216
  go_wp2_with (first | (go_at_call 242; (with_reducible refine (H.out).mono ?_); rintro e w1 ⟨rfl, rfl⟩))
  rw [HP.out]
  go_ret
  exact ⟨by simp, rfl⟩
end Go.Proofs.YticlacjpgjkhcaaGreatDoor

/- Rows of texts of the call's own: append. -/
namespace Go.Proofs.YticlacjpgjkhcaaGreatDoor
open Go.ChangeShapes Go.WideShapes Go.ChangeAt Go.RowKit

/-- A row of texts of the call's own. -/
def TO (w : World) (c : Nat) (v : Value) (xs : List ByteArray) : Prop := w.ownsRow c 9 1 v xs.length (xs.map Value.string)
theorem TO.ssl {w : World} {c : Nat} {v : Value} {xs : List ByteArray} (h : TO w c v xs) : SSl w v xs := by
  have h' := h
  unfold TO World.ownsRow at h'
  obtain ⟨_, ⟨rfl, h0⟩ | ⟨g, cap, cur, rfl, h1, h2, h3, h4, h5, h6⟩⟩ := h'
  · exact ⟨none, 0, by rw [h0], by omega, Nat.zero_le _, fun hne => absurd (List.length_eq_zero_iff.1 h0) hne⟩
  · refine ⟨_, cap, rfl, h3, h4, fun _ => ⟨g, 0, rfl, (Array.getElem?_eq_some_iff.1 h2).1, fun i s hi => ?_⟩⟩
    rw [Nat.zero_add]
    exact row_cell h i _ (by rw [List.getElem?_map, hi]; rfl)
theorem step_append_TO {ops : Array Oper} {o : Oper} {a : Act} {K : Act → World → Prop} {Q : Exit → Act → World → Prop} {E : Prop} (w : World) (hg : o.guard = none) (s x : Operand) (hop : o.op = Op.call { callee := Callee.builtin Builtin.append, args := #[s, x], argTypes := #[58, 58] })
    (c : Nat) (v : Value) (xs : List ByteArray) (N : Nat) (hN : xs.length = N) (hs : a.eval s = v) (h : TO w c v xs) (ys : List ByteArray) (M : Nat) (hM : ys.length = M) (b : Nat) (hx : a.eval x = .slice (some ⟨b, 0, none⟩) M M) (hb : w.heap[b]? = some (.cells (ys.map Value.string).toArray 9)) (hp : 0 < M) (hl : N + M ≤ 100000) (hc : c ≤ w.heap.size)
    (k : ∀ g cap w', TO w' c (.slice (some ⟨g, 0, none⟩) (N + M) cap) (xs ++ ys) → w.grownBy w' v.ownBlock → (v.ownBlock = some g ∨ g = w.heap.size) → K (a.put o.dst (.slice (some ⟨g, 0, none⟩) (N + M) cap)) w') :
    if Region.wanted o (yielded ops a.tmps) = true then Oper.wp Tryz.prog o a w K Q else E := by
  subst hN
  subst hM
  obtain ⟨i0, hi, hz0, hz1, hz2⟩ := info_parts i9
  refine step_append_lies w hg s x 58 hop c 9 i0 _ 1 16 Tryz.underlying58 hi hz0 hz1 hz2 rfl (by decide) v xs.length _ hs h ⟨b, 0, none⟩ ys.length ys.length (ys.map Value.string) hx (by simp) (news_blk hb) (map_one ys) hp (by unfold maxLen; omega) (by omega) hc _ rfl ?_
  intro g cap w' h1 h2 h3 _
  refine k g cap w' ?_ h2 h3
  unfold TO
  rw [List.length_append, List.map_append]
  exact h1
theorem append_TO {ops : Array Oper} {rest : List Oper} {o : Oper} {a : Act} {Q : Exit → Act → World → Prop} (w : World) (hg : o.guard = none) (s x : Operand) (hop : o.op = Op.call { callee := Callee.builtin Builtin.append, args := #[s, x], argTypes := #[58, 58] })
    (c : Nat) (v : Value) (xs : List ByteArray) (N : Nat) (hN : xs.length = N) (hs : a.eval s = v) (h : TO w c v xs) (ys : List ByteArray) (M : Nat) (hM : ys.length = M) (b : Nat) (hx : a.eval x = .slice (some ⟨b, 0, none⟩) M M) (hb : w.heap[b]? = some (.cells (ys.map Value.string).toArray 9)) (hp : 0 < M) (hl : N + M ≤ 100000) (hc : c ≤ w.heap.size)
    (k : ∀ g cap w', TO w' c (.slice (some ⟨g, 0, none⟩) (N + M) cap) (xs ++ ys) → w.grownBy w' v.ownBlock → (v.ownBlock = some g ∨ g = w.heap.size) → wpList Tryz.prog ops Q rest (a.put o.dst (.slice (some ⟨g, 0, none⟩) (N + M) cap)) w') : wpList Tryz.prog ops Q (o :: rest) a w := by
  subst hN
  subst hM
  obtain ⟨i0, hi, hz0, hz1, hz2⟩ := info_parts i9
  refine wpList_append_lies w hg s x 58 hop c 9 i0 _ 1 16 Tryz.underlying58 hi hz0 hz1 hz2 rfl (by decide) v xs.length _ hs h ⟨b, 0, none⟩ ys.length ys.length (ys.map Value.string) hx (by simp) (news_blk hb) (map_one ys) hp (by unfold maxLen; omega) (by omega) hc _ rfl ?_
  intro g cap w' h1 h2 h3 _
  refine k g cap w' ?_ h2 h3
  unfold TO
  rw [List.length_append, List.map_append]
  exact h1
theorem TO.lit (X : World) (xs : List ByteArray) (b : Nat) (c : Nat) (n : Nat) (hn : xs.length = n) (hm : n ≤ 1000) (hc : c ≤ b) (h : X.heap[b]? = some (.cells (xs.map Value.string).toArray 9)) : TO X c (.slice (some ⟨b, 0, none⟩) n n) xs := by
  subst hn
  unfold TO World.ownsRow
  refine ⟨by simp, .inr ⟨b, xs.length, _, rfl, hc, h, Nat.le_refl _, by unfold maxLen; omega, by simp, ?_⟩⟩
  exact List.take_of_length_le (by simp)
end Go.Proofs.YticlacjpgjkhcaaGreatDoor

/- A job's Turn of an entry of any kind but a text: new, turned, not turned, without elements. -/
namespace Go.Proofs.YticlacjpgjkhcaaGreatDoor
open Go.ChangeShapes Go.WideShapes Go.ChangeAt Go.RowKit

set_option maxRecDepth 100000 in
set_option maxHeartbeats 4000000 in
theorem TurnC_new (j bS : Nat) (now : Int) (vA : Value) (A : Option Addr) (n cap : Nat) (es : List (List Value)) (c : Nat) (w : World) (hj : JB w j bS now vA (.slice A n cap)) (hE : EFC w c (.slice A n cap) es) (hc : c ≤ w.heap.size) (hl : es.length ≤ 100000) (k : ByteArray) (kd : Int) (t : ByteArray) (A3 A4 A5 A6 : Option Addr) (an3 ac3 an4 ac4 an5 ac5 an6 ac6 : Nat) (u : Int) (hkd : ¬ kd = 1) (hG : ∀ X, Below w.heap.size w X → Calls Tryz.prog 181 #[.pointer (some ⟨j, 0, none⟩), .string k] X fun e w' => e = .returned (.tuple #[.agg #[.string k, .int .i64 0, .string ⟨#[]⟩, .slice none 0 0, .slice none 0 0, .slice none 0 0, .slice none 0 0, .int .i64 0], .bool false]) ∧ Below X.heap.size X w') (m : Int) (hL : ∀ X, Below w.heap.size w X → Calls Tryz.prog 165 #[.agg #[.int .i64 kd, .string t, .slice A3 an3 ac3, .slice A4 an4 ac4, .slice A5 an5 ac5, .slice A6 an6 ac6]] X fun e w' => e = .returned (.int .i64 m) ∧ Below X.heap.size X w') (hm : ¬ m = 0) (hM : ∀ X, Below w.heap.size w X → Calls Tryz.prog 51 #[.agg #[.string k, .int .i64 kd, .string t, .slice A3 an3 ac3, .slice A4 an4 ac4, .slice A5 an5 ac5, .slice A6 an6 ac6, .int .i64 u]] X fun e w' => e = .returned (.bool true) ∧ Below X.heap.size X w') : Calls Tryz.prog 161 #[.pointer (some ⟨j, 0, none⟩), .agg #[.string k, .int .i64 kd, .string t, .slice A3 an3 ac3, .slice A4 an4 ac4, .slice A5 an5 ac5, .slice A6 an6 ac6, .int .i64 u]] w fun e w' => e = .returned (.tuple #[]) ∧ JE w' j bS now vA c (es ++ [[.string k, .int .i64 kd, .string t, .slice A3 an3 ac3, .slice A4 an4 ac4, .slice A5 an5 ac5, .slice A6 an6 ac6, .int .i64 u]]) ∧ Kp w.heap.size (fun i => i ≠ j ∧ (Value.slice A n cap).ownBlock ≠ some i) w w' := by
  have bx := Lib.hid (alloc_old (w := w) (o := .cells #[.string k, .int .i64 kd, .string t, .slice A3 an3 ac3, .slice A4 an4 ac4, .slice A5 an5 ac5, .slice A6 an6 ac6, .int .i64 u] 66))
  have hp := Lib.hid (heap_alloc_new w (.cells #[.string k, .int .i64 kd, .string t, .slice A3 an3 ac3, .slice A4 an4 ac4, .slice A5 an5 ac5, .slice A6 an6 ac6, .int .i64 u] 66))
  have G := Lib.hid hG
  have LN := Lib.hid hL
  have k1 : (kd == 1) = false := by rw [beq_eq_false_iff_ne]; exact hkd
  have PP := Lib.hid (fun X (hb : Below w.heap.size w X) => PutC j bS now vA A n cap es c X (hj.below hb) (hE.below hb) (Nat.le_trans hc (Below.size hb)) hl k kd t A3 A4 A5 A6 an3 ac3 an4 ac4 an5 ac5 an6 ac6 u (fun Y hY => hM Y (hb.trans (hY.mono (Below.size hb)))))
  have m1 : (m == 0) = false := by rw [beq_eq_false_iff_ne]; exact hm
  clear hE hj hG hL hM
  go_enter Tryz.func161, Tryz.ntmps161
  go_wp2_with (first | (go_at_call 181; (with_reducible refine (G.out _ bx.out).mono ?_); rintro e w1 ⟨rfl, h1⟩; have B1 := Lib.hid h1; clear h1; refine Hid.out ?_))
  refine Lib.hid ?_
  have BW := Lib.hid (bx.out.trans (B1.out.mono (Below.size bx.out)))
  have BX := Lib.hid (show Below w.heap.size w (w1.alloc (.cells #[.string k, .int .i64 0, .string ⟨#[]⟩, .slice none 0 0, .slice none 0 0, .slice none 0 0, .slice none 0 0, .int .i64 0] 66)) from BW.out.trans (alloc_old.mono (Below.size BW.out)))
  have wp := Lib.hid (heap_alloc_new w1 (.cells #[.string k, .int .i64 0, .string ⟨#[]⟩, .slice none 0 0, .slice none 0 0, .slice none 0 0, .slice none 0 0, .int .i64 0] 66))
  obtain ⟨⟨p0, p1, p2, p3, p4, p5, p6, p7⟩, _, pz⟩ := cells8 (blk_below hp.out B1.out)
  have pz2 : w.heap.size < w1.heap.size := pz
  go_wp2_with (first | (go_at_call 165; (with_reducible refine (LN.out _ BX.out).mono ?_); rintro e w2 ⟨rfl, h2⟩; have B2 := Lib.hid (belT BX.out h2); obtain ⟨⟨r0, r1, r2, r3, r4, r5, r6, r7⟩, _, rz⟩ := cells8 (blk_below (blk_below hp.out B1.out) (belA (Below.refl w1.heap.size w1) h2)); obtain ⟨⟨q0, q1, q2, q3, q4, q5, q6, q7⟩, _, qz⟩ := cells8 (blk_below wp.out h2); have D2 := Lib.hid h2; clear h2) | (go_at_call 212; have BB := Lib.hid B2.out; (with_reducible refine (PP.out _ B2.out).mono ?_); rintro e w3 ⟨rfl, hR, hK⟩))
  go_end0
  exact ⟨rfl, hR, (Kp.of BB.out).trans (hK.mono (Below.size BB.out) (fun _ h => h))⟩
set_option maxRecDepth 100000 in
set_option maxHeartbeats 4000000 in
theorem TurnC_diff (j bS : Nat) (now : Int) (vA : Value) (A : Option Addr) (n cap : Nat) (es : List (List Value)) (c : Nat) (w : World) (hj : JB w j bS now vA (.slice A n cap)) (hE : EFC w c (.slice A n cap) es) (hc : c ≤ w.heap.size) (hl : es.length ≤ 100000) (k : ByteArray) (kd : Int) (t : ByteArray) (A3 A4 A5 A6 : Option Addr) (an3 ac3 an4 ac4 an5 ac5 an6 ac6 : Nat) (u : Int) (hkd : ¬ kd = 1) (hG : ∀ X, Below w.heap.size w X → Calls Tryz.prog 181 #[.pointer (some ⟨j, 0, none⟩), .string k] X fun e w' => ∃ kd0 t0 Y3 Y4 Y5 Y6 yn3 yc3 yn4 yc4 yn5 yc5 yn6 yc6, e = .returned (.tuple #[.agg #[.string k, .int .i64 kd0, .string t0, .slice Y3 yn3 yc3, .slice Y4 yn4 yc4, .slice Y5 yn5 yc5, .slice Y6 yn6 yc6, .int .i64 u], .bool true]) ∧ Below X.heap.size X w' ∧ ∀ Y, Below w'.heap.size w' Y → Calls Tryz.prog 211 #[.agg #[.int .i64 kd0, .string t0, .slice Y3 yn3 yc3, .slice Y4 yn4 yc4, .slice Y5 yn5 yc5, .slice Y6 yn6 yc6], .agg #[.int .i64 kd, .string t, .slice A3 an3 ac3, .slice A4 an4 ac4, .slice A5 an5 ac5, .slice A6 an6 ac6]] Y fun e w' => e = .returned (.bool false) ∧ Below Y.heap.size Y w') (m : Int) (hL : ∀ X, Below w.heap.size w X → Calls Tryz.prog 165 #[.agg #[.int .i64 kd, .string t, .slice A3 an3 ac3, .slice A4 an4 ac4, .slice A5 an5 ac5, .slice A6 an6 ac6]] X fun e w' => e = .returned (.int .i64 m) ∧ Below X.heap.size X w') (hm : ¬ m = 0) (hM : ∀ X, Below w.heap.size w X → Calls Tryz.prog 51 #[.agg #[.string k, .int .i64 kd, .string t, .slice A3 an3 ac3, .slice A4 an4 ac4, .slice A5 an5 ac5, .slice A6 an6 ac6, .int .i64 u]] X fun e w' => e = .returned (.bool true) ∧ Below X.heap.size X w') : Calls Tryz.prog 161 #[.pointer (some ⟨j, 0, none⟩), .agg #[.string k, .int .i64 kd, .string t, .slice A3 an3 ac3, .slice A4 an4 ac4, .slice A5 an5 ac5, .slice A6 an6 ac6, .int .i64 u]] w fun e w' => e = .returned (.tuple #[]) ∧ JE w' j bS now vA c (es ++ [[.string k, .int .i64 kd, .string t, .slice A3 an3 ac3, .slice A4 an4 ac4, .slice A5 an5 ac5, .slice A6 an6 ac6, .int .i64 u]]) ∧ Kp w.heap.size (fun i => i ≠ j ∧ (Value.slice A n cap).ownBlock ≠ some i) w w' := by
  have bx := Lib.hid (alloc_old (w := w) (o := .cells #[.string k, .int .i64 kd, .string t, .slice A3 an3 ac3, .slice A4 an4 ac4, .slice A5 an5 ac5, .slice A6 an6 ac6, .int .i64 u] 66))
  have hp := Lib.hid (heap_alloc_new w (.cells #[.string k, .int .i64 kd, .string t, .slice A3 an3 ac3, .slice A4 an4 ac4, .slice A5 an5 ac5, .slice A6 an6 ac6, .int .i64 u] 66))
  have G := Lib.hid hG
  have LN := Lib.hid hL
  have k1 : (kd == 1) = false := by rw [beq_eq_false_iff_ne]; exact hkd
  have PP := Lib.hid (fun X (hb : Below w.heap.size w X) => PutC j bS now vA A n cap es c X (hj.below hb) (hE.below hb) (Nat.le_trans hc (Below.size hb)) hl k kd t A3 A4 A5 A6 an3 ac3 an4 ac4 an5 ac5 an6 ac6 u (fun Y hY => hM Y (hb.trans (hY.mono (Below.size hb)))))
  have m1 : (m == 0) = false := by rw [beq_eq_false_iff_ne]; exact hm
  clear hE hj hM hG hL
  go_enter Tryz.func161, Tryz.ntmps161
  go_wp2_with (first | (go_at_call 181; (with_reducible refine (G.out _ bx.out).mono ?_); rintro e w1 ⟨kd0, t0, Y3, Y4, Y5, Y6, yn3, yc3, yn4, yc4, yn5, yc5, yn6, yc6, rfl, h1, hSM⟩; have B1 := Lib.hid h1; have SM := Lib.hid hSM; clear hSM; clear h1; refine Hid.out ?_))
  refine Lib.hid ?_
  have BW := Lib.hid (bx.out.trans (B1.out.mono (Below.size bx.out)))
  have BX := Lib.hid (show Below w.heap.size w (w1.alloc (.cells #[.string k, .int .i64 kd0, .string t0, .slice Y3 yn3 yc3, .slice Y4 yn4 yc4, .slice Y5 yn5 yc5, .slice Y6 yn6 yc6, .int .i64 u] 66)) from BW.out.trans (alloc_old.mono (Below.size BW.out)))
  have wp := Lib.hid (heap_alloc_new w1 (.cells #[.string k, .int .i64 kd0, .string t0, .slice Y3 yn3 yc3, .slice Y4 yn4 yc4, .slice Y5 yn5 yc5, .slice Y6 yn6 yc6, .int .i64 u] 66))
  obtain ⟨⟨p0, p1, p2, p3, p4, p5, p6, p7⟩, _, pz⟩ := cells8 (blk_below hp.out B1.out)
  have pz2 : w.heap.size < w1.heap.size := pz
  go_wp2_with (first | (go_at_call 165; (with_reducible refine (LN.out _ BX.out).mono ?_); rintro e w2 ⟨rfl, h2⟩; have B2 := Lib.hid (belT BX.out h2); obtain ⟨⟨r0, r1, r2, r3, r4, r5, r6, r7⟩, _, rz⟩ := cells8 (blk_below (blk_below hp.out B1.out) (belA (Below.refl w1.heap.size w1) h2)); obtain ⟨⟨q0, q1, q2, q3, q4, q5, q6, q7⟩, _, qz⟩ := cells8 (blk_below wp.out h2); have D2 := Lib.hid h2; clear h2) | (go_at_call 211; (with_reducible refine (SM.out _ (belA (Below.refl w1.heap.size w1) D2.out)).mono ?_); rintro e w3 ⟨rfl, h3⟩; have B3 := Lib.hid (belT B2.out h3); obtain ⟨⟨s0, s1, s2, s3, s4, s5, s6, s7⟩, _, sz⟩ := cells8 (blk_below (blk_below (blk_below hp.out B1.out) (belA (Below.refl w1.heap.size w1) D2.out)) h3); clear h3) | (go_at_call 212; have BB := Lib.hid B3.out; (with_reducible refine (PP.out _ B3.out).mono ?_); rintro e w4 ⟨rfl, hR, hK⟩))
  go_end0
  exact ⟨rfl, hR, (Kp.of BB.out).trans (hK.mono (Below.size BB.out) (fun _ h => h))⟩
set_option maxRecDepth 100000 in
set_option maxHeartbeats 4000000 in
theorem TurnC_same (j : Nat) (w : World) (k : ByteArray) (kd : Int) (t : ByteArray) (A3 A4 A5 A6 : Option Addr) (an3 ac3 an4 ac4 an5 ac5 an6 ac6 : Nat) (u : Int) (hkd : ¬ kd = 1) (hG : ∀ X, Below w.heap.size w X → Calls Tryz.prog 181 #[.pointer (some ⟨j, 0, none⟩), .string k] X fun e w' => ∃ kd0 t0 Y3 Y4 Y5 Y6 yn3 yc3 yn4 yc4 yn5 yc5 yn6 yc6, e = .returned (.tuple #[.agg #[.string k, .int .i64 kd0, .string t0, .slice Y3 yn3 yc3, .slice Y4 yn4 yc4, .slice Y5 yn5 yc5, .slice Y6 yn6 yc6, .int .i64 u], .bool true]) ∧ Below X.heap.size X w' ∧ ∀ Y, Below w'.heap.size w' Y → Calls Tryz.prog 211 #[.agg #[.int .i64 kd0, .string t0, .slice Y3 yn3 yc3, .slice Y4 yn4 yc4, .slice Y5 yn5 yc5, .slice Y6 yn6 yc6], .agg #[.int .i64 kd, .string t, .slice A3 an3 ac3, .slice A4 an4 ac4, .slice A5 an5 ac5, .slice A6 an6 ac6]] Y fun e w' => e = .returned (.bool true) ∧ Below Y.heap.size Y w') (m : Int) (hL : ∀ X, Below w.heap.size w X → Calls Tryz.prog 165 #[.agg #[.int .i64 kd, .string t, .slice A3 an3 ac3, .slice A4 an4 ac4, .slice A5 an5 ac5, .slice A6 an6 ac6]] X fun e w' => e = .returned (.int .i64 m) ∧ Below X.heap.size X w') (hm : ¬ m = 0) : Calls Tryz.prog 161 #[.pointer (some ⟨j, 0, none⟩), .agg #[.string k, .int .i64 kd, .string t, .slice A3 an3 ac3, .slice A4 an4 ac4, .slice A5 an5 ac5, .slice A6 an6 ac6, .int .i64 u]] w fun e w' => e = .returned (.tuple #[]) ∧ Below w.heap.size w w' := by
  have bx := Lib.hid (alloc_old (w := w) (o := .cells #[.string k, .int .i64 kd, .string t, .slice A3 an3 ac3, .slice A4 an4 ac4, .slice A5 an5 ac5, .slice A6 an6 ac6, .int .i64 u] 66))
  have hp := Lib.hid (heap_alloc_new w (.cells #[.string k, .int .i64 kd, .string t, .slice A3 an3 ac3, .slice A4 an4 ac4, .slice A5 an5 ac5, .slice A6 an6 ac6, .int .i64 u] 66))
  have G := Lib.hid hG
  have LN := Lib.hid hL
  have k1 : (kd == 1) = false := by rw [beq_eq_false_iff_ne]; exact hkd
  have m1 : (m == 0) = false := by rw [beq_eq_false_iff_ne]; exact hm
  clear hG hL
  go_enter Tryz.func161, Tryz.ntmps161
  go_wp2_with (first | (go_at_call 181; (with_reducible refine (G.out _ bx.out).mono ?_); rintro e w1 ⟨kd0, t0, Y3, Y4, Y5, Y6, yn3, yc3, yn4, yc4, yn5, yc5, yn6, yc6, rfl, h1, hSM⟩; have B1 := Lib.hid h1; have SM := Lib.hid hSM; clear hSM; clear h1; refine Hid.out ?_))
  refine Lib.hid ?_
  have BW := Lib.hid (bx.out.trans (B1.out.mono (Below.size bx.out)))
  have BX := Lib.hid (show Below w.heap.size w (w1.alloc (.cells #[.string k, .int .i64 kd0, .string t0, .slice Y3 yn3 yc3, .slice Y4 yn4 yc4, .slice Y5 yn5 yc5, .slice Y6 yn6 yc6, .int .i64 u] 66)) from BW.out.trans (alloc_old.mono (Below.size BW.out)))
  have wp := Lib.hid (heap_alloc_new w1 (.cells #[.string k, .int .i64 kd0, .string t0, .slice Y3 yn3 yc3, .slice Y4 yn4 yc4, .slice Y5 yn5 yc5, .slice Y6 yn6 yc6, .int .i64 u] 66))
  obtain ⟨⟨p0, p1, p2, p3, p4, p5, p6, p7⟩, _, pz⟩ := cells8 (blk_below hp.out B1.out)
  have pz2 : w.heap.size < w1.heap.size := pz
  go_wp2_with (first | (go_at_call 165; (with_reducible refine (LN.out _ BX.out).mono ?_); rintro e w2 ⟨rfl, h2⟩; have B2 := Lib.hid (belT BX.out h2); obtain ⟨⟨r0, r1, r2, r3, r4, r5, r6, r7⟩, _, rz⟩ := cells8 (blk_below (blk_below hp.out B1.out) (belA (Below.refl w1.heap.size w1) h2)); obtain ⟨⟨q0, q1, q2, q3, q4, q5, q6, q7⟩, _, qz⟩ := cells8 (blk_below wp.out h2); have D2 := Lib.hid h2; clear h2) | (go_at_call 211; (with_reducible refine (SM.out _ (belA (Below.refl w1.heap.size w1) D2.out)).mono ?_); rintro e w3 ⟨rfl, h3⟩; have B3 := Lib.hid (belT B2.out h3); obtain ⟨⟨s0, s1, s2, s3, s4, s5, s6, s7⟩, _, sz⟩ := cells8 (blk_below (blk_below (blk_below hp.out B1.out) (belA (Below.refl w1.heap.size w1) D2.out)) h3); clear h3))
  go_end0
  exact ⟨rfl, B3.out⟩
set_option maxRecDepth 100000 in
set_option maxHeartbeats 4000000 in
theorem TurnC_gone (j bS : Nat) (now : Int) (vA : Value) (A : Option Addr) (n cap : Nat) (es : List (List Value)) (c : Nat) (w : World) (hj : JB w j bS now vA (.slice A n cap)) (hE : EFC w c (.slice A n cap) es) (hc : c ≤ w.heap.size) (hl : es.length ≤ 100000) (k : ByteArray) (kd : Int) (t : ByteArray) (A3 A4 A5 A6 : Option Addr) (an3 ac3 an4 ac4 an5 ac5 an6 ac6 : Nat) (u : Int) (hkd : ¬ kd = 1) (hG : ∀ X, Below w.heap.size w X → Calls Tryz.prog 181 #[.pointer (some ⟨j, 0, none⟩), .string k] X fun e w' => ∃ kd0 t0 u0 Y3 Y4 Y5 Y6 yn3 yc3 yn4 yc4 yn5 yc5 yn6 yc6, e = .returned (.tuple #[.agg #[.string k, .int .i64 kd0, .string t0, .slice Y3 yn3 yc3, .slice Y4 yn4 yc4, .slice Y5 yn5 yc5, .slice Y6 yn6 yc6, .int .i64 u0], .bool true]) ∧ Below X.heap.size X w') (m : Int) (hL : ∀ X, Below w.heap.size w X → Calls Tryz.prog 165 #[.agg #[.int .i64 kd, .string t, .slice A3 an3 ac3, .slice A4 an4 ac4, .slice A5 an5 ac5, .slice A6 an6 ac6]] X fun e w' => e = .returned (.int .i64 m) ∧ Below X.heap.size X w') (hm : m = 0) : Calls Tryz.prog 161 #[.pointer (some ⟨j, 0, none⟩), .agg #[.string k, .int .i64 kd, .string t, .slice A3 an3 ac3, .slice A4 an4 ac4, .slice A5 an5 ac5, .slice A6 an6 ac6, .int .i64 u]] w fun e w' => e = .returned (.tuple #[]) ∧ JE w' j bS now vA c (es ++ [[.string k, .int .i64 0, .string ⟨#[]⟩, .slice none 0 0, .slice none 0 0, .slice none 0 0, .slice none 0 0, .int .i64 0]]) ∧ Kp w.heap.size (fun i => i ≠ j ∧ (Value.slice A n cap).ownBlock ≠ some i) w w' := by
  subst hm
  have bx := Lib.hid (alloc_old (w := w) (o := .cells #[.string k, .int .i64 kd, .string t, .slice A3 an3 ac3, .slice A4 an4 ac4, .slice A5 an5 ac5, .slice A6 an6 ac6, .int .i64 u] 66))
  have hp := Lib.hid (heap_alloc_new w (.cells #[.string k, .int .i64 kd, .string t, .slice A3 an3 ac3, .slice A4 an4 ac4, .slice A5 an5 ac5, .slice A6 an6 ac6, .int .i64 u] 66))
  have G := Lib.hid hG
  have LN := Lib.hid hL
  have k1 : (kd == 1) = false := by rw [beq_eq_false_iff_ne]; exact hkd
  have PP := Lib.hid (fun X (hb : Below w.heap.size w X) => TakeC j bS now vA A n cap es c X (hj.below hb) (hE.below hb) (Nat.le_trans hc (Below.size hb)) hl k)
  clear hE hj hG hL
  go_enter Tryz.func161, Tryz.ntmps161
  go_wp2_with (first | (go_at_call 181; (with_reducible refine (G.out _ bx.out).mono ?_); rintro e w1 ⟨kd0, t0, u0, Y3, Y4, Y5, Y6, yn3, yc3, yn4, yc4, yn5, yc5, yn6, yc6, rfl, h1⟩; have B1 := Lib.hid h1; clear h1; refine Hid.out ?_))
  refine Lib.hid ?_
  have BW := Lib.hid (bx.out.trans (B1.out.mono (Below.size bx.out)))
  have BX := Lib.hid (show Below w.heap.size w (w1.alloc (.cells #[.string k, .int .i64 kd0, .string t0, .slice Y3 yn3 yc3, .slice Y4 yn4 yc4, .slice Y5 yn5 yc5, .slice Y6 yn6 yc6, .int .i64 u0] 66)) from BW.out.trans (alloc_old.mono (Below.size BW.out)))
  have wp := Lib.hid (heap_alloc_new w1 (.cells #[.string k, .int .i64 kd0, .string t0, .slice Y3 yn3 yc3, .slice Y4 yn4 yc4, .slice Y5 yn5 yc5, .slice Y6 yn6 yc6, .int .i64 u0] 66))
  obtain ⟨⟨p0, p1, p2, p3, p4, p5, p6, p7⟩, _, pz⟩ := cells8 (blk_below hp.out B1.out)
  have pz2 : w.heap.size < w1.heap.size := pz
  go_wp2_with (first | (go_at_call 165; (with_reducible refine (LN.out _ BX.out).mono ?_); rintro e w2 ⟨rfl, h2⟩; have B2 := Lib.hid (belT BX.out h2); obtain ⟨⟨r0, r1, r2, r3, r4, r5, r6, r7⟩, _, rz⟩ := cells8 (blk_below (blk_below hp.out B1.out) (belA (Below.refl w1.heap.size w1) h2)); obtain ⟨⟨q0, q1, q2, q3, q4, q5, q6, q7⟩, _, qz⟩ := cells8 (blk_below wp.out h2); have D2 := Lib.hid h2; clear h2) | (go_at_call 210; have BB := Lib.hid B2.out; (with_reducible refine (PP.out _ B2.out).mono ?_); rintro e w3 ⟨rfl, hR, hK⟩))
  go_end0
  exact ⟨rfl, hR, (Kp.of BB.out).trans (hK.mono (Below.size BB.out) (fun _ h => h))⟩
set_option maxRecDepth 100000 in
set_option maxHeartbeats 4000000 in
theorem TurnC_none (j : Nat) (w : World) (k : ByteArray) (kd : Int) (t : ByteArray) (A3 A4 A5 A6 : Option Addr) (an3 ac3 an4 ac4 an5 ac5 an6 ac6 : Nat) (u : Int) (hkd : ¬ kd = 1) (hG : ∀ X, Below w.heap.size w X → Calls Tryz.prog 181 #[.pointer (some ⟨j, 0, none⟩), .string k] X fun e w' => e = .returned (.tuple #[.agg #[.string k, .int .i64 0, .string ⟨#[]⟩, .slice none 0 0, .slice none 0 0, .slice none 0 0, .slice none 0 0, .int .i64 0], .bool false]) ∧ Below X.heap.size X w') (m : Int) (hL : ∀ X, Below w.heap.size w X → Calls Tryz.prog 165 #[.agg #[.int .i64 kd, .string t, .slice A3 an3 ac3, .slice A4 an4 ac4, .slice A5 an5 ac5, .slice A6 an6 ac6]] X fun e w' => e = .returned (.int .i64 m) ∧ Below X.heap.size X w') (hm : m = 0) : Calls Tryz.prog 161 #[.pointer (some ⟨j, 0, none⟩), .agg #[.string k, .int .i64 kd, .string t, .slice A3 an3 ac3, .slice A4 an4 ac4, .slice A5 an5 ac5, .slice A6 an6 ac6, .int .i64 u]] w fun e w' => e = .returned (.tuple #[]) ∧ Below w.heap.size w w' := by
  subst hm
  have bx := Lib.hid (alloc_old (w := w) (o := .cells #[.string k, .int .i64 kd, .string t, .slice A3 an3 ac3, .slice A4 an4 ac4, .slice A5 an5 ac5, .slice A6 an6 ac6, .int .i64 u] 66))
  have hp := Lib.hid (heap_alloc_new w (.cells #[.string k, .int .i64 kd, .string t, .slice A3 an3 ac3, .slice A4 an4 ac4, .slice A5 an5 ac5, .slice A6 an6 ac6, .int .i64 u] 66))
  have G := Lib.hid hG
  have LN := Lib.hid hL
  have k1 : (kd == 1) = false := by rw [beq_eq_false_iff_ne]; exact hkd
  clear hG hL
  go_enter Tryz.func161, Tryz.ntmps161
  go_wp2_with (first | (go_at_call 181; (with_reducible refine (G.out _ bx.out).mono ?_); rintro e w1 ⟨rfl, h1⟩; have B1 := Lib.hid h1; clear h1; refine Hid.out ?_))
  refine Lib.hid ?_
  have BW := Lib.hid (bx.out.trans (B1.out.mono (Below.size bx.out)))
  have BX := Lib.hid (show Below w.heap.size w (w1.alloc (.cells #[.string k, .int .i64 0, .string ⟨#[]⟩, .slice none 0 0, .slice none 0 0, .slice none 0 0, .slice none 0 0, .int .i64 0] 66)) from BW.out.trans (alloc_old.mono (Below.size BW.out)))
  have wp := Lib.hid (heap_alloc_new w1 (.cells #[.string k, .int .i64 0, .string ⟨#[]⟩, .slice none 0 0, .slice none 0 0, .slice none 0 0, .slice none 0 0, .int .i64 0] 66))
  obtain ⟨⟨p0, p1, p2, p3, p4, p5, p6, p7⟩, _, pz⟩ := cells8 (blk_below hp.out B1.out)
  have pz2 : w.heap.size < w1.heap.size := pz
  go_wp2_with (first | (go_at_call 165; (with_reducible refine (LN.out _ BX.out).mono ?_); rintro e w2 ⟨rfl, h2⟩; have B2 := Lib.hid (belT BX.out h2); obtain ⟨⟨r0, r1, r2, r3, r4, r5, r6, r7⟩, _, rz⟩ := cells8 (blk_below (blk_below hp.out B1.out) (belA (Below.refl w1.heap.size w1) h2)); obtain ⟨⟨q0, q1, q2, q3, q4, q5, q6, q7⟩, _, qz⟩ := cells8 (blk_below wp.out h2); have D2 := Lib.hid h2; clear h2))
  go_end0
  exact ⟨rfl, B2.out⟩
end Go.Proofs.YticlacjpgjkhcaaGreatDoor
