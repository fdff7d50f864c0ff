/- Texts joined: G20, G21, St31 -/
import Derived.Test.YticlacjpgjkhcaaGreatDoorQs19
import Derived.Test.YticlacjpgjkhcaaGreatDoorQs14
import Derived.Test.YticlacjpgjkhcaaGreatDoorQs27
import Derived.Test.YticlacjpgjkhcaaGreatDoorQs1
import Derived.Test.YticlacjpgjkhcaaGreatDoorQs4
import Derived.Test.YticlacjpgjkhcaaGreatDoorQs17
import Derived.Lib.AppendIntMem
import Derived.Lib.ItoaLen
import Derived.Lib.LaidTab
import Derived.Below
set_option linter.unusedVariables false
set_option linter.unusedSimpArgs false

/- A law's world over data of any kind; calls of a law's do with written arguments. -/
namespace Go.Proofs.YticlacjpgjkhcaaGreatDoor
open Go.ChangeShapes Go.WideShapes Go.ChangeAt Go.RowKit

theorem putD_same {α : Type} (k : ByteArray) (x : α) : ∀ (D : List (ByteArray × α)), findD k D = some x → putD k x D = D
  | [], h => by cases h
  | (y, v) :: r, h => by
    by_cases hy : y = k
    · simp [findD, hy] at h
      simp [putD, hy, h]
    · simp [findD, hy] at h
      simp [putD, hy, putD_same k x r h]
theorem delD_none {α : Type} (k : ByteArray) : ∀ (D : List (ByteArray × α)), findD k D = none → delD k D = D
  | [], _ => rfl
  | (y, v) :: r, h => by
    by_cases hy : y = k
    · simp [findD, hy] at h
    · simp [findD, hy] at h
      simp [delD, hy, delD_none k r h]
/-- A value laid: nothing takes the key away. -/
def setX {α : Type} (k : ByteArray) (xo : Option α) (D : List (ByteArray × α)) : List (ByteArray × α) := match xo with
  | none => delD k D
  | some x => putD k x D
theorem apply_eff {α : Type} [DecidableEq α] (k : ByteArray) (xo : Option α) (D : List (ByteArray × α)) : applyD (dEff k xo D) D = setX k xo D := by
  unfold dEff setX
  cases xo with
  | none =>
    cases hf : findD k D with
    | none => simp [applyD, delD_none k D hf]
    | some y => simp [applyD]
  | some x =>
    cases hf : findD k D with
    | none => simp [applyD]
    | some y =>
      by_cases hy : y = x
      · subst hy
        simp [applyD, putD_same k y D hf]
      · simp [applyD, hy]
theorem may_eff {α : Type} [DecidableEq α] (ok : ByteArray → α → Prop) (k : ByteArray) (xo : Option α) (D : List (ByteArray × α)) (hk : ∀ x, xo = some x → ok k x) (hl : D.length < 4096) : MayD ok (dEff k xo D) D := by
  unfold dEff
  cases xo with
  | none =>
    cases hf : findD k D with
    | none => trivial
    | some y => exact ⟨⟨y, hf⟩, trivial⟩
  | some x =>
    cases hf : findD k D with
    | none => exact ⟨hk x rfl, hl, trivial⟩
    | some y =>
      simp only
      split
      · trivial
      · exact ⟨hk x rfl, hl, trivial⟩
/-- A law's world: the space as data, and that nothing that was there has turned. -/
structure LD {α : Type} (K : Kd α) (ok : ByteArray → α → Prop) (W0 w : World) (bS bM : Nat) (D : List (ByteArray × α)) : Prop where
  sp : SPG K ok w bS bM D
  below : Below W0.heap.size W0 w
  hS : W0.heap.size ≤ bS
  hM : W0.heap.size ≤ bM
theorem LD.step {α : Type} {K : Kd α} {ok : ByteArray → α → Prop} {W0 w w' : World} {bS bM : Nat} {D D' : List (ByteArray × α)} (h : LD K ok W0 w bS bM D) (hs : SPG K ok w' bS bM D') (hK : Kp w.heap.size (fun i => i ≠ bS ∧ i ≠ bM) w w') : LD K ok W0 w' bS bM D' :=
  ⟨hs, h.below.trans (hK.below (fun k hk => ⟨Nat.lt_of_lt_of_le hk (Below.size h.below), by have := h.hS; omega, by have := h.hM; omega⟩)), h.hS, h.hM⟩
theorem LD.old {α : Type} {K : Kd α} {ok : ByteArray → α → Prop} {W0 w w' : World} {bS bM : Nat} {D : List (ByteArray × α)} (h : LD K ok W0 w bS bM D) (hb : Below w.heap.size w w') : LD K ok W0 w' bS bM D := h.step (SPG.below K ok h.sp hb) (.of hb)
theorem LD.mk0 {α : Type} (K : Kd α) (ok : ByteArray → α → Prop) {W0 w : World} {bS bM : Nat} (h : SP w bS bM []) (hb : Below W0.heap.size W0 w) (h1 : W0.heap.size ≤ bS) (h2 : W0.heap.size ≤ bM) : LD K ok W0 w bS bM [] := ⟨⟨⟨[], h, trivial⟩, fun _ h => by cases h⟩, hb, h1, h2⟩
theorem LD.ne {α : Type} {K : Kd α} {ok : ByteArray → α → Prop} {W0 w : World} {bS bM : Nat} {D : List (ByteArray × α)} (h : LD K ok W0 w bS bM D) {b : Nat} {cs : Array Value} {t : TypeId} (hb : w.heap[b]? = some (.cells cs t)) (ht : t ≠ 57) : b ≠ bS ∧ b ≠ bM := SPG.ne K ok h.sp hb ht
theorem LD.sp0 {α : Type} {K : Kd α} {ok : ByteArray → α → Prop} {W0 w : World} {bS bM : Nat} (h : LD K ok W0 w bS bM []) : SP w bS bM [] := by
  obtain ⟨⟨l, h1, h2⟩, _⟩ := h.sp
  cases l with
  | nil => exact h1
  | cons _ _ => exact h2.elim
theorem SSl.lit (X : World) (xs : List ByteArray) (hn : xs.length ≤ 1000) : SSl (X.alloc (.cells (xs.map Value.string).toArray 9)) (.slice (some ⟨X.heap.size, 0, none⟩) xs.length xs.length) xs := by
  refine ⟨_, _, rfl, Nat.le_refl _, by unfold maxLen; omega, fun _ => ⟨X.heap.size, 0, rfl, by simp, fun i s hs => ?_⟩⟩
  rw [cell_of_row _ X.heap.size _ _ 9 (0, 0) (heap_alloc_new X _), Nat.zero_add]
  simp [hs]
/-- What a law's do leaves: its reply, the space. -/
def DoP {α : Type} (K : Kd α) (ok : ByteArray → α → Prop) (W0 : World) (bS bM : Nat) (D' : List (ByteArray × α)) (k n : Int) (s : ByteArray) (R : Nat → World → Value → Prop) (w : World) (e : Ending) (w' : World) : Prop :=
  ∃ A m c, e = .returned (.agg #[.int .i64 k, .int .i64 n, .string s, .slice A m c]) ∧ R w.heap.size w' (.slice A m c) ∧ LD K ok W0 w' bS bM D' ∧ Kp w.heap.size (fun i => i ≠ bS ∧ i ≠ bM) w w'
/-- A do with written arguments. -/
theorem lit0 {α : Type} {K : Kd α} {ok : ByteArray → α → Prop} {G : FuncId} {W0 : World} {bS bM : Nat} {D D' D2 : List (ByteArray × α)} {k n n2 : Int} {s s2 : ByteArray} (X : World) (hL : LD K ok W0 X bS bM D) (xs : List ByteArray) (hn : xs.length ≤ 1000) (hd : ∀ vA w, LD K ok W0 w bS bM D → SSl w vA xs → Calls Tryz.prog G #[.pointer (some ⟨bS, 0, none⟩), vA] w (DoP K ok W0 bS bM D' k n s R0 w)) (hD : D' = D2) (hn2 : n = n2) (hs2 : s = s2) : Calls Tryz.prog G #[.pointer (some ⟨bS, 0, none⟩), .slice (some ⟨X.heap.size, 0, none⟩) xs.length xs.length] (X.alloc (.cells (xs.map Value.string).toArray 9)) fun e w' => e = .returned (.agg #[.int .i64 k, .int .i64 n2, .string s2, .slice none 0 0]) ∧ LD K ok W0 w' bS bM D2 ∧ Kp X.heap.size (fun i => i ≠ bS ∧ i ≠ bM) X w' := by
  subst hD hn2 hs2
  have hb : Below X.heap.size X (X.alloc (.cells (xs.map Value.string).toArray 9)) := alloc_old
  refine (hd _ _ (hL.old hb) (SSl.lit X xs hn)).mono ?_
  rintro e w' ⟨A, m, c, rfl, hR, h2, h3⟩
  cases hR
  exact ⟨rfl, h2, (Kp.of hb).trans (h3.mono (Below.size hb) (fun _ h => h))⟩
theorem litR {α : Type} {K : Kd α} {ok : ByteArray → α → Prop} {G : FuncId} {W0 : World} {bS bM : Nat} {D D' D2 : List (ByteArray × α)} {k n n2 : Int} {s : ByteArray} {R R2 : Nat → World → Value → Prop} (hK : RKeep R) (X : World) (hL : LD K ok W0 X bS bM D) (xs : List ByteArray) (hn : xs.length ≤ 1000) (hd : ∀ vA w, LD K ok W0 w bS bM D → SSl w vA xs → Calls Tryz.prog G #[.pointer (some ⟨bS, 0, none⟩), vA] w (DoP K ok W0 bS bM D' k n s R w)) (hD : D' = D2) (hn2 : n = n2) (hR2 : R = R2) : Calls Tryz.prog G #[.pointer (some ⟨bS, 0, none⟩), .slice (some ⟨X.heap.size, 0, none⟩) xs.length xs.length] (X.alloc (.cells (xs.map Value.string).toArray 9)) fun e w' => ∃ A m c, e = .returned (.agg #[.int .i64 k, .int .i64 n2, .string s, .slice A m c]) ∧ R2 X.heap.size w' (.slice A m c) ∧ LD K ok W0 w' bS bM D2 ∧ Kp X.heap.size (fun i => i ≠ bS ∧ i ≠ bM) X w' := by
  subst hD hn2 hR2
  have hb : Below X.heap.size X (X.alloc (.cells (xs.map Value.string).toArray 9)) := alloc_old
  refine (hd _ _ (hL.old hb) (SSl.lit X xs hn)).mono ?_
  rintro e w' ⟨A, m, c, rfl, hR, h2, h3⟩
  exact ⟨A, m, c, rfl, hK.mono _ _ _ _ hR (Below.size hb), h2, (Kp.of hb).trans (h3.mono (Below.size hb) (fun _ h => h))⟩
theorem RO.own {rs : List (Option ByteArray)} {c : Nat} {v : Value} {X : World} (h : RO rs c X v) : ∀ g, v.ownBlock = some g → ∃ cur, X.heap[g]? = some (.cells cur 29) := by
  intro g hg
  unfold RO World.ownsRow at h
  obtain ⟨_, ⟨rfl, _⟩ | ⟨g', cap, cur, rfl, _, h2, _⟩⟩ := h
  · cases hg
  · cases hg
    exact ⟨cur, h2⟩
theorem RO.below {rs : List (Option ByteArray)} {c : Nat} {v : Value} {X Y : World} (h : RO rs c X v) (hb : Below X.heap.size X Y) : RO rs c Y v := row_below h hb
theorem RO.keepD {α : Type} {K : Kd α} {ok : ByteArray → α → Prop} {rs : List (Option ByteArray)} {c : Nat} {v : Value} {X Y W0 : World} {bS bM : Nat} {D : List (ByteArray × α)} (hK : Kp X.heap.size (fun i => i ≠ bS ∧ i ≠ bM) X Y) (h : LD K ok W0 X bS bM D) (hb : RO rs c X v) : RO rs c Y v := row_kept hb (fun g hg => by
  obtain ⟨cur, hh⟩ := hb.own g hg
  exact hK.block g (lt_blk hh) (h.ne hh (by decide)))
theorem RO.form {rs : List (Option ByteArray)} {c : Nat} {w : World} {A : Option Addr} {m cc : Nat} (h : RO rs c w (.slice A m cc)) (hne : rs ≠ []) : m = rs.length ∧ (∃ g, A = some ⟨g, 0, none⟩) ∧ m ≤ cc := by
  unfold RO World.ownsRow at h
  obtain ⟨_, ⟨h1, h0⟩ | ⟨g, cap, cur, h1, _, _, h3, _⟩⟩ := h
  · exact absurd (List.eq_nil_of_length_eq_zero h0) hne
  · cases h1
    exact ⟨rfl, ⟨g, rfl⟩, h3⟩
theorem keepL {α : Type} {K : Kd α} {ok : ByteArray → α → Prop} {X Y W0 : World} {bS bM b : Nat} {D : List (ByteArray × α)} {cs : Array Value} {t : TypeId} (hK : Kp X.heap.size (fun i => i ≠ bS ∧ i ≠ bM) X Y) (h : LD K ok W0 X bS bM D) (hb : X.heap[b]? = some (.cells cs t)) (ht : t ≠ 57) : Y.heap[b]? = some (.cells cs t) :=
  (hK.block b (lt_blk hb) (h.ne hb ht)).trans hb
theorem take_at {α : Type} (rs : List α) (i : Nat) (r : α) (h : rs[i]? = some r) : rs.take (i + 1) = rs.take i ++ [r] := by
  rw [List.take_add_one, h]
  rfl
end Go.Proofs.YticlacjpgjkhcaaGreatDoor

/- Texts in a reply. -/
namespace Go.Proofs.YticlacjpgjkhcaaGreatDoor
open Go.ChangeShapes Go.WideShapes Go.ChangeAt Go.RowKit

theorem ARR (A : Option Addr) (n c : Nat) (w : World) : Calls Tryz.prog 127 #[.slice A n c] w fun e w' => e = .returned (.agg #[.int .i64 6, .int .i64 0, .string ⟨#[]⟩, .slice A n c]) ∧ Below w.heap.size w w' := by
  go_enter Tryz.func127, Tryz.ntmps127
  go_wp2
  exact bodyPost_ret (v := .agg #[.int .i64 6, .int .i64 0, .string ⟨#[]⟩, .slice A n c]) (by simp [results, Tryz.results127, go_sem]) rfl ⟨rfl, (Below.refl _ _).alloc (Nat.le_refl _) _⟩
set_option maxRecDepth 100000 in
set_option maxHeartbeats 8000000 in
theorem BULKS (v : Value) (zs : List ByteArray) (hn : zs.length ≤ 1000) (w : World) (hA : SSl w v zs) : Calls Tryz.prog 64 #[v] w fun e w' => ∃ A m c, e = .returned (.agg #[.int .i64 6, .int .i64 0, .string ⟨#[]⟩, .slice A m c]) ∧ RO (zs.map some) w.heap.size w' (.slice A m c) ∧ Below w.heap.size w w' := by
  obtain ⟨aA, cap, rfl, p1, p2, p3⟩ := hA
  have A1 := Lib.hid (alloc_old (w := w) (o := .cells #[.int .i64 0, .int .i64 0, .string ⟨#[]⟩, .slice none 0 0] 29))
  have hr := Lib.hid (heap_alloc_new w (.cells #[.int .i64 0, .int .i64 0, .string ⟨#[]⟩, .slice none 0 0] 29))
  obtain ⟨n, hnn⟩ : ∃ n, zs.length = n := ⟨_, rfl⟩
  have P3 := Lib.hid p3
  have HN := Lib.hid hnn
  rw [hnn] at hn ⊢
  have BU := Lib.hid (fun t w => Bulk67 t w)
  have AR := Lib.hid (fun A n c w => ARR A n c w)
  have hw1 : w.heap.size < (w.alloc (.cells #[.int .i64 0, .int .i64 0, .string ⟨#[]⟩, .slice none 0 0] 29)).heap.size := by simp
  clear p1 p2 p3 hnn
  go_enter Tryz.func64, Tryz.ntmps64
  go_wp2_with fail
  have hw1 := Lib.hid (show (w.alloc (.cells #[.int .i64 0, .int .i64 0, .string ⟨#[]⟩, .slice none 0 0] 29)).heap.size = w.heap.size + 1 by simp)
  generalize (w.alloc (.cells #[.int .i64 0, .int .i64 0, .string ⟨#[]⟩, .slice none 0 0] 29)) = W1 at A1 hr hw1 ⊢
  go_loopw [3, 5, 8] (fun lv _ iv wr => ∃ (i : Nat) (A : Option Addr) (C : Nat), i ≤ n ∧ lv = .slice A i C ∧ iv = .int .i64 i ∧ Hid (RO ((zs.map some).take i) W1.heap.size wr (.slice A i C) ∧ Below W1.heap.size W1 wr)) (fun _ _ iv _ => n - (intOf iv).toNat)
  case atStart => exact ⟨0, none, 0, Nat.zero_le _, rfl, rfl, Lib.hid ⟨World.ownsRow_nil _ _ _ _, Below.refl _ _⟩⟩
  case round =>
    obtain ⟨i, A, C, hi, rfl, rfl, HQ⟩ := hrel
    by_cases hlt : i < n
    · have q0 : (i : Int) < (n : Int) := by omega
      have hlz : i < zs.length := by rw [HN.out]; exact hlt
      obtain ⟨blk, off, rfl, hblt, hc⟩ := P3.out (by intro e; rw [e] at hlz; simp at hlz)
      obtain ⟨s, hs⟩ : ∃ s, zs[i]? = some s := ⟨_, List.getElem?_eq_getElem hlz⟩
      have ca : wr.cell? ⟨blk, off + i, none⟩ = some (.string s) := ((A1.out.trans (HQ.out.2.mono (Below.size A1.out))).cell (p := ⟨blk, off + i, none⟩) hblt).trans (hc i s hs)
      have HT := Lib.hid (show ((zs.map some).take i).length = i by simp; omega)
      have hcc := Lib.hid (Below.size HQ.out.2)
      have HTK := Lib.hid (take_at (zs.map some) i (some s) (by simp [hs]))
      clear hc hs
      go_wp2_with (first | (go_at_call 119; (with_reducible refine (BU.out _ _).mono ?_); rintro e w5 ⟨rfl, h5⟩; have D5 := Lib.hid (show Below wr.heap.size wr (w5.alloc (.cells #[.int .i64 4, .int .i64 0, .string s, .slice none 0 0] 29)) from h5.trans (alloc_old.mono (Below.size h5))); have b5 := Lib.hid (heap_alloc_new w5 (.cells #[.int .i64 4, .int .i64 0, .string s, .slice none 0 0] 29)); have R5 := Lib.hid (row_below HQ.out.1 D5.out); have z5 := Lib.hid (Nat.le_trans hcc.out (Below.size D5.out)); clear h5) | (at_builtin; refine append_RO _ rfl _ _ rfl W1.heap.size _ ((zs.map some).take i) i HT.out rfl R5.out (some s) _ rfl b5.out (by omega) z5.out ?_; intro g C2 w6 hR6 hB6))
      exact ⟨⟨i + 1, _, C2, by omega, rfl, by go_num, Lib.hid ⟨by rw [HTK.out]; exact hR6, (HQ.out.2.trans (D5.out.mono hcc.out)).trans hB6⟩⟩, by simp [intOf]; omega⟩
    · obtain rfl : i = n := by omega
      have q0 : ¬ (i : Int) < (i : Int) := by omega
      have hQ := HQ.out
      rw [List.take_of_length_le (by simp [HN.out])] at hQ
      have r1 := Lib.hid (blk_below hr.out (hQ.2.mono (Nat.le_refl _)))
      have H1 := Lib.hid hQ.1
      have H2 := Lib.hid hQ.2
      clear hQ HQ
      go_wp2_with (first | (go_at_call 127; (with_reducible refine (AR.out _ _ _ _).mono ?_); rintro e w7 ⟨rfl, h7⟩; have H7 := Lib.hid (row_below H1.out h7); have B7 := Lib.hid (H2.out.trans (h7.mono (Below.size H2.out))); obtain ⟨⟨c0, c1, c2, c3⟩, ⟨f0, f1, f2, f3⟩⟩ := cells4 (blk_below r1.out h7); clear h7))
      refine bodyPost_ret (v := .agg #[.int .i64 6, .int .i64 0, .string ⟨#[]⟩, .slice A i C]) (by simp [results, Tryz.results64, go_sem, c0, c1, c2, c3]) rfl ⟨A, i, C, rfl, row_mono (row_kept H7.out (fun g hg => far4 _ _ _ _ (fun e => ?_))) (by rw [hw1.out]; omega), ((((((A1.out.trans (B7.out.mono (Below.size A1.out))).setCell (Nat.le_refl _) _).setCell (Nat.le_refl _) _).setCell (Nat.le_refl _) _).setCell (Nat.le_refl _) _))⟩
      have h1 := (row_own H7.out g hg).1
      rw [hw1.out] at h1
      omega
end Go.Proofs.YticlacjpgjkhcaaGreatDoor

/- Numbers' texts: Print, Number, and that they are read back. -/
namespace Go.Proofs.YticlacjpgjkhcaaGreatDoor
open Go.ChangeShapes Go.WideShapes Go.ChangeAt Go.RowKit

theorem val_dec (u : Nat) : val (Lib.decDigits u) = u ∧ (Lib.decDigits u).all dig = true := by
  induction u using Nat.strongRecOn with
  | _ u ih =>
    rw [Lib.decDigits]
    split
    · rename_i h
      have hc : (UInt8.ofNat (48 + u)).toNat = 48 + u := by rw [UInt8.toNat_ofNat']; omega
      refine ⟨by simp [val]; omega, ?_⟩
      simp only [List.all_cons, List.all_nil, Bool.and_true, dig, hc]
      exact decide_eq_true (by omega)
    · rename_i h
      have hc : (UInt8.ofNat (48 + u % 10)).toNat = 48 + u % 10 := by rw [UInt8.toNat_ofNat']; omega
      obtain ⟨h1, h2⟩ := ih (u / 10) (by omega)
      refine ⟨by rw [val_snoc, h1, hc]; omega, ?_⟩
      rw [List.all_append, h2]
      simp only [List.all_cons, List.all_nil, Bool.and_true, dig, hc]
      exact decide_eq_true (by omega)
theorem dec_head (u : Nat) : ∃ c r, Lib.decDigits u = c :: r ∧ (c.toNat = 48 → u = 0 ∧ r = []) ∧ 48 ≤ c.toNat ∧ c.toNat ≤ 57 := by
  induction u using Nat.strongRecOn with
  | _ u ih =>
    rw [Lib.decDigits]
    split
    · rename_i h
      have hc : (UInt8.ofNat (48 + u)).toNat = 48 + u := by rw [UInt8.toNat_ofNat']; omega
      exact ⟨_, _, rfl, fun g => ⟨by omega, rfl⟩, by omega, by omega⟩
    · rename_i h
      obtain ⟨c, r, h1, h2, h3⟩ := ih (u / 10) (by omega)
      rw [h1]
      refine ⟨c, r ++ [UInt8.ofNat (48 + u % 10)], by simp, fun g => ?_, h3⟩
      have := h2 g
      omega
theorem parse_itoa (n : Int) (h0 : -9223372036854775808 ≤ n) (h1 : n ≤ 9223372036854775807) : parseI (Lib.itoa n) = some n := by
  unfold Lib.itoa
  split
  · rename_i hn
    obtain ⟨c, r, e, hz, hc⟩ := dec_head n.natAbs
    obtain ⟨hv, ha⟩ := val_dec n.natAbs
    have hneg : isNeg (45 :: Lib.decDigits n.natAbs) = true := rfl
    have hb : body (45 :: Lib.decDigits n.natAbs) = Lib.decDigits n.natAbs := rfl
    have hac : acc true (val (Lib.decDigits n.natAbs)) = n := by rw [hv]; simp [acc]; omega
    have hp := parse_ok (45 :: Lib.decDigits n.natAbs) (by rw [hb, e]; simp) (by
      rw [hb, e]
      simp only [List.head?_cons, Option.some.injEq]
      rintro ⟨g, _⟩
      have := hz (by rw [g]; rfl)
      omega) (by rw [hb]; exact ha) (by rw [hneg, hb, hac]; exact rng_yes h0 h1)
    rw [hp, hneg, hb, hac]
  · rename_i hn
    obtain ⟨c, r, e, hz, hc⟩ := dec_head n.toNat
    obtain ⟨hv, ha⟩ := val_dec n.toNat
    have hneg : isNeg (Lib.decDigits n.toNat) = false := by
      rw [e]; unfold isNeg
      simp only [List.head?_cons]
      rw [beq_eq_false_iff_ne]
      intro g
      injection g with g
      rw [g] at hc
      have : (45 : UInt8).toNat = 45 := rfl
      omega
    have hb : body (Lib.decDigits n.toNat) = Lib.decDigits n.toNat := by unfold body; rw [hneg]; rfl
    have hac : acc false (val (Lib.decDigits n.toNat)) = n := by rw [hv]; simp [acc]; omega
    have hp := parse_ok (Lib.decDigits n.toNat) (by rw [hb, e]; simp) (by
      rw [hb, e]
      simp only [List.head?_cons, Option.some.injEq]
      rintro ⟨g, hl⟩
      have := hz (by rw [g]; rfl)
      rw [this.2] at hl
      simp at hl) (by rw [hb]; exact ha) (by rw [hneg, hb, hac]; exact rng_yes h0 h1)
    rw [hp, hneg, hb, hac]
/-- What a call leaves: nothing that was there at the beginning has turned. -/
def Tab (w0 : World) : Prop := Lib.TabIs Tryz.prog w0 "internal/strconv.uint64pow10" .u64 Lib.pow10Tab
theorem Tab.at_ {w0 w : World} (h : Tab w0) (hi : Below w0.heap.size w0 w) : Lib.TabIs Tryz.prog w "internal/strconv.uint64pow10" .u64 Lib.pow10Tab := Lib.tabBelow_of_tabIs h w hi
def I64 (n : Int) : Prop := -9223372036854775808 ≤ n ∧ n ≤ 9223372036854775807
/-- A number's text. -/
def numT (n : Int) : ByteArray := ⟨(Lib.itoa n).toArray⟩
theorem numT_size (n : Int) (hn : I64 n) : (numT n).size ≤ 21 := Lib.itoa_length_le n (by have := hn.1; omega) (by have := hn.2; omega)
theorem parse_numT (n : Int) (hn : I64 n) : parseI (numT n).data.toList = some n := parse_itoa n hn.1 hn.2
theorem Fmt82 {w0 : World} (hT : Tab w0) (n : Int) (hn : I64 n) (w : World) (hi : Below w0.heap.size w0 w) : Calls Tryz.prog 94 #[.int .i64 n, .int .i64 10] w fun e w' => e = .returned (.string (numT n)) ∧ Below w.heap.size w w' := by
  refine (Tryz.internal_strconv_FormatInt_10 n hn.1 hn.2 w (hT.at_ hi)).mono ?_
  rintro e w' ⟨rfl, k, os, rfl⟩
  exact ⟨rfl, Lib.below_grow _ w (Nat.le_refl _) k os⟩
theorem Print79 {w0 : World} (hT : Tab w0) (n : Int) (hn : I64 n) (w : World) (hi : Below w0.heap.size w0 w) : Calls Tryz.prog 120 #[.int .i64 n] w fun e w' => e = .returned (.string (numT n)) ∧ Below w.heap.size w w' := by
  have C := Lib.hid (show Calls Tryz.prog 178 #[.int .i64 n, .int .i64 10] w fun e w' => e = .returned (.string (numT n)) ∧ Below w.heap.size w w' from by
    have C := Lib.hid (Fmt82 hT n hn w hi)
    clear hT hi hn
    go_enter Tryz.func178, Tryz.ntmps178
    go_wp2_with (go_at_call 94; refine (C.out).mono ?_; rintro e w' ⟨rfl, hi'⟩)
    go_ret
    exact ⟨by simp, by assumption⟩)
  clear hT hi hn
  go_enter Tryz.func120, Tryz.ntmps120
  go_wp2_with (go_at_call 178; refine (C.out).mono ?_; rintro e w' ⟨rfl, hi'⟩)
  go_ret
  exact ⟨by simp, by assumption⟩
theorem Number13 {w0 : World} (hT : Tab w0) (n : Int) (hn : I64 n) (w : World) (hi : Below w0.heap.size w0 w) : Calls Tryz.prog 13 #[.int .i64 n] w fun e w' => e = .returned (.string (numT n)) ∧ Below w.heap.size w w' := by
  have C := Lib.hid (show Calls Tryz.prog 26 #[.int .i64 n] w fun e w' => e = .returned (.string (numT n)) ∧ Below w.heap.size w w' from by
    refine (Tryz.strconv_Itoa n hn.1 hn.2 w (hT.at_ hi)).mono ?_
    rintro e w' ⟨rfl, k, os, rfl⟩
    exact ⟨rfl, Lib.below_grow _ w (Nat.le_refl _) k os⟩)
  clear hT hi hn
  go_enter Tryz.func13, Tryz.ntmps13
  go_wp2_with (go_at_call 26; refine (C.out).mono ?_; rintro e w' ⟨rfl, hi'⟩)
  go_ret
  exact ⟨by simp, by assumption⟩
end Go.Proofs.YticlacjpgjkhcaaGreatDoor
