/- Texts joined: St31, St26, HK, G14 -/
import Derived.Test.YtjfejmdnjbekkaaGreatDoorQb4
import Derived.Test.YtjfejmdnjbekkaaGreatDoorQb10
import Derived.Lib.AppendIntMem
import Derived.Lib.ItoaLen
import Derived.Lib.LaidTab
import Derived.Below
import Derived.Test.YtjfejmdnjbekkaaGreatDoorQb8
import Derived.Test.YtjfejmdnjbekkaaGreatDoorQb9
import Derived.Test.YtjfejmdnjbekkaaGreatDoorQb6
import Derived.Test.YtjfejmdnjbekkaaGreatDoorQb7
import Derived.Deep.AppendLies
set_option linter.unusedVariables false
set_option linter.unusedSimpArgs false

/- Numbers' texts: Print, Number, and that they are read back. -/
namespace Go.Proofs.YtjfejmdnjbekkaaGreatDoor
open Go.ChangeShapes Go.WideShapes Go.ChangeAt Go.RowKit

theorem val_dec (u : Nat) : val (Lib.decDigits u) = u ∧ (Lib.decDigits u).all dig = true := by
  induction u using Nat.strongRecOn with
  | _ u ih =>
    rw [Lib.decDigits]
    split
    · rename_i h
      have hc : (UInt8.ofNat (48 + u)).toNat = 48 + u := by rw [UInt8.toNat_ofNat']; omega
      refine ⟨by simp [val]; omega, ?_⟩
      simp only [List.all_cons, List.all_nil, Bool.and_true, dig, hc]
      exact decide_eq_true (by omega)
    · rename_i h
      have hc : (UInt8.ofNat (48 + u % 10)).toNat = 48 + u % 10 := by rw [UInt8.toNat_ofNat']; omega
      obtain ⟨h1, h2⟩ := ih (u / 10) (by omega)
      refine ⟨by rw [val_snoc, h1, hc]; omega, ?_⟩
      rw [List.all_append, h2]
      simp only [List.all_cons, List.all_nil, Bool.and_true, dig, hc]
      exact decide_eq_true (by omega)
theorem dec_head (u : Nat) : ∃ c r, Lib.decDigits u = c :: r ∧ (c.toNat = 48 → u = 0 ∧ r = []) ∧ 48 ≤ c.toNat ∧ c.toNat ≤ 57 := by
  induction u using Nat.strongRecOn with
  | _ u ih =>
    rw [Lib.decDigits]
    split
    · rename_i h
      have hc : (UInt8.ofNat (48 + u)).toNat = 48 + u := by rw [UInt8.toNat_ofNat']; omega
      exact ⟨_, _, rfl, fun g => ⟨by omega, rfl⟩, by omega, by omega⟩
    · rename_i h
      obtain ⟨c, r, h1, h2, h3⟩ := ih (u / 10) (by omega)
      rw [h1]
      refine ⟨c, r ++ [UInt8.ofNat (48 + u % 10)], by simp, fun g => ?_, h3⟩
      have := h2 g
      omega
theorem parse_itoa (n : Int) (h0 : -9223372036854775808 ≤ n) (h1 : n ≤ 9223372036854775807) : parseI (Lib.itoa n) = some n := by
  unfold Lib.itoa
  split
  · rename_i hn
    obtain ⟨c, r, e, hz, hc⟩ := dec_head n.natAbs
    obtain ⟨hv, ha⟩ := val_dec n.natAbs
    have hneg : isNeg (45 :: Lib.decDigits n.natAbs) = true := rfl
    have hb : body (45 :: Lib.decDigits n.natAbs) = Lib.decDigits n.natAbs := rfl
    have hac : acc true (val (Lib.decDigits n.natAbs)) = n := by rw [hv]; simp [acc]; omega
    have hp := parse_ok (45 :: Lib.decDigits n.natAbs) (by rw [hb, e]; simp) (by
      rw [hb, e]
      simp only [List.head?_cons, Option.some.injEq]
      rintro ⟨g, _⟩
      have := hz (by rw [g]; rfl)
      omega) (by rw [hb]; exact ha) (by rw [hneg, hb, hac]; exact rng_yes h0 h1)
    rw [hp, hneg, hb, hac]
  · rename_i hn
    obtain ⟨c, r, e, hz, hc⟩ := dec_head n.toNat
    obtain ⟨hv, ha⟩ := val_dec n.toNat
    have hneg : isNeg (Lib.decDigits n.toNat) = false := by
      rw [e]; unfold isNeg
      simp only [List.head?_cons]
      rw [beq_eq_false_iff_ne]
      intro g
      injection g with g
      rw [g] at hc
      have : (45 : UInt8).toNat = 45 := rfl
      omega
    have hb : body (Lib.decDigits n.toNat) = Lib.decDigits n.toNat := by unfold body; rw [hneg]; rfl
    have hac : acc false (val (Lib.decDigits n.toNat)) = n := by rw [hv]; simp [acc]; omega
    have hp := parse_ok (Lib.decDigits n.toNat) (by rw [hb, e]; simp) (by
      rw [hb, e]
      simp only [List.head?_cons, Option.some.injEq]
      rintro ⟨g, hl⟩
      have := hz (by rw [g]; rfl)
      rw [this.2] at hl
      simp at hl) (by rw [hb]; exact ha) (by rw [hneg, hb, hac]; exact rng_yes h0 h1)
    rw [hp, hneg, hb, hac]
/-- What a call leaves: nothing that was there at the beginning has turned. -/
def Tab (w0 : World) : Prop := Lib.TabIs Tryz.prog w0 "internal/strconv.uint64pow10" .u64 Lib.pow10Tab
theorem Tab.at_ {w0 w : World} (h : Tab w0) (hi : Below w0.heap.size w0 w) : Lib.TabIs Tryz.prog w "internal/strconv.uint64pow10" .u64 Lib.pow10Tab := Lib.tabBelow_of_tabIs h w hi
def I64 (n : Int) : Prop := -9223372036854775808 ≤ n ∧ n ≤ 9223372036854775807
/-- A number's text. -/
def numT (n : Int) : ByteArray := ⟨(Lib.itoa n).toArray⟩
theorem numT_size (n : Int) (hn : I64 n) : (numT n).size ≤ 21 := Lib.itoa_length_le n (by have := hn.1; omega) (by have := hn.2; omega)
theorem parse_numT (n : Int) (hn : I64 n) : parseI (numT n).data.toList = some n := parse_itoa n hn.1 hn.2
theorem Fmt82 {w0 : World} (hT : Tab w0) (n : Int) (hn : I64 n) (w : World) (hi : Below w0.heap.size w0 w) : Calls Tryz.prog 43 #[.int .i64 n, .int .i64 10] w fun e w' => e = .returned (.string (numT n)) ∧ Below w.heap.size w w' := by
  refine (Tryz.internal_strconv_FormatInt_10 n hn.1 hn.2 w (hT.at_ hi)).mono ?_
  rintro e w' ⟨rfl, k, os, rfl⟩
  exact ⟨rfl, Lib.below_grow _ w (Nat.le_refl _) k os⟩
theorem Print79 {w0 : World} (hT : Tab w0) (n : Int) (hn : I64 n) (w : World) (hi : Below w0.heap.size w0 w) : Calls Tryz.prog 18 #[.int .i64 n] w fun e w' => e = .returned (.string (numT n)) ∧ Below w.heap.size w w' := by
  have C := Lib.hid (show Calls Tryz.prog 34 #[.int .i64 n, .int .i64 10] w fun e w' => e = .returned (.string (numT n)) ∧ Below w.heap.size w w' from by
    have C := Lib.hid (Fmt82 hT n hn w hi)
    clear hT hi hn
    go_enter Tryz.func34, Tryz.ntmps34
    go_wp2_with (go_at_call 43; refine (C.out).mono ?_; rintro e w' ⟨rfl, hi'⟩)
    go_ret
    exact ⟨by simp, by assumption⟩)
  clear hT hi hn
  go_enter Tryz.func18, Tryz.ntmps18
  go_wp2_with (go_at_call 34; refine (C.out).mono ?_; rintro e w' ⟨rfl, hi'⟩)
  go_ret
  exact ⟨by simp, by assumption⟩
end Go.Proofs.YtjfejmdnjbekkaaGreatDoor

/- The commands that read: GET, STRLEN. -/
namespace Go.Proofs.YtjfejmdnjbekkaaGreatDoor
open Go.ChangeShapes Go.WideShapes Go.ChangeAt Go.RowKit

theorem read_end {w w' : World} {j bS : Nat} {now : Int} {vA : Value} {k n : Int} {s : ByteArray} (hj : JB w j bS now vA (.slice none 0 0)) (hb : Below w.heap.size w w') : ∃ A m c, (Ending.returned (.agg #[.int .i64 k, .int .i64 n, .string s, .slice none 0 0]) = .returned (.agg #[.int .i64 k, .int .i64 n, .string s, .slice A m c])) ∧ R0 w.heap.size w' (.slice A m c) ∧ (∃ A' n' c', JB w' j bS now vA (.slice A' n' c') ∧ EF w' w.heap.size (.slice A' n' c') []) ∧ Kp w.heap.size (fun i => i ≠ j) w w' :=
  ⟨none, 0, 0, rfl, rfl, ⟨none, 0, 0, hj.below hb, EF.nil _ _⟩, .of hb⟩
set_option maxRecDepth 100000 in
set_option maxHeartbeats 4000000 in
theorem get_yes_raw (bS bM : Nat) (l : MapT.Ents) (now : Int) (xs : List ByteArray) (k : ByteArray) (hx1 : xs[1]? = some k) (t : ByteArray) (u : Int) (hf : MapT.find k l = some (.agg #[.string k, .int .i64 1, .string t, .slice none 0 0, .slice none 0 0, .slice none 0 0, .slice none 0 0, .int .i64 u])) (hv : Lives u now) (w : World) (j : Nat) (vA : Value) (hS : SP w bS bM l) (hj : JB w j bS now vA (.slice none 0 0)) (hA : SSl w vA xs) : Calls Tryz.prog 95 #[.pointer (some ⟨j, 0, none⟩)] w fun e w' => e = .returned (.agg #[.int .i64 4, .int .i64 0, .string t, .slice none 0 0]) ∧ Below w.heap.size w w' := by
  have A1 := Lib.hid (alloc_old (w := w) (o := .cells #[.int .i64 0, .int .i64 0, .string ⟨#[]⟩, .slice none 0 0] 24))
  have hr := Lib.hid (heap_alloc_new w (.cells #[.int .i64 0, .int .i64 0, .string ⟨#[]⟩, .slice none 0 0] 24))
  obtain ⟨aA, cap, rfl, p1, p2, p3⟩ := hA
  have hlen : xs.length ≤ 9223372036854775807 := by unfold maxLen at p2; omega
  have hpos := (List.getElem?_eq_some_iff.1 hx1).1
  have i1 : (1 : Int) < (xs.length : Int) := by omega
  obtain ⟨blk, off, rfl, hblt, hc⟩ := p3 (by intro e; rw [e] at hpos; simp at hpos)
  have ca1 := Lib.hid (show ∀ Y, Below w.heap.size w Y → Y.cell? ⟨blk, off + 1, none⟩ = some (.string k) from fun Y hb => (hb.cell (p := ⟨blk, off + 1, none⟩) hblt).trans (hc 1 k hx1))
  have cj := Lib.hid (show ∀ Y, Below w.heap.size w Y → Y.cell? ⟨j, 2, none⟩ = some (.slice (some ⟨blk, off, none⟩) xs.length cap) ∧ Y.cell? ⟨j, 1, none⟩ = some (.int .i64 now) from fun Y hb => ⟨(hj.below hb).cells.2.2.1, (hj.below hb).cells.2.1⟩)
  have G := Lib.hid (Of_yes bS bM j l k now _ _ 1 t u hf hv _ (hS.below A1.out) (hj.below A1.out))
  have C := Lib.hid (fun w => Bulk67 t w)
  have y1 := ca1.out _ A1.out
  have y2 := (cj.out _ A1.out).1
  clear hS hj hc p3 hf
  go_enter Tryz.func95, Tryz.ntmps95
  go_wp2_with (first | (go_at_call 193; (with_reducible refine (G.out).mono ?_); rintro e w1 ⟨rfl, h1⟩; have B1 := Lib.hid h1; clear h1) | (go_at_call 20; (with_reducible refine (C.out _).mono ?_); rintro e w2 ⟨rfl, h2⟩; have B2 := Lib.hid (belA B1.out h2); clear h2; obtain ⟨⟨c0, c1, c2, c3⟩, ⟨f0, f1, f2, f3⟩⟩ := cells4 (blk_below hr.out B2.out)))
  exact bodyPost_ret (v := .agg #[.int .i64 4, .int .i64 0, .string t, .slice none 0 0]) (by simp [results, Tryz.results95, go_sem, c0, c1, c2, c3]) rfl ⟨rfl, (((((A1.out.trans (B2.out.mono (Below.size A1.out))).setCell (Nat.le_refl _) _).setCell (Nat.le_refl _) _).setCell (Nat.le_refl _) _).setCell (Nat.le_refl _) _)⟩
theorem get_yes (W0 : World) (bS bM : Nat) (l : MapT.Ents) (now : Int) (xs : List ByteArray) (k : ByteArray) (hx1 : xs[1]? = some k) (t : ByteArray) (u : Int) (hf : MapT.find k l = some (.agg #[.string k, .int .i64 1, .string t, .slice none 0 0, .slice none 0 0, .slice none 0 0, .slice none 0 0, .int .i64 u])) (hv : Lives u now) : CmdOk W0 95 bS bM l now xs 4 (0) t R0 [] := by
  intro w j vA _ hS hj hA
  refine (get_yes_raw bS bM l now xs k hx1 t u hf hv w j vA hS hj hA).mono ?_
  rintro e w' ⟨rfl, hb⟩
  exact read_end hj hb
set_option maxRecDepth 100000 in
set_option maxHeartbeats 4000000 in
theorem get_no_raw (bS bM : Nat) (l : MapT.Ents) (now : Int) (xs : List ByteArray) (k : ByteArray) (hx1 : xs[1]? = some k) (hf : MapT.find k l = none) (w : World) (j : Nat) (vA : Value) (hS : SP w bS bM l) (hj : JB w j bS now vA (.slice none 0 0)) (hA : SSl w vA xs) : Calls Tryz.prog 95 #[.pointer (some ⟨j, 0, none⟩)] w fun e w' => e = .returned (.agg #[.int .i64 5, .int .i64 0, .string ⟨#[]⟩, .slice none 0 0]) ∧ Below w.heap.size w w' := by
  have A1 := Lib.hid (alloc_old (w := w) (o := .cells #[.int .i64 0, .int .i64 0, .string ⟨#[]⟩, .slice none 0 0] 24))
  have hr := Lib.hid (heap_alloc_new w (.cells #[.int .i64 0, .int .i64 0, .string ⟨#[]⟩, .slice none 0 0] 24))
  obtain ⟨aA, cap, rfl, p1, p2, p3⟩ := hA
  have hlen : xs.length ≤ 9223372036854775807 := by unfold maxLen at p2; omega
  have hpos := (List.getElem?_eq_some_iff.1 hx1).1
  have i1 : (1 : Int) < (xs.length : Int) := by omega
  obtain ⟨blk, off, rfl, hblt, hc⟩ := p3 (by intro e; rw [e] at hpos; simp at hpos)
  have ca1 := Lib.hid (show ∀ Y, Below w.heap.size w Y → Y.cell? ⟨blk, off + 1, none⟩ = some (.string k) from fun Y hb => (hb.cell (p := ⟨blk, off + 1, none⟩) hblt).trans (hc 1 k hx1))
  have cj := Lib.hid (show ∀ Y, Below w.heap.size w Y → Y.cell? ⟨j, 2, none⟩ = some (.slice (some ⟨blk, off, none⟩) xs.length cap) ∧ Y.cell? ⟨j, 1, none⟩ = some (.int .i64 now) from fun Y hb => ⟨(hj.below hb).cells.2.2.1, (hj.below hb).cells.2.1⟩)
  have G := Lib.hid (Of_no bS bM j l k now _ _ 1 hf _ (hS.below A1.out) (hj.below A1.out))
  have C := Lib.hid (fun w => Nil66 w)
  have y1 := ca1.out _ A1.out
  have y2 := (cj.out _ A1.out).1
  clear hS hj hc p3 hf
  go_enter Tryz.func95, Tryz.ntmps95
  go_wp2_with (first | (go_at_call 193; (with_reducible refine (G.out).mono ?_); rintro e w1 ⟨rfl, h1⟩; have B1 := Lib.hid h1; clear h1) | (go_at_call 23; (with_reducible refine (C.out _).mono ?_); rintro e w2 ⟨rfl, h2⟩; have B2 := Lib.hid (belA B1.out h2); clear h2; obtain ⟨⟨c0, c1, c2, c3⟩, ⟨f0, f1, f2, f3⟩⟩ := cells4 (blk_below hr.out B2.out)))
  exact bodyPost_ret (v := .agg #[.int .i64 5, .int .i64 0, .string ⟨#[]⟩, .slice none 0 0]) (by simp [results, Tryz.results95, go_sem, c0, c1, c2, c3]) rfl ⟨rfl, (((((A1.out.trans (B2.out.mono (Below.size A1.out))).setCell (Nat.le_refl _) _).setCell (Nat.le_refl _) _).setCell (Nat.le_refl _) _).setCell (Nat.le_refl _) _)⟩
theorem get_no (W0 : World) (bS bM : Nat) (l : MapT.Ents) (now : Int) (xs : List ByteArray) (k : ByteArray) (hx1 : xs[1]? = some k) (hf : MapT.find k l = none) : CmdOk W0 95 bS bM l now xs 5 (0) ⟨#[]⟩ R0 [] := by
  intro w j vA _ hS hj hA
  refine (get_no_raw bS bM l now xs k hx1  hf w j vA hS hj hA).mono ?_
  rintro e w' ⟨rfl, hb⟩
  exact read_end hj hb
set_option maxRecDepth 100000 in
set_option maxHeartbeats 4000000 in
theorem len_yes_raw (bS bM : Nat) (l : MapT.Ents) (now : Int) (xs : List ByteArray) (k : ByteArray) (hx1 : xs[1]? = some k) (t : ByteArray) (u : Int) (hf : MapT.find k l = some (.agg #[.string k, .int .i64 1, .string t, .slice none 0 0, .slice none 0 0, .slice none 0 0, .slice none 0 0, .int .i64 u])) (hv : Lives u now) (w : World) (j : Nat) (vA : Value) (hS : SP w bS bM l) (hj : JB w j bS now vA (.slice none 0 0)) (hA : SSl w vA xs) : Calls Tryz.prog 101 #[.pointer (some ⟨j, 0, none⟩)] w fun e w' => e = .returned (.agg #[.int .i64 3, .int .i64 (t.size : Int), .string ⟨#[]⟩, .slice none 0 0]) ∧ Below w.heap.size w w' := by
  have A1 := Lib.hid (alloc_old (w := w) (o := .cells #[.int .i64 0, .int .i64 0, .string ⟨#[]⟩, .slice none 0 0] 24))
  have hr := Lib.hid (heap_alloc_new w (.cells #[.int .i64 0, .int .i64 0, .string ⟨#[]⟩, .slice none 0 0] 24))
  obtain ⟨aA, cap, rfl, p1, p2, p3⟩ := hA
  have hlen : xs.length ≤ 9223372036854775807 := by unfold maxLen at p2; omega
  have hpos := (List.getElem?_eq_some_iff.1 hx1).1
  have i1 : (1 : Int) < (xs.length : Int) := by omega
  obtain ⟨blk, off, rfl, hblt, hc⟩ := p3 (by intro e; rw [e] at hpos; simp at hpos)
  have ca1 := Lib.hid (show ∀ Y, Below w.heap.size w Y → Y.cell? ⟨blk, off + 1, none⟩ = some (.string k) from fun Y hb => (hb.cell (p := ⟨blk, off + 1, none⟩) hblt).trans (hc 1 k hx1))
  have cj := Lib.hid (show ∀ Y, Below w.heap.size w Y → Y.cell? ⟨j, 2, none⟩ = some (.slice (some ⟨blk, off, none⟩) xs.length cap) ∧ Y.cell? ⟨j, 1, none⟩ = some (.int .i64 now) from fun Y hb => ⟨(hj.below hb).cells.2.2.1, (hj.below hb).cells.2.1⟩)
  have G := Lib.hid (Of_yes bS bM j l k now _ _ 1 t u hf hv _ (hS.below A1.out) (hj.below A1.out))
  have C := Lib.hid (fun w => Int75 (t.size : Int) w)
  have y1 := ca1.out _ A1.out
  have y2 := (cj.out _ A1.out).1
  clear hS hj hc p3 hf
  go_enter Tryz.func101, Tryz.ntmps101
  go_wp2_with (first | (go_at_call 193; (with_reducible refine (G.out).mono ?_); rintro e w1 ⟨rfl, h1⟩; have B1 := Lib.hid h1; clear h1) | (go_at_call 21; (with_reducible refine (C.out _).mono ?_); rintro e w2 ⟨rfl, h2⟩; have B2 := Lib.hid (belA B1.out h2); clear h2; obtain ⟨⟨c0, c1, c2, c3⟩, ⟨f0, f1, f2, f3⟩⟩ := cells4 (blk_below hr.out B2.out)))
  exact bodyPost_ret (v := .agg #[.int .i64 3, .int .i64 (t.size : Int), .string ⟨#[]⟩, .slice none 0 0]) (by simp [results, Tryz.results101, go_sem, c0, c1, c2, c3]) rfl ⟨rfl, (((((A1.out.trans (B2.out.mono (Below.size A1.out))).setCell (Nat.le_refl _) _).setCell (Nat.le_refl _) _).setCell (Nat.le_refl _) _).setCell (Nat.le_refl _) _)⟩
theorem len_yes (W0 : World) (bS bM : Nat) (l : MapT.Ents) (now : Int) (xs : List ByteArray) (k : ByteArray) (hx1 : xs[1]? = some k) (t : ByteArray) (u : Int) (hf : MapT.find k l = some (.agg #[.string k, .int .i64 1, .string t, .slice none 0 0, .slice none 0 0, .slice none 0 0, .slice none 0 0, .int .i64 u])) (hv : Lives u now) : CmdOk W0 101 bS bM l now xs 3 ((t.size : Int)) ⟨#[]⟩ R0 [] := by
  intro w j vA _ hS hj hA
  refine (len_yes_raw bS bM l now xs k hx1 t u hf hv w j vA hS hj hA).mono ?_
  rintro e w' ⟨rfl, hb⟩
  exact read_end hj hb
set_option maxRecDepth 100000 in
set_option maxHeartbeats 4000000 in
theorem len_no_raw (bS bM : Nat) (l : MapT.Ents) (now : Int) (xs : List ByteArray) (k : ByteArray) (hx1 : xs[1]? = some k) (hf : MapT.find k l = none) (w : World) (j : Nat) (vA : Value) (hS : SP w bS bM l) (hj : JB w j bS now vA (.slice none 0 0)) (hA : SSl w vA xs) : Calls Tryz.prog 101 #[.pointer (some ⟨j, 0, none⟩)] w fun e w' => e = .returned (.agg #[.int .i64 3, .int .i64 0, .string ⟨#[]⟩, .slice none 0 0]) ∧ Below w.heap.size w w' := by
  have A1 := Lib.hid (alloc_old (w := w) (o := .cells #[.int .i64 0, .int .i64 0, .string ⟨#[]⟩, .slice none 0 0] 24))
  have hr := Lib.hid (heap_alloc_new w (.cells #[.int .i64 0, .int .i64 0, .string ⟨#[]⟩, .slice none 0 0] 24))
  obtain ⟨aA, cap, rfl, p1, p2, p3⟩ := hA
  have hlen : xs.length ≤ 9223372036854775807 := by unfold maxLen at p2; omega
  have hpos := (List.getElem?_eq_some_iff.1 hx1).1
  have i1 : (1 : Int) < (xs.length : Int) := by omega
  obtain ⟨blk, off, rfl, hblt, hc⟩ := p3 (by intro e; rw [e] at hpos; simp at hpos)
  have ca1 := Lib.hid (show ∀ Y, Below w.heap.size w Y → Y.cell? ⟨blk, off + 1, none⟩ = some (.string k) from fun Y hb => (hb.cell (p := ⟨blk, off + 1, none⟩) hblt).trans (hc 1 k hx1))
  have cj := Lib.hid (show ∀ Y, Below w.heap.size w Y → Y.cell? ⟨j, 2, none⟩ = some (.slice (some ⟨blk, off, none⟩) xs.length cap) ∧ Y.cell? ⟨j, 1, none⟩ = some (.int .i64 now) from fun Y hb => ⟨(hj.below hb).cells.2.2.1, (hj.below hb).cells.2.1⟩)
  have G := Lib.hid (Of_no bS bM j l k now _ _ 1 hf _ (hS.below A1.out) (hj.below A1.out))
  have C := Lib.hid (fun w => Int75 0 w)
  have y1 := ca1.out _ A1.out
  have y2 := (cj.out _ A1.out).1
  clear hS hj hc p3 hf
  go_enter Tryz.func101, Tryz.ntmps101
  go_wp2_with (first | (go_at_call 193; (with_reducible refine (G.out).mono ?_); rintro e w1 ⟨rfl, h1⟩; have B1 := Lib.hid h1; clear h1) | (go_at_call 21; (with_reducible refine (C.out _).mono ?_); rintro e w2 ⟨rfl, h2⟩; have B2 := Lib.hid (belA B1.out h2); clear h2; obtain ⟨⟨c0, c1, c2, c3⟩, ⟨f0, f1, f2, f3⟩⟩ := cells4 (blk_below hr.out B2.out)))
  exact bodyPost_ret (v := .agg #[.int .i64 3, .int .i64 0, .string ⟨#[]⟩, .slice none 0 0]) (by simp [results, Tryz.results101, go_sem, c0, c1, c2, c3]) rfl ⟨rfl, (((((A1.out.trans (B2.out.mono (Below.size A1.out))).setCell (Nat.le_refl _) _).setCell (Nat.le_refl _) _).setCell (Nat.le_refl _) _).setCell (Nat.le_refl _) _)⟩
theorem len_no (W0 : World) (bS bM : Nat) (l : MapT.Ents) (now : Int) (xs : List ByteArray) (k : ByteArray) (hx1 : xs[1]? = some k) (hf : MapT.find k l = none) : CmdOk W0 101 bS bM l now xs 3 (0) ⟨#[]⟩ R0 [] := by
  intro w j vA _ hS hj hA
  refine (len_no_raw bS bM l now xs k hx1  hf w j vA hS hj hA).mono ?_
  rintro e w' ⟨rfl, hb⟩
  exact read_end hj hb
/-- What is left of a command that had effects, when its reply is laid. -/
theorem eff_end {w w2 w3 : World} {j bS : Nat} {now : Int} {vA : Value} {k n : Int} {s : ByteArray} {es : List Ent} {A : Option Addr} {m c : Nat} {r : Nat} (hjw : j < w.heap.size) (hr : w.heap.size ≤ r) (hr2 : r < w2.heap.size) (hb : Below w.heap.size w w2) (hJ : JB w3 j bS now vA (.slice A m c)) (hE : EF w3 w2.heap.size (.slice A m c) es) (hK : Kp w2.heap.size (fun i => i ≠ j) w2 w3) (v0 v1 v2 v3 : Value) :
    ∃ A m c, (Ending.returned (.agg #[.int .i64 k, .int .i64 n, .string s, .slice none 0 0]) = .returned (.agg #[.int .i64 k, .int .i64 n, .string s, .slice A m c])) ∧ R0 w.heap.size ((((w3.setCell ⟨r, 0, none⟩ v0).setCell ⟨r, 1, none⟩ v1).setCell ⟨r, 2, none⟩ v2).setCell ⟨r, 3, none⟩ v3) (.slice A m c) ∧ (∃ A' n' c', JB ((((w3.setCell ⟨r, 0, none⟩ v0).setCell ⟨r, 1, none⟩ v1).setCell ⟨r, 2, none⟩ v2).setCell ⟨r, 3, none⟩ v3) j bS now vA (.slice A' n' c') ∧ EF ((((w3.setCell ⟨r, 0, none⟩ v0).setCell ⟨r, 1, none⟩ v1).setCell ⟨r, 2, none⟩ v2).setCell ⟨r, 3, none⟩ v3) w.heap.size (.slice A' n' c') es) ∧ Kp w.heap.size (fun i => i ≠ j) w ((((w3.setCell ⟨r, 0, none⟩ v0).setCell ⟨r, 1, none⟩ v1).setCell ⟨r, 2, none⟩ v2).setCell ⟨r, 3, none⟩ v3) := by
  have hle := Below.size hb
  refine ⟨none, 0, 0, rfl, rfl, ⟨A, m, c, hJ.kept (far4 _ _ _ _ (by omega)), (hE.kept (by simp [World.setCell]) (fun g hg => far4 _ _ _ _ ?_)).mono hle⟩, ?_⟩
  · have := (hE.own g hg).1
    omega
  · exact (((((Kp.of hb).trans (hK.mono hle (fun _ h => h))).setCell (p := ⟨r, 0, none⟩) (by show ¬ (r < w.heap.size ∧ r ≠ j); omega) v0).setCell (p := ⟨r, 1, none⟩) (by show ¬ (r < w.heap.size ∧ r ≠ j); omega) v1).setCell (p := ⟨r, 2, none⟩) (by show ¬ (r < w.heap.size ∧ r ≠ j); omega) v2).setCell (p := ⟨r, 3, none⟩) (by show ¬ (r < w.heap.size ∧ r ≠ j); omega) v3
end Go.Proofs.YtjfejmdnjbekkaaGreatDoor

/- INCR of a key that is not there. -/
namespace Go.Proofs.YtjfejmdnjbekkaaGreatDoor
open Go.ChangeShapes Go.WideShapes Go.ChangeAt Go.RowKit

theorem set6of8 {X : World} {b : Nat} {a0 a1 a2 a3 a4 a5 a6 a7 : Value} {t : TypeId} (h : X.heap[b]? = some (.cells #[a0, a1, a2, a3, a4, a5, a6, a7] t)) (v1 v2 v3 v4 v5 v6 : Value) : ((((((X.setCell ⟨b, 1, none⟩ v1).setCell ⟨b, 2, none⟩ v2).setCell ⟨b, 3, none⟩ v3).setCell ⟨b, 4, none⟩ v4).setCell ⟨b, 5, none⟩ v5).setCell ⟨b, 6, none⟩ v6).heap[b]? = some (.cells #[a0, v1, v2, v3, v4, v5, v6, a7] t) := by
  simp [World.setCell, Array.getElem?_modify, h]
theorem far6 {X : World} {b i : Nat} (v1 v2 v3 v4 v5 v6 : Value) (hi : i ≠ b) : ((((((X.setCell ⟨b, 1, none⟩ v1).setCell ⟨b, 2, none⟩ v2).setCell ⟨b, 3, none⟩ v3).setCell ⟨b, 4, none⟩ v4).setCell ⟨b, 5, none⟩ v5).setCell ⟨b, 6, none⟩ v6).heap[i]? = X.heap[i]? :=
  (Below.heap_setCell _ ⟨b, 6, none⟩ _ _ hi).trans ((Below.heap_setCell _ ⟨b, 5, none⟩ _ _ hi).trans ((Below.heap_setCell _ ⟨b, 4, none⟩ _ _ hi).trans ((Below.heap_setCell _ ⟨b, 3, none⟩ _ _ hi).trans ((Below.heap_setCell _ ⟨b, 2, none⟩ _ _ hi).trans (Below.heap_setCell _ ⟨b, 1, none⟩ _ _ hi)))))
theorem bel6 {W X : World} {b c : Nat} (h : Below c W X) (hb : c ≤ b) (v1 v2 v3 v4 v5 v6 : Value) : Below c W ((((((X.setCell ⟨b, 1, none⟩ v1).setCell ⟨b, 2, none⟩ v2).setCell ⟨b, 3, none⟩ v3).setCell ⟨b, 4, none⟩ v4).setCell ⟨b, 5, none⟩ v5).setCell ⟨b, 6, none⟩ v6) :=
  (((((h.setCell (p := ⟨b, 1, none⟩) hb _).setCell (p := ⟨b, 2, none⟩) hb _).setCell (p := ⟨b, 3, none⟩) hb _).setCell (p := ⟨b, 4, none⟩) hb _).setCell (p := ⟨b, 5, none⟩) hb _).setCell (p := ⟨b, 6, none⟩) hb _
set_option maxRecDepth 100000 in
theorem one_txt : numT 1 = ⟨#[49]⟩ := by kernel_rfl
theorem Add01 (w : World) : Calls Tryz.prog 104 #[.int .i64 0, .int .i64 1] w fun e w' => e = .returned (.tuple #[.int .i64 1, .bool true]) ∧ w' = w := by
  go_enter Tryz.func104, Tryz.ntmps104
  go_wp2
  exact bodyPost_ret (v := .tuple #[.int .i64 1, .bool true]) (by simp [results, Tryz.results104, go_sem]) rfl ⟨rfl, rfl⟩
set_option maxRecDepth 100000 in
set_option maxHeartbeats 8000000 in
theorem more_new {W0 : World} (hT : Tab W0) (bS bM : Nat) (l : MapT.Ents) (now : Int) (c k : ByteArray) (hk1 : 1 ≤ k.size) (hk : k.size ≤ 512) (hf : MapT.find k l = none) (w : World) (j : Nat) (vA : Value) (hI : Below W0.heap.size W0 w) (hS : SP w bS bM l) (hj : JB w j bS now vA (.slice none 0 0)) (hA : SSl w vA [c, k]) : Calls Tryz.prog 103 #[.pointer (some ⟨j, 0, none⟩), .func (.func 104) #[] #[], .bool false] w fun e w' => ∃ A m' c', e = .returned (.agg #[.int .i64 3, .int .i64 1, .string ⟨#[]⟩, .slice A m' c']) ∧ R0 w.heap.size w' (.slice A m' c') ∧ (∃ A' n' c', JB w' j bS now vA (.slice A' n' c') ∧ EF w' w.heap.size (.slice A' n' c') [⟨k, 1, ⟨#[49]⟩, 0⟩]) ∧ Kp w.heap.size (fun i => i ≠ j) w w' := by
  have A1 := Lib.hid (alloc_old (w := w) (o := .cells #[.int .i64 0, .int .i64 0, .string ⟨#[]⟩, .slice none 0 0] 24))
  have hr0 := Lib.hid (heap_alloc_new w (.cells #[.int .i64 0, .int .i64 0, .string ⟨#[]⟩, .slice none 0 0] 24))
  obtain ⟨aA, cap, hv, p1, p2, p3⟩ := hA
  replace hv : vA = .slice aA 2 cap := hv
  subst hv
  replace p1 : 2 ≤ cap := p1
  obtain ⟨blk, off, rfl, hblt, hc⟩ := p3 (by simp)
  have ca1 := Lib.hid (show ∀ Y, Below w.heap.size w Y → Y.cell? ⟨blk, off + 1, none⟩ = some (.string k) from fun Y hb => (hb.cell (p := ⟨blk, off + 1, none⟩) hblt).trans (hc 1 _ rfl))
  have cj := Lib.hid (show ∀ Y, Below w.heap.size w Y → Y.cell? ⟨j, 2, none⟩ = some (.slice (some ⟨blk, off, none⟩) 2 cap) ∧ Y.cell? ⟨j, 1, none⟩ = some (.int .i64 now) from fun Y hb => ⟨(hj.below hb).cells.2.2.1, (hj.below hb).cells.2.1⟩)
  have HJ := Lib.hid hj
  have i1 : (1 : Int) < 2 := by decide
  have G := Lib.hid (Of_no bS bM j l k now _ _ 1 hf _ (hS.below A1.out) (hj.below A1.out))
  have PR := Lib.hid (fun X (hX : Below w.heap.size w X) => Print79 hT 1 ⟨by decide, by decide⟩ X (hI.trans (hX.mono (Below.size hI))))
  rw [one_txt] at PR
  have TX := Lib.hid (fun X (_ : Below w.heap.size w X) => text73 ⟨#[49]⟩ X)
  have TU := Lib.hid (fun X (hX : Below w.heap.size w X) => Turn_new j bS bM l now (.slice (some ⟨blk, off, none⟩) 2 cap) none 0 0 [] X.heap.size X (hS.below hX) (hj.below hX) (EF.nil _ _) (Nat.le_refl _) (by simp) k ⟨#[49]⟩ hk1 hk (by decide) 0 (by decide) (by decide) hf)
  have AD := Lib.hid (fun X => Add01 X)
  clear hS hj hc p3 hf hT hI
  have y2 := (cj.out _ A1.out).1
  have z1 := ca1.out _ A1.out
  go_enter Tryz.func103, Tryz.ntmps103
  go_wp2_with (first | (go_at_call 193; (with_reducible refine (G.out).mono ?_); rintro e w1 ⟨rfl, h1⟩; have B1 := Lib.hid (A1.out.trans (h1.mono (Below.size A1.out))); have R1 := Lib.hid (blk_below hr0.out h1); clear h1; refine Hid.out ?_))
  refine Lib.hid ?_
  clear y2 z1
  have BX := Lib.hid (show Below w.heap.size w (w1.alloc (.cells #[.string k, .int .i64 1, .string ⟨#[]⟩, .slice none 0 0, .slice none 0 0, .slice none 0 0, .slice none 0 0, .int .i64 0] 84)) from B1.out.trans (alloc_old.mono (Below.size B1.out)))
  have oX := Lib.hid (heap_alloc_new w1 (.cells #[.string k, .int .i64 1, .string ⟨#[]⟩, .slice none 0 0, .slice none 0 0, .slice none 0 0, .slice none 0 0, .int .i64 0] 84))
  have RX := Lib.hid (blk_below R1.out (alloc_old (o := .cells #[.string k, .int .i64 1, .string ⟨#[]⟩, .slice none 0 0, .slice none 0 0, .slice none 0 0, .slice none 0 0, .int .i64 0] 84)))
  have hs1 := Below.size B1.out
  have hs2 := lt_blk R1.out
  have y2 := (cj.out _ BX.out).1
  obtain ⟨⟨g0, g1, g2, g3, g4, g5, g6, g7⟩, ⟨k0, k1, k2, k3, k4, k5, k6, k7⟩, gz⟩ := cells8 oX.out
  go_wp2_with (first | (go_at_call 104; (with_reducible refine (AD.out _).mono ?_); rintro e w5 ⟨rfl, hh⟩; cases hh) | (go_at_call 18; (with_reducible refine (PR.out _ BX.out).mono ?_); rintro e w6 ⟨rfl, hh⟩; have oX := Lib.hid (blk_below oX.out hh); have RX := Lib.hid (blk_below RX.out hh); have BX := Lib.hid (BX.out.trans (hh.mono (Below.size BX.out))); clear hh; obtain ⟨⟨g0, g1, g2, g3, g4, g5, g6, g7⟩, ⟨k0, k1, k2, k3, k4, k5, k6, k7⟩, gz⟩ := cells8 oX.out; have y2 := (cj.out _ BX.out).1) | (go_at_call 196; (with_reducible refine (TX.out _ BX.out).mono ?_); rintro e w7 ⟨rfl, hh⟩; have oX := Lib.hid (blk_below oX.out hh); have RX := Lib.hid (blk_below RX.out hh); have BX := Lib.hid (BX.out.trans (hh.mono (Below.size BX.out))); clear hh; obtain ⟨⟨g0, g1, g2, g3, g4, g5, g6, g7⟩, ⟨k0, k1, k2, k3, k4, k5, k6, k7⟩, gz⟩ := cells8 oX.out; have y2 := (cj.out _ BX.out).1; refine Hid.out ?_))
  refine Lib.hid ?_
  have B4 := Lib.hid (bel6 BX.out (show w.heap.size ≤ w1.heap.size by omega) (.int .i64 1) (.string ⟨#[49]⟩) (.slice none 0 0) (.slice none 0 0) (.slice none 0 0) (.slice none 0 0))
  have o4 := Lib.hid (set6of8 oX.out (.int .i64 1) (.string ⟨#[49]⟩) (.slice none 0 0) (.slice none 0 0) (.slice none 0 0) (.slice none 0 0))
  have R4 := Lib.hid ((far6 (X := w7) (b := w1.heap.size) (.int .i64 1) (.string ⟨#[49]⟩) (.slice none 0 0) (.slice none 0 0) (.slice none 0 0) (.slice none 0 0) (show w.heap.size ≠ w1.heap.size by omega)).trans RX.out)
  have T4 := Lib.hid (TU.out ((((((w7.setCell ⟨w1.heap.size, 1, none⟩ (.int .i64 1)).setCell ⟨w1.heap.size, 2, none⟩ (.string ⟨#[49]⟩)).setCell ⟨w1.heap.size, 3, none⟩ (.slice none 0 0)).setCell ⟨w1.heap.size, 4, none⟩ (.slice none 0 0)).setCell ⟨w1.heap.size, 5, none⟩ (.slice none 0 0)).setCell ⟨w1.heap.size, 6, none⟩ (.slice none 0 0)) B4.out)
  have hjw := lt_blk HJ.out
  go_wp2_with (first | (go_at_call 190; (with_reducible refine (T4.out).mono ?_); rintro e w8 ⟨rfl, ⟨A', n', c', hJ5, hE5⟩, hK5⟩; have HJ5 := Lib.hid hJ5; have HE5 := Lib.hid hE5; have HK5 := Lib.hid hK5; have R5 := Lib.hid ((hK5.block w.heap.size (lt_blk R4.out) (by omega)).trans R4.out); clear hJ5 hE5 hK5; obtain ⟨⟨c0, c1, c2, c3⟩, ⟨f0, f1, f2, f3⟩⟩ := cells4 R5.out))
  exact bodyPost_ret (v := .agg #[.int .i64 3, .int .i64 1, .string ⟨#[]⟩, .slice none 0 0]) (by simp [results, Tryz.results103, go_sem, c0, c1, c2, c3]) rfl (eff_end hjw (Nat.le_refl _) (lt_blk R4.out) B4.out HJ5.out HE5.out HK5.out _ _ _ _)
set_option maxRecDepth 100000 in
set_option maxHeartbeats 4000000 in
theorem incr_new (W0 : World) (hT : Tab W0) (bS bM : Nat) (l : MapT.Ents) (now : Int) (c k : ByteArray) (hk1 : 1 ≤ k.size) (hk : k.size ≤ 512) (hf : MapT.find k l = none) : CmdOk W0 102 bS bM l now [c, k] 3 1 ⟨#[]⟩ R0 [⟨k, 1, ⟨#[49]⟩, 0⟩] := by
  intro w j vA hI hS hj hA
  have A1 := Lib.hid (alloc_old (w := w) (o := .cells #[.int .i64 0, .int .i64 0, .string ⟨#[]⟩, .slice none 0 0] 24))
  have hr0 := Lib.hid (heap_alloc_new w (.cells #[.int .i64 0, .int .i64 0, .string ⟨#[]⟩, .slice none 0 0] 24))
  have hjw := lt_blk hj
  have hz1 : ((w.alloc (.cells #[.int .i64 0, .int .i64 0, .string ⟨#[]⟩, .slice none 0 0] 24))).heap.size = w.heap.size + 1 := by simp
  have HZ := Lib.hid hz1
  have M := Lib.hid (more_new hT bS bM l now c k hk1 hk hf (w.alloc (.cells #[.int .i64 0, .int .i64 0, .string ⟨#[]⟩, .slice none 0 0] 24)) j vA (hI.trans (A1.out.mono (Below.size hI))) (hS.below A1.out) (hj.below A1.out) (hA.below A1.out))
  clear hS hj hA hf hz1 hI hT
  go_enter Tryz.func102, Tryz.ntmps102
  go_wp2_with (first | (go_at_call 103; (with_reducible refine (M.out).mono ?_); rintro e w3 ⟨A, m', c', rfl, hR, ⟨A', n', c'', hJ, hE⟩, hK⟩; cases hR; have HJ := Lib.hid hJ; have HE := Lib.hid hE; have HK := Lib.hid hK; obtain ⟨⟨c0, c1, c2, c3⟩, ⟨f0, f1, f2, f3⟩⟩ := cells4 ((hK.block w.heap.size (by rw [HZ.out]; omega) (by omega)).trans hr0.out); clear hJ hE hK))
  exact bodyPost_ret (v := .agg #[.int .i64 3, .int .i64 1, .string ⟨#[]⟩, .slice none 0 0]) (by simp [results, Tryz.results102, go_sem, c0, c1, c2, c3]) rfl (eff_end hjw (Nat.le_refl _) (by rw [HZ.out]; omega) A1.out HJ.out HE.out HK.out _ _ _ _)
/-- "incr" of a key that is not there, by strings.Do. -/
theorem stDo_incr (W0 : World) (hT : Tab W0) (bS bM : Nat) (l : MapT.Ents) (now : Int) (k : ByteArray) (hk1 : 1 ≤ k.size) (hk : k.size ≤ 512) (hf : MapT.find k l = none) (vA : Value) (w : World) (hI : Below W0.heap.size W0 w) (hS : SP w bS bM l) (hA : SSl w vA [⟨#[105, 110, 99, 114]⟩, k]) :
    Calls Tryz.prog 57 #[.pointer (some ⟨bS, 0, none⟩), .int .i64 now, vA] w fun e w' => ∃ A' n' c', e = .returned (.tuple #[.agg #[.int .i64 3, .int .i64 1, .string ⟨#[]⟩, .slice none 0 0], .slice A' n' c', .bool true]) ∧ EF w' w.heap.size (.slice A' n' c') [⟨k, 1, ⟨#[49]⟩, 0⟩] ∧ Below w.heap.size w w' := by
  refine (Do_ok W0 ⟨#[105, 110, 99, 114]⟩ ⟨#[73, 78, 67, 82]⟩ 102 bS bM l now [⟨#[105, 110, 99, 114]⟩, k] vA 3 1 ⟨#[]⟩ R0 _ (incr_new W0 hT bS bM l now _ k hk1 hk hf) R0.keep w hI hS hA find_INCR rfl ent_INCR (fun X hX => Fits_incr_low vA _ rfl (by simp) (by simp) X hX) hu_incr_low).mono ?_
  rintro e w' ⟨A, m, c, A', n', c', rfl, hR, hE, hB⟩
  cases hR
  exact ⟨A', n', c', rfl, hE, hB⟩
/-- keys.Do has no INCR. -/
theorem kDo_incr (bS : Nat) (now : Int) (k : ByteArray) (vA : Value) (w : World) (hA : SSl w vA [⟨#[105, 110, 99, 114]⟩, k]) :
    Calls Tryz.prog 56 #[.pointer (some ⟨bS, 0, none⟩), .int .i64 now, vA] w fun e w' => e = .returned (.tuple #[.agg #[.int .i64 0, .int .i64 0, .string ⟨#[]⟩, .slice none 0 0], .slice none 0 0, .bool false]) ∧ Below w.heap.size w w' :=
  kDo_none ⟨#[105, 110, 99, 114]⟩ ⟨#[73, 78, 67, 82]⟩ bS now _ vA w hA flK_INCR rfl (fun X hX => Fits_incr_low vA _ rfl (by simp) (by simp) X hX) hu_incr_low
end Go.Proofs.YtjfejmdnjbekkaaGreatDoor

/- Rows of replies of the call's own. -/
namespace Go.Proofs.YtjfejmdnjbekkaaGreatDoor
open Go.ChangeShapes Go.WideShapes Go.ChangeAt Go.RowKit

theorem row_kept {w w' : World} {c : Nat} {e : TypeId} {m : Nat} {v : Value} {n : Nat} {xs : List Value} (h : w.ownsRow c e m v n xs) (hb : ∀ g, v.ownBlock = some g → w'.heap[g]? = w.heap[g]?) : w'.ownsRow c e m v n xs := by
  unfold World.ownsRow at h ⊢
  obtain ⟨h1, h2⟩ := h
  refine ⟨h1, ?_⟩
  rcases h2 with h2 | ⟨g, cap, cur, hv, hg, hh, r⟩
  · exact .inl h2
  · exact .inr ⟨g, cap, cur, hv, hg, by rw [hb g (by rw [hv]; rfl)]; exact hh, r⟩
theorem row_mono {w : World} {c d : Nat} {e : TypeId} {m : Nat} {v : Value} {n : Nat} {xs : List Value} (h : w.ownsRow c e m v n xs) (hd : d ≤ c) : w.ownsRow d e m v n xs := by
  unfold World.ownsRow at h ⊢
  obtain ⟨h1, h2⟩ := h
  refine ⟨h1, ?_⟩
  rcases h2 with h2 | ⟨g, cap, cur, hv, hg, r⟩
  · exact .inl h2
  · exact .inr ⟨g, cap, cur, hv, by omega, r⟩
theorem row_own {w : World} {c : Nat} {e : TypeId} {m : Nat} {v : Value} {n : Nat} {xs : List Value} (h : w.ownsRow c e m v n xs) : ∀ g, v.ownBlock = some g → c ≤ g ∧ g < w.heap.size := by
  intro g hg
  unfold World.ownsRow at h
  obtain ⟨_, ⟨rfl, _⟩ | ⟨g', cap, cur, rfl, h1, h2, _⟩⟩ := h
  · cases hg
  · cases hg
    exact ⟨h1, (Array.getElem?_eq_some_iff.1 h2).1⟩
theorem row_below {w w' : World} {c : Nat} {e : TypeId} {m : Nat} {v : Value} {n : Nat} {xs : List Value} (h : w.ownsRow c e m v n xs) (hb : Below w.heap.size w w') : w'.ownsRow c e m v n xs :=
  row_kept h (fun g hg => hb.block g (row_own h g hg).2)
/-- A row's cells. -/
theorem row_cell {w : World} {c : Nat} {e : TypeId} {m g n cap : Nat} {xs : List Value} (h : w.ownsRow c e m (.slice (some ⟨g, 0, none⟩) n cap) n xs) (i : Nat) (v : Value) (hi : xs[i]? = some v) : w.cell? ⟨g, i, none⟩ = some v := by
  unfold World.ownsRow at h
  obtain ⟨hl, ⟨h0, _⟩ | ⟨g', cap', cur, h0, h1, h2, h3, h4, h5, h6⟩⟩ := h
  · cases h0
  · cases h0
    rw [cell_of_row _ g _ _ e (0, 0) h2]
    have hlt := (List.getElem?_eq_some_iff.1 hi).1
    rw [← h6, List.getElem?_take_of_lt (by omega)] at hi
    rw [← Array.getElem?_toList]
    exact hi
/-- A reply of MGET: a text, or nothing. -/
def repC : Option ByteArray → List Value
  | some t => [.int .i64 4, .int .i64 0, .string t, .slice none 0 0]
  | none => [.int .i64 5, .int .i64 0, .string ⟨#[]⟩, .slice none 0 0]
def RO (rs : List (Option ByteArray)) (c : Nat) (w : World) (v : Value) : Prop := w.ownsRow c 24 4 v rs.length (rs.flatMap repC)
theorem RO.keep (rs : List (Option ByteArray)) : RKeep (RO rs) :=
  ⟨fun _ _ _ _ h _ hb => row_kept h (fun g hg => hb g (row_own h g hg).1 (row_own h g hg).2), fun _ _ _ _ h hd => row_mono h hd⟩
theorem repC_len (r : Option ByteArray) : (repC r).length = 4 := by cases r <;> rfl
theorem repC_at (rs : List (Option ByteArray)) : ∀ (i j : Nat) (r : Option ByteArray) (v : Value), rs[i]? = some r → (repC r)[j]? = some v → (rs.flatMap repC)[i * 4 + j]? = some v := by
  induction rs with
  | nil => intro i j r v h; cases h
  | cons q t ih =>
    intro i j r v h hv
    have hj : j < 4 := by have := (List.getElem?_eq_some_iff.1 hv).1; rw [repC_len] at this; exact this
    rw [List.flatMap_cons]
    cases i with
    | zero =>
      cases h
      rw [List.getElem?_append_left (by rw [repC_len]; omega), Nat.zero_mul, Nat.zero_add]
      exact hv
    | succ i =>
      rw [List.getElem?_append_right (by rw [repC_len]; omega), repC_len, show (i + 1) * 4 + j - 4 = i * 4 + j by omega]
      exact ih i j r v h hv
theorem i37 : (Tryz.prog.info? 24).map (fun i => (i.zero, i.size, i.bytes)) = some (some (.agg #[.int .i64 0, .int .i64 0, .string ⟨#[]⟩, .slice none 0 0]), 4, 56) := by kernel_rfl
theorem news_blk {w : World} {b : Nat} {cs : List Value} {t : TypeId} (hb : w.heap[b]? = some (.cells cs.toArray t)) : ∀ (j : Nat) (u : Value), cs[j]? = some u → w.cell? ((⟨b, 0, none⟩ : Addr).add j) = some u := by
  intro j u hj
  rw [Addr.add_lit, cell_of_row _ b _ _ t (0, 0) hb, Nat.zero_add]
  simpa using hj
theorem repC_one (r : Option ByteArray) : ∀ u ∈ repC r, u.oneCell' = true := by
  cases r <;> (intro u hu; simp [repC] at hu; rcases hu with rfl | rfl | rfl | rfl <;> rfl)
theorem map_one (xs : List ByteArray) : ∀ u ∈ xs.map Value.string, u.oneCell' = true := by
  intro u hu
  obtain ⟨s, _, rfl⟩ := List.mem_map.1 hu
  rfl
/-- One reply is appended to a row of replies. -/
theorem append_RO {ops : Array Oper} {rest : List Oper} {o : Oper} {a : Act} {Q : Exit → Act → World → Prop} (w : World) (hg : o.guard = none) (s x : Operand) (hop : o.op = Op.call { callee := Callee.builtin Builtin.append, args := #[s, x], argTypes := #[22, 22] })
    (c : Nat) (v : Value) (rs : List (Option ByteArray)) (N : Nat) (hN : rs.length = N) (hs : a.eval s = v) (h : RO rs c w v) (r : Option ByteArray) (b : Nat) (hx : a.eval x = .slice (some ⟨b, 0, none⟩) 1 1) (hb : w.heap[b]? = some (.cells (repC r).toArray 24)) (hl : N ≤ 100000) (hc : c ≤ w.heap.size)
    (k : ∀ g cap w', RO (rs ++ [r]) c w' (.slice (some ⟨g, 0, none⟩) (N + 1) cap) → Below c w w' → wpList Tryz.prog ops Q rest (a.put o.dst (.slice (some ⟨g, 0, none⟩) (N + 1) cap)) w') : wpList Tryz.prog ops Q (o :: rest) a w := by
  subst hN
  obtain ⟨i0, hi, hz0, hz1, hz2⟩ := info_parts i37
  refine wpList_append_lies w hg s x 22 hop c 24 i0 _ 4 56 Tryz.underlying22 hi hz0 hz1 hz2 rfl (by decide) v rs.length _ hs h ⟨b, 0, none⟩ 1 1 (repC r) hx (by rw [repC_len]) (news_blk hb) (repC_one r) (by decide) (by unfold maxLen; omega) (by omega) hc _ rfl ?_
  intro g cap w' h1 h2 _ _
  refine k g cap w' ?_ ((Below.refl _ _).grown h2 hc (fun k hk => (row_own h k hk).1))
  unfold RO
  rw [List.length_append, List.flatMap_append, show [r].length = 1 from rfl, show [r].flatMap repC = repC r by simp]
  exact h1
end Go.Proofs.YtjfejmdnjbekkaaGreatDoor
