/- Texts joined: R2 -/
import Derived.Test.YticlacjpgjkhcaaGreatDoorQc1
import Derived.Test.YticlacjpgjkhcaaGreatDoorQh33

/- The law HashesCounts: its walk. -/
namespace Go.Proofs.YticlacjpgjkhcaaGreatDoor
open Go.ChangeShapes Go.WideShapes Go.ChangeAt Go.RowKit

/-- A slice of whole numbers. -/
def ISl (w : World) (v : Value) (zs : List Int) : Prop := ∃ A cap, v = .slice A zs.length cap ∧ zs.length ≤ cap ∧ cap ≤ maxLen ∧
  (zs ≠ [] → ∃ blk off, A = some ⟨blk, off, none⟩ ∧ blk < w.heap.size ∧ ∀ (i : Nat) z, zs[i]? = some z → w.cell? ⟨blk, off + i, none⟩ = some (.int .i64 z)) ∧ ∀ z ∈ zs, I64 z
theorem tmodM (a : Int) : -1000000 < a.tmod 1000000 ∧ a.tmod 1000000 < 1000000 := by
  have := tmod_bd a 1000000 (by decide)
  omega
theorem tmod3 (i : Nat) : ((i : Int)).tmod 3 = ((i % 3 : Nat) : Int) := by
  rw [Int.tmod_eq_emod_of_nonneg (by omega)]
  omega
theorem conv1 (X : World) (B i cap : Nat) (c : UInt8) (h : X.cell? ⟨B, i, none⟩ = some (.int .u8 (c.toNat : Int))) : (convert 31 9 (.slice (some ⟨B, i, none⟩) 1 cap)).run Tryz.prog X = .ok (.string ⟨#[c]⟩) X := by
  refine run_convert_bytes_back (P := Tryz.prog) X 31 9 5 ⟨B, i, none⟩ cap [c] Tryz.underlying31 Tryz.underlying5 Tryz.underlying9 (fun j hj => ?_)
  have hj0 : j = 0 := by simpa using hj
  subst hj0
  exact h
/-- A block of another type than the space's has turned. -/
theorem LD.far {w X Y : World} {bS bM b : Nat} {D : List (ByteArray × List (ByteArray × ByteArray))} {cs : Array Value} {ty : TypeId} (h : LDF w X bS bM D) (hb : X.heap[b]? = some (.cells cs ty)) (h1 : ty ≠ 57) (h2 : ty ≠ 41) (hk : ∀ i, i ≠ b → Y.heap[i]? = X.heap[i]?) (hB : Below w.heap.size w Y) : LDF w Y bS bM D := by
  have hne := h.ne hb h1
  refine ⟨SPG.move KF KF okF rfl (fun x a c d e hv => KF.kept hv (fun g hg => hk g (fun e => ?_))) (hk _ (Ne.symm hne.1)) (hk _ (Ne.symm hne.2)) h.sp, hB, h.hS, h.hM⟩
  subst e
  have hR := hv.1
  rcases hg with hg | hg | hg | hg
  · rw [hv.2.2.1] at hg; cases hg
  · obtain ⟨cs2, hc⟩ := row_typ hR g hg
    rw [hb] at hc
    cases hc
    exact h2 rfl
  · rw [hv.2.2.2.1] at hg; cases hg
  · rw [hv.2.2.2.2] at hg; cases hg
/-- The space behind a call that began at wr. -/
structure PC (w wr : World) (bS bM : Nat) (F : List (ByteArray × ByteArray)) (Y : World) : Prop where
  ld : LDF w Y bS bM (dF F)
  kp : Kp wr.heap.size (fun i => i ≠ bS ∧ i ≠ bM) wr Y
theorem PC.old {w wr : World} {bS bM : Nat} {F : List (ByteArray × ByteArray)} {Y Z : World} (h : PC w wr bS bM F Y) (hb : Below Y.heap.size Y Z) : PC w wr bS bM F Z :=
  ⟨h.ld.old hb, h.kp.trans ((Kp.of hb).mono h.kp.size (fun _ h => h))⟩
theorem PC.set4 {w wr : World} {bS bM : Nat} {F : List (ByteArray × ByteArray)} {Y : World} (h : PC w wr bS bM F Y) {b : Nat} {cs : Array Value} (hb : Y.heap[b]? = some (.cells cs 29)) (hl : wr.heap.size ≤ b) (hw : w.heap.size ≤ wr.heap.size) (v0 v1 v2 v3 : Value) : PC w wr bS bM F ((((Y.setCell ⟨b, 0, none⟩ v0).setCell ⟨b, 1, none⟩ v1).setCell ⟨b, 2, none⟩ v2).setCell ⟨b, 3, none⟩ v3) := by
  have hk : ∀ i, i ≠ b → ((((Y.setCell ⟨b, 0, none⟩ v0).setCell ⟨b, 1, none⟩ v1).setCell ⟨b, 2, none⟩ v2).setCell ⟨b, 3, none⟩ v3).heap[i]? = Y.heap[i]? := fun i hi => far4 _ _ _ _ hi
  have hwb : w.heap.size ≤ b := Nat.le_trans hw hl
  exact ⟨⟨SPG.rep KF okF h.ld.sp hb hk, (((h.ld.below.setCell (p := ⟨b, 0, none⟩) hwb v0).setCell (p := ⟨b, 1, none⟩) hwb v1).setCell (p := ⟨b, 2, none⟩) hwb v2).setCell (p := ⟨b, 3, none⟩) hwb v3, h.ld.hS, h.ld.hM⟩,
    ((((h.kp.setCell (p := ⟨b, 0, none⟩) (by show ¬ (b < _ ∧ _); omega) v0).setCell (p := ⟨b, 1, none⟩) (by show ¬ (b < _ ∧ _); omega) v1).setCell (p := ⟨b, 2, none⟩) (by show ¬ (b < _ ∧ _); omega) v2).setCell (p := ⟨b, 3, none⟩) (by show ¬ (b < _ ∧ _); omega) v3)⟩
theorem PC.count {w wr : World} {bS bM : Nat} (hT : Tab w) (i : Nat) (s : Nat → Int) (x : Int) (hx : I64 x) (hs : ∀ j, I64 (s j)) (h0 : ∀ j, i ≤ j → s j = 0) (hr : rng (s (i % 3) + x) = true) (Y : World) (vA : Value) (h : PC w wr bS bM (fC i s) Y) (hA : SSl Y vA [⟨#[72, 73, 78, 67, 82, 66, 89]⟩, ⟨#[107]⟩, nK (i % 3), numT x]) : Calls Tryz.prog 23 #[.pointer (some ⟨bS, 0, none⟩), vA] Y fun e w' => e = .returned (.agg #[.int .i64 3, .int .i64 (s (i % 3) + x), .string ⟨#[]⟩, .slice none 0 0]) ∧ PC w wr bS bM (fC (i + 1) (upd s (i % 3) (s (i % 3) + x))) w' ∧ (∀ (b : Nat) (cs : Array Value) (ty : TypeId), Y.heap[b]? = some (.cells cs ty) → ty ≠ 57 → w'.heap[b]? = some (.cells cs ty)) := by
  refine (p_count w bS bM hT i s x hx hs h0 hr Y vA h.ld hA).mono ?_
  rintro e w' ⟨A, m, c, rfl, h1, h2, h3⟩
  cases h1
  exact ⟨rfl, ⟨h2, h.kp.trans (h3.mono h.kp.size (fun _ h => h))⟩, fun b cs ty hb ht => keepL h3 h.ld hb ht⟩
theorem convK (k : Nat) (hk : k < 3) (X : World) (B cap : Nat) (h : X.cell? ⟨B, 0, none⟩ = some (.int .u8 (97 + (k : Int)))) : (convert 31 9 (.slice (some ⟨B, 0, none⟩) 1 cap)).run Tryz.prog X = .ok (.string (nK k)) X := by
  refine conv1 X B 0 cap (UInt8.ofNat (97 + k)) ?_
  rw [h]
  match k, hk with
  | 0, _ => rfl
  | 1, _ => rfl
  | 2, _ => rfl
theorem sum_cell {X : World} {B : Nat} {s : Nat → Int} (h : X.heap[B]? = some (.cells #[.int .i64 (s 0), .int .i64 (s 1), .int .i64 (s 2)] 2)) (k : Nat) (hk : k < 3) : X.cell? ⟨B, k, none⟩ = some (.int .i64 (s k)) := by
  rw [cell_of_row _ B _ _ 2 (0, 0) h]
  match k, hk with
  | 0, _ => rfl
  | 1, _ => rfl
  | 2, _ => rfl
theorem sum_set {X : World} {B : Nat} {s : Nat → Int} (h : X.heap[B]? = some (.cells #[.int .i64 (s 0), .int .i64 (s 1), .int .i64 (s 2)] 2)) (k : Nat) (hk : k < 3) (v : Int) : (X.setCell ⟨B, k, none⟩ (.int .i64 v)).heap[B]? = some (.cells #[.int .i64 (upd s k v 0), .int .i64 (upd s k v 1), .int .i64 (upd s k v 2)] 2) := by
  rw [set_cells h]
  match k, hk with
  | 0, _ => rfl
  | 1, _ => rfl
  | 2, _ => rfl
theorem upd_at (s : Nat → Int) (k : Nat) (v : Int) : upd s k v k = v := if_pos rfl
theorem r_fail (W0 : World) (bS bM : Nat) (F : List (ByteArray × ByteArray)) (hb : FBd F 100) (n XT : ByteArray) (hn : n.size ≤ 100) (hf : findD n F = some XT) (hp : parseI XT.data.toList = none) (hz : XT.size ≤ 100000) (X : World) (hL : LDF W0 X bS bM (dF F)) (q : Nat) (hq : X.heap.size = q) : Calls Tryz.prog 23 #[.pointer (some ⟨bS, 0, none⟩), .slice (some ⟨q, 0, none⟩) 4 4] (X.alloc (.cells #[.string ⟨#[72, 73, 78, 67, 82, 66, 89]⟩, .string ⟨#[107]⟩, .string n, .string ⟨#[49]⟩] 9)) fun e w' => e = .returned (.agg #[.int .i64 2, .int .i64 4, .string ⟨#[]⟩, .slice none 0 0]) ∧ LDF W0 w' bS bM (dF F) ∧ Kp X.heap.size (fun i => i ≠ bS ∧ i ≠ bM) X w' := by
  subst hq
  have hb0 : Below X.heap.size X (X.alloc (.cells #[.string ⟨#[72, 73, 78, 67, 82, 66, 89]⟩, .string ⟨#[107]⟩, .string n, .string ⟨#[49]⟩] 9)) := alloc_old
  refine (d_HINCRBYf W0 bS bM (dF F) ⟨#[107]⟩ (srtF F) (dF_find F) (by rw [len_srtF]; exact hb.few) n ⟨#[49]⟩ (by omega) 1 (by decide) (by kernel_rfl) XT hz hp (by rw [findD_srtF]; exact hf) _ _ (hL.old hb0) (SSl.lit X [⟨#[72, 73, 78, 67, 82, 66, 89]⟩, ⟨#[107]⟩, n, ⟨#[49]⟩] (by simp))).mono ?_
  rintro e w' ⟨h1, h2, h3⟩
  exact ⟨h1, h2, (Kp.of hb0).trans ((Kp.of h3).mono (Below.size hb0) (fun _ h => h))⟩
theorem r_mget (W0 : World) (bS bM : Nat) (F : List (ByteArray × ByteArray)) (hb : FBd F 100) (n1 n2 n3 : ByteArray) (h1 : n1.size ≤ 100) (h2 : n2.size ≤ 100) (h3 : n3.size ≤ 100) (X : World) (hL : LDF W0 X bS bM (dF F)) (q : Nat) (hq : X.heap.size = q) : Calls Tryz.prog 23 #[.pointer (some ⟨bS, 0, none⟩), .slice (some ⟨q, 0, none⟩) 5 5] (X.alloc (.cells #[.string ⟨#[72, 77, 71, 69, 84]⟩, .string ⟨#[107]⟩, .string n1, .string n2, .string n3] 9)) fun e w' => ∃ A m c, e = .returned (.agg #[.int .i64 6, .int .i64 0, .string ⟨#[]⟩, .slice A m c]) ∧ RO [findD n1 F, findD n2 F, findD n3 F] X.heap.size w' (.slice A m c) ∧ LDF W0 w' bS bM (dF F) ∧ Kp X.heap.size (fun i => i ≠ bS ∧ i ≠ bM) X w' := by
  subst hq
  have hps : ∀ (i : Nat) (n : ByteArray), ([n1, n2, n3] : List ByteArray)[i]? = some n → n.size ≤ 1000000 := by
    intro i n h
    have := List.mem_of_getElem? h
    simp at this
    rcases this with rfl | rfl | rfl <;> omega
  exact litR (RO.keep _) X hL [⟨#[72, 77, 71, 69, 84]⟩, ⟨#[107]⟩, n1, n2, n3] (by simp) (fun vA w h hA => d_HMGET W0 bS bM (dF F) ⟨#[107]⟩ [n1, n2, n3] (by simp) (by simp) hps (srtF F) (dF_find F) (by rw [len_srtF]; exact hb.few) vA w h hA) rfl rfl (by simp only [List.map_cons, List.map_nil, findD_srtF])
theorem nT (k : Nat) (hk : k < 3) : ¬ nK k = ⟨#[116]⟩ := by
  match k, hk with
  | 0, _ => decide
  | 1, _ => decide
  | 2, _ => decide
theorem nN (k : Nat) (hk : k < 3) : ¬ nK k = ⟨#[110, 111, 110, 101]⟩ := by
  match k, hk with
  | 0, _ => decide
  | 1, _ => decide
  | 2, _ => decide
theorem fC_other (i : Nat) (s : Nat → Int) (n : ByteArray) (h : ∀ k, k < 3 → ¬ nK k = n) : findD n (fC i s) = none := by
  have e : findD n ([(nK 0, numT (s 0)), (nK 1, numT (s 1)), (nK 2, numT (s 2))] : List (ByteArray × ByteArray)) = none := by
    show (if nK 0 = n then _ else if nK 1 = n then _ else if nK 2 = n then _ else none) = none
    rw [if_neg (h 0 (by decide)), if_neg (h 1 (by decide)), if_neg (h 2 (by decide))]
  refine findD_no_such _ _ fun p hp hpn => ?_
  have hp := List.mem_of_mem_take hp
  simp at hp
  rcases hp with rfl | rfl | rfl
  · exact h 0 (by decide) hpn
  · exact h 1 (by decide) hpn
  · exact h 2 (by decide) hpn
theorem fC_zero (i : Nat) (s : Nat → Int) (h : 1 ≤ i) : findD (nK 0) (fC i s) = some (numT (s 0)) := by
  obtain ⟨j, rfl⟩ : ∃ j, i = j + 1 := ⟨i - 1, by omega⟩
  unfold fC
  rw [List.take_succ_cons]
  exact if_pos rfl
set_option linter.unusedSimpArgs false in
set_option linter.unusedVariables false in
set_option maxRecDepth 100000 in
set_option maxHeartbeats 16000000 in
theorem counts_walk (zs : List Int) (v0 : Value) (t : ByteArray) (w : World) (hT : Tab w) (h0 : ISl w v0 zs) (h12 : zs.length ≤ 12) (ht : t.size ≤ 50) : Calls Tryz.prog 8 #[v0, .string t] w fun e w' => e = .returned (.bool true) ∧ Below w.heap.size w w' := by
  have NW := Lib.hid (fun X => New9 X)
  obtain ⟨aA, cap, rfl, p1, p2, p3, p4⟩ := h0
  obtain ⟨n, hn⟩ : ∃ n : Nat, zs.length = n := ⟨_, rfl⟩
  rw [hn] at h12
  simp only [hn]
  have HN := Lib.hid hn
  have P3 := Lib.hid p3
  have P4 := Lib.hid p4
  have q2 : ¬ (12 : Int) < (n : Int) := by omega
  have q2b : decide ((12 : Int) < (n : Int)) = false := decide_eq_false q2
  have q3b : decide ((50 : Int) < (t.size : Int)) = false := decide_eq_false (by omega)
  have TL := Lib.hid (fun X (hX : Below w.heap.size w X) => told (W0 := X) (Tab.at_ hT hX))
  have HT := Lib.hid hT
  clear p1 p2 p3 p4 hn hT
  go_enter Tryz.func8, Tryz.ntmps8
  go_wp2_with (first | (go_at_call 11; (with_reducible refine (NW.out _).mono ?_); rintro e v0 ⟨bS, bM, rfl, hS0, hbS, hbM, hB0⟩; have L0 := Lib.hid (LD.mk0 KF okF hS0 hB0 hbS hbM); clear hS0 hbS hbM hB0; refine Hid.out ?_))
  refine Lib.hid ?_
  go_wp2
  have LB := Lib.hid (L0.out.old (alloc_old (o := .cells #[.int .i64 0, .int .i64 0, .int .i64 0] 2)))
  have NB := Lib.hid (heap_alloc_new v0 (.cells #[.int .i64 0, .int .i64 0, .int .i64 0] 2))
  obtain ⟨B, hB⟩ : ∃ B, v0.heap.size = B := ⟨_, rfl⟩
  have hwB : w.heap.size ≤ B := by rw [← hB]; exact Below.size L0.out.below
  rw [hB] at NB
  simp only [hB]
  generalize (v0.alloc (.cells #[.int .i64 0, .int .i64 0, .int .i64 0] 2)) = v1 at LB NB ⊢
  clear hB
  go_loopw [7] (fun iv wr => ∃ (i : Nat) (s : Nat → Int), i ≤ n ∧ iv = .int .i64 i ∧ Hid ((∀ j, -(1000000 * (i : Int)) ≤ s j ∧ s j ≤ 1000000 * (i : Int)) ∧ (∀ j, i ≤ j → s j = 0) ∧ LDF w wr bS bM (dF (fC i s)) ∧ wr.heap[B]? = some (.cells #[.int .i64 (s 0), .int .i64 (s 1), .int .i64 (s 2)] 2))) (fun iv _ => n - (intOf iv).toNat)
  case atStart => exact ⟨0, fun _ => 0, Nat.zero_le _, rfl, Lib.hid ⟨fun j => by simp, fun j _ => rfl, LB.out, NB.out⟩⟩
  case round =>
    obtain ⟨i, s, hi, rfl, HQ⟩ := hrel
    by_cases hlt : i < n
    · obtain ⟨z, hz⟩ : ∃ z, zs[i]? = some z := ⟨_, List.getElem?_eq_getElem (by rw [HN.out]; exact hlt)⟩
      have i0 : (i : Int) < (n : Int) := by omega
      obtain ⟨blk, off, rfl, hblt, hc⟩ := P3.out (by intro e; have := HN.out; rw [e] at this; simp at this; omega)
      have d0 := (HQ.out.2.2.1.below.cell (p := ⟨blk, off + i, none⟩) hblt).trans (hc i z hz)
      obtain ⟨k, hk⟩ : ∃ k, i % 3 = k := ⟨_, rfl⟩
      have hk3 : k < 3 := by omega
      have hm3 := tmod3 i
      rw [hk] at hm3
      have hxb := tmodM z
      obtain ⟨x, hx⟩ : ∃ x, z.tmod 1000000 = x := ⟨_, rfl⟩
      rw [hx] at hxb
      have hsk := HQ.out.1 k
      have ck := sum_cell HQ.out.2.2.2 k hk3
      have zfk : wr.frozen? ⟨B, k, none⟩ = false := frozen_of_row wr B _ _ _ HQ.out.2.2.2
      have w1' : wrap64 (s k + x) = s k + x := by unfold wrap64; omega
      have k0 : (0 : Int) ≤ (k : Int) := by omega
      have k1 : (k : Int) < 3 := by omega
      have HS1 := Lib.hid (sum_set HQ.out.2.2.2 k hk3 (s k + x))
      have hBl := lt_blk HQ.out.2.2.2
      have L1 := Lib.hid (LD.far (Y := wr.setCell ⟨B, k, none⟩ (.int .i64 (s k + x))) HQ.out.2.2.1 HQ.out.2.2.2 (by decide) (by decide) (fun j hj => Below.heap_setCell _ ⟨B, k, none⟩ _ _ hj) (HQ.out.2.2.1.below.setCell (p := ⟨B, k, none⟩) hwB _))
      have HX := Lib.hid hx
      have HKK := Lib.hid hk
      clear hc hz
      have hxI : I64 x := ⟨by omega, by omega⟩
      have hsI : ∀ j, I64 (s j) := fun j => by have := HQ.out.1 j; exact ⟨by omega, by omega⟩
      have hz0 := HQ.out.2.1
      have hrg : rng (s (i % 3) + x) = true := rng_yes (by have := HQ.out.1 (i % 3); omega) (by have := HQ.out.1 (i % 3); omega)
      have u1 : IntKind.u8.wrap (k : Int) = (k : Int) := by rw [IntKind.wrap_u8]; omega
      have u2 : IntKind.u8.wrap (97 + (k : Int)) = 97 + (k : Int) := by rw [IntKind.wrap_u8]; omega
      go_wp2_with fail
      obtain ⟨w1, hw1⟩ : ∃ w1, wr.setCell ⟨B, k, none⟩ (.int .i64 (s k + x)) = w1 := ⟨_, rfl⟩
      rw [hw1] at L1 HS1
      rw [hw1]
      have hww := Below.size L1.out.below
      have HW1 := Lib.hid hw1
      clear hw1
      have SK := Lib.hid (show ∀ Y, Kp w1.heap.size (fun i => i ≠ bS ∧ i ≠ bM) w1 Y → Y.cell? ⟨B, k, none⟩ = some (.int .i64 (s k + x)) from fun Y hY => by
        have h := sum_cell (keepL hY L1.out HS1.out (by decide)) k hk3
        rw [upd_at] at h
        exact h)
      have KA := Lib.hid (show ∀ Y (o : Obj), Kp w1.heap.size (fun i => i ≠ bS ∧ i ≠ bM) w1 Y → Kp w1.heap.size (fun i => i ≠ bS ∧ i ≠ bM) w1 (Y.alloc o) from fun Y o h => h.alloc h.size o)
      have S0 := SK.out w1.drew (Kp.refl _ _ _).drew
      have S1 := Lib.hid (fun o => SK.out (w1.alloc o).drew (KA.out _ o (Kp.refl _ _ _)).drew)
      have S2 := Lib.hid (fun o o2 => SK.out ((w1.alloc o).alloc o2).drew (KA.out _ o2 (KA.out _ o (Kp.refl _ _ _))).drew)
      have T1 := Lib.hid (fun Y o (h : Kp w1.heap.size (fun i => i ≠ bS ∧ i ≠ bM) w1 Y) => SK.out (Y.alloc o) (KA.out _ o h))
      have T2 := Lib.hid (fun Y o o2 (h : Kp w1.heap.size (fun i => i ≠ bS ∧ i ≠ bM) w1 Y) => SK.out ((Y.alloc o).alloc o2) (KA.out _ o2 (KA.out _ o h)))
      have T3 := Lib.hid (fun Y o o2 o3 (h : Kp w1.heap.size (fun i => i ≠ bS ∧ i ≠ bM) w1 Y) => SK.out (((Y.alloc o).alloc o2).alloc o3) (KA.out _ o3 (KA.out _ o2 (KA.out _ o h))))
      have T4 := Lib.hid (fun Y b v0 v1 v2 v3 (h : Kp w1.heap.size (fun i => i ≠ bS ∧ i ≠ bM) w1 Y) (hb : w1.heap.size ≤ b) => SK.out ((((Y.setCell ⟨b, 0, none⟩ v0).setCell ⟨b, 1, none⟩ v1).setCell ⟨b, 2, none⟩ v2).setCell ⟨b, 3, none⟩ v3) ((((h.setCell (p := ⟨b, 0, none⟩) (by show ¬ (b < _ ∧ _); omega) v0).setCell (p := ⟨b, 1, none⟩) (by show ¬ (b < _ ∧ _); omega) v1).setCell (p := ⟨b, 2, none⟩) (by show ¬ (b < _ ∧ _); omega) v2).setCell (p := ⟨b, 3, none⟩) (by show ¬ (b < _ ∧ _); omega) v3))
      have cvA := convK k hk3 (w1.alloc (.cells #[.int .u8 (97 + (k : Int))] 5)).drew w1.heap.size 1 (by rw [show (w1.alloc (.cells #[.int .u8 (97 + (k : Int))] 5)).drew.cell? ⟨w1.heap.size, 0, none⟩ = (w1.alloc (.cells #[.int .u8 (97 + (k : Int))] 5)).cell? ⟨w1.heap.size, 0, none⟩ from rfl, cell_of_row _ w1.heap.size _ _ 5 (0, 0) (heap_alloc_new w1 _)]; rfl)
      have cvB := convK k hk3 ((w1.alloc (.cells #[.int .u8 (97 + (k : Int))] 5)).alloc (.cells #[.int .i64 0, .int .i64 0, .string ⟨#[]⟩, .slice none 0 0] 29)).drew w1.heap.size 1 (by rw [show ((w1.alloc (.cells #[.int .u8 (97 + (k : Int))] 5)).alloc (.cells #[.int .i64 0, .int .i64 0, .string ⟨#[]⟩, .slice none 0 0] 29)).drew.cell? ⟨w1.heap.size, 0, none⟩ = ((w1.alloc (.cells #[.int .u8 (97 + (k : Int))] 5)).alloc (.cells #[.int .i64 0, .int .i64 0, .string ⟨#[]⟩, .slice none 0 0] 29)).cell? ⟨w1.heap.size, 0, none⟩ from rfl, cell_of_row _ w1.heap.size _ _ 5 (0, 0) (blk_below (heap_alloc_new w1 _) alloc_old)]; rfl)
      have cvC := convK k hk3 ((w1.alloc (.cells #[.int .i64 0, .int .i64 0, .string ⟨#[]⟩, .slice none 0 0] 29)).alloc (.cells #[.int .u8 (97 + (k : Int))] 5)).drew (w1.heap.size + 1) 1 (by rw [show ((w1.alloc (.cells #[.int .i64 0, .int .i64 0, .string ⟨#[]⟩, .slice none 0 0] 29)).alloc (.cells #[.int .u8 (97 + (k : Int))] 5)).drew.cell? ⟨w1.heap.size + 1, 0, none⟩ = ((w1.alloc (.cells #[.int .i64 0, .int .i64 0, .string ⟨#[]⟩, .slice none 0 0] 29)).alloc (.cells #[.int .u8 (97 + (k : Int))] 5)).cell? ⟨w1.heap.size + 1, 0, none⟩ from rfl, cell_of_row _ (w1.heap.size + 1) _ _ 5 (0, 0) (heap2L w1 _)]; rfl)
      have cw1 := Lib.hid (fun Y : World => convK k hk3 (Y.alloc (.cells #[.int .u8 (97 + (k : Int))] 5)) Y.heap.size 1 (by rw [cell_of_row _ Y.heap.size _ _ 5 (0, 0) (heap_alloc_new Y _)]; rfl))
      have cw2 := Lib.hid (fun Y : World => convK k hk3 ((Y.alloc (.cells #[.int .u8 (97 + (k : Int))] 5)).alloc (.cells #[.int .i64 0, .int .i64 0, .string ⟨#[]⟩, .slice none 0 0] 29)) Y.heap.size 1 (by rw [cell_of_row _ Y.heap.size _ _ 5 (0, 0) (blk_below (heap_alloc_new Y _) alloc_old)]; rfl))
      have cw3 := Lib.hid (fun Y : World => convK k hk3 ((Y.alloc (.cells #[.int .i64 0, .int .i64 0, .string ⟨#[]⟩, .slice none 0 0] 29)).alloc (.cells #[.int .u8 (97 + (k : Int))] 5)) (Y.heap.size + 1) 1 (by rw [cell_of_row _ (Y.heap.size + 1) _ _ 5 (0, 0) (heap2L Y _)]; rfl))
      have cw4 := Lib.hid (fun (Y : World) b (h : Y.heap[b]? = some (.cells #[.int .u8 (97 + (k : Int))] 5)) => convK k hk3 Y b 1 (by rw [cell_of_row _ b _ _ 5 (0, 0) h]; rfl))
      have cw5 := Lib.hid (fun (Y : World) b (h : Y.heap[b]? = some (.cells #[.int .u8 (97 + (k : Int))] 5)) => convK k hk3 (Y.alloc (.cells #[.int .i64 0, .int .i64 0, .string ⟨#[]⟩, .slice none 0 0] 29)) b 1 (by rw [cell_of_row _ b _ _ 5 (0, 0) (blk_below h alloc_old)]; rfl))
      have P0 := Lib.hid (show PC w w1 bS bM (fC i s) w1 from ⟨L1.out, Kp.refl _ _ _⟩)
      have NUM := Lib.hid (fun X (hX : Below w1.heap.size w1 X) => Number13 HT.out x hxI X (P0.out.old hX).ld.below)
      have Na := Lib.hid (NUM.out w1.drew ((Below.refl w1.heap.size w1).drew))
      have Ba := Lib.hid (show Below w1.heap.size w1 w1.drew from (Below.refl w1.heap.size w1).drew)
      have Nb := Lib.hid (NUM.out (w1.alloc (.cells #[.int .u8 (97 + (k : Int))] 5)).drew ((alloc_old (w := w1) (o := .cells #[.int .u8 (97 + (k : Int))] 5)).drew))
      have Bb := Lib.hid (show Below w1.heap.size w1 (w1.alloc (.cells #[.int .u8 (97 + (k : Int))] 5)).drew from (alloc_old (w := w1) (o := .cells #[.int .u8 (97 + (k : Int))] 5)).drew)
      have Yb := Lib.hid (show (w1.alloc (.cells #[.int .u8 (97 + (k : Int))] 5)).drew.heap[w1.heap.size]? = some (.cells #[.int .u8 (97 + (k : Int))] 5) from by show ((w1.alloc (.cells #[.int .u8 (97 + (k : Int))] 5))).heap[w1.heap.size]? = _; exact heap_alloc_new w1 (.cells #[.int .u8 (97 + (k : Int))] 5))
      have Nc := Lib.hid (NUM.out (w1.alloc (.cells #[.int .i64 0, .int .i64 0, .string ⟨#[]⟩, .slice none 0 0] 29)).drew ((alloc_old (w := w1) (o := .cells #[.int .i64 0, .int .i64 0, .string ⟨#[]⟩, .slice none 0 0] 29)).drew))
      have Bc := Lib.hid (show Below w1.heap.size w1 (w1.alloc (.cells #[.int .i64 0, .int .i64 0, .string ⟨#[]⟩, .slice none 0 0] 29)).drew from (alloc_old (w := w1) (o := .cells #[.int .i64 0, .int .i64 0, .string ⟨#[]⟩, .slice none 0 0] 29)).drew)
      have Rc := Lib.hid (show (w1.alloc (.cells #[.int .i64 0, .int .i64 0, .string ⟨#[]⟩, .slice none 0 0] 29)).drew.heap[w1.heap.size]? = some (.cells #[.int .i64 0, .int .i64 0, .string ⟨#[]⟩, .slice none 0 0] 29) from by show ((w1.alloc (.cells #[.int .i64 0, .int .i64 0, .string ⟨#[]⟩, .slice none 0 0] 29))).heap[w1.heap.size]? = _; exact heap_alloc_new w1 (.cells #[.int .i64 0, .int .i64 0, .string ⟨#[]⟩, .slice none 0 0] 29))
      have Nd := Lib.hid (NUM.out ((w1.alloc (.cells #[.int .u8 (97 + (k : Int))] 5)).alloc (.cells #[.int .i64 0, .int .i64 0, .string ⟨#[]⟩, .slice none 0 0] 29)).drew ((alloc_old.trans ((alloc_old (w := w1.alloc (.cells #[.int .u8 (97 + (k : Int))] 5)) (o := .cells #[.int .i64 0, .int .i64 0, .string ⟨#[]⟩, .slice none 0 0] 29)).mono (by simp))).drew))
      have Bd := Lib.hid (show Below w1.heap.size w1 ((w1.alloc (.cells #[.int .u8 (97 + (k : Int))] 5)).alloc (.cells #[.int .i64 0, .int .i64 0, .string ⟨#[]⟩, .slice none 0 0] 29)).drew from (alloc_old.trans ((alloc_old (w := w1.alloc (.cells #[.int .u8 (97 + (k : Int))] 5)) (o := .cells #[.int .i64 0, .int .i64 0, .string ⟨#[]⟩, .slice none 0 0] 29)).mono (by simp))).drew)
      have Yd := Lib.hid (show ((w1.alloc (.cells #[.int .u8 (97 + (k : Int))] 5)).alloc (.cells #[.int .i64 0, .int .i64 0, .string ⟨#[]⟩, .slice none 0 0] 29)).drew.heap[w1.heap.size]? = some (.cells #[.int .u8 (97 + (k : Int))] 5) from by show (((w1.alloc (.cells #[.int .u8 (97 + (k : Int))] 5)).alloc (.cells #[.int .i64 0, .int .i64 0, .string ⟨#[]⟩, .slice none 0 0] 29))).heap[w1.heap.size]? = _; exact blk_below (heap_alloc_new w1 (.cells #[.int .u8 (97 + (k : Int))] 5)) alloc_old)
      have Rd := Lib.hid (show ((w1.alloc (.cells #[.int .u8 (97 + (k : Int))] 5)).alloc (.cells #[.int .i64 0, .int .i64 0, .string ⟨#[]⟩, .slice none 0 0] 29)).drew.heap[w1.heap.size + 1]? = some (.cells #[.int .i64 0, .int .i64 0, .string ⟨#[]⟩, .slice none 0 0] 29) from by show (((w1.alloc (.cells #[.int .u8 (97 + (k : Int))] 5)).alloc (.cells #[.int .i64 0, .int .i64 0, .string ⟨#[]⟩, .slice none 0 0] 29))).heap[w1.heap.size + 1]? = _; exact heap2L w1 _)
      have Ne := Lib.hid (NUM.out ((w1.alloc (.cells #[.int .i64 0, .int .i64 0, .string ⟨#[]⟩, .slice none 0 0] 29)).alloc (.cells #[.int .u8 (97 + (k : Int))] 5)).drew ((alloc_old.trans ((alloc_old (w := w1.alloc (.cells #[.int .i64 0, .int .i64 0, .string ⟨#[]⟩, .slice none 0 0] 29)) (o := .cells #[.int .u8 (97 + (k : Int))] 5)).mono (by simp))).drew))
      have Be := Lib.hid (show Below w1.heap.size w1 ((w1.alloc (.cells #[.int .i64 0, .int .i64 0, .string ⟨#[]⟩, .slice none 0 0] 29)).alloc (.cells #[.int .u8 (97 + (k : Int))] 5)).drew from (alloc_old.trans ((alloc_old (w := w1.alloc (.cells #[.int .i64 0, .int .i64 0, .string ⟨#[]⟩, .slice none 0 0] 29)) (o := .cells #[.int .u8 (97 + (k : Int))] 5)).mono (by simp))).drew)
      have Ye := Lib.hid (show ((w1.alloc (.cells #[.int .i64 0, .int .i64 0, .string ⟨#[]⟩, .slice none 0 0] 29)).alloc (.cells #[.int .u8 (97 + (k : Int))] 5)).drew.heap[w1.heap.size + 1]? = some (.cells #[.int .u8 (97 + (k : Int))] 5) from by show (((w1.alloc (.cells #[.int .i64 0, .int .i64 0, .string ⟨#[]⟩, .slice none 0 0] 29)).alloc (.cells #[.int .u8 (97 + (k : Int))] 5))).heap[w1.heap.size + 1]? = _; exact heap2L w1 _)
      have Re := Lib.hid (show ((w1.alloc (.cells #[.int .i64 0, .int .i64 0, .string ⟨#[]⟩, .slice none 0 0] 29)).alloc (.cells #[.int .u8 (97 + (k : Int))] 5)).drew.heap[w1.heap.size]? = some (.cells #[.int .i64 0, .int .i64 0, .string ⟨#[]⟩, .slice none 0 0] 29) from by show (((w1.alloc (.cells #[.int .i64 0, .int .i64 0, .string ⟨#[]⟩, .slice none 0 0] 29)).alloc (.cells #[.int .u8 (97 + (k : Int))] 5))).heap[w1.heap.size]? = _; exact blk_below (heap_alloc_new w1 (.cells #[.int .i64 0, .int .i64 0, .string ⟨#[]⟩, .slice none 0 0] 29)) alloc_old)
      have DOC := Lib.hid (fun Y v hY hv => PC.count (w := w) (wr := w1) (bS := bS) (bM := bM) HT.out i s x hxI hsI hz0 hrg Y v hY hv)
      simp only [hk] at DOC
      have D1 := Lib.hid (fun (Y : World) (hY : PC w w1 bS bM (fC i s) Y) => (DOC.out (Y.alloc (.cells #[.string ⟨#[72, 73, 78, 67, 82, 66, 89]⟩, .string ⟨#[107]⟩, .string (nK k), .string (numT x)] 9)) (.slice (some ⟨Y.heap.size, 0, none⟩) 4 4) (PC.old hY alloc_old) (lit4s _ _ _ _ _ _ (by simp))))
      have E1 := Lib.hid (show ∀ Y : World, Below Y.heap.size Y (Y.alloc (.cells #[.string ⟨#[72, 73, 78, 67, 82, 66, 89]⟩, .string ⟨#[107]⟩, .string (nK k), .string (numT x)] 9)) from fun Y => alloc_old)
      have D2 := Lib.hid (fun (Y : World) (hY : PC w w1 bS bM (fC i s) Y) => (DOC.out ((Y.alloc (.cells #[.int .u8 (97 + (k : Int))] 5)).alloc (.cells #[.string ⟨#[72, 73, 78, 67, 82, 66, 89]⟩, .string ⟨#[107]⟩, .string (nK k), .string (numT x)] 9)) (.slice (some ⟨(Y.heap.size + 1), 0, none⟩) 4 4) (PC.old (PC.old hY alloc_old) alloc_old) (lit4s _ _ _ _ _ _ (by simp))))
      have E2 := Lib.hid (show ∀ Y : World, Below Y.heap.size Y ((Y.alloc (.cells #[.int .u8 (97 + (k : Int))] 5)).alloc (.cells #[.string ⟨#[72, 73, 78, 67, 82, 66, 89]⟩, .string ⟨#[107]⟩, .string (nK k), .string (numT x)] 9)) from fun Y => (alloc_old.trans (alloc_old.mono (by simp))))
      have D3 := Lib.hid (fun (Y : World) (hY : PC w w1 bS bM (fC i s) Y) => (DOC.out ((Y.alloc (.cells #[.int .i64 0, .int .i64 0, .string ⟨#[]⟩, .slice none 0 0] 29)).alloc (.cells #[.string ⟨#[72, 73, 78, 67, 82, 66, 89]⟩, .string ⟨#[107]⟩, .string (nK k), .string (numT x)] 9)) (.slice (some ⟨(Y.heap.size + 1), 0, none⟩) 4 4) (PC.old (PC.old hY alloc_old) alloc_old) (lit4s _ _ _ _ _ _ (by simp))))
      have E3 := Lib.hid (show ∀ Y : World, Below Y.heap.size Y ((Y.alloc (.cells #[.int .i64 0, .int .i64 0, .string ⟨#[]⟩, .slice none 0 0] 29)).alloc (.cells #[.string ⟨#[72, 73, 78, 67, 82, 66, 89]⟩, .string ⟨#[107]⟩, .string (nK k), .string (numT x)] 9)) from fun Y => (alloc_old.trans (alloc_old.mono (by simp))))
      have G3 := Lib.hid (show ∀ Y : World, ((Y.alloc (.cells #[.int .i64 0, .int .i64 0, .string ⟨#[]⟩, .slice none 0 0] 29)).alloc (.cells #[.string ⟨#[72, 73, 78, 67, 82, 66, 89]⟩, .string ⟨#[107]⟩, .string (nK k), .string (numT x)] 9)).heap[Y.heap.size]? = some (.cells #[.int .i64 0, .int .i64 0, .string ⟨#[]⟩, .slice none 0 0] 29) from fun Y => blk_below (heap_alloc_new Y (.cells #[.int .i64 0, .int .i64 0, .string ⟨#[]⟩, .slice none 0 0] 29)) alloc_old)
      have D4 := Lib.hid (fun (Y : World) (hY : PC w w1 bS bM (fC i s) Y) => (DOC.out ((Y.alloc (.cells #[.string ⟨#[72, 73, 78, 67, 82, 66, 89]⟩, .string ⟨#[107]⟩, .string (nK k), .string (numT x)] 9)).alloc (.cells #[.int .i64 0, .int .i64 0, .string ⟨#[]⟩, .slice none 0 0] 29)) (.slice (some ⟨Y.heap.size, 0, none⟩) 4 4) (PC.old (PC.old hY alloc_old) alloc_old) ((lit4s _ _ _ _ _ _ (by simp)).below (alloc_old (o := .cells #[.int .i64 0, .int .i64 0, .string ⟨#[]⟩, .slice none 0 0] 29)))))
      have E4 := Lib.hid (show ∀ Y : World, Below Y.heap.size Y ((Y.alloc (.cells #[.string ⟨#[72, 73, 78, 67, 82, 66, 89]⟩, .string ⟨#[107]⟩, .string (nK k), .string (numT x)] 9)).alloc (.cells #[.int .i64 0, .int .i64 0, .string ⟨#[]⟩, .slice none 0 0] 29)) from fun Y => (alloc_old.trans (alloc_old.mono (by simp))))
      have G4 := Lib.hid (show ∀ Y : World, ((Y.alloc (.cells #[.string ⟨#[72, 73, 78, 67, 82, 66, 89]⟩, .string ⟨#[107]⟩, .string (nK k), .string (numT x)] 9)).alloc (.cells #[.int .i64 0, .int .i64 0, .string ⟨#[]⟩, .slice none 0 0] 29)).heap[(Y.heap.size + 1)]? = some (.cells #[.int .i64 0, .int .i64 0, .string ⟨#[]⟩, .slice none 0 0] 29) from fun Y => heap2L Y _)
      have D5 := Lib.hid (fun (Y : World) (hY : PC w w1 bS bM (fC i s) Y) => (DOC.out (((Y.alloc (.cells #[.int .u8 (97 + (k : Int))] 5)).alloc (.cells #[.int .i64 0, .int .i64 0, .string ⟨#[]⟩, .slice none 0 0] 29)).alloc (.cells #[.string ⟨#[72, 73, 78, 67, 82, 66, 89]⟩, .string ⟨#[107]⟩, .string (nK k), .string (numT x)] 9)) (.slice (some ⟨(Y.heap.size + 1 + 1), 0, none⟩) 4 4) (PC.old (PC.old (PC.old hY alloc_old) alloc_old) alloc_old) (lit4s _ _ _ _ _ _ (by simp))))
      have E5 := Lib.hid (show ∀ Y : World, Below Y.heap.size Y (((Y.alloc (.cells #[.int .u8 (97 + (k : Int))] 5)).alloc (.cells #[.int .i64 0, .int .i64 0, .string ⟨#[]⟩, .slice none 0 0] 29)).alloc (.cells #[.string ⟨#[72, 73, 78, 67, 82, 66, 89]⟩, .string ⟨#[107]⟩, .string (nK k), .string (numT x)] 9)) from fun Y => ((alloc_old.trans (alloc_old.mono (by simp))).trans (alloc_old.mono (by simp <;> omega))))
      have G5 := Lib.hid (show ∀ Y : World, (((Y.alloc (.cells #[.int .u8 (97 + (k : Int))] 5)).alloc (.cells #[.int .i64 0, .int .i64 0, .string ⟨#[]⟩, .slice none 0 0] 29)).alloc (.cells #[.string ⟨#[72, 73, 78, 67, 82, 66, 89]⟩, .string ⟨#[107]⟩, .string (nK k), .string (numT x)] 9)).heap[(Y.heap.size + 1)]? = some (.cells #[.int .i64 0, .int .i64 0, .string ⟨#[]⟩, .slice none 0 0] 29) from fun Y => blk_below (heap2L Y _) alloc_old)
      have D6 := Lib.hid (fun (Y : World) (hY : PC w w1 bS bM (fC i s) Y) => (DOC.out (((Y.alloc (.cells #[.int .i64 0, .int .i64 0, .string ⟨#[]⟩, .slice none 0 0] 29)).alloc (.cells #[.int .u8 (97 + (k : Int))] 5)).alloc (.cells #[.string ⟨#[72, 73, 78, 67, 82, 66, 89]⟩, .string ⟨#[107]⟩, .string (nK k), .string (numT x)] 9)) (.slice (some ⟨(Y.heap.size + 1 + 1), 0, none⟩) 4 4) (PC.old (PC.old (PC.old hY alloc_old) alloc_old) alloc_old) (lit4s _ _ _ _ _ _ (by simp))))
      have E6 := Lib.hid (show ∀ Y : World, Below Y.heap.size Y (((Y.alloc (.cells #[.int .i64 0, .int .i64 0, .string ⟨#[]⟩, .slice none 0 0] 29)).alloc (.cells #[.int .u8 (97 + (k : Int))] 5)).alloc (.cells #[.string ⟨#[72, 73, 78, 67, 82, 66, 89]⟩, .string ⟨#[107]⟩, .string (nK k), .string (numT x)] 9)) from fun Y => ((alloc_old.trans (alloc_old.mono (by simp))).trans (alloc_old.mono (by simp <;> omega))))
      have G6 := Lib.hid (show ∀ Y : World, (((Y.alloc (.cells #[.int .i64 0, .int .i64 0, .string ⟨#[]⟩, .slice none 0 0] 29)).alloc (.cells #[.int .u8 (97 + (k : Int))] 5)).alloc (.cells #[.string ⟨#[72, 73, 78, 67, 82, 66, 89]⟩, .string ⟨#[107]⟩, .string (nK k), .string (numT x)] 9)).heap[Y.heap.size]? = some (.cells #[.int .i64 0, .int .i64 0, .string ⟨#[]⟩, .slice none 0 0] 29) from fun Y => blk_below (blk_below (heap_alloc_new Y (.cells #[.int .i64 0, .int .i64 0, .string ⟨#[]⟩, .slice none 0 0] 29)) alloc_old) alloc_old)
      have D7 := Lib.hid (fun (Y : World) (hY : PC w w1 bS bM (fC i s) Y) => (DOC.out (((Y.alloc (.cells #[.int .u8 (97 + (k : Int))] 5)).alloc (.cells #[.string ⟨#[72, 73, 78, 67, 82, 66, 89]⟩, .string ⟨#[107]⟩, .string (nK k), .string (numT x)] 9)).alloc (.cells #[.int .i64 0, .int .i64 0, .string ⟨#[]⟩, .slice none 0 0] 29)) (.slice (some ⟨(Y.heap.size + 1), 0, none⟩) 4 4) (PC.old (PC.old (PC.old hY alloc_old) alloc_old) alloc_old) ((lit4s _ _ _ _ _ _ (by simp)).below (alloc_old (o := .cells #[.int .i64 0, .int .i64 0, .string ⟨#[]⟩, .slice none 0 0] 29)))))
      have E7 := Lib.hid (show ∀ Y : World, Below Y.heap.size Y (((Y.alloc (.cells #[.int .u8 (97 + (k : Int))] 5)).alloc (.cells #[.string ⟨#[72, 73, 78, 67, 82, 66, 89]⟩, .string ⟨#[107]⟩, .string (nK k), .string (numT x)] 9)).alloc (.cells #[.int .i64 0, .int .i64 0, .string ⟨#[]⟩, .slice none 0 0] 29)) from fun Y => ((alloc_old.trans (alloc_old.mono (by simp))).trans (alloc_old.mono (by simp <;> omega))))
      have G7 := Lib.hid (show ∀ Y : World, (((Y.alloc (.cells #[.int .u8 (97 + (k : Int))] 5)).alloc (.cells #[.string ⟨#[72, 73, 78, 67, 82, 66, 89]⟩, .string ⟨#[107]⟩, .string (nK k), .string (numT x)] 9)).alloc (.cells #[.int .i64 0, .int .i64 0, .string ⟨#[]⟩, .slice none 0 0] 29)).heap[(Y.heap.size + 1 + 1)]? = some (.cells #[.int .i64 0, .int .i64 0, .string ⟨#[]⟩, .slice none 0 0] 29) from fun Y => (by have h := heap_alloc_new ((Y.alloc (.cells #[.int .u8 (97 + (k : Int))] 5)).alloc (.cells #[.string ⟨#[72, 73, 78, 67, 82, 66, 89]⟩, .string ⟨#[107]⟩, .string (nK k), .string (numT x)] 9)) (.cells #[.int .i64 0, .int .i64 0, .string ⟨#[]⟩, .slice none 0 0] 29); simpa using h))
      clear hsI hz0 hrg
      go_cut [10] from 26 to 69 (fun r wx => ∃ b, r = .pointer (some ⟨b, 0, none⟩) ∧ Hid (wx.heap[b]? = some (.cells #[.int .i64 3, .int .i64 (s k + x), .string ⟨#[]⟩, .slice none 0 0] 29) ∧ PC w w1 bS bM (fC (i + 1) (upd s k (s k + x))) wx))
      case first =>
        refine wp_region_noPanic ?_
        refine wp_region_held_drew (S := fun X => X.cell? ⟨B, k, none⟩ = some (.int .i64 (s k + x))) (by kernel_rfl) S0 (fun hH0 => ?_)
        refine wpAnyH_take (i := 0) (v := .pointer (some ⟨bS, 0, none⟩)) rfl (by kernel_rfl) (by kernel_rfl) (by kernel_rfl) (fun _ _ _ h => h) (Or.inl ⟨by kernel_rfl, fun w hSw => by go_simp⟩) hH0 ?_
        try simp only [Act.put, List.getElem_toArray, List.getElem_cons_zero, List.getElem_cons_succ, List.setIfInBounds_toArray, List.set_cons_zero, List.set_cons_succ]
        refine wpAnyH_take (i := 1) (v := .int .i64 k) rfl (by kernel_rfl) (by kernel_rfl) (by kernel_rfl) (fun _ _ _ h => h) (Or.inl ⟨by kernel_rfl, fun w hSw => by go_simp⟩) hH0 ?_
        try simp only [Act.put, List.getElem_toArray, List.getElem_cons_zero, List.getElem_cons_succ, List.setIfInBounds_toArray, List.set_cons_zero, List.set_cons_succ]
        refine wpAnyH_take (i := 2) (v := .int .u8 k) rfl (by kernel_rfl) (by kernel_rfl) (by kernel_rfl) (fun _ _ _ h => h) (Or.inl ⟨by kernel_rfl, fun w hSw => by go_simp⟩) hH0 ?_
        try simp only [Act.put, List.getElem_toArray, List.getElem_cons_zero, List.getElem_cons_succ, List.setIfInBounds_toArray, List.set_cons_zero, List.set_cons_succ]
        refine wpAnyH_take (i := 3) (v := .int .u8 (97 + k)) rfl (by kernel_rfl) (by kernel_rfl) (by kernel_rfl) (fun _ _ _ h => h) (Or.inl ⟨by kernel_rfl, fun w hSw => by go_simp⟩) hH0 ?_
        try simp only [Act.put, List.getElem_toArray, List.getElem_cons_zero, List.getElem_cons_succ, List.setIfInBounds_toArray, List.set_cons_zero, List.set_cons_succ]
        refine wpAnyH_take (i := 6) (v := .int .i64 x) rfl (by kernel_rfl) (by kernel_rfl) (by kernel_rfl) (fun _ _ _ h => h) (Or.inl ⟨by kernel_rfl, fun w hSw => by go_simp⟩) hH0 ?_
        try simp only [Act.put, List.getElem_toArray, List.getElem_cons_zero, List.getElem_cons_succ, List.setIfInBounds_toArray, List.set_cons_zero, List.set_cons_succ]
        refine wpAnyH_ready (rs := [4, 7, 10]) (by kernel_rfl) (by simp) ?_
        refine AllReadyH.cons rfl (fun K hK => ?_) ?_
        · skip
          go_simp
          refine hK.out _ _ (by (first | (with_reducible exact S1.out _) | (first | (with_reducible exact S0) | (with_reducible exact S1.out _) | (with_reducible exact S2.out _ _) | (with_reducible assumption) | (with_reducible refine SK.out _ ?_; with_reducible assumption) | (with_reducible refine T1.out _ _ ?_; with_reducible assumption) | (with_reducible refine T2.out _ _ _ ?_; with_reducible assumption) | (with_reducible refine T3.out _ _ _ _ ?_; with_reducible assumption) | (with_reducible refine T4.out _ _ _ _ _ _ ?_ ?_ <;> (first | (with_reducible assumption) | omega))))) (fun hH1 => ?_)
          clear hK K hH0
          try simp only [Act.put, List.setIfInBounds_toArray, List.set_cons_zero, List.set_cons_succ]
          refine wpAnyH_ready (rs := [5, 7, 10]) (by kernel_rfl) (by simp) ?_
          refine AllReadyH.cons rfl (fun K hK => ?_) ?_
          · skip
            go_simp
            refine hK.out _ _ (by (first | (with_reducible exact S1.out _) | (first | (with_reducible exact S0) | (with_reducible exact S1.out _) | (with_reducible exact S2.out _ _) | (with_reducible assumption) | (with_reducible refine SK.out _ ?_; with_reducible assumption) | (with_reducible refine T1.out _ _ ?_; with_reducible assumption) | (with_reducible refine T2.out _ _ _ ?_; with_reducible assumption) | (with_reducible refine T3.out _ _ _ _ ?_; with_reducible assumption) | (with_reducible refine T4.out _ _ _ _ _ _ ?_ ?_ <;> (first | (with_reducible assumption) | omega))))) (fun hH2 => ?_)
            clear hK K hH1
            try simp only [Act.put, List.setIfInBounds_toArray, List.set_cons_zero, List.set_cons_succ]
            refine wpAnyH_ready (rs := [7, 10]) (by kernel_rfl) (by simp) ?_
            refine AllReadyH.cons rfl (fun K hK => ?_) ?_
            · skip
              go_simp
              go_at_call 13
              (with_reducible refine (Nb.out).mono ?_)
              rintro e wa ⟨rfl, hb⟩
              have PY := Lib.hid (P0.out.old (Bb.out.trans (hb.mono (Below.size Bb.out))))
              have KY := PY.out.kp
              have yb := blk_below Yb.out hb
              have cx := cw4.out wa _ yb
              have cx2 := cw5.out wa _ yb
              clear hb
              refine hK.out _ _ (by (first | (with_reducible exact SK.out _ KY) | (first | (with_reducible exact S0) | (with_reducible exact S1.out _) | (with_reducible exact S2.out _ _) | (with_reducible assumption) | (with_reducible refine SK.out _ ?_; with_reducible assumption) | (with_reducible refine T1.out _ _ ?_; with_reducible assumption) | (with_reducible refine T2.out _ _ _ ?_; with_reducible assumption) | (with_reducible refine T3.out _ _ _ _ ?_; with_reducible assumption) | (with_reducible refine T4.out _ _ _ _ _ _ ?_ ?_ <;> (first | (with_reducible assumption) | omega))))) (fun hH3 => ?_)
              clear hK K hH2
              try simp only [Act.put, List.setIfInBounds_toArray, List.set_cons_zero, List.set_cons_succ]
              refine wpAnyH_ready (rs := [8, 10]) (by kernel_rfl) (by simp) ?_
              refine AllReadyH.cons rfl (fun K hK => ?_) ?_
              · skip
                go_simp
                refine hK.out _ _ (by (first | (with_reducible exact T1.out _ _ KY) | (first | (with_reducible exact S0) | (with_reducible exact S1.out _) | (with_reducible exact S2.out _ _) | (with_reducible assumption) | (with_reducible refine SK.out _ ?_; with_reducible assumption) | (with_reducible refine T1.out _ _ ?_; with_reducible assumption) | (with_reducible refine T2.out _ _ _ ?_; with_reducible assumption) | (with_reducible refine T3.out _ _ _ _ ?_; with_reducible assumption) | (with_reducible refine T4.out _ _ _ _ _ _ ?_ ?_ <;> (first | (with_reducible assumption) | omega))))) (fun hH4 => ?_)
                clear hK K hH3
                try simp only [Act.put, List.setIfInBounds_toArray, List.set_cons_zero, List.set_cons_succ]
                refine wpAnyH_ready (rs := [9, 10]) (by kernel_rfl) (by simp) ?_
                refine AllReadyH.cons rfl (fun K hK => ?_) ?_
                · skip
                  go_simp
                  go_at_call 23
                  (with_reducible refine (D1.out wa PY.out).mono ?_)
                  rintro e wb ⟨rfl, hP, hkk⟩
                  have P2 := Lib.hid hP
                  have K2 := hP.kp
                  (first | (have C2 := Lib.hid (hkk _ _ _ (blk_below CR.out (E1.out wa)) (by decide)); obtain ⟨⟨d0, d1, d2, d3⟩, ⟨f0, f1, f2, f3⟩⟩ := cells4 C2.out) | skip)
                  clear hP hkk
                  refine hK.out _ _ (by (first | (with_reducible exact SK.out _ K2) | (first | (with_reducible exact S0) | (with_reducible exact S1.out _) | (with_reducible exact S2.out _ _) | (with_reducible assumption) | (with_reducible refine SK.out _ ?_; with_reducible assumption) | (with_reducible refine T1.out _ _ ?_; with_reducible assumption) | (with_reducible refine T2.out _ _ _ ?_; with_reducible assumption) | (with_reducible refine T3.out _ _ _ _ ?_; with_reducible assumption) | (with_reducible refine T4.out _ _ _ _ _ _ ?_ ?_ <;> (first | (with_reducible assumption) | omega))))) (fun hH5 => ?_)
                  clear hK K hH4
                  try simp only [Act.put, List.setIfInBounds_toArray, List.set_cons_zero, List.set_cons_succ]
                  refine wpAnyH_ready (rs := [10]) (by kernel_rfl) (by simp) ?_
                  refine AllReadyH.cons rfl (fun K hK => ?_) AllReadyH.nil
                  go_simp
                  refine hK.out _ _ (by (first | (with_reducible exact T1.out _ _ K2) | (first | (with_reducible exact S0) | (with_reducible exact S1.out _) | (with_reducible exact S2.out _ _) | (with_reducible assumption) | (with_reducible refine SK.out _ ?_; with_reducible assumption) | (with_reducible refine T1.out _ _ ?_; with_reducible assumption) | (with_reducible refine T2.out _ _ _ ?_; with_reducible assumption) | (with_reducible refine T3.out _ _ _ _ ?_; with_reducible assumption) | (with_reducible refine T4.out _ _ _ _ _ _ ?_ ?_ <;> (first | (with_reducible assumption) | omega))))) (fun hH6 => ?_)
                  clear hK K hH5
                  try simp only [Act.put, List.setIfInBounds_toArray, List.set_cons_zero, List.set_cons_succ]
                  refine wpAnyH_ready (rs := [11]) (by kernel_rfl) (by simp) ?_
                  refine AllReadyH.cons rfl (fun K hK => ?_) AllReadyH.nil
                  go_simp
                  refine hK.out _ _ (by (first | (with_reducible exact T1.out _ _ K2) | (first | (with_reducible exact S0) | (with_reducible exact S1.out _) | (with_reducible exact S2.out _ _) | (with_reducible assumption) | (with_reducible refine SK.out _ ?_; with_reducible assumption) | (with_reducible refine T1.out _ _ ?_; with_reducible assumption) | (with_reducible refine T2.out _ _ _ ?_; with_reducible assumption) | (with_reducible refine T3.out _ _ _ _ ?_; with_reducible assumption) | (with_reducible refine T4.out _ _ _ _ _ _ ?_ ?_ <;> (first | (with_reducible assumption) | omega))))) (fun hH7 => ?_)
                  clear hK K hH6
                  try simp only [Act.put, List.setIfInBounds_toArray, List.set_cons_zero, List.set_cons_succ]
                  refine wpAnyH_done (by kernel_rfl) ?_ _
                  refine NoPanic.normal ?_
                  go_wp2_with fail
                  go_meet
                  first | exact ⟨_, rfl, Lib.hid ⟨heap_alloc_new wb _, P2.out.old alloc_old⟩⟩ | exact ⟨_, rfl, Lib.hid ⟨blk4 C2.out _ _ _ _, P2.out.set4 C2.out (by first | assumption | omega) hww _ _ _ _⟩⟩
                refine AllReadyH.cons rfl (fun K hK => ?_) AllReadyH.nil
                go_simp
                refine hK.out _ _ (by (first | (with_reducible exact T2.out _ _ _ KY) | (first | (with_reducible exact S0) | (with_reducible exact S1.out _) | (with_reducible exact S2.out _ _) | (with_reducible assumption) | (with_reducible refine SK.out _ ?_; with_reducible assumption) | (with_reducible refine T1.out _ _ ?_; with_reducible assumption) | (with_reducible refine T2.out _ _ _ ?_; with_reducible assumption) | (with_reducible refine T3.out _ _ _ _ ?_; with_reducible assumption) | (with_reducible refine T4.out _ _ _ _ _ _ ?_ ?_ <;> (first | (with_reducible assumption) | omega))))) (fun hH8 => ?_)
                clear hK K hH4
                try simp only [Act.put, List.setIfInBounds_toArray, List.set_cons_zero, List.set_cons_succ]
                refine wpAnyH_ready (rs := [9]) (by kernel_rfl) (by simp) ?_
                refine AllReadyH.cons rfl (fun K hK => ?_) AllReadyH.nil
                go_simp
                go_at_call 23
                (with_reducible refine (D4.out wa PY.out).mono ?_)
                rintro e wb ⟨rfl, hP, hkk⟩
                have P2 := Lib.hid hP
                have K2 := hP.kp
                have C2 := Lib.hid (hkk _ _ _ (G4.out wa) (by decide))
                obtain ⟨⟨d0, d1, d2, d3⟩, ⟨f0, f1, f2, f3⟩⟩ := cells4 C2.out
                have Zb : w1.heap.size ≤ _ := Nat.le_trans KY.size (by first | exact Nat.le_refl _ | exact Nat.le_succ _ | exact Nat.le_succ_of_le (Nat.le_succ _))
                clear hP hkk
                refine hK.out _ _ (by (first | (with_reducible exact SK.out _ K2) | (first | (with_reducible exact S0) | (with_reducible exact S1.out _) | (with_reducible exact S2.out _ _) | (with_reducible assumption) | (with_reducible refine SK.out _ ?_; with_reducible assumption) | (with_reducible refine T1.out _ _ ?_; with_reducible assumption) | (with_reducible refine T2.out _ _ _ ?_; with_reducible assumption) | (with_reducible refine T3.out _ _ _ _ ?_; with_reducible assumption) | (with_reducible refine T4.out _ _ _ _ _ _ ?_ ?_ <;> (first | (with_reducible assumption) | omega))))) (fun hH9 => ?_)
                clear hK K hH8
                try simp only [Act.put, List.setIfInBounds_toArray, List.set_cons_zero, List.set_cons_succ]
                refine wpAnyH_ready (rs := [11]) (by kernel_rfl) (by simp) ?_
                refine AllReadyH.cons rfl (fun K hK => ?_) AllReadyH.nil
                go_simp
                refine hK.out _ _ (by (first | (with_reducible exact S0) | (with_reducible exact S1.out _) | (with_reducible exact S2.out _ _) | (with_reducible assumption) | (with_reducible refine SK.out _ ?_; with_reducible assumption) | (with_reducible refine T1.out _ _ ?_; with_reducible assumption) | (with_reducible refine T2.out _ _ _ ?_; with_reducible assumption) | (with_reducible refine T3.out _ _ _ _ ?_; with_reducible assumption) | (with_reducible refine T4.out _ _ _ _ _ _ ?_ ?_ <;> (first | (with_reducible assumption) | omega)))) (fun hH10 => ?_)
                clear hK K hH9
                try simp only [Act.put, List.setIfInBounds_toArray, List.set_cons_zero, List.set_cons_succ]
                refine wpAnyH_done (by kernel_rfl) ?_ _
                refine NoPanic.normal ?_
                go_wp2_with fail
                go_meet
                first | exact ⟨_, rfl, Lib.hid ⟨heap_alloc_new wb _, P2.out.old alloc_old⟩⟩ | exact ⟨_, rfl, Lib.hid ⟨blk4 C2.out _ _ _ _, P2.out.set4 C2.out (by first | assumption | omega) hww _ _ _ _⟩⟩
              refine AllReadyH.cons rfl (fun K hK => ?_) AllReadyH.nil
              go_simp
              refine hK.out _ _ (by (first | (with_reducible exact T1.out _ _ KY) | (first | (with_reducible exact S0) | (with_reducible exact S1.out _) | (with_reducible exact S2.out _ _) | (with_reducible assumption) | (with_reducible refine SK.out _ ?_; with_reducible assumption) | (with_reducible refine T1.out _ _ ?_; with_reducible assumption) | (with_reducible refine T2.out _ _ _ ?_; with_reducible assumption) | (with_reducible refine T3.out _ _ _ _ ?_; with_reducible assumption) | (with_reducible refine T4.out _ _ _ _ _ _ ?_ ?_ <;> (first | (with_reducible assumption) | omega))))) (fun hH11 => ?_)
              clear hK K hH3
              try simp only [Act.put, List.setIfInBounds_toArray, List.set_cons_zero, List.set_cons_succ]
              refine wpAnyH_ready (rs := [8]) (by kernel_rfl) (by simp) ?_
              refine AllReadyH.cons rfl (fun K hK => ?_) AllReadyH.nil
              go_simp
              refine hK.out _ _ (by (first | (with_reducible exact T2.out _ _ _ KY) | (first | (with_reducible exact S0) | (with_reducible exact S1.out _) | (with_reducible exact S2.out _ _) | (with_reducible assumption) | (with_reducible refine SK.out _ ?_; with_reducible assumption) | (with_reducible refine T1.out _ _ ?_; with_reducible assumption) | (with_reducible refine T2.out _ _ _ ?_; with_reducible assumption) | (with_reducible refine T3.out _ _ _ _ ?_; with_reducible assumption) | (with_reducible refine T4.out _ _ _ _ _ _ ?_ ?_ <;> (first | (with_reducible assumption) | omega))))) (fun hH12 => ?_)
              clear hK K hH11
              try simp only [Act.put, List.setIfInBounds_toArray, List.set_cons_zero, List.set_cons_succ]
              refine wpAnyH_ready (rs := [9]) (by kernel_rfl) (by simp) ?_
              refine AllReadyH.cons rfl (fun K hK => ?_) AllReadyH.nil
              go_simp
              go_at_call 23
              (with_reducible refine (D3.out wa PY.out).mono ?_)
              rintro e wb ⟨rfl, hP, hkk⟩
              have P2 := Lib.hid hP
              have K2 := hP.kp
              have C2 := Lib.hid (hkk _ _ _ (G3.out wa) (by decide))
              obtain ⟨⟨d0, d1, d2, d3⟩, ⟨f0, f1, f2, f3⟩⟩ := cells4 C2.out
              have Zb : w1.heap.size ≤ _ := Nat.le_trans KY.size (by first | exact Nat.le_refl _ | exact Nat.le_succ _ | exact Nat.le_succ_of_le (Nat.le_succ _))
              clear hP hkk
              refine hK.out _ _ (by (first | (with_reducible exact SK.out _ K2) | (first | (with_reducible exact S0) | (with_reducible exact S1.out _) | (with_reducible exact S2.out _ _) | (with_reducible assumption) | (with_reducible refine SK.out _ ?_; with_reducible assumption) | (with_reducible refine T1.out _ _ ?_; with_reducible assumption) | (with_reducible refine T2.out _ _ _ ?_; with_reducible assumption) | (with_reducible refine T3.out _ _ _ _ ?_; with_reducible assumption) | (with_reducible refine T4.out _ _ _ _ _ _ ?_ ?_ <;> (first | (with_reducible assumption) | omega))))) (fun hH13 => ?_)
              clear hK K hH12
              try simp only [Act.put, List.setIfInBounds_toArray, List.set_cons_zero, List.set_cons_succ]
              refine wpAnyH_ready (rs := [11]) (by kernel_rfl) (by simp) ?_
              refine AllReadyH.cons rfl (fun K hK => ?_) AllReadyH.nil
              go_simp
              refine hK.out _ _ (by (first | (with_reducible exact S0) | (with_reducible exact S1.out _) | (with_reducible exact S2.out _ _) | (with_reducible assumption) | (with_reducible refine SK.out _ ?_; with_reducible assumption) | (with_reducible refine T1.out _ _ ?_; with_reducible assumption) | (with_reducible refine T2.out _ _ _ ?_; with_reducible assumption) | (with_reducible refine T3.out _ _ _ _ ?_; with_reducible assumption) | (with_reducible refine T4.out _ _ _ _ _ _ ?_ ?_ <;> (first | (with_reducible assumption) | omega)))) (fun hH14 => ?_)
              clear hK K hH13
              try simp only [Act.put, List.setIfInBounds_toArray, List.set_cons_zero, List.set_cons_succ]
              refine wpAnyH_done (by kernel_rfl) ?_ _
              refine NoPanic.normal ?_
              go_wp2_with fail
              go_meet
              first | exact ⟨_, rfl, Lib.hid ⟨heap_alloc_new wb _, P2.out.old alloc_old⟩⟩ | exact ⟨_, rfl, Lib.hid ⟨blk4 C2.out _ _ _ _, P2.out.set4 C2.out (by first | assumption | omega) hww _ _ _ _⟩⟩
            refine AllReadyH.cons rfl (fun K hK => ?_) AllReadyH.nil
            go_simp
            refine hK.out _ _ (by (first | (with_reducible exact S2.out _ _) | (first | (with_reducible exact S0) | (with_reducible exact S1.out _) | (with_reducible exact S2.out _ _) | (with_reducible assumption) | (with_reducible refine SK.out _ ?_; with_reducible assumption) | (with_reducible refine T1.out _ _ ?_; with_reducible assumption) | (with_reducible refine T2.out _ _ _ ?_; with_reducible assumption) | (with_reducible refine T3.out _ _ _ _ ?_; with_reducible assumption) | (with_reducible refine T4.out _ _ _ _ _ _ ?_ ?_ <;> (first | (with_reducible assumption) | omega))))) (fun hH15 => ?_)
            clear hK K hH2
            try simp only [Act.put, List.setIfInBounds_toArray, List.set_cons_zero, List.set_cons_succ]
            refine wpAnyH_ready (rs := [7]) (by kernel_rfl) (by simp) ?_
            refine AllReadyH.cons rfl (fun K hK => ?_) AllReadyH.nil
            go_simp
            go_at_call 13
            (with_reducible refine (Nd.out).mono ?_)
            rintro e wa ⟨rfl, hb⟩
            have PY := Lib.hid (P0.out.old (Bd.out.trans (hb.mono (Below.size Bd.out))))
            have KY := PY.out.kp
            have yb := blk_below Yd.out hb
            have cx := cw4.out wa _ yb
            have CR := Lib.hid (blk_below Rd.out hb)
            clear hb
            refine hK.out _ _ (by (first | (with_reducible exact SK.out _ KY) | (first | (with_reducible exact S0) | (with_reducible exact S1.out _) | (with_reducible exact S2.out _ _) | (with_reducible assumption) | (with_reducible refine SK.out _ ?_; with_reducible assumption) | (with_reducible refine T1.out _ _ ?_; with_reducible assumption) | (with_reducible refine T2.out _ _ _ ?_; with_reducible assumption) | (with_reducible refine T3.out _ _ _ _ ?_; with_reducible assumption) | (with_reducible refine T4.out _ _ _ _ _ _ ?_ ?_ <;> (first | (with_reducible assumption) | omega))))) (fun hH16 => ?_)
            clear hK K hH15
            try simp only [Act.put, List.setIfInBounds_toArray, List.set_cons_zero, List.set_cons_succ]
            refine wpAnyH_ready (rs := [8]) (by kernel_rfl) (by simp) ?_
            refine AllReadyH.cons rfl (fun K hK => ?_) AllReadyH.nil
            go_simp
            refine hK.out _ _ (by (first | (with_reducible exact T1.out _ _ KY) | (first | (with_reducible exact S0) | (with_reducible exact S1.out _) | (with_reducible exact S2.out _ _) | (with_reducible assumption) | (with_reducible refine SK.out _ ?_; with_reducible assumption) | (with_reducible refine T1.out _ _ ?_; with_reducible assumption) | (with_reducible refine T2.out _ _ _ ?_; with_reducible assumption) | (with_reducible refine T3.out _ _ _ _ ?_; with_reducible assumption) | (with_reducible refine T4.out _ _ _ _ _ _ ?_ ?_ <;> (first | (with_reducible assumption) | omega))))) (fun hH17 => ?_)
            clear hK K hH16
            try simp only [Act.put, List.setIfInBounds_toArray, List.set_cons_zero, List.set_cons_succ]
            refine wpAnyH_ready (rs := [9]) (by kernel_rfl) (by simp) ?_
            refine AllReadyH.cons rfl (fun K hK => ?_) AllReadyH.nil
            go_simp
            go_at_call 23
            (with_reducible refine (D1.out wa PY.out).mono ?_)
            rintro e wb ⟨rfl, hP, hkk⟩
            have P2 := Lib.hid hP
            have K2 := hP.kp
            (first | (have C2 := Lib.hid (hkk _ _ _ (blk_below CR.out (E1.out wa)) (by decide)); obtain ⟨⟨d0, d1, d2, d3⟩, ⟨f0, f1, f2, f3⟩⟩ := cells4 C2.out) | skip)
            clear hP hkk
            refine hK.out _ _ (by (first | (with_reducible exact SK.out _ K2) | (first | (with_reducible exact S0) | (with_reducible exact S1.out _) | (with_reducible exact S2.out _ _) | (with_reducible assumption) | (with_reducible refine SK.out _ ?_; with_reducible assumption) | (with_reducible refine T1.out _ _ ?_; with_reducible assumption) | (with_reducible refine T2.out _ _ _ ?_; with_reducible assumption) | (with_reducible refine T3.out _ _ _ _ ?_; with_reducible assumption) | (with_reducible refine T4.out _ _ _ _ _ _ ?_ ?_ <;> (first | (with_reducible assumption) | omega))))) (fun hH18 => ?_)
            clear hK K hH17
            try simp only [Act.put, List.setIfInBounds_toArray, List.set_cons_zero, List.set_cons_succ]
            refine wpAnyH_ready (rs := [11]) (by kernel_rfl) (by simp) ?_
            refine AllReadyH.cons rfl (fun K hK => ?_) AllReadyH.nil
            go_simp
            refine hK.out _ _ (by (first | (with_reducible exact S0) | (with_reducible exact S1.out _) | (with_reducible exact S2.out _ _) | (with_reducible assumption) | (with_reducible refine SK.out _ ?_; with_reducible assumption) | (with_reducible refine T1.out _ _ ?_; with_reducible assumption) | (with_reducible refine T2.out _ _ _ ?_; with_reducible assumption) | (with_reducible refine T3.out _ _ _ _ ?_; with_reducible assumption) | (with_reducible refine T4.out _ _ _ _ _ _ ?_ ?_ <;> (first | (with_reducible assumption) | omega)))) (fun hH19 => ?_)
            clear hK K hH18
            try simp only [Act.put, List.setIfInBounds_toArray, List.set_cons_zero, List.set_cons_succ]
            refine wpAnyH_done (by kernel_rfl) ?_ _
            refine NoPanic.normal ?_
            go_wp2_with fail
            go_meet
            first | exact ⟨_, rfl, Lib.hid ⟨heap_alloc_new wb _, P2.out.old alloc_old⟩⟩ | exact ⟨_, rfl, Lib.hid ⟨blk4 C2.out _ _ _ _, P2.out.set4 C2.out (by first | assumption | omega) hww _ _ _ _⟩⟩
          refine AllReadyH.cons rfl (fun K hK => ?_) ?_
          · skip
            go_simp
            go_at_call 13
            (with_reducible refine (Nb.out).mono ?_)
            rintro e wa ⟨rfl, hb⟩
            have PY := Lib.hid (P0.out.old (Bb.out.trans (hb.mono (Below.size Bb.out))))
            have KY := PY.out.kp
            have yb := blk_below Yb.out hb
            have cx := cw4.out wa _ yb
            have cx2 := cw5.out wa _ yb
            clear hb
            refine hK.out _ _ (by (first | (with_reducible exact SK.out _ KY) | (first | (with_reducible exact S0) | (with_reducible exact S1.out _) | (with_reducible exact S2.out _ _) | (with_reducible assumption) | (with_reducible refine SK.out _ ?_; with_reducible assumption) | (with_reducible refine T1.out _ _ ?_; with_reducible assumption) | (with_reducible refine T2.out _ _ _ ?_; with_reducible assumption) | (with_reducible refine T3.out _ _ _ _ ?_; with_reducible assumption) | (with_reducible refine T4.out _ _ _ _ _ _ ?_ ?_ <;> (first | (with_reducible assumption) | omega))))) (fun hH20 => ?_)
            clear hK K hH1
            try simp only [Act.put, List.setIfInBounds_toArray, List.set_cons_zero, List.set_cons_succ]
            refine wpAnyH_ready (rs := [5, 10]) (by kernel_rfl) (by simp) ?_
            refine AllReadyH.cons rfl (fun K hK => ?_) ?_
            · skip
              go_simp
              refine hK.out _ _ (by (first | (with_reducible exact SK.out _ KY) | (first | (with_reducible exact S0) | (with_reducible exact S1.out _) | (with_reducible exact S2.out _ _) | (with_reducible assumption) | (with_reducible refine SK.out _ ?_; with_reducible assumption) | (with_reducible refine T1.out _ _ ?_; with_reducible assumption) | (with_reducible refine T2.out _ _ _ ?_; with_reducible assumption) | (with_reducible refine T3.out _ _ _ _ ?_; with_reducible assumption) | (with_reducible refine T4.out _ _ _ _ _ _ ?_ ?_ <;> (first | (with_reducible assumption) | omega))))) (fun hH21 => ?_)
              clear hK K hH20
              try simp only [Act.put, List.setIfInBounds_toArray, List.set_cons_zero, List.set_cons_succ]
              refine wpAnyH_ready (rs := [8, 10]) (by kernel_rfl) (by simp) ?_
              refine AllReadyH.cons rfl (fun K hK => ?_) ?_
              · skip
                go_simp
                refine hK.out _ _ (by (first | (with_reducible exact T1.out _ _ KY) | (first | (with_reducible exact S0) | (with_reducible exact S1.out _) | (with_reducible exact S2.out _ _) | (with_reducible assumption) | (with_reducible refine SK.out _ ?_; with_reducible assumption) | (with_reducible refine T1.out _ _ ?_; with_reducible assumption) | (with_reducible refine T2.out _ _ _ ?_; with_reducible assumption) | (with_reducible refine T3.out _ _ _ _ ?_; with_reducible assumption) | (with_reducible refine T4.out _ _ _ _ _ _ ?_ ?_ <;> (first | (with_reducible assumption) | omega))))) (fun hH22 => ?_)
                clear hK K hH21
                try simp only [Act.put, List.setIfInBounds_toArray, List.set_cons_zero, List.set_cons_succ]
                refine wpAnyH_ready (rs := [9, 10]) (by kernel_rfl) (by simp) ?_
                refine AllReadyH.cons rfl (fun K hK => ?_) ?_
                · skip
                  go_simp
                  go_at_call 23
                  (with_reducible refine (D1.out wa PY.out).mono ?_)
                  rintro e wb ⟨rfl, hP, hkk⟩
                  have P2 := Lib.hid hP
                  have K2 := hP.kp
                  (first | (have C2 := Lib.hid (hkk _ _ _ (blk_below CR.out (E1.out wa)) (by decide)); obtain ⟨⟨d0, d1, d2, d3⟩, ⟨f0, f1, f2, f3⟩⟩ := cells4 C2.out) | skip)
                  clear hP hkk
                  refine hK.out _ _ (by (first | (with_reducible exact SK.out _ K2) | (first | (with_reducible exact S0) | (with_reducible exact S1.out _) | (with_reducible exact S2.out _ _) | (with_reducible assumption) | (with_reducible refine SK.out _ ?_; with_reducible assumption) | (with_reducible refine T1.out _ _ ?_; with_reducible assumption) | (with_reducible refine T2.out _ _ _ ?_; with_reducible assumption) | (with_reducible refine T3.out _ _ _ _ ?_; with_reducible assumption) | (with_reducible refine T4.out _ _ _ _ _ _ ?_ ?_ <;> (first | (with_reducible assumption) | omega))))) (fun hH23 => ?_)
                  clear hK K hH22
                  try simp only [Act.put, List.setIfInBounds_toArray, List.set_cons_zero, List.set_cons_succ]
                  refine wpAnyH_ready (rs := [10]) (by kernel_rfl) (by simp) ?_
                  refine AllReadyH.cons rfl (fun K hK => ?_) AllReadyH.nil
                  go_simp
                  refine hK.out _ _ (by (first | (with_reducible exact T1.out _ _ K2) | (first | (with_reducible exact S0) | (with_reducible exact S1.out _) | (with_reducible exact S2.out _ _) | (with_reducible assumption) | (with_reducible refine SK.out _ ?_; with_reducible assumption) | (with_reducible refine T1.out _ _ ?_; with_reducible assumption) | (with_reducible refine T2.out _ _ _ ?_; with_reducible assumption) | (with_reducible refine T3.out _ _ _ _ ?_; with_reducible assumption) | (with_reducible refine T4.out _ _ _ _ _ _ ?_ ?_ <;> (first | (with_reducible assumption) | omega))))) (fun hH24 => ?_)
                  clear hK K hH23
                  try simp only [Act.put, List.setIfInBounds_toArray, List.set_cons_zero, List.set_cons_succ]
                  refine wpAnyH_ready (rs := [11]) (by kernel_rfl) (by simp) ?_
                  refine AllReadyH.cons rfl (fun K hK => ?_) AllReadyH.nil
                  go_simp
                  refine hK.out _ _ (by (first | (with_reducible exact T1.out _ _ K2) | (first | (with_reducible exact S0) | (with_reducible exact S1.out _) | (with_reducible exact S2.out _ _) | (with_reducible assumption) | (with_reducible refine SK.out _ ?_; with_reducible assumption) | (with_reducible refine T1.out _ _ ?_; with_reducible assumption) | (with_reducible refine T2.out _ _ _ ?_; with_reducible assumption) | (with_reducible refine T3.out _ _ _ _ ?_; with_reducible assumption) | (with_reducible refine T4.out _ _ _ _ _ _ ?_ ?_ <;> (first | (with_reducible assumption) | omega))))) (fun hH25 => ?_)
                  clear hK K hH24
                  try simp only [Act.put, List.setIfInBounds_toArray, List.set_cons_zero, List.set_cons_succ]
                  refine wpAnyH_done (by kernel_rfl) ?_ _
                  refine NoPanic.normal ?_
                  go_wp2_with fail
                  go_meet
                  first | exact ⟨_, rfl, Lib.hid ⟨heap_alloc_new wb _, P2.out.old alloc_old⟩⟩ | exact ⟨_, rfl, Lib.hid ⟨blk4 C2.out _ _ _ _, P2.out.set4 C2.out (by first | assumption | omega) hww _ _ _ _⟩⟩
                refine AllReadyH.cons rfl (fun K hK => ?_) AllReadyH.nil
                go_simp
                refine hK.out _ _ (by (first | (with_reducible exact T2.out _ _ _ KY) | (first | (with_reducible exact S0) | (with_reducible exact S1.out _) | (with_reducible exact S2.out _ _) | (with_reducible assumption) | (with_reducible refine SK.out _ ?_; with_reducible assumption) | (with_reducible refine T1.out _ _ ?_; with_reducible assumption) | (with_reducible refine T2.out _ _ _ ?_; with_reducible assumption) | (with_reducible refine T3.out _ _ _ _ ?_; with_reducible assumption) | (with_reducible refine T4.out _ _ _ _ _ _ ?_ ?_ <;> (first | (with_reducible assumption) | omega))))) (fun hH26 => ?_)
                clear hK K hH22
                try simp only [Act.put, List.setIfInBounds_toArray, List.set_cons_zero, List.set_cons_succ]
                refine wpAnyH_ready (rs := [9]) (by kernel_rfl) (by simp) ?_
                refine AllReadyH.cons rfl (fun K hK => ?_) AllReadyH.nil
                go_simp
                go_at_call 23
                (with_reducible refine (D4.out wa PY.out).mono ?_)
                rintro e wb ⟨rfl, hP, hkk⟩
                have P2 := Lib.hid hP
                have K2 := hP.kp
                have C2 := Lib.hid (hkk _ _ _ (G4.out wa) (by decide))
                obtain ⟨⟨d0, d1, d2, d3⟩, ⟨f0, f1, f2, f3⟩⟩ := cells4 C2.out
                have Zb : w1.heap.size ≤ _ := Nat.le_trans KY.size (by first | exact Nat.le_refl _ | exact Nat.le_succ _ | exact Nat.le_succ_of_le (Nat.le_succ _))
                clear hP hkk
                refine hK.out _ _ (by (first | (with_reducible exact SK.out _ K2) | (first | (with_reducible exact S0) | (with_reducible exact S1.out _) | (with_reducible exact S2.out _ _) | (with_reducible assumption) | (with_reducible refine SK.out _ ?_; with_reducible assumption) | (with_reducible refine T1.out _ _ ?_; with_reducible assumption) | (with_reducible refine T2.out _ _ _ ?_; with_reducible assumption) | (with_reducible refine T3.out _ _ _ _ ?_; with_reducible assumption) | (with_reducible refine T4.out _ _ _ _ _ _ ?_ ?_ <;> (first | (with_reducible assumption) | omega))))) (fun hH27 => ?_)
                clear hK K hH26
                try simp only [Act.put, List.setIfInBounds_toArray, List.set_cons_zero, List.set_cons_succ]
                refine wpAnyH_ready (rs := [11]) (by kernel_rfl) (by simp) ?_
                refine AllReadyH.cons rfl (fun K hK => ?_) AllReadyH.nil
                go_simp
                refine hK.out _ _ (by (first | (with_reducible exact S0) | (with_reducible exact S1.out _) | (with_reducible exact S2.out _ _) | (with_reducible assumption) | (with_reducible refine SK.out _ ?_; with_reducible assumption) | (with_reducible refine T1.out _ _ ?_; with_reducible assumption) | (with_reducible refine T2.out _ _ _ ?_; with_reducible assumption) | (with_reducible refine T3.out _ _ _ _ ?_; with_reducible assumption) | (with_reducible refine T4.out _ _ _ _ _ _ ?_ ?_ <;> (first | (with_reducible assumption) | omega)))) (fun hH28 => ?_)
                clear hK K hH27
                try simp only [Act.put, List.setIfInBounds_toArray, List.set_cons_zero, List.set_cons_succ]
                refine wpAnyH_done (by kernel_rfl) ?_ _
                refine NoPanic.normal ?_
                go_wp2_with fail
                go_meet
                first | exact ⟨_, rfl, Lib.hid ⟨heap_alloc_new wb _, P2.out.old alloc_old⟩⟩ | exact ⟨_, rfl, Lib.hid ⟨blk4 C2.out _ _ _ _, P2.out.set4 C2.out (by first | assumption | omega) hww _ _ _ _⟩⟩
              refine AllReadyH.cons rfl (fun K hK => ?_) AllReadyH.nil
              go_simp
              refine hK.out _ _ (by (first | (with_reducible exact T1.out _ _ KY) | (first | (with_reducible exact S0) | (with_reducible exact S1.out _) | (with_reducible exact S2.out _ _) | (with_reducible assumption) | (with_reducible refine SK.out _ ?_; with_reducible assumption) | (with_reducible refine T1.out _ _ ?_; with_reducible assumption) | (with_reducible refine T2.out _ _ _ ?_; with_reducible assumption) | (with_reducible refine T3.out _ _ _ _ ?_; with_reducible assumption) | (with_reducible refine T4.out _ _ _ _ _ _ ?_ ?_ <;> (first | (with_reducible assumption) | omega))))) (fun hH29 => ?_)
              clear hK K hH21
              try simp only [Act.put, List.setIfInBounds_toArray, List.set_cons_zero, List.set_cons_succ]
              refine wpAnyH_ready (rs := [8]) (by kernel_rfl) (by simp) ?_
              refine AllReadyH.cons rfl (fun K hK => ?_) AllReadyH.nil
              go_simp
              refine hK.out _ _ (by (first | (with_reducible exact T2.out _ _ _ KY) | (first | (with_reducible exact S0) | (with_reducible exact S1.out _) | (with_reducible exact S2.out _ _) | (with_reducible assumption) | (with_reducible refine SK.out _ ?_; with_reducible assumption) | (with_reducible refine T1.out _ _ ?_; with_reducible assumption) | (with_reducible refine T2.out _ _ _ ?_; with_reducible assumption) | (with_reducible refine T3.out _ _ _ _ ?_; with_reducible assumption) | (with_reducible refine T4.out _ _ _ _ _ _ ?_ ?_ <;> (first | (with_reducible assumption) | omega))))) (fun hH30 => ?_)
              clear hK K hH29
              try simp only [Act.put, List.setIfInBounds_toArray, List.set_cons_zero, List.set_cons_succ]
              refine wpAnyH_ready (rs := [9]) (by kernel_rfl) (by simp) ?_
              refine AllReadyH.cons rfl (fun K hK => ?_) AllReadyH.nil
              go_simp
              go_at_call 23
              (with_reducible refine (D3.out wa PY.out).mono ?_)
              rintro e wb ⟨rfl, hP, hkk⟩
              have P2 := Lib.hid hP
              have K2 := hP.kp
              have C2 := Lib.hid (hkk _ _ _ (G3.out wa) (by decide))
              obtain ⟨⟨d0, d1, d2, d3⟩, ⟨f0, f1, f2, f3⟩⟩ := cells4 C2.out
              have Zb : w1.heap.size ≤ _ := Nat.le_trans KY.size (by first | exact Nat.le_refl _ | exact Nat.le_succ _ | exact Nat.le_succ_of_le (Nat.le_succ _))
              clear hP hkk
              refine hK.out _ _ (by (first | (with_reducible exact SK.out _ K2) | (first | (with_reducible exact S0) | (with_reducible exact S1.out _) | (with_reducible exact S2.out _ _) | (with_reducible assumption) | (with_reducible refine SK.out _ ?_; with_reducible assumption) | (with_reducible refine T1.out _ _ ?_; with_reducible assumption) | (with_reducible refine T2.out _ _ _ ?_; with_reducible assumption) | (with_reducible refine T3.out _ _ _ _ ?_; with_reducible assumption) | (with_reducible refine T4.out _ _ _ _ _ _ ?_ ?_ <;> (first | (with_reducible assumption) | omega))))) (fun hH31 => ?_)
              clear hK K hH30
              try simp only [Act.put, List.setIfInBounds_toArray, List.set_cons_zero, List.set_cons_succ]
              refine wpAnyH_ready (rs := [11]) (by kernel_rfl) (by simp) ?_
              refine AllReadyH.cons rfl (fun K hK => ?_) AllReadyH.nil
              go_simp
              refine hK.out _ _ (by (first | (with_reducible exact S0) | (with_reducible exact S1.out _) | (with_reducible exact S2.out _ _) | (with_reducible assumption) | (with_reducible refine SK.out _ ?_; with_reducible assumption) | (with_reducible refine T1.out _ _ ?_; with_reducible assumption) | (with_reducible refine T2.out _ _ _ ?_; with_reducible assumption) | (with_reducible refine T3.out _ _ _ _ ?_; with_reducible assumption) | (with_reducible refine T4.out _ _ _ _ _ _ ?_ ?_ <;> (first | (with_reducible assumption) | omega)))) (fun hH32 => ?_)
              clear hK K hH31
              try simp only [Act.put, List.setIfInBounds_toArray, List.set_cons_zero, List.set_cons_succ]
              refine wpAnyH_done (by kernel_rfl) ?_ _
              refine NoPanic.normal ?_
              go_wp2_with fail
              go_meet
              first | exact ⟨_, rfl, Lib.hid ⟨heap_alloc_new wb _, P2.out.old alloc_old⟩⟩ | exact ⟨_, rfl, Lib.hid ⟨blk4 C2.out _ _ _ _, P2.out.set4 C2.out (by first | assumption | omega) hww _ _ _ _⟩⟩
            refine AllReadyH.cons rfl (fun K hK => ?_) AllReadyH.nil
            go_simp
            refine hK.out _ _ (by (first | (with_reducible exact T1.out _ _ KY) | (first | (with_reducible exact S0) | (with_reducible exact S1.out _) | (with_reducible exact S2.out _ _) | (with_reducible assumption) | (with_reducible refine SK.out _ ?_; with_reducible assumption) | (with_reducible refine T1.out _ _ ?_; with_reducible assumption) | (with_reducible refine T2.out _ _ _ ?_; with_reducible assumption) | (with_reducible refine T3.out _ _ _ _ ?_; with_reducible assumption) | (with_reducible refine T4.out _ _ _ _ _ _ ?_ ?_ <;> (first | (with_reducible assumption) | omega))))) (fun hH33 => ?_)
            clear hK K hH20
            try simp only [Act.put, List.setIfInBounds_toArray, List.set_cons_zero, List.set_cons_succ]
            refine wpAnyH_ready (rs := [5]) (by kernel_rfl) (by simp) ?_
            refine AllReadyH.cons rfl (fun K hK => ?_) AllReadyH.nil
            go_simp
            refine hK.out _ _ (by (first | (with_reducible exact T1.out _ _ KY) | (first | (with_reducible exact S0) | (with_reducible exact S1.out _) | (with_reducible exact S2.out _ _) | (with_reducible assumption) | (with_reducible refine SK.out _ ?_; with_reducible assumption) | (with_reducible refine T1.out _ _ ?_; with_reducible assumption) | (with_reducible refine T2.out _ _ _ ?_; with_reducible assumption) | (with_reducible refine T3.out _ _ _ _ ?_; with_reducible assumption) | (with_reducible refine T4.out _ _ _ _ _ _ ?_ ?_ <;> (first | (with_reducible assumption) | omega))))) (fun hH34 => ?_)
            clear hK K hH33
            try simp only [Act.put, List.setIfInBounds_toArray, List.set_cons_zero, List.set_cons_succ]
            refine wpAnyH_ready (rs := [8]) (by kernel_rfl) (by simp) ?_
            refine AllReadyH.cons rfl (fun K hK => ?_) AllReadyH.nil
            go_simp
            refine hK.out _ _ (by (first | (with_reducible exact T2.out _ _ _ KY) | (first | (with_reducible exact S0) | (with_reducible exact S1.out _) | (with_reducible exact S2.out _ _) | (with_reducible assumption) | (with_reducible refine SK.out _ ?_; with_reducible assumption) | (with_reducible refine T1.out _ _ ?_; with_reducible assumption) | (with_reducible refine T2.out _ _ _ ?_; with_reducible assumption) | (with_reducible refine T3.out _ _ _ _ ?_; with_reducible assumption) | (with_reducible refine T4.out _ _ _ _ _ _ ?_ ?_ <;> (first | (with_reducible assumption) | omega))))) (fun hH35 => ?_)
            clear hK K hH34
            try simp only [Act.put, List.setIfInBounds_toArray, List.set_cons_zero, List.set_cons_succ]
            refine wpAnyH_ready (rs := [9]) (by kernel_rfl) (by simp) ?_
            refine AllReadyH.cons rfl (fun K hK => ?_) AllReadyH.nil
            go_simp
            go_at_call 23
            (with_reducible refine (D3.out wa PY.out).mono ?_)
            rintro e wb ⟨rfl, hP, hkk⟩
            have P2 := Lib.hid hP
            have K2 := hP.kp
            have C2 := Lib.hid (hkk _ _ _ (G3.out wa) (by decide))
            obtain ⟨⟨d0, d1, d2, d3⟩, ⟨f0, f1, f2, f3⟩⟩ := cells4 C2.out
            have Zb : w1.heap.size ≤ _ := Nat.le_trans KY.size (by first | exact Nat.le_refl _ | exact Nat.le_succ _ | exact Nat.le_succ_of_le (Nat.le_succ _))
            clear hP hkk
            refine hK.out _ _ (by (first | (with_reducible exact SK.out _ K2) | (first | (with_reducible exact S0) | (with_reducible exact S1.out _) | (with_reducible exact S2.out _ _) | (with_reducible assumption) | (with_reducible refine SK.out _ ?_; with_reducible assumption) | (with_reducible refine T1.out _ _ ?_; with_reducible assumption) | (with_reducible refine T2.out _ _ _ ?_; with_reducible assumption) | (with_reducible refine T3.out _ _ _ _ ?_; with_reducible assumption) | (with_reducible refine T4.out _ _ _ _ _ _ ?_ ?_ <;> (first | (with_reducible assumption) | omega))))) (fun hH36 => ?_)
            clear hK K hH35
            try simp only [Act.put, List.setIfInBounds_toArray, List.set_cons_zero, List.set_cons_succ]
            refine wpAnyH_ready (rs := [11]) (by kernel_rfl) (by simp) ?_
            refine AllReadyH.cons rfl (fun K hK => ?_) AllReadyH.nil
            go_simp
            refine hK.out _ _ (by (first | (with_reducible exact S0) | (with_reducible exact S1.out _) | (with_reducible exact S2.out _ _) | (with_reducible assumption) | (with_reducible refine SK.out _ ?_; with_reducible assumption) | (with_reducible refine T1.out _ _ ?_; with_reducible assumption) | (with_reducible refine T2.out _ _ _ ?_; with_reducible assumption) | (with_reducible refine T3.out _ _ _ _ ?_; with_reducible assumption) | (with_reducible refine T4.out _ _ _ _ _ _ ?_ ?_ <;> (first | (with_reducible assumption) | omega)))) (fun hH37 => ?_)
            clear hK K hH36
            try simp only [Act.put, List.setIfInBounds_toArray, List.set_cons_zero, List.set_cons_succ]
            refine wpAnyH_done (by kernel_rfl) ?_ _
            refine NoPanic.normal ?_
            go_wp2_with fail
            go_meet
            first | exact ⟨_, rfl, Lib.hid ⟨heap_alloc_new wb _, P2.out.old alloc_old⟩⟩ | exact ⟨_, rfl, Lib.hid ⟨blk4 C2.out _ _ _ _, P2.out.set4 C2.out (by first | assumption | omega) hww _ _ _ _⟩⟩
          refine AllReadyH.cons rfl (fun K hK => ?_) AllReadyH.nil
          go_simp
          refine hK.out _ _ (by (first | (with_reducible exact S2.out _ _) | (first | (with_reducible exact S0) | (with_reducible exact S1.out _) | (with_reducible exact S2.out _ _) | (with_reducible assumption) | (with_reducible refine SK.out _ ?_; with_reducible assumption) | (with_reducible refine T1.out _ _ ?_; with_reducible assumption) | (with_reducible refine T2.out _ _ _ ?_; with_reducible assumption) | (with_reducible refine T3.out _ _ _ _ ?_; with_reducible assumption) | (with_reducible refine T4.out _ _ _ _ _ _ ?_ ?_ <;> (first | (with_reducible assumption) | omega))))) (fun hH38 => ?_)
          clear hK K hH1
          try simp only [Act.put, List.setIfInBounds_toArray, List.set_cons_zero, List.set_cons_succ]
          refine wpAnyH_ready (rs := [5, 7]) (by kernel_rfl) (by simp) ?_
          refine AllReadyH.cons rfl (fun K hK => ?_) ?_
          · skip
            go_simp
            refine hK.out _ _ (by (first | (with_reducible exact S2.out _ _) | (first | (with_reducible exact S0) | (with_reducible exact S1.out _) | (with_reducible exact S2.out _ _) | (with_reducible assumption) | (with_reducible refine SK.out _ ?_; with_reducible assumption) | (with_reducible refine T1.out _ _ ?_; with_reducible assumption) | (with_reducible refine T2.out _ _ _ ?_; with_reducible assumption) | (with_reducible refine T3.out _ _ _ _ ?_; with_reducible assumption) | (with_reducible refine T4.out _ _ _ _ _ _ ?_ ?_ <;> (first | (with_reducible assumption) | omega))))) (fun hH39 => ?_)
            clear hK K hH38
            try simp only [Act.put, List.setIfInBounds_toArray, List.set_cons_zero, List.set_cons_succ]
            refine wpAnyH_ready (rs := [7]) (by kernel_rfl) (by simp) ?_
            refine AllReadyH.cons rfl (fun K hK => ?_) AllReadyH.nil
            go_simp
            go_at_call 13
            (with_reducible refine (Nd.out).mono ?_)
            rintro e wa ⟨rfl, hb⟩
            have PY := Lib.hid (P0.out.old (Bd.out.trans (hb.mono (Below.size Bd.out))))
            have KY := PY.out.kp
            have yb := blk_below Yd.out hb
            have cx := cw4.out wa _ yb
            have CR := Lib.hid (blk_below Rd.out hb)
            clear hb
            refine hK.out _ _ (by (first | (with_reducible exact SK.out _ KY) | (first | (with_reducible exact S0) | (with_reducible exact S1.out _) | (with_reducible exact S2.out _ _) | (with_reducible assumption) | (with_reducible refine SK.out _ ?_; with_reducible assumption) | (with_reducible refine T1.out _ _ ?_; with_reducible assumption) | (with_reducible refine T2.out _ _ _ ?_; with_reducible assumption) | (with_reducible refine T3.out _ _ _ _ ?_; with_reducible assumption) | (with_reducible refine T4.out _ _ _ _ _ _ ?_ ?_ <;> (first | (with_reducible assumption) | omega))))) (fun hH40 => ?_)
            clear hK K hH39
            try simp only [Act.put, List.setIfInBounds_toArray, List.set_cons_zero, List.set_cons_succ]
            refine wpAnyH_ready (rs := [8]) (by kernel_rfl) (by simp) ?_
            refine AllReadyH.cons rfl (fun K hK => ?_) AllReadyH.nil
            go_simp
            refine hK.out _ _ (by (first | (with_reducible exact T1.out _ _ KY) | (first | (with_reducible exact S0) | (with_reducible exact S1.out _) | (with_reducible exact S2.out _ _) | (with_reducible assumption) | (with_reducible refine SK.out _ ?_; with_reducible assumption) | (with_reducible refine T1.out _ _ ?_; with_reducible assumption) | (with_reducible refine T2.out _ _ _ ?_; with_reducible assumption) | (with_reducible refine T3.out _ _ _ _ ?_; with_reducible assumption) | (with_reducible refine T4.out _ _ _ _ _ _ ?_ ?_ <;> (first | (with_reducible assumption) | omega))))) (fun hH41 => ?_)
            clear hK K hH40
            try simp only [Act.put, List.setIfInBounds_toArray, List.set_cons_zero, List.set_cons_succ]
            refine wpAnyH_ready (rs := [9]) (by kernel_rfl) (by simp) ?_
            refine AllReadyH.cons rfl (fun K hK => ?_) AllReadyH.nil
            go_simp
            go_at_call 23
            (with_reducible refine (D1.out wa PY.out).mono ?_)
            rintro e wb ⟨rfl, hP, hkk⟩
            have P2 := Lib.hid hP
            have K2 := hP.kp
            (first | (have C2 := Lib.hid (hkk _ _ _ (blk_below CR.out (E1.out wa)) (by decide)); obtain ⟨⟨d0, d1, d2, d3⟩, ⟨f0, f1, f2, f3⟩⟩ := cells4 C2.out) | skip)
            clear hP hkk
            refine hK.out _ _ (by (first | (with_reducible exact SK.out _ K2) | (first | (with_reducible exact S0) | (with_reducible exact S1.out _) | (with_reducible exact S2.out _ _) | (with_reducible assumption) | (with_reducible refine SK.out _ ?_; with_reducible assumption) | (with_reducible refine T1.out _ _ ?_; with_reducible assumption) | (with_reducible refine T2.out _ _ _ ?_; with_reducible assumption) | (with_reducible refine T3.out _ _ _ _ ?_; with_reducible assumption) | (with_reducible refine T4.out _ _ _ _ _ _ ?_ ?_ <;> (first | (with_reducible assumption) | omega))))) (fun hH42 => ?_)
            clear hK K hH41
            try simp only [Act.put, List.setIfInBounds_toArray, List.set_cons_zero, List.set_cons_succ]
            refine wpAnyH_ready (rs := [11]) (by kernel_rfl) (by simp) ?_
            refine AllReadyH.cons rfl (fun K hK => ?_) AllReadyH.nil
            go_simp
            refine hK.out _ _ (by (first | (with_reducible exact S0) | (with_reducible exact S1.out _) | (with_reducible exact S2.out _ _) | (with_reducible assumption) | (with_reducible refine SK.out _ ?_; with_reducible assumption) | (with_reducible refine T1.out _ _ ?_; with_reducible assumption) | (with_reducible refine T2.out _ _ _ ?_; with_reducible assumption) | (with_reducible refine T3.out _ _ _ _ ?_; with_reducible assumption) | (with_reducible refine T4.out _ _ _ _ _ _ ?_ ?_ <;> (first | (with_reducible assumption) | omega)))) (fun hH43 => ?_)
            clear hK K hH42
            try simp only [Act.put, List.setIfInBounds_toArray, List.set_cons_zero, List.set_cons_succ]
            refine wpAnyH_done (by kernel_rfl) ?_ _
            refine NoPanic.normal ?_
            go_wp2_with fail
            go_meet
            first | exact ⟨_, rfl, Lib.hid ⟨heap_alloc_new wb _, P2.out.old alloc_old⟩⟩ | exact ⟨_, rfl, Lib.hid ⟨blk4 C2.out _ _ _ _, P2.out.set4 C2.out (by first | assumption | omega) hww _ _ _ _⟩⟩
          refine AllReadyH.cons rfl (fun K hK => ?_) AllReadyH.nil
          go_simp
          go_at_call 13
          (with_reducible refine (Nd.out).mono ?_)
          rintro e wa ⟨rfl, hb⟩
          have PY := Lib.hid (P0.out.old (Bd.out.trans (hb.mono (Below.size Bd.out))))
          have KY := PY.out.kp
          have yb := blk_below Yd.out hb
          have cx := cw4.out wa _ yb
          have CR := Lib.hid (blk_below Rd.out hb)
          clear hb
          refine hK.out _ _ (by (first | (with_reducible exact SK.out _ KY) | (first | (with_reducible exact S0) | (with_reducible exact S1.out _) | (with_reducible exact S2.out _ _) | (with_reducible assumption) | (with_reducible refine SK.out _ ?_; with_reducible assumption) | (with_reducible refine T1.out _ _ ?_; with_reducible assumption) | (with_reducible refine T2.out _ _ _ ?_; with_reducible assumption) | (with_reducible refine T3.out _ _ _ _ ?_; with_reducible assumption) | (with_reducible refine T4.out _ _ _ _ _ _ ?_ ?_ <;> (first | (with_reducible assumption) | omega))))) (fun hH44 => ?_)
          clear hK K hH38
          try simp only [Act.put, List.setIfInBounds_toArray, List.set_cons_zero, List.set_cons_succ]
          refine wpAnyH_ready (rs := [5]) (by kernel_rfl) (by simp) ?_
          refine AllReadyH.cons rfl (fun K hK => ?_) AllReadyH.nil
          go_simp
          refine hK.out _ _ (by (first | (with_reducible exact SK.out _ KY) | (first | (with_reducible exact S0) | (with_reducible exact S1.out _) | (with_reducible exact S2.out _ _) | (with_reducible assumption) | (with_reducible refine SK.out _ ?_; with_reducible assumption) | (with_reducible refine T1.out _ _ ?_; with_reducible assumption) | (with_reducible refine T2.out _ _ _ ?_; with_reducible assumption) | (with_reducible refine T3.out _ _ _ _ ?_; with_reducible assumption) | (with_reducible refine T4.out _ _ _ _ _ _ ?_ ?_ <;> (first | (with_reducible assumption) | omega))))) (fun hH45 => ?_)
          clear hK K hH44
          try simp only [Act.put, List.setIfInBounds_toArray, List.set_cons_zero, List.set_cons_succ]
          refine wpAnyH_ready (rs := [8]) (by kernel_rfl) (by simp) ?_
          refine AllReadyH.cons rfl (fun K hK => ?_) AllReadyH.nil
          go_simp
          refine hK.out _ _ (by (first | (with_reducible exact T1.out _ _ KY) | (first | (with_reducible exact S0) | (with_reducible exact S1.out _) | (with_reducible exact S2.out _ _) | (with_reducible assumption) | (with_reducible refine SK.out _ ?_; with_reducible assumption) | (with_reducible refine T1.out _ _ ?_; with_reducible assumption) | (with_reducible refine T2.out _ _ _ ?_; with_reducible assumption) | (with_reducible refine T3.out _ _ _ _ ?_; with_reducible assumption) | (with_reducible refine T4.out _ _ _ _ _ _ ?_ ?_ <;> (first | (with_reducible assumption) | omega))))) (fun hH46 => ?_)
          clear hK K hH45
          try simp only [Act.put, List.setIfInBounds_toArray, List.set_cons_zero, List.set_cons_succ]
          refine wpAnyH_ready (rs := [9]) (by kernel_rfl) (by simp) ?_
          refine AllReadyH.cons rfl (fun K hK => ?_) AllReadyH.nil
          go_simp
          go_at_call 23
          (with_reducible refine (D1.out wa PY.out).mono ?_)
          rintro e wb ⟨rfl, hP, hkk⟩
          have P2 := Lib.hid hP
          have K2 := hP.kp
          (first | (have C2 := Lib.hid (hkk _ _ _ (blk_below CR.out (E1.out wa)) (by decide)); obtain ⟨⟨d0, d1, d2, d3⟩, ⟨f0, f1, f2, f3⟩⟩ := cells4 C2.out) | skip)
          clear hP hkk
          refine hK.out _ _ (by (first | (with_reducible exact SK.out _ K2) | (first | (with_reducible exact S0) | (with_reducible exact S1.out _) | (with_reducible exact S2.out _ _) | (with_reducible assumption) | (with_reducible refine SK.out _ ?_; with_reducible assumption) | (with_reducible refine T1.out _ _ ?_; with_reducible assumption) | (with_reducible refine T2.out _ _ _ ?_; with_reducible assumption) | (with_reducible refine T3.out _ _ _ _ ?_; with_reducible assumption) | (with_reducible refine T4.out _ _ _ _ _ _ ?_ ?_ <;> (first | (with_reducible assumption) | omega))))) (fun hH47 => ?_)
          clear hK K hH46
          try simp only [Act.put, List.setIfInBounds_toArray, List.set_cons_zero, List.set_cons_succ]
          refine wpAnyH_ready (rs := [11]) (by kernel_rfl) (by simp) ?_
          refine AllReadyH.cons rfl (fun K hK => ?_) AllReadyH.nil
          go_simp
          refine hK.out _ _ (by (first | (with_reducible exact S0) | (with_reducible exact S1.out _) | (with_reducible exact S2.out _ _) | (with_reducible assumption) | (with_reducible refine SK.out _ ?_; with_reducible assumption) | (with_reducible refine T1.out _ _ ?_; with_reducible assumption) | (with_reducible refine T2.out _ _ _ ?_; with_reducible assumption) | (with_reducible refine T3.out _ _ _ _ ?_; with_reducible assumption) | (with_reducible refine T4.out _ _ _ _ _ _ ?_ ?_ <;> (first | (with_reducible assumption) | omega)))) (fun hH48 => ?_)
          clear hK K hH47
          try simp only [Act.put, List.setIfInBounds_toArray, List.set_cons_zero, List.set_cons_succ]
          refine wpAnyH_done (by kernel_rfl) ?_ _
          refine NoPanic.normal ?_
          go_wp2_with fail
          go_meet
          first | exact ⟨_, rfl, Lib.hid ⟨heap_alloc_new wb _, P2.out.old alloc_old⟩⟩ | exact ⟨_, rfl, Lib.hid ⟨blk4 C2.out _ _ _ _, P2.out.set4 C2.out (by first | assumption | omega) hww _ _ _ _⟩⟩
        refine AllReadyH.cons rfl (fun K hK => ?_) ?_
        · skip
          go_simp
          go_at_call 13
          (with_reducible refine (Na.out).mono ?_)
          rintro e wa ⟨rfl, hb⟩
          have PY := Lib.hid (P0.out.old (Ba.out.trans (hb.mono (Below.size Ba.out))))
          have KY := PY.out.kp
          have cx := cw1.out wa
          have cx2 := cw2.out wa
          have cx3 := cw3.out wa
          clear hb
          refine hK.out _ _ (by (first | (with_reducible exact SK.out _ KY) | (first | (with_reducible exact S0) | (with_reducible exact S1.out _) | (with_reducible exact S2.out _ _) | (with_reducible assumption) | (with_reducible refine SK.out _ ?_; with_reducible assumption) | (with_reducible refine T1.out _ _ ?_; with_reducible assumption) | (with_reducible refine T2.out _ _ _ ?_; with_reducible assumption) | (with_reducible refine T3.out _ _ _ _ ?_; with_reducible assumption) | (with_reducible refine T4.out _ _ _ _ _ _ ?_ ?_ <;> (first | (with_reducible assumption) | omega))))) (fun hH49 => ?_)
          clear hK K hH0
          try simp only [Act.put, List.setIfInBounds_toArray, List.set_cons_zero, List.set_cons_succ]
          refine wpAnyH_ready (rs := [4, 10]) (by kernel_rfl) (by simp) ?_
          refine AllReadyH.cons rfl (fun K hK => ?_) ?_
          · skip
            go_simp
            refine hK.out _ _ (by (first | (with_reducible exact T1.out _ _ KY) | (first | (with_reducible exact S0) | (with_reducible exact S1.out _) | (with_reducible exact S2.out _ _) | (with_reducible assumption) | (with_reducible refine SK.out _ ?_; with_reducible assumption) | (with_reducible refine T1.out _ _ ?_; with_reducible assumption) | (with_reducible refine T2.out _ _ _ ?_; with_reducible assumption) | (with_reducible refine T3.out _ _ _ _ ?_; with_reducible assumption) | (with_reducible refine T4.out _ _ _ _ _ _ ?_ ?_ <;> (first | (with_reducible assumption) | omega))))) (fun hH50 => ?_)
            clear hK K hH49
            try simp only [Act.put, List.setIfInBounds_toArray, List.set_cons_zero, List.set_cons_succ]
            refine wpAnyH_ready (rs := [5, 10]) (by kernel_rfl) (by simp) ?_
            refine AllReadyH.cons rfl (fun K hK => ?_) ?_
            · skip
              go_simp
              refine hK.out _ _ (by (first | (with_reducible exact T1.out _ _ KY) | (first | (with_reducible exact S0) | (with_reducible exact S1.out _) | (with_reducible exact S2.out _ _) | (with_reducible assumption) | (with_reducible refine SK.out _ ?_; with_reducible assumption) | (with_reducible refine T1.out _ _ ?_; with_reducible assumption) | (with_reducible refine T2.out _ _ _ ?_; with_reducible assumption) | (with_reducible refine T3.out _ _ _ _ ?_; with_reducible assumption) | (with_reducible refine T4.out _ _ _ _ _ _ ?_ ?_ <;> (first | (with_reducible assumption) | omega))))) (fun hH51 => ?_)
              clear hK K hH50
              try simp only [Act.put, List.setIfInBounds_toArray, List.set_cons_zero, List.set_cons_succ]
              refine wpAnyH_ready (rs := [8, 10]) (by kernel_rfl) (by simp) ?_
              refine AllReadyH.cons rfl (fun K hK => ?_) ?_
              · skip
                go_simp
                refine hK.out _ _ (by (first | (with_reducible exact T2.out _ _ _ KY) | (first | (with_reducible exact S0) | (with_reducible exact S1.out _) | (with_reducible exact S2.out _ _) | (with_reducible assumption) | (with_reducible refine SK.out _ ?_; with_reducible assumption) | (with_reducible refine T1.out _ _ ?_; with_reducible assumption) | (with_reducible refine T2.out _ _ _ ?_; with_reducible assumption) | (with_reducible refine T3.out _ _ _ _ ?_; with_reducible assumption) | (with_reducible refine T4.out _ _ _ _ _ _ ?_ ?_ <;> (first | (with_reducible assumption) | omega))))) (fun hH52 => ?_)
                clear hK K hH51
                try simp only [Act.put, List.setIfInBounds_toArray, List.set_cons_zero, List.set_cons_succ]
                refine wpAnyH_ready (rs := [9, 10]) (by kernel_rfl) (by simp) ?_
                refine AllReadyH.cons rfl (fun K hK => ?_) ?_
                · skip
                  go_simp
                  go_at_call 23
                  (with_reducible refine (D2.out wa PY.out).mono ?_)
                  rintro e wb ⟨rfl, hP, hkk⟩
                  have P2 := Lib.hid hP
                  have K2 := hP.kp
                  (first | (have C2 := Lib.hid (hkk _ _ _ (blk_below CR.out (E2.out wa)) (by decide)); obtain ⟨⟨d0, d1, d2, d3⟩, ⟨f0, f1, f2, f3⟩⟩ := cells4 C2.out) | skip)
                  clear hP hkk
                  refine hK.out _ _ (by (first | (with_reducible exact SK.out _ K2) | (first | (with_reducible exact S0) | (with_reducible exact S1.out _) | (with_reducible exact S2.out _ _) | (with_reducible assumption) | (with_reducible refine SK.out _ ?_; with_reducible assumption) | (with_reducible refine T1.out _ _ ?_; with_reducible assumption) | (with_reducible refine T2.out _ _ _ ?_; with_reducible assumption) | (with_reducible refine T3.out _ _ _ _ ?_; with_reducible assumption) | (with_reducible refine T4.out _ _ _ _ _ _ ?_ ?_ <;> (first | (with_reducible assumption) | omega))))) (fun hH53 => ?_)
                  clear hK K hH52
                  try simp only [Act.put, List.setIfInBounds_toArray, List.set_cons_zero, List.set_cons_succ]
                  refine wpAnyH_ready (rs := [10]) (by kernel_rfl) (by simp) ?_
                  refine AllReadyH.cons rfl (fun K hK => ?_) AllReadyH.nil
                  go_simp
                  refine hK.out _ _ (by (first | (with_reducible exact T1.out _ _ K2) | (first | (with_reducible exact S0) | (with_reducible exact S1.out _) | (with_reducible exact S2.out _ _) | (with_reducible assumption) | (with_reducible refine SK.out _ ?_; with_reducible assumption) | (with_reducible refine T1.out _ _ ?_; with_reducible assumption) | (with_reducible refine T2.out _ _ _ ?_; with_reducible assumption) | (with_reducible refine T3.out _ _ _ _ ?_; with_reducible assumption) | (with_reducible refine T4.out _ _ _ _ _ _ ?_ ?_ <;> (first | (with_reducible assumption) | omega))))) (fun hH54 => ?_)
                  clear hK K hH53
                  try simp only [Act.put, List.setIfInBounds_toArray, List.set_cons_zero, List.set_cons_succ]
                  refine wpAnyH_ready (rs := [11]) (by kernel_rfl) (by simp) ?_
                  refine AllReadyH.cons rfl (fun K hK => ?_) AllReadyH.nil
                  go_simp
                  refine hK.out _ _ (by (first | (with_reducible exact T1.out _ _ K2) | (first | (with_reducible exact S0) | (with_reducible exact S1.out _) | (with_reducible exact S2.out _ _) | (with_reducible assumption) | (with_reducible refine SK.out _ ?_; with_reducible assumption) | (with_reducible refine T1.out _ _ ?_; with_reducible assumption) | (with_reducible refine T2.out _ _ _ ?_; with_reducible assumption) | (with_reducible refine T3.out _ _ _ _ ?_; with_reducible assumption) | (with_reducible refine T4.out _ _ _ _ _ _ ?_ ?_ <;> (first | (with_reducible assumption) | omega))))) (fun hH55 => ?_)
                  clear hK K hH54
                  try simp only [Act.put, List.setIfInBounds_toArray, List.set_cons_zero, List.set_cons_succ]
                  refine wpAnyH_done (by kernel_rfl) ?_ _
                  refine NoPanic.normal ?_
                  go_wp2_with fail
                  go_meet
                  first | exact ⟨_, rfl, Lib.hid ⟨heap_alloc_new wb _, P2.out.old alloc_old⟩⟩ | exact ⟨_, rfl, Lib.hid ⟨blk4 C2.out _ _ _ _, P2.out.set4 C2.out (by first | assumption | omega) hww _ _ _ _⟩⟩
                refine AllReadyH.cons rfl (fun K hK => ?_) AllReadyH.nil
                go_simp
                refine hK.out _ _ (by (first | (with_reducible exact T3.out _ _ _ _ KY) | (first | (with_reducible exact S0) | (with_reducible exact S1.out _) | (with_reducible exact S2.out _ _) | (with_reducible assumption) | (with_reducible refine SK.out _ ?_; with_reducible assumption) | (with_reducible refine T1.out _ _ ?_; with_reducible assumption) | (with_reducible refine T2.out _ _ _ ?_; with_reducible assumption) | (with_reducible refine T3.out _ _ _ _ ?_; with_reducible assumption) | (with_reducible refine T4.out _ _ _ _ _ _ ?_ ?_ <;> (first | (with_reducible assumption) | omega))))) (fun hH56 => ?_)
                clear hK K hH52
                try simp only [Act.put, List.setIfInBounds_toArray, List.set_cons_zero, List.set_cons_succ]
                refine wpAnyH_ready (rs := [9]) (by kernel_rfl) (by simp) ?_
                refine AllReadyH.cons rfl (fun K hK => ?_) AllReadyH.nil
                go_simp
                go_at_call 23
                (with_reducible refine (D7.out wa PY.out).mono ?_)
                rintro e wb ⟨rfl, hP, hkk⟩
                have P2 := Lib.hid hP
                have K2 := hP.kp
                have C2 := Lib.hid (hkk _ _ _ (G7.out wa) (by decide))
                obtain ⟨⟨d0, d1, d2, d3⟩, ⟨f0, f1, f2, f3⟩⟩ := cells4 C2.out
                have Zb : w1.heap.size ≤ _ := Nat.le_trans KY.size (by first | exact Nat.le_refl _ | exact Nat.le_succ _ | exact Nat.le_succ_of_le (Nat.le_succ _))
                clear hP hkk
                refine hK.out _ _ (by (first | (with_reducible exact SK.out _ K2) | (first | (with_reducible exact S0) | (with_reducible exact S1.out _) | (with_reducible exact S2.out _ _) | (with_reducible assumption) | (with_reducible refine SK.out _ ?_; with_reducible assumption) | (with_reducible refine T1.out _ _ ?_; with_reducible assumption) | (with_reducible refine T2.out _ _ _ ?_; with_reducible assumption) | (with_reducible refine T3.out _ _ _ _ ?_; with_reducible assumption) | (with_reducible refine T4.out _ _ _ _ _ _ ?_ ?_ <;> (first | (with_reducible assumption) | omega))))) (fun hH57 => ?_)
                clear hK K hH56
                try simp only [Act.put, List.setIfInBounds_toArray, List.set_cons_zero, List.set_cons_succ]
                refine wpAnyH_ready (rs := [11]) (by kernel_rfl) (by simp) ?_
                refine AllReadyH.cons rfl (fun K hK => ?_) AllReadyH.nil
                go_simp
                refine hK.out _ _ (by (first | (with_reducible exact S0) | (with_reducible exact S1.out _) | (with_reducible exact S2.out _ _) | (with_reducible assumption) | (with_reducible refine SK.out _ ?_; with_reducible assumption) | (with_reducible refine T1.out _ _ ?_; with_reducible assumption) | (with_reducible refine T2.out _ _ _ ?_; with_reducible assumption) | (with_reducible refine T3.out _ _ _ _ ?_; with_reducible assumption) | (with_reducible refine T4.out _ _ _ _ _ _ ?_ ?_ <;> (first | (with_reducible assumption) | omega)))) (fun hH58 => ?_)
                clear hK K hH57
                try simp only [Act.put, List.setIfInBounds_toArray, List.set_cons_zero, List.set_cons_succ]
                refine wpAnyH_done (by kernel_rfl) ?_ _
                refine NoPanic.normal ?_
                go_wp2_with fail
                go_meet
                first | exact ⟨_, rfl, Lib.hid ⟨heap_alloc_new wb _, P2.out.old alloc_old⟩⟩ | exact ⟨_, rfl, Lib.hid ⟨blk4 C2.out _ _ _ _, P2.out.set4 C2.out (by first | assumption | omega) hww _ _ _ _⟩⟩
              refine AllReadyH.cons rfl (fun K hK => ?_) AllReadyH.nil
              go_simp
              refine hK.out _ _ (by (first | (with_reducible exact T2.out _ _ _ KY) | (first | (with_reducible exact S0) | (with_reducible exact S1.out _) | (with_reducible exact S2.out _ _) | (with_reducible assumption) | (with_reducible refine SK.out _ ?_; with_reducible assumption) | (with_reducible refine T1.out _ _ ?_; with_reducible assumption) | (with_reducible refine T2.out _ _ _ ?_; with_reducible assumption) | (with_reducible refine T3.out _ _ _ _ ?_; with_reducible assumption) | (with_reducible refine T4.out _ _ _ _ _ _ ?_ ?_ <;> (first | (with_reducible assumption) | omega))))) (fun hH59 => ?_)
              clear hK K hH51
              try simp only [Act.put, List.setIfInBounds_toArray, List.set_cons_zero, List.set_cons_succ]
              refine wpAnyH_ready (rs := [8]) (by kernel_rfl) (by simp) ?_
              refine AllReadyH.cons rfl (fun K hK => ?_) AllReadyH.nil
              go_simp
              refine hK.out _ _ (by (first | (with_reducible exact T3.out _ _ _ _ KY) | (first | (with_reducible exact S0) | (with_reducible exact S1.out _) | (with_reducible exact S2.out _ _) | (with_reducible assumption) | (with_reducible refine SK.out _ ?_; with_reducible assumption) | (with_reducible refine T1.out _ _ ?_; with_reducible assumption) | (with_reducible refine T2.out _ _ _ ?_; with_reducible assumption) | (with_reducible refine T3.out _ _ _ _ ?_; with_reducible assumption) | (with_reducible refine T4.out _ _ _ _ _ _ ?_ ?_ <;> (first | (with_reducible assumption) | omega))))) (fun hH60 => ?_)
              clear hK K hH59
              try simp only [Act.put, List.setIfInBounds_toArray, List.set_cons_zero, List.set_cons_succ]
              refine wpAnyH_ready (rs := [9]) (by kernel_rfl) (by simp) ?_
              refine AllReadyH.cons rfl (fun K hK => ?_) AllReadyH.nil
              go_simp
              go_at_call 23
              (with_reducible refine (D5.out wa PY.out).mono ?_)
              rintro e wb ⟨rfl, hP, hkk⟩
              have P2 := Lib.hid hP
              have K2 := hP.kp
              have C2 := Lib.hid (hkk _ _ _ (G5.out wa) (by decide))
              obtain ⟨⟨d0, d1, d2, d3⟩, ⟨f0, f1, f2, f3⟩⟩ := cells4 C2.out
              have Zb : w1.heap.size ≤ _ := Nat.le_trans KY.size (by first | exact Nat.le_refl _ | exact Nat.le_succ _ | exact Nat.le_succ_of_le (Nat.le_succ _))
              clear hP hkk
              refine hK.out _ _ (by (first | (with_reducible exact SK.out _ K2) | (first | (with_reducible exact S0) | (with_reducible exact S1.out _) | (with_reducible exact S2.out _ _) | (with_reducible assumption) | (with_reducible refine SK.out _ ?_; with_reducible assumption) | (with_reducible refine T1.out _ _ ?_; with_reducible assumption) | (with_reducible refine T2.out _ _ _ ?_; with_reducible assumption) | (with_reducible refine T3.out _ _ _ _ ?_; with_reducible assumption) | (with_reducible refine T4.out _ _ _ _ _ _ ?_ ?_ <;> (first | (with_reducible assumption) | omega))))) (fun hH61 => ?_)
              clear hK K hH60
              try simp only [Act.put, List.setIfInBounds_toArray, List.set_cons_zero, List.set_cons_succ]
              refine wpAnyH_ready (rs := [11]) (by kernel_rfl) (by simp) ?_
              refine AllReadyH.cons rfl (fun K hK => ?_) AllReadyH.nil
              go_simp
              refine hK.out _ _ (by (first | (with_reducible exact S0) | (with_reducible exact S1.out _) | (with_reducible exact S2.out _ _) | (with_reducible assumption) | (with_reducible refine SK.out _ ?_; with_reducible assumption) | (with_reducible refine T1.out _ _ ?_; with_reducible assumption) | (with_reducible refine T2.out _ _ _ ?_; with_reducible assumption) | (with_reducible refine T3.out _ _ _ _ ?_; with_reducible assumption) | (with_reducible refine T4.out _ _ _ _ _ _ ?_ ?_ <;> (first | (with_reducible assumption) | omega)))) (fun hH62 => ?_)
              clear hK K hH61
              try simp only [Act.put, List.setIfInBounds_toArray, List.set_cons_zero, List.set_cons_succ]
              refine wpAnyH_done (by kernel_rfl) ?_ _
              refine NoPanic.normal ?_
              go_wp2_with fail
              go_meet
              first | exact ⟨_, rfl, Lib.hid ⟨heap_alloc_new wb _, P2.out.old alloc_old⟩⟩ | exact ⟨_, rfl, Lib.hid ⟨blk4 C2.out _ _ _ _, P2.out.set4 C2.out (by first | assumption | omega) hww _ _ _ _⟩⟩
            refine AllReadyH.cons rfl (fun K hK => ?_) AllReadyH.nil
            go_simp
            refine hK.out _ _ (by (first | (with_reducible exact T2.out _ _ _ KY) | (first | (with_reducible exact S0) | (with_reducible exact S1.out _) | (with_reducible exact S2.out _ _) | (with_reducible assumption) | (with_reducible refine SK.out _ ?_; with_reducible assumption) | (with_reducible refine T1.out _ _ ?_; with_reducible assumption) | (with_reducible refine T2.out _ _ _ ?_; with_reducible assumption) | (with_reducible refine T3.out _ _ _ _ ?_; with_reducible assumption) | (with_reducible refine T4.out _ _ _ _ _ _ ?_ ?_ <;> (first | (with_reducible assumption) | omega))))) (fun hH63 => ?_)
            clear hK K hH50
            try simp only [Act.put, List.setIfInBounds_toArray, List.set_cons_zero, List.set_cons_succ]
            refine wpAnyH_ready (rs := [5]) (by kernel_rfl) (by simp) ?_
            refine AllReadyH.cons rfl (fun K hK => ?_) AllReadyH.nil
            go_simp
            refine hK.out _ _ (by (first | (with_reducible exact T2.out _ _ _ KY) | (first | (with_reducible exact S0) | (with_reducible exact S1.out _) | (with_reducible exact S2.out _ _) | (with_reducible assumption) | (with_reducible refine SK.out _ ?_; with_reducible assumption) | (with_reducible refine T1.out _ _ ?_; with_reducible assumption) | (with_reducible refine T2.out _ _ _ ?_; with_reducible assumption) | (with_reducible refine T3.out _ _ _ _ ?_; with_reducible assumption) | (with_reducible refine T4.out _ _ _ _ _ _ ?_ ?_ <;> (first | (with_reducible assumption) | omega))))) (fun hH64 => ?_)
            clear hK K hH63
            try simp only [Act.put, List.setIfInBounds_toArray, List.set_cons_zero, List.set_cons_succ]
            refine wpAnyH_ready (rs := [8]) (by kernel_rfl) (by simp) ?_
            refine AllReadyH.cons rfl (fun K hK => ?_) AllReadyH.nil
            go_simp
            refine hK.out _ _ (by (first | (with_reducible exact T3.out _ _ _ _ KY) | (first | (with_reducible exact S0) | (with_reducible exact S1.out _) | (with_reducible exact S2.out _ _) | (with_reducible assumption) | (with_reducible refine SK.out _ ?_; with_reducible assumption) | (with_reducible refine T1.out _ _ ?_; with_reducible assumption) | (with_reducible refine T2.out _ _ _ ?_; with_reducible assumption) | (with_reducible refine T3.out _ _ _ _ ?_; with_reducible assumption) | (with_reducible refine T4.out _ _ _ _ _ _ ?_ ?_ <;> (first | (with_reducible assumption) | omega))))) (fun hH65 => ?_)
            clear hK K hH64
            try simp only [Act.put, List.setIfInBounds_toArray, List.set_cons_zero, List.set_cons_succ]
            refine wpAnyH_ready (rs := [9]) (by kernel_rfl) (by simp) ?_
            refine AllReadyH.cons rfl (fun K hK => ?_) AllReadyH.nil
            go_simp
            go_at_call 23
            (with_reducible refine (D5.out wa PY.out).mono ?_)
            rintro e wb ⟨rfl, hP, hkk⟩
            have P2 := Lib.hid hP
            have K2 := hP.kp
            have C2 := Lib.hid (hkk _ _ _ (G5.out wa) (by decide))
            obtain ⟨⟨d0, d1, d2, d3⟩, ⟨f0, f1, f2, f3⟩⟩ := cells4 C2.out
            have Zb : w1.heap.size ≤ _ := Nat.le_trans KY.size (by first | exact Nat.le_refl _ | exact Nat.le_succ _ | exact Nat.le_succ_of_le (Nat.le_succ _))
            clear hP hkk
            refine hK.out _ _ (by (first | (with_reducible exact SK.out _ K2) | (first | (with_reducible exact S0) | (with_reducible exact S1.out _) | (with_reducible exact S2.out _ _) | (with_reducible assumption) | (with_reducible refine SK.out _ ?_; with_reducible assumption) | (with_reducible refine T1.out _ _ ?_; with_reducible assumption) | (with_reducible refine T2.out _ _ _ ?_; with_reducible assumption) | (with_reducible refine T3.out _ _ _ _ ?_; with_reducible assumption) | (with_reducible refine T4.out _ _ _ _ _ _ ?_ ?_ <;> (first | (with_reducible assumption) | omega))))) (fun hH66 => ?_)
            clear hK K hH65
            try simp only [Act.put, List.setIfInBounds_toArray, List.set_cons_zero, List.set_cons_succ]
            refine wpAnyH_ready (rs := [11]) (by kernel_rfl) (by simp) ?_
            refine AllReadyH.cons rfl (fun K hK => ?_) AllReadyH.nil
            go_simp
            refine hK.out _ _ (by (first | (with_reducible exact S0) | (with_reducible exact S1.out _) | (with_reducible exact S2.out _ _) | (with_reducible assumption) | (with_reducible refine SK.out _ ?_; with_reducible assumption) | (with_reducible refine T1.out _ _ ?_; with_reducible assumption) | (with_reducible refine T2.out _ _ _ ?_; with_reducible assumption) | (with_reducible refine T3.out _ _ _ _ ?_; with_reducible assumption) | (with_reducible refine T4.out _ _ _ _ _ _ ?_ ?_ <;> (first | (with_reducible assumption) | omega)))) (fun hH67 => ?_)
            clear hK K hH66
            try simp only [Act.put, List.setIfInBounds_toArray, List.set_cons_zero, List.set_cons_succ]
            refine wpAnyH_done (by kernel_rfl) ?_ _
            refine NoPanic.normal ?_
            go_wp2_with fail
            go_meet
            first | exact ⟨_, rfl, Lib.hid ⟨heap_alloc_new wb _, P2.out.old alloc_old⟩⟩ | exact ⟨_, rfl, Lib.hid ⟨blk4 C2.out _ _ _ _, P2.out.set4 C2.out (by first | assumption | omega) hww _ _ _ _⟩⟩
          refine AllReadyH.cons rfl (fun K hK => ?_) AllReadyH.nil
          go_simp
          refine hK.out _ _ (by (first | (with_reducible exact T1.out _ _ KY) | (first | (with_reducible exact S0) | (with_reducible exact S1.out _) | (with_reducible exact S2.out _ _) | (with_reducible assumption) | (with_reducible refine SK.out _ ?_; with_reducible assumption) | (with_reducible refine T1.out _ _ ?_; with_reducible assumption) | (with_reducible refine T2.out _ _ _ ?_; with_reducible assumption) | (with_reducible refine T3.out _ _ _ _ ?_; with_reducible assumption) | (with_reducible refine T4.out _ _ _ _ _ _ ?_ ?_ <;> (first | (with_reducible assumption) | omega))))) (fun hH68 => ?_)
          clear hK K hH49
          try simp only [Act.put, List.setIfInBounds_toArray, List.set_cons_zero, List.set_cons_succ]
          refine wpAnyH_ready (rs := [4]) (by kernel_rfl) (by simp) ?_
          refine AllReadyH.cons rfl (fun K hK => ?_) AllReadyH.nil
          go_simp
          refine hK.out _ _ (by (first | (with_reducible exact T2.out _ _ _ KY) | (first | (with_reducible exact S0) | (with_reducible exact S1.out _) | (with_reducible exact S2.out _ _) | (with_reducible assumption) | (with_reducible refine SK.out _ ?_; with_reducible assumption) | (with_reducible refine T1.out _ _ ?_; with_reducible assumption) | (with_reducible refine T2.out _ _ _ ?_; with_reducible assumption) | (with_reducible refine T3.out _ _ _ _ ?_; with_reducible assumption) | (with_reducible refine T4.out _ _ _ _ _ _ ?_ ?_ <;> (first | (with_reducible assumption) | omega))))) (fun hH69 => ?_)
          clear hK K hH68
          try simp only [Act.put, List.setIfInBounds_toArray, List.set_cons_zero, List.set_cons_succ]
          refine wpAnyH_ready (rs := [5]) (by kernel_rfl) (by simp) ?_
          refine AllReadyH.cons rfl (fun K hK => ?_) AllReadyH.nil
          go_simp
          refine hK.out _ _ (by (first | (with_reducible exact T2.out _ _ _ KY) | (first | (with_reducible exact S0) | (with_reducible exact S1.out _) | (with_reducible exact S2.out _ _) | (with_reducible assumption) | (with_reducible refine SK.out _ ?_; with_reducible assumption) | (with_reducible refine T1.out _ _ ?_; with_reducible assumption) | (with_reducible refine T2.out _ _ _ ?_; with_reducible assumption) | (with_reducible refine T3.out _ _ _ _ ?_; with_reducible assumption) | (with_reducible refine T4.out _ _ _ _ _ _ ?_ ?_ <;> (first | (with_reducible assumption) | omega))))) (fun hH70 => ?_)
          clear hK K hH69
          try simp only [Act.put, List.setIfInBounds_toArray, List.set_cons_zero, List.set_cons_succ]
          refine wpAnyH_ready (rs := [8]) (by kernel_rfl) (by simp) ?_
          refine AllReadyH.cons rfl (fun K hK => ?_) AllReadyH.nil
          go_simp
          refine hK.out _ _ (by (first | (with_reducible exact T3.out _ _ _ _ KY) | (first | (with_reducible exact S0) | (with_reducible exact S1.out _) | (with_reducible exact S2.out _ _) | (with_reducible assumption) | (with_reducible refine SK.out _ ?_; with_reducible assumption) | (with_reducible refine T1.out _ _ ?_; with_reducible assumption) | (with_reducible refine T2.out _ _ _ ?_; with_reducible assumption) | (with_reducible refine T3.out _ _ _ _ ?_; with_reducible assumption) | (with_reducible refine T4.out _ _ _ _ _ _ ?_ ?_ <;> (first | (with_reducible assumption) | omega))))) (fun hH71 => ?_)
          clear hK K hH70
          try simp only [Act.put, List.setIfInBounds_toArray, List.set_cons_zero, List.set_cons_succ]
          refine wpAnyH_ready (rs := [9]) (by kernel_rfl) (by simp) ?_
          refine AllReadyH.cons rfl (fun K hK => ?_) AllReadyH.nil
          go_simp
          go_at_call 23
          (with_reducible refine (D6.out wa PY.out).mono ?_)
          rintro e wb ⟨rfl, hP, hkk⟩
          have P2 := Lib.hid hP
          have K2 := hP.kp
          have C2 := Lib.hid (hkk _ _ _ (G6.out wa) (by decide))
          obtain ⟨⟨d0, d1, d2, d3⟩, ⟨f0, f1, f2, f3⟩⟩ := cells4 C2.out
          have Zb : w1.heap.size ≤ _ := Nat.le_trans KY.size (by first | exact Nat.le_refl _ | exact Nat.le_succ _ | exact Nat.le_succ_of_le (Nat.le_succ _))
          clear hP hkk
          refine hK.out _ _ (by (first | (with_reducible exact SK.out _ K2) | (first | (with_reducible exact S0) | (with_reducible exact S1.out _) | (with_reducible exact S2.out _ _) | (with_reducible assumption) | (with_reducible refine SK.out _ ?_; with_reducible assumption) | (with_reducible refine T1.out _ _ ?_; with_reducible assumption) | (with_reducible refine T2.out _ _ _ ?_; with_reducible assumption) | (with_reducible refine T3.out _ _ _ _ ?_; with_reducible assumption) | (with_reducible refine T4.out _ _ _ _ _ _ ?_ ?_ <;> (first | (with_reducible assumption) | omega))))) (fun hH72 => ?_)
          clear hK K hH71
          try simp only [Act.put, List.setIfInBounds_toArray, List.set_cons_zero, List.set_cons_succ]
          refine wpAnyH_ready (rs := [11]) (by kernel_rfl) (by simp) ?_
          refine AllReadyH.cons rfl (fun K hK => ?_) AllReadyH.nil
          go_simp
          refine hK.out _ _ (by (first | (with_reducible exact S0) | (with_reducible exact S1.out _) | (with_reducible exact S2.out _ _) | (with_reducible assumption) | (with_reducible refine SK.out _ ?_; with_reducible assumption) | (with_reducible refine T1.out _ _ ?_; with_reducible assumption) | (with_reducible refine T2.out _ _ _ ?_; with_reducible assumption) | (with_reducible refine T3.out _ _ _ _ ?_; with_reducible assumption) | (with_reducible refine T4.out _ _ _ _ _ _ ?_ ?_ <;> (first | (with_reducible assumption) | omega)))) (fun hH73 => ?_)
          clear hK K hH72
          try simp only [Act.put, List.setIfInBounds_toArray, List.set_cons_zero, List.set_cons_succ]
          refine wpAnyH_done (by kernel_rfl) ?_ _
          refine NoPanic.normal ?_
          go_wp2_with fail
          go_meet
          first | exact ⟨_, rfl, Lib.hid ⟨heap_alloc_new wb _, P2.out.old alloc_old⟩⟩ | exact ⟨_, rfl, Lib.hid ⟨blk4 C2.out _ _ _ _, P2.out.set4 C2.out (by first | assumption | omega) hww _ _ _ _⟩⟩
        refine AllReadyH.cons rfl (fun K hK => ?_) AllReadyH.nil
        go_simp
        refine hK.out _ _ (by (first | (with_reducible exact S1.out _) | (first | (with_reducible exact S0) | (with_reducible exact S1.out _) | (with_reducible exact S2.out _ _) | (with_reducible assumption) | (with_reducible refine SK.out _ ?_; with_reducible assumption) | (with_reducible refine T1.out _ _ ?_; with_reducible assumption) | (with_reducible refine T2.out _ _ _ ?_; with_reducible assumption) | (with_reducible refine T3.out _ _ _ _ ?_; with_reducible assumption) | (with_reducible refine T4.out _ _ _ _ _ _ ?_ ?_ <;> (first | (with_reducible assumption) | omega))))) (fun hH74 => ?_)
        clear hK K hH0
        try simp only [Act.put, List.setIfInBounds_toArray, List.set_cons_zero, List.set_cons_succ]
        refine wpAnyH_ready (rs := [4, 7]) (by kernel_rfl) (by simp) ?_
        refine AllReadyH.cons rfl (fun K hK => ?_) ?_
        · skip
          go_simp
          refine hK.out _ _ (by (first | (with_reducible exact S2.out _ _) | (first | (with_reducible exact S0) | (with_reducible exact S1.out _) | (with_reducible exact S2.out _ _) | (with_reducible assumption) | (with_reducible refine SK.out _ ?_; with_reducible assumption) | (with_reducible refine T1.out _ _ ?_; with_reducible assumption) | (with_reducible refine T2.out _ _ _ ?_; with_reducible assumption) | (with_reducible refine T3.out _ _ _ _ ?_; with_reducible assumption) | (with_reducible refine T4.out _ _ _ _ _ _ ?_ ?_ <;> (first | (with_reducible assumption) | omega))))) (fun hH75 => ?_)
          clear hK K hH74
          try simp only [Act.put, List.setIfInBounds_toArray, List.set_cons_zero, List.set_cons_succ]
          refine wpAnyH_ready (rs := [5, 7]) (by kernel_rfl) (by simp) ?_
          refine AllReadyH.cons rfl (fun K hK => ?_) ?_
          · skip
            go_simp
            refine hK.out _ _ (by (first | (with_reducible exact S2.out _ _) | (first | (with_reducible exact S0) | (with_reducible exact S1.out _) | (with_reducible exact S2.out _ _) | (with_reducible assumption) | (with_reducible refine SK.out _ ?_; with_reducible assumption) | (with_reducible refine T1.out _ _ ?_; with_reducible assumption) | (with_reducible refine T2.out _ _ _ ?_; with_reducible assumption) | (with_reducible refine T3.out _ _ _ _ ?_; with_reducible assumption) | (with_reducible refine T4.out _ _ _ _ _ _ ?_ ?_ <;> (first | (with_reducible assumption) | omega))))) (fun hH76 => ?_)
            clear hK K hH75
            try simp only [Act.put, List.setIfInBounds_toArray, List.set_cons_zero, List.set_cons_succ]
            refine wpAnyH_ready (rs := [7]) (by kernel_rfl) (by simp) ?_
            refine AllReadyH.cons rfl (fun K hK => ?_) AllReadyH.nil
            go_simp
            go_at_call 13
            (with_reducible refine (Ne.out).mono ?_)
            rintro e wa ⟨rfl, hb⟩
            have PY := Lib.hid (P0.out.old (Be.out.trans (hb.mono (Below.size Be.out))))
            have KY := PY.out.kp
            have yb := blk_below Ye.out hb
            have cx := cw4.out wa _ yb
            have CR := Lib.hid (blk_below Re.out hb)
            clear hb
            refine hK.out _ _ (by (first | (with_reducible exact SK.out _ KY) | (first | (with_reducible exact S0) | (with_reducible exact S1.out _) | (with_reducible exact S2.out _ _) | (with_reducible assumption) | (with_reducible refine SK.out _ ?_; with_reducible assumption) | (with_reducible refine T1.out _ _ ?_; with_reducible assumption) | (with_reducible refine T2.out _ _ _ ?_; with_reducible assumption) | (with_reducible refine T3.out _ _ _ _ ?_; with_reducible assumption) | (with_reducible refine T4.out _ _ _ _ _ _ ?_ ?_ <;> (first | (with_reducible assumption) | omega))))) (fun hH77 => ?_)
            clear hK K hH76
            try simp only [Act.put, List.setIfInBounds_toArray, List.set_cons_zero, List.set_cons_succ]
            refine wpAnyH_ready (rs := [8]) (by kernel_rfl) (by simp) ?_
            refine AllReadyH.cons rfl (fun K hK => ?_) AllReadyH.nil
            go_simp
            refine hK.out _ _ (by (first | (with_reducible exact T1.out _ _ KY) | (first | (with_reducible exact S0) | (with_reducible exact S1.out _) | (with_reducible exact S2.out _ _) | (with_reducible assumption) | (with_reducible refine SK.out _ ?_; with_reducible assumption) | (with_reducible refine T1.out _ _ ?_; with_reducible assumption) | (with_reducible refine T2.out _ _ _ ?_; with_reducible assumption) | (with_reducible refine T3.out _ _ _ _ ?_; with_reducible assumption) | (with_reducible refine T4.out _ _ _ _ _ _ ?_ ?_ <;> (first | (with_reducible assumption) | omega))))) (fun hH78 => ?_)
            clear hK K hH77
            try simp only [Act.put, List.setIfInBounds_toArray, List.set_cons_zero, List.set_cons_succ]
            refine wpAnyH_ready (rs := [9]) (by kernel_rfl) (by simp) ?_
            refine AllReadyH.cons rfl (fun K hK => ?_) AllReadyH.nil
            go_simp
            go_at_call 23
            (with_reducible refine (D1.out wa PY.out).mono ?_)
            rintro e wb ⟨rfl, hP, hkk⟩
            have P2 := Lib.hid hP
            have K2 := hP.kp
            (first | (have C2 := Lib.hid (hkk _ _ _ (blk_below CR.out (E1.out wa)) (by decide)); obtain ⟨⟨d0, d1, d2, d3⟩, ⟨f0, f1, f2, f3⟩⟩ := cells4 C2.out) | skip)
            clear hP hkk
            refine hK.out _ _ (by (first | (with_reducible exact SK.out _ K2) | (first | (with_reducible exact S0) | (with_reducible exact S1.out _) | (with_reducible exact S2.out _ _) | (with_reducible assumption) | (with_reducible refine SK.out _ ?_; with_reducible assumption) | (with_reducible refine T1.out _ _ ?_; with_reducible assumption) | (with_reducible refine T2.out _ _ _ ?_; with_reducible assumption) | (with_reducible refine T3.out _ _ _ _ ?_; with_reducible assumption) | (with_reducible refine T4.out _ _ _ _ _ _ ?_ ?_ <;> (first | (with_reducible assumption) | omega))))) (fun hH79 => ?_)
            clear hK K hH78
            try simp only [Act.put, List.setIfInBounds_toArray, List.set_cons_zero, List.set_cons_succ]
            refine wpAnyH_ready (rs := [11]) (by kernel_rfl) (by simp) ?_
            refine AllReadyH.cons rfl (fun K hK => ?_) AllReadyH.nil
            go_simp
            refine hK.out _ _ (by (first | (with_reducible exact S0) | (with_reducible exact S1.out _) | (with_reducible exact S2.out _ _) | (with_reducible assumption) | (with_reducible refine SK.out _ ?_; with_reducible assumption) | (with_reducible refine T1.out _ _ ?_; with_reducible assumption) | (with_reducible refine T2.out _ _ _ ?_; with_reducible assumption) | (with_reducible refine T3.out _ _ _ _ ?_; with_reducible assumption) | (with_reducible refine T4.out _ _ _ _ _ _ ?_ ?_ <;> (first | (with_reducible assumption) | omega)))) (fun hH80 => ?_)
            clear hK K hH79
            try simp only [Act.put, List.setIfInBounds_toArray, List.set_cons_zero, List.set_cons_succ]
            refine wpAnyH_done (by kernel_rfl) ?_ _
            refine NoPanic.normal ?_
            go_wp2_with fail
            go_meet
            first | exact ⟨_, rfl, Lib.hid ⟨heap_alloc_new wb _, P2.out.old alloc_old⟩⟩ | exact ⟨_, rfl, Lib.hid ⟨blk4 C2.out _ _ _ _, P2.out.set4 C2.out (by first | assumption | omega) hww _ _ _ _⟩⟩
          refine AllReadyH.cons rfl (fun K hK => ?_) AllReadyH.nil
          go_simp
          go_at_call 13
          (with_reducible refine (Ne.out).mono ?_)
          rintro e wa ⟨rfl, hb⟩
          have PY := Lib.hid (P0.out.old (Be.out.trans (hb.mono (Below.size Be.out))))
          have KY := PY.out.kp
          have yb := blk_below Ye.out hb
          have cx := cw4.out wa _ yb
          have CR := Lib.hid (blk_below Re.out hb)
          clear hb
          refine hK.out _ _ (by (first | (with_reducible exact SK.out _ KY) | (first | (with_reducible exact S0) | (with_reducible exact S1.out _) | (with_reducible exact S2.out _ _) | (with_reducible assumption) | (with_reducible refine SK.out _ ?_; with_reducible assumption) | (with_reducible refine T1.out _ _ ?_; with_reducible assumption) | (with_reducible refine T2.out _ _ _ ?_; with_reducible assumption) | (with_reducible refine T3.out _ _ _ _ ?_; with_reducible assumption) | (with_reducible refine T4.out _ _ _ _ _ _ ?_ ?_ <;> (first | (with_reducible assumption) | omega))))) (fun hH81 => ?_)
          clear hK K hH75
          try simp only [Act.put, List.setIfInBounds_toArray, List.set_cons_zero, List.set_cons_succ]
          refine wpAnyH_ready (rs := [5]) (by kernel_rfl) (by simp) ?_
          refine AllReadyH.cons rfl (fun K hK => ?_) AllReadyH.nil
          go_simp
          refine hK.out _ _ (by (first | (with_reducible exact SK.out _ KY) | (first | (with_reducible exact S0) | (with_reducible exact S1.out _) | (with_reducible exact S2.out _ _) | (with_reducible assumption) | (with_reducible refine SK.out _ ?_; with_reducible assumption) | (with_reducible refine T1.out _ _ ?_; with_reducible assumption) | (with_reducible refine T2.out _ _ _ ?_; with_reducible assumption) | (with_reducible refine T3.out _ _ _ _ ?_; with_reducible assumption) | (with_reducible refine T4.out _ _ _ _ _ _ ?_ ?_ <;> (first | (with_reducible assumption) | omega))))) (fun hH82 => ?_)
          clear hK K hH81
          try simp only [Act.put, List.setIfInBounds_toArray, List.set_cons_zero, List.set_cons_succ]
          refine wpAnyH_ready (rs := [8]) (by kernel_rfl) (by simp) ?_
          refine AllReadyH.cons rfl (fun K hK => ?_) AllReadyH.nil
          go_simp
          refine hK.out _ _ (by (first | (with_reducible exact T1.out _ _ KY) | (first | (with_reducible exact S0) | (with_reducible exact S1.out _) | (with_reducible exact S2.out _ _) | (with_reducible assumption) | (with_reducible refine SK.out _ ?_; with_reducible assumption) | (with_reducible refine T1.out _ _ ?_; with_reducible assumption) | (with_reducible refine T2.out _ _ _ ?_; with_reducible assumption) | (with_reducible refine T3.out _ _ _ _ ?_; with_reducible assumption) | (with_reducible refine T4.out _ _ _ _ _ _ ?_ ?_ <;> (first | (with_reducible assumption) | omega))))) (fun hH83 => ?_)
          clear hK K hH82
          try simp only [Act.put, List.setIfInBounds_toArray, List.set_cons_zero, List.set_cons_succ]
          refine wpAnyH_ready (rs := [9]) (by kernel_rfl) (by simp) ?_
          refine AllReadyH.cons rfl (fun K hK => ?_) AllReadyH.nil
          go_simp
          go_at_call 23
          (with_reducible refine (D1.out wa PY.out).mono ?_)
          rintro e wb ⟨rfl, hP, hkk⟩
          have P2 := Lib.hid hP
          have K2 := hP.kp
          (first | (have C2 := Lib.hid (hkk _ _ _ (blk_below CR.out (E1.out wa)) (by decide)); obtain ⟨⟨d0, d1, d2, d3⟩, ⟨f0, f1, f2, f3⟩⟩ := cells4 C2.out) | skip)
          clear hP hkk
          refine hK.out _ _ (by (first | (with_reducible exact SK.out _ K2) | (first | (with_reducible exact S0) | (with_reducible exact S1.out _) | (with_reducible exact S2.out _ _) | (with_reducible assumption) | (with_reducible refine SK.out _ ?_; with_reducible assumption) | (with_reducible refine T1.out _ _ ?_; with_reducible assumption) | (with_reducible refine T2.out _ _ _ ?_; with_reducible assumption) | (with_reducible refine T3.out _ _ _ _ ?_; with_reducible assumption) | (with_reducible refine T4.out _ _ _ _ _ _ ?_ ?_ <;> (first | (with_reducible assumption) | omega))))) (fun hH84 => ?_)
          clear hK K hH83
          try simp only [Act.put, List.setIfInBounds_toArray, List.set_cons_zero, List.set_cons_succ]
          refine wpAnyH_ready (rs := [11]) (by kernel_rfl) (by simp) ?_
          refine AllReadyH.cons rfl (fun K hK => ?_) AllReadyH.nil
          go_simp
          refine hK.out _ _ (by (first | (with_reducible exact S0) | (with_reducible exact S1.out _) | (with_reducible exact S2.out _ _) | (with_reducible assumption) | (with_reducible refine SK.out _ ?_; with_reducible assumption) | (with_reducible refine T1.out _ _ ?_; with_reducible assumption) | (with_reducible refine T2.out _ _ _ ?_; with_reducible assumption) | (with_reducible refine T3.out _ _ _ _ ?_; with_reducible assumption) | (with_reducible refine T4.out _ _ _ _ _ _ ?_ ?_ <;> (first | (with_reducible assumption) | omega)))) (fun hH85 => ?_)
          clear hK K hH84
          try simp only [Act.put, List.setIfInBounds_toArray, List.set_cons_zero, List.set_cons_succ]
          refine wpAnyH_done (by kernel_rfl) ?_ _
          refine NoPanic.normal ?_
          go_wp2_with fail
          go_meet
          first | exact ⟨_, rfl, Lib.hid ⟨heap_alloc_new wb _, P2.out.old alloc_old⟩⟩ | exact ⟨_, rfl, Lib.hid ⟨blk4 C2.out _ _ _ _, P2.out.set4 C2.out (by first | assumption | omega) hww _ _ _ _⟩⟩
        refine AllReadyH.cons rfl (fun K hK => ?_) AllReadyH.nil
        go_simp
        go_at_call 13
        (with_reducible refine (Nc.out).mono ?_)
        rintro e wa ⟨rfl, hb⟩
        have PY := Lib.hid (P0.out.old (Bc.out.trans (hb.mono (Below.size Bc.out))))
        have KY := PY.out.kp
        have cx := cw1.out wa
        have CR := Lib.hid (blk_below Rc.out hb)
        clear hb
        refine hK.out _ _ (by (first | (with_reducible exact SK.out _ KY) | (first | (with_reducible exact S0) | (with_reducible exact S1.out _) | (with_reducible exact S2.out _ _) | (with_reducible assumption) | (with_reducible refine SK.out _ ?_; with_reducible assumption) | (with_reducible refine T1.out _ _ ?_; with_reducible assumption) | (with_reducible refine T2.out _ _ _ ?_; with_reducible assumption) | (with_reducible refine T3.out _ _ _ _ ?_; with_reducible assumption) | (with_reducible refine T4.out _ _ _ _ _ _ ?_ ?_ <;> (first | (with_reducible assumption) | omega))))) (fun hH86 => ?_)
        clear hK K hH74
        try simp only [Act.put, List.setIfInBounds_toArray, List.set_cons_zero, List.set_cons_succ]
        refine wpAnyH_ready (rs := [4]) (by kernel_rfl) (by simp) ?_
        refine AllReadyH.cons rfl (fun K hK => ?_) AllReadyH.nil
        go_simp
        refine hK.out _ _ (by (first | (with_reducible exact T1.out _ _ KY) | (first | (with_reducible exact S0) | (with_reducible exact S1.out _) | (with_reducible exact S2.out _ _) | (with_reducible assumption) | (with_reducible refine SK.out _ ?_; with_reducible assumption) | (with_reducible refine T1.out _ _ ?_; with_reducible assumption) | (with_reducible refine T2.out _ _ _ ?_; with_reducible assumption) | (with_reducible refine T3.out _ _ _ _ ?_; with_reducible assumption) | (with_reducible refine T4.out _ _ _ _ _ _ ?_ ?_ <;> (first | (with_reducible assumption) | omega))))) (fun hH87 => ?_)
        clear hK K hH86
        try simp only [Act.put, List.setIfInBounds_toArray, List.set_cons_zero, List.set_cons_succ]
        refine wpAnyH_ready (rs := [5]) (by kernel_rfl) (by simp) ?_
        refine AllReadyH.cons rfl (fun K hK => ?_) AllReadyH.nil
        go_simp
        refine hK.out _ _ (by (first | (with_reducible exact T1.out _ _ KY) | (first | (with_reducible exact S0) | (with_reducible exact S1.out _) | (with_reducible exact S2.out _ _) | (with_reducible assumption) | (with_reducible refine SK.out _ ?_; with_reducible assumption) | (with_reducible refine T1.out _ _ ?_; with_reducible assumption) | (with_reducible refine T2.out _ _ _ ?_; with_reducible assumption) | (with_reducible refine T3.out _ _ _ _ ?_; with_reducible assumption) | (with_reducible refine T4.out _ _ _ _ _ _ ?_ ?_ <;> (first | (with_reducible assumption) | omega))))) (fun hH88 => ?_)
        clear hK K hH87
        try simp only [Act.put, List.setIfInBounds_toArray, List.set_cons_zero, List.set_cons_succ]
        refine wpAnyH_ready (rs := [8]) (by kernel_rfl) (by simp) ?_
        refine AllReadyH.cons rfl (fun K hK => ?_) AllReadyH.nil
        go_simp
        refine hK.out _ _ (by (first | (with_reducible exact T2.out _ _ _ KY) | (first | (with_reducible exact S0) | (with_reducible exact S1.out _) | (with_reducible exact S2.out _ _) | (with_reducible assumption) | (with_reducible refine SK.out _ ?_; with_reducible assumption) | (with_reducible refine T1.out _ _ ?_; with_reducible assumption) | (with_reducible refine T2.out _ _ _ ?_; with_reducible assumption) | (with_reducible refine T3.out _ _ _ _ ?_; with_reducible assumption) | (with_reducible refine T4.out _ _ _ _ _ _ ?_ ?_ <;> (first | (with_reducible assumption) | omega))))) (fun hH89 => ?_)
        clear hK K hH88
        try simp only [Act.put, List.setIfInBounds_toArray, List.set_cons_zero, List.set_cons_succ]
        refine wpAnyH_ready (rs := [9]) (by kernel_rfl) (by simp) ?_
        refine AllReadyH.cons rfl (fun K hK => ?_) AllReadyH.nil
        go_simp
        go_at_call 23
        (with_reducible refine (D2.out wa PY.out).mono ?_)
        rintro e wb ⟨rfl, hP, hkk⟩
        have P2 := Lib.hid hP
        have K2 := hP.kp
        (first | (have C2 := Lib.hid (hkk _ _ _ (blk_below CR.out (E2.out wa)) (by decide)); obtain ⟨⟨d0, d1, d2, d3⟩, ⟨f0, f1, f2, f3⟩⟩ := cells4 C2.out) | skip)
        clear hP hkk
        refine hK.out _ _ (by (first | (with_reducible exact SK.out _ K2) | (first | (with_reducible exact S0) | (with_reducible exact S1.out _) | (with_reducible exact S2.out _ _) | (with_reducible assumption) | (with_reducible refine SK.out _ ?_; with_reducible assumption) | (with_reducible refine T1.out _ _ ?_; with_reducible assumption) | (with_reducible refine T2.out _ _ _ ?_; with_reducible assumption) | (with_reducible refine T3.out _ _ _ _ ?_; with_reducible assumption) | (with_reducible refine T4.out _ _ _ _ _ _ ?_ ?_ <;> (first | (with_reducible assumption) | omega))))) (fun hH90 => ?_)
        clear hK K hH89
        try simp only [Act.put, List.setIfInBounds_toArray, List.set_cons_zero, List.set_cons_succ]
        refine wpAnyH_ready (rs := [11]) (by kernel_rfl) (by simp) ?_
        refine AllReadyH.cons rfl (fun K hK => ?_) AllReadyH.nil
        go_simp
        refine hK.out _ _ (by (first | (with_reducible exact S0) | (with_reducible exact S1.out _) | (with_reducible exact S2.out _ _) | (with_reducible assumption) | (with_reducible refine SK.out _ ?_; with_reducible assumption) | (with_reducible refine T1.out _ _ ?_; with_reducible assumption) | (with_reducible refine T2.out _ _ _ ?_; with_reducible assumption) | (with_reducible refine T3.out _ _ _ _ ?_; with_reducible assumption) | (with_reducible refine T4.out _ _ _ _ _ _ ?_ ?_ <;> (first | (with_reducible assumption) | omega)))) (fun hH91 => ?_)
        clear hK K hH90
        try simp only [Act.put, List.setIfInBounds_toArray, List.set_cons_zero, List.set_cons_succ]
        refine wpAnyH_done (by kernel_rfl) ?_ _
        refine NoPanic.normal ?_
        go_wp2_with fail
        go_meet
        first | exact ⟨_, rfl, Lib.hid ⟨heap_alloc_new wb _, P2.out.old alloc_old⟩⟩ | exact ⟨_, rfl, Lib.hid ⟨blk4 C2.out _ _ _ _, P2.out.set4 C2.out (by first | assumption | omega) hww _ _ _ _⟩⟩
      case rest =>
        obtain ⟨b, rfl, HC⟩ := hcut
        have P5 := Lib.hid (HC.out.2.old (Below.refl wc.heap.size wc).drew)
        obtain ⟨⟨c0, c1, c2, c3⟩, _⟩ := cells4 (show wc.drew.heap[b]? = some (.cells #[.int .i64 3, .int .i64 (s k + x), .string ⟨#[]⟩, .slice none 0 0] 29) from HC.out.1)
        have hS5 := keepL P5.out.kp L1.out HS1.out (by decide)
        have e0 := sum_cell hS5 k hk3
        rw [upd_at] at e0
        have HS5 := Lib.hid hS5
        have hbd := HQ.out.1
        have hz1 := HQ.out.2.1
        have hki : k ≤ i := by have := HKK.out; omega
        have hnb : ((s k + x) != (s k + x)) = false := by simp
        clear hS5 d0 ck zfk hx
        go_wp2
        go_region
        go_wp2
        refine ⟨⟨i + 1, upd s k (s k + x), by omega, by go_num, Lib.hid ⟨fun j => ?_, fun j hj => ?_, P5.out.ld, HS5.out⟩⟩, by simp [intOf]; omega⟩
        · unfold upd
          split
          · have := hbd k; push_cast; omega
          · have := hbd j; push_cast; omega
        · unfold upd
          rw [if_neg (by omega)]
          exact hz1 j (by omega)
    · obtain rfl : i = n := by omega
      have i0 : ¬ (i : Int) < (i : Int) := by omega
      obtain ⟨w2, rfl⟩ : ∃ w2, w2 = wr := ⟨_, rfl⟩
      have hsI : ∀ j, I64 (s j) := fun j => by have := HQ.out.1 j; exact ⟨by omega, by omega⟩
      have HB0 := Lib.hid (fC_bd i s hsI)
      have L2 := Lib.hid HQ.out.2.2.1
      have N2 := Lib.hid HQ.out.2.2.2
      obtain ⟨F0, hF0⟩ : ∃ F0, fC i s = F0 := ⟨_, rfl⟩
      have g1 := fC_other i s ⟨#[116]⟩ nT
      have g2 := fC_other i s ⟨#[110, 111, 110, 101]⟩ nN
      have g3 := fun h => fC_zero i s h
      have hl3 : F0.length ≤ 3 := by rw [← hF0]; unfold fC; rw [List.length_take]; simp; omega
      have hS0 := hsI 0
      rw [hF0] at HB0 L2 g1 g2 g3
      obtain ⟨XT, hXT⟩ : ∃ XT, (⟨#[120]⟩ : ByteArray) ++ t = XT := ⟨_, rfl⟩
      have hxz : XT.size ≤ 51 := by rw [← hXT, ByteArray.size_append]; show 1 + t.size ≤ 51; omega
      have hpx : parseI XT.data.toList = none := by rw [← hXT]; exact parse_x t
      have f1 : ¬ (1 + t.size > 9223372036854775807) := by omega
      have f2 : ¬ ((⟨#[120]⟩ : ByteArray).size + t.size > 9223372036854775807) := by show ¬ (1 + t.size > 9223372036854775807); omega
      have hB1 : FBd (putD ⟨#[116]⟩ XT F0) 100 := HB0.out.put _ _ (by decide) (by omega) (by have := len_putF (⟨#[116]⟩ : ByteArray) XT F0; omega)
      have HB1 := Lib.hid hB1
      obtain ⟨F1, hF1⟩ : ∃ F1, putD ⟨#[116]⟩ XT F0 = F1 := ⟨_, rfl⟩
      have D1 := q_set w bS bM F0 100 (by omega) HB0.out ⟨#[116]⟩ XT (by decide) (by omega) w2 L2.out w2.heap.size rfl
      obtain ⟨r1, hr1⟩ : ∃ r1 : Int, (if (findD (⟨#[116]⟩ : ByteArray) F0).isNone = true then 1 else 0) = r1 := ⟨_, rfl⟩
      rw [hF1, hr1] at D1
      rw [hF1] at HB1
      clear hr1
      have D1 := Lib.hid D1
      have e1 : findD ⟨#[116]⟩ F1 = some XT := by rw [← hF1, findD_putD, if_pos rfl]
      have e2 : findD ⟨#[110, 111, 110, 101]⟩ F1 = none := by rw [← hF1, findD_putD, if_neg (by decide)]; exact g2
      have e3 : 1 ≤ i → findD ⟨#[97]⟩ F1 = some (numT (s 0)) := fun h => by rw [← hF1, findD_putD, if_neg (by decide)]; exact g3 h
      have E3 := Lib.hid e3
      have HXT := Lib.hid hXT
      have HS0 := Lib.hid hS0
      have DF := Lib.hid (fun X hL q hq => r_fail w bS bM F1 HB1.out ⟨#[116]⟩ XT (by decide) e1 hpx (by omega) X hL q hq)
      have DM := fun X hL q hq => r_mget w bS bM F1 HB1.out ⟨#[116]⟩ ⟨#[97]⟩ ⟨#[110, 111, 110, 101]⟩ (by decide) (by decide) (by decide) X hL q hq
      simp only [e1, e2] at DM
      obtain ⟨o1, ho1⟩ : ∃ o1, findD ⟨#[97]⟩ F1 = o1 := ⟨_, rfl⟩
      simp only [ho1] at DM E3
      have DM := Lib.hid DM
      clear HQ hi hlt hsI hF0 g1 g2 g3 hl3 hpx hB1 hF1 e1 e2 e3 ho1 hS0 hxz LB NB
      go_wp2_with (first | (go_at_call 23; (with_reducible refine (D1.out).mono ?_); rintro e v3 ⟨rfl, hL, hK⟩; have L3 := Lib.hid hL; have N3 := Lib.hid (keepL hK L2.out N2.out (by decide)); clear hL hK; refine Hid.out ?_))
      refine Lib.hid ?_
      clear hXT
      have D2 := Lib.hid (DF.out v3 L3.out v3.heap.size rfl)
      go_wp2_with (first | (go_at_call 23; (with_reducible refine (D2.out).mono ?_); rintro e v4 ⟨rfl, hL, hK⟩; have L4 := Lib.hid hL; have N4 := Lib.hid (keepL hK L3.out N3.out (by decide)); clear hL hK; refine Hid.out ?_))
      refine Lib.hid ?_
      have AA := Lib.hid (show Below v4.heap.size v4 (v4.alloc (.cells #[.int .i64 2, .int .i64 4, .string ⟨#[]⟩, .slice none 0 0] 29)) from alloc_old)
      have M1 := Lib.hid (heap_alloc_new v4 (.cells #[.int .i64 2, .int .i64 4, .string ⟨#[]⟩, .slice none 0 0] 29))
      have D3 := Lib.hid (DM.out (v4.alloc (.cells #[.int .i64 2, .int .i64 4, .string ⟨#[]⟩, .slice none 0 0] 29)) (L4.out.old AA.out) (v4.heap.size + 1) (by simp))
      have N5 := Lib.hid (blk_below N4.out AA.out)
      have L5 := Lib.hid (L4.out.old AA.out)
      go_wp2_with (first | (go_at_call 23; (with_reducible refine (D3.out).mono ?_); rintro e v5 ⟨A5, m5, c5, rfl, hR, hL, hK⟩; have R5 := Lib.hid hR; have L6 := Lib.hid hL; have N6 := Lib.hid (keepL hK L5.out N5.out (by decide)); have M6 := Lib.hid (keepL hK L5.out M1.out (by decide)); clear hR hL hK; refine Hid.out ?_))
      refine Lib.hid ?_
      obtain ⟨hm5, ⟨g5, rfl⟩, hc5⟩ := R5.out.form (by simp)
      have hm5 : m5 = 3 := hm5
      subst hm5
      have A7 := Lib.hid (show Below v5.heap.size v5 (v5.alloc (.cells #[.int .i64 6, .int .i64 0, .string ⟨#[]⟩, .slice (some ⟨g5, 0, none⟩) 3 c5] 29)) from alloc_old)
      have R7 := Lib.hid (R5.out.below A7.out)
      have L7 := Lib.hid (L6.out.old A7.out)
      have N7 := Lib.hid (blk_below N6.out A7.out)
      have M7 := Lib.hid (blk_below M6.out A7.out)
      have Q7 := Lib.hid (heap_alloc_new v5 (.cells #[.int .i64 6, .int .i64 0, .string ⟨#[]⟩, .slice (some ⟨g5, 0, none⟩) 3 c5] 29))
      obtain ⟨⟨a0, a1, a2, a3⟩, _⟩ := cells4 M7.out
      obtain ⟨⟨b0, b1, b2, b3⟩, _⟩ := cells4 Q7.out
      have x0 := row_cell R7.out 2 (.string XT) rfl
      have x2 := row_cell R7.out 8 (.int .i64 5) (by cases o1 <;> rfl)
      have hXT := HXT.out
      have hnx : (XT.toList != XT.toList) = false := by simp
      have X1 := Lib.hid (show ∀ u, o1 = some u → ∀ Y, Below (v5.alloc (.cells #[.int .i64 6, .int .i64 0, .string ⟨#[]⟩, .slice (some ⟨g5, 0, none⟩) 3 c5] 29)).heap.size (v5.alloc (.cells #[.int .i64 6, .int .i64 0, .string ⟨#[]⟩, .slice (some ⟨g5, 0, none⟩) 3 c5] 29)) Y → Y.cell? ⟨g5, 6, none⟩ = some (.string u) from fun u hu Y hY => by
        have h := row_below R7.out hY
        rw [hu] at h
        exact row_cell h 6 (.string u) rfl)
      go_wp2_with fail
      obtain ⟨q5, hq5⟩ : ∃ q5, v5.heap.size = q5 := ⟨_, rfl⟩
      rw [hq5] at Q7
      simp only [hq5]
      clear hq5 a0 a1 a2 a3 b0 b1 b2 b3 x0 x2 hXT hnx
      generalize (v5.alloc (.cells #[.int .i64 6, .int .i64 0, .string ⟨#[]⟩, .slice (some ⟨g5, 0, none⟩) 3 c5] 29)) = v6 at L7 N7 M7 Q7 X1 R7 ⊢
      have SX := Lib.hid (show ∀ Y, Below v6.heap.size v6 Y → (Y.cell? ⟨q5, 3, none⟩ = some (.slice (some ⟨g5, 0, none⟩) 3 c5) ∧ Y.cell? ⟨B, 0, none⟩ = some (.int .i64 (s 0))) from fun Y hY => ⟨(cells4 (blk_below Q7.out hY)).1.2.2.2, sum_cell (blk_below N7.out hY) 0 (by decide)⟩)
      have S0 := SX.out v6.drew (Below.refl _ _).drew
      have TLc := Lib.hid (TL.out v6.drew (L7.out.old (Below.refl _ _).drew).below)
      by_cases hi0 : i = 0
      · subst hi0
        refine wp_region_held_drew (S := fun X => X.cell? ⟨q5, 3, none⟩ = some (.slice (some ⟨g5, 0, none⟩) 3 c5) ∧ X.cell? ⟨B, 0, none⟩ = some (.int .i64 (s 0))) (by kernel_rfl) S0 (fun hHeld => ?_)
        refine wpAnyH_ready (rs := [0]) (by kernel_rfl) (by simp) ?_
        refine AllReadyH.cons rfl (fun K hK => ?_) AllReadyH.nil
        go_simp
        go_at_call 21
        refine (TLc.out).mono ?_
        rintro e x1 ⟨rfl, h1⟩
        have B1 := Lib.hid (show Below v6.heap.size v6 x1 from (Below.refl v6.heap.size v6).drew.trans h1)
        have S1 := SX.out _ B1.out
        clear h1
        refine hK.out _ _ S1 (fun hHeld2 => ?_)
        clear hK K hHeld
        try simp only [Act.put, List.getElem_toArray, List.getElem_cons_zero, List.getElem_cons_succ, List.setIfInBounds_toArray, List.set_cons_zero, List.set_cons_succ]
        refine wpAnyH_take (i := 1) (v := .bool true) rfl (by kernel_rfl) (by kernel_rfl) (by kernel_rfl) (fun _ _ _ h => h) (Or.inl ⟨by kernel_rfl, fun w hSw => by go_simp⟩) hHeld2 ?_
        try simp only [Act.put, List.getElem_toArray, List.getElem_cons_zero, List.getElem_cons_succ, List.setIfInBounds_toArray, List.set_cons_zero, List.set_cons_succ]
        refine wpAnyH_take (i := 2) (v := .slice aA 0 cap) rfl (by kernel_rfl) (by kernel_rfl) (by kernel_rfl) (fun _ _ _ h => h) (Or.inl ⟨by kernel_rfl, fun w hSw => by go_simp⟩) hHeld2 ?_
        try simp only [Act.put, List.getElem_toArray, List.getElem_cons_zero, List.getElem_cons_succ, List.setIfInBounds_toArray, List.set_cons_zero, List.set_cons_succ]
        refine wpAnyH_take (i := 3) (v := .int .i64 0) rfl (by kernel_rfl) (by kernel_rfl) (by kernel_rfl) (fun _ _ _ h => h) (Or.inl ⟨by kernel_rfl, fun w hSw => by go_simp⟩) hHeld2 ?_
        try simp only [Act.put, List.getElem_toArray, List.getElem_cons_zero, List.getElem_cons_succ, List.setIfInBounds_toArray, List.set_cons_zero, List.set_cons_succ]
        refine wpAnyH_take (i := 4) (v := .bool true) rfl (by kernel_rfl) (by kernel_rfl) (by kernel_rfl) (fun _ _ _ h => h) (Or.inl ⟨by kernel_rfl, fun w hSw => by go_simp⟩) hHeld2 ?_
        try simp only [Act.put, List.getElem_toArray, List.getElem_cons_zero, List.getElem_cons_succ, List.setIfInBounds_toArray, List.set_cons_zero, List.set_cons_succ]
        refine wpAnyH_take (i := 5) (v := .bool true) rfl (by kernel_rfl) (by kernel_rfl) (by kernel_rfl) (fun _ _ _ h => h) (Or.inl ⟨by kernel_rfl, fun w hSw => by go_simp⟩) hHeld2 ?_
        try simp only [Act.put, List.getElem_toArray, List.getElem_cons_zero, List.getElem_cons_succ, List.setIfInBounds_toArray, List.set_cons_zero, List.set_cons_succ]
        refine wpAnyH_take (i := 6) (v := undef) rfl (by kernel_rfl) (by kernel_rfl) (by kernel_rfl) (fun _ _ _ h => h) (Or.inr ⟨by kernel_rfl, rfl⟩) hHeld2 ?_
        try simp only [Act.put, List.getElem_toArray, List.getElem_cons_zero, List.getElem_cons_succ, List.setIfInBounds_toArray, List.set_cons_zero, List.set_cons_succ]
        refine wpAnyH_take (i := 7) (v := undef) rfl (by kernel_rfl) (by kernel_rfl) (by kernel_rfl) (fun _ _ _ h => h) (Or.inr ⟨by kernel_rfl, rfl⟩) hHeld2 ?_
        try simp only [Act.put, List.getElem_toArray, List.getElem_cons_zero, List.getElem_cons_succ, List.setIfInBounds_toArray, List.set_cons_zero, List.set_cons_succ]
        refine wpAnyH_take (i := 8) (v := undef) rfl (by kernel_rfl) (by kernel_rfl) (by kernel_rfl) (fun _ _ _ h => h) (Or.inr ⟨by kernel_rfl, rfl⟩) hHeld2 ?_
        try simp only [Act.put, List.getElem_toArray, List.getElem_cons_zero, List.getElem_cons_succ, List.setIfInBounds_toArray, List.set_cons_zero, List.set_cons_succ]
        refine wpAnyH_take (i := 9) (v := undef) rfl (by kernel_rfl) (by kernel_rfl) (by kernel_rfl) (fun _ _ _ h => h) (Or.inr ⟨by kernel_rfl, rfl⟩) hHeld2 ?_
        try simp only [Act.put, List.getElem_toArray, List.getElem_cons_zero, List.getElem_cons_succ, List.setIfInBounds_toArray, List.set_cons_zero, List.set_cons_succ]
        refine wpAnyH_take (i := 10) (v := undef) rfl (by kernel_rfl) (by kernel_rfl) (by kernel_rfl) (fun _ _ _ h => h) (Or.inr ⟨by kernel_rfl, rfl⟩) hHeld2 ?_
        try simp only [Act.put, List.getElem_toArray, List.getElem_cons_zero, List.getElem_cons_succ, List.setIfInBounds_toArray, List.set_cons_zero, List.set_cons_succ]
        refine wpAnyH_take (i := 11) (v := undef) rfl (by kernel_rfl) (by kernel_rfl) (by kernel_rfl) (fun _ _ _ h => h) (Or.inr ⟨by kernel_rfl, rfl⟩) hHeld2 ?_
        try simp only [Act.put, List.getElem_toArray, List.getElem_cons_zero, List.getElem_cons_succ, List.setIfInBounds_toArray, List.set_cons_zero, List.set_cons_succ]
        refine wpAnyH_take (i := 12) (v := undef) rfl (by kernel_rfl) (by kernel_rfl) (by kernel_rfl) (fun _ _ _ h => h) (Or.inr ⟨by kernel_rfl, rfl⟩) hHeld2 ?_
        try simp only [Act.put, List.getElem_toArray, List.getElem_cons_zero, List.getElem_cons_succ, List.setIfInBounds_toArray, List.set_cons_zero, List.set_cons_succ]
        refine wpAnyH_take (i := 13) (v := undef) rfl (by kernel_rfl) (by kernel_rfl) (by kernel_rfl) (fun _ _ _ h => h) (Or.inr ⟨by kernel_rfl, rfl⟩) hHeld2 ?_
        try simp only [Act.put, List.getElem_toArray, List.getElem_cons_zero, List.getElem_cons_succ, List.setIfInBounds_toArray, List.set_cons_zero, List.set_cons_succ]
        refine wpAnyH_take (i := 14) (v := undef) rfl (by kernel_rfl) (by kernel_rfl) (by kernel_rfl) (fun _ _ _ h => h) (Or.inr ⟨by kernel_rfl, rfl⟩) hHeld2 ?_
        try simp only [Act.put, List.getElem_toArray, List.getElem_cons_zero, List.getElem_cons_succ, List.setIfInBounds_toArray, List.set_cons_zero, List.set_cons_succ]
        refine wpAnyH_take (i := 15) (v := undef) rfl (by kernel_rfl) (by kernel_rfl) (by kernel_rfl) (fun _ _ _ h => h) (Or.inr ⟨by kernel_rfl, rfl⟩) hHeld2 ?_
        try simp only [Act.put, List.getElem_toArray, List.getElem_cons_zero, List.getElem_cons_succ, List.setIfInBounds_toArray, List.set_cons_zero, List.set_cons_succ]
        refine wpAnyH_take (i := 16) (v := .bool true) rfl (by kernel_rfl) (by kernel_rfl) (by kernel_rfl) (fun _ _ _ h => h) (Or.inl ⟨by kernel_rfl, fun w hSw => by go_simp⟩) hHeld2 ?_
        try simp only [Act.put, List.getElem_toArray, List.getElem_cons_zero, List.getElem_cons_succ, List.setIfInBounds_toArray, List.set_cons_zero, List.set_cons_succ]
        refine wpAnyH_take (i := 17) (v := .bool true) rfl (by kernel_rfl) (by kernel_rfl) (by kernel_rfl) (fun _ _ _ h => h) (Or.inl ⟨by kernel_rfl, fun w hSw => by go_simp⟩) hHeld2 ?_
        try simp only [Act.put, List.getElem_toArray, List.getElem_cons_zero, List.getElem_cons_succ, List.setIfInBounds_toArray, List.set_cons_zero, List.set_cons_succ]
        refine wpAnyH_take (i := 18) (v := .bool true) rfl (by kernel_rfl) (by kernel_rfl) (by kernel_rfl) (fun _ _ _ h => h) (Or.inl ⟨by kernel_rfl, fun w hSw => by go_simp⟩) hHeld2 ?_
        try simp only [Act.put, List.getElem_toArray, List.getElem_cons_zero, List.getElem_cons_succ, List.setIfInBounds_toArray, List.set_cons_zero, List.set_cons_succ]
        refine wpAnyH_done (by kernel_rfl) ?_ _
        go_wp2
        go_ret
        exact ⟨by simp, (L7.out.old B1.out).below⟩
      · have hib : ((i : Int) == 0) = false := by rw [beq_eq_false_iff_ne]; omega
        have X2 := Lib.hid (X1.out _ (E3.out (by omega)))
        have S9 := X2.out v6.drew (Below.refl _ _).drew
        have NM := Lib.hid (fun X (hX : Below w.heap.size w X) => Number13 HT.out (s 0) HS0.out X hX)
        have heb : ((numT (s 0)).toList == (numT (s 0)).toList) = true := by simp
        go_region_held3 (fun X => X.cell? ⟨q5, 3, none⟩ = some (.slice (some ⟨g5, 0, none⟩) 3 c5) ∧ X.cell? ⟨B, 0, none⟩ = some (.int .i64 (s 0)) ∧ X.cell? ⟨g5, 6, none⟩ = some (.string (numT (s 0)))) (first | (with_reducible exact ⟨S0.1, S0.2, S9⟩) | (with_reducible exact ⟨S1.out.1, S1.out.2, X3.out⟩) | (with_reducible exact ⟨S2.out.1, S2.out.2, X4.out⟩) | (exact ⟨S1.out.1, S1.out.2, X3.out⟩) | (exact ⟨S2.out.1, S2.out.2, X4.out⟩) | fail)
          (first | (go_at_call 21; (with_reducible refine (TLc.out).mono ?_); rintro e x1 ⟨rfl, h1⟩; have B1 := Lib.hid (show Below v6.heap.size v6 x1 from (Below.refl v6.heap.size v6).drew.trans h1); have S1 := Lib.hid (SX.out _ B1.out); have X3 := Lib.hid (X2.out _ B1.out); have NX := Lib.hid (NM.out x1 (L7.out.old B1.out).below); clear h1) | (go_at_call 13; (with_reducible refine (NX.out).mono ?_); rintro e x2 ⟨rfl, h1⟩; have B2 := Lib.hid (B1.out.trans (h1.mono (Below.size B1.out))); have S2 := Lib.hid (SX.out _ B2.out); have X4 := Lib.hid (X2.out _ B2.out); clear h1))
        go_wp2
        go_ret
        exact ⟨by simp, (L7.out.old B2.out).below⟩
end Go.Proofs.YticlacjpgjkhcaaGreatDoor
