/- Texts joined: PL, PM -/
import Derived.Test.YticlacjpgjkhcaaGreatDoorQn29
set_option linter.unusedVariables false
set_option linter.unusedSimpArgs false

/- The law's commands with written arguments. -/
namespace Go.Proofs.YticlacjpgjkhcaaGreatDoor
open Go.ChangeShapes Go.WideShapes Go.ChangeAt Go.RowKit Go.Fl

theorem l_pnear (W0 : World) (bS bM : Nat) (hT : Tab W0) (F : List (ByteArray × Int × Int)) (B : Int) (hB0 : 0 ≤ B) (hB : B ≤ 1048576) (hb : PBd F B) (hne : F ≠ []) (a b : Int) (ha : okI a = true) (hb9 : okI b = true) (i : Nat) (hi : (nrP a b F F.length).1 = i) (q0 : ByteArray × Int × Int) (hq0 : F[i]? = some q0) (X : World) (hL : LDP W0 X bS bM (dP F)) (q : Nat) (hq : X.heap.size = q) : Calls Tryz.prog 14 #[.pointer (some ⟨bS, 0, none⟩), .slice (some ⟨q, 0, none⟩) 4 4] (X.alloc (.cells #[.string ⟨#[80, 78, 69, 65, 82]⟩, .string ⟨#[107]⟩, .string (numT a), .string (numT b)] 9)) fun e w' => ∃ A m c, e = .returned (.agg #[.int .i64 6, .int .i64 0, .string ⟨#[]⟩, .slice A m c]) ∧ (RO [some q0.1, some (numT q0.2.1), some (numT q0.2.2)]) X.heap.size w' (.slice A m c) ∧ LDP W0 w' bS bM (dP F) ∧ Kp X.heap.size (fun i => i ≠ bS ∧ i ≠ bM) X w' := by
  subst hq
  exact litR (RO.keep _) X hL [⟨#[80, 78, 69, 65, 82]⟩, ⟨#[107]⟩, numT a, numT b] (by simp) (fun vA w h hA => q_pnear W0 bS bM hT F B hB0 hB hb hne a b ha hb9 i hi q0 hq0 vA w h hA) rfl rfl rfl
theorem l_pmove (W0 : World) (bS bM : Nat) (F : List (ByteArray × Int × Int)) (B : Int) (hB0 : 0 ≤ B) (hB : B ≤ 1048576) (hb : PBd F B) (hne : F ≠ []) (a b : Int) (ha : okI a = true) (hb9 : okI b = true) (C : Int) (hC : C ≤ 1048576) (hc : PBd (mapP (mvP a b) F) C) (n : Nat) (hn : F.length = n) (X : World) (hL : LDP W0 X bS bM (dP F)) (q : Nat) (hq : X.heap.size = q) : Calls Tryz.prog 14 #[.pointer (some ⟨bS, 0, none⟩), .slice (some ⟨q, 0, none⟩) 4 4] (X.alloc (.cells #[.string ⟨#[80, 77, 79, 86, 69]⟩, .string ⟨#[107]⟩, .string (numT a), .string (numT b)] 9)) fun e w' => e = .returned (.agg #[.int .i64 3, .int .i64 (n : Nat), .string ⟨#[]⟩, .slice none 0 0]) ∧ LDP W0 w' bS bM (dP (mapP (mvP a b) F)) ∧ Kp X.heap.size (fun i => i ≠ bS ∧ i ≠ bM) X w' := by
  subst hq
  exact lit0 X hL [⟨#[80, 77, 79, 86, 69]⟩, ⟨#[107]⟩, numT a, numT b] (by simp) (fun vA w h hA => q_pmove W0 bS bM F B hB0 hB hb hne a b ha hb9 C hC hc vA w h hA) rfl (by rw [hn]) rfl
theorem l_padd (W0 : World) (bS bM : Nat) (Xf Yf : Nat → Int) (B : Int) (hB : B ≤ 1000000) (hX : ∀ j, -B ≤ Xf j ∧ Xf j ≤ B) (hY : ∀ j, -B ≤ Yf j ∧ Yf j ≤ B) (i : Nat) (hi : i < 9) (x y : Int) (hx9 : Xf i = x) (hy9 : Yf i = y) (X : World) (hL : LDP W0 X bS bM (dP (fP Xf Yf i))) (q : Nat) (hq : X.heap.size = q) : Calls Tryz.prog 14 #[.pointer (some ⟨bS, 0, none⟩), .slice (some ⟨q, 0, none⟩) 5 5] (X.alloc (.cells #[.string ⟨#[80, 65, 68, 68]⟩, .string ⟨#[107]⟩, .string (numT x), .string (numT y), .string (nP i)] 9)) fun e w' => e = .returned (.agg #[.int .i64 3, .int .i64 1, .string ⟨#[]⟩, .slice none 0 0]) ∧ LDP W0 w' bS bM (dP (fP Xf Yf (i + 1))) ∧ Kp X.heap.size (fun i => i ≠ bS ∧ i ≠ bM) X w' := by
  subst hq hx9 hy9
  exact lit0 X hL [⟨#[80, 65, 68, 68]⟩, ⟨#[107]⟩, numT (Xf i), numT (Yf i), nP i] (by simp) (fun vA w h hA => q_padd W0 bS bM Xf Yf B hB hX hY i hi vA w h hA) rfl rfl rfl
theorem l_over (W0 : World) (bS bM : Nat) (F : List (ByteArray × Int × Int)) (B : Int) (hB0 : 0 ≤ B) (hB : B ≤ 1048576) (hb : PBd F B) (hne : F ≠ []) (C : Int) (hC : C ≤ 1048576) (hc : PBd (mapP (mvP 1048576 (-1048576)) F) C) (n : Nat) (hn : F.length = n) (X : World) (hL : LDP W0 X bS bM (dP F)) (q : Nat) (hq : X.heap.size = q) : Calls Tryz.prog 14 #[.pointer (some ⟨bS, 0, none⟩), .slice (some ⟨q, 0, none⟩) 4 4] (X.alloc (.cells #[.string ⟨#[80, 77, 79, 86, 69]⟩, .string ⟨#[107]⟩, .string ⟨#[49, 48, 52, 56, 53, 55, 54]⟩, .string ⟨#[45, 49, 48, 52, 56, 53, 55, 54]⟩] 9)) fun e w' => e = .returned (.agg #[.int .i64 3, .int .i64 (n : Nat), .string ⟨#[]⟩, .slice none 0 0]) ∧ LDP W0 w' bS bM (dP (mapP (mvP 1048576 (-1048576)) F)) ∧ Kp X.heap.size (fun i => i ≠ bS ∧ i ≠ bM) X w' := by
  subst hq
  exact lit0 X hL [⟨#[80, 77, 79, 86, 69]⟩, ⟨#[107]⟩, ⟨#[49, 48, 52, 56, 53, 55, 54]⟩, ⟨#[45, 49, 48, 52, 56, 53, 55, 54]⟩] (by simp) (fun vA w h hA => d_PMOVE W0 bS bM F ⟨#[49, 48, 52, 56, 53, 55, 54]⟩ ⟨#[45, 49, 48, 52, 56, 53, 55, 54]⟩ (by decide) (by decide) 1048576 (-1048576) (by decide) (by decide) (by kernel_rfl) (by kernel_rfl) B hB0 hB hb hne C hC hc vA w h hA) rfl (by rw [hn]) rfl
theorem l_overf (W0 : World) (bS bM : Nat) (F : List (ByteArray × Int × Int)) (B : Int) (hB0 : 0 ≤ B) (hB : B ≤ 1048576) (hb : PBd F B) (hne : F ≠ []) (M : Nat) (pM : ByteArray × Int × Int) (hM : F[M]? = some pM) (hlo : ∀ (i : Nat) (p : ByteArray × Int × Int), i < M → F[i]? = some p → (okI (mvP 1048576 (-1048576) p.2.1 p.2.2).1 && okI (mvP 1048576 (-1048576) p.2.1 p.2.2).2) = true) (hbad : (okI (mvP 1048576 (-1048576) pM.2.1 pM.2.2).1 && okI (mvP 1048576 (-1048576) pM.2.1 pM.2.2).2) = false) (X : World) (hL : LDP W0 X bS bM (dP F)) (q : Nat) (hq : X.heap.size = q) : Calls Tryz.prog 14 #[.pointer (some ⟨bS, 0, none⟩), .slice (some ⟨q, 0, none⟩) 4 4] (X.alloc (.cells #[.string ⟨#[80, 77, 79, 86, 69]⟩, .string ⟨#[107]⟩, .string ⟨#[49, 48, 52, 56, 53, 55, 54]⟩, .string ⟨#[45, 49, 48, 52, 56, 53, 55, 54]⟩] 9)) fun e w' => e = .returned (.agg #[.int .i64 2, .int .i64 7, .string ⟨#[]⟩, .slice none 0 0]) ∧ LDP W0 w' bS bM (dP F) ∧ Kp X.heap.size (fun i => i ≠ bS ∧ i ≠ bM) X w' := by
  subst hq
  have hb0 : Below X.heap.size X (X.alloc (.cells #[.string ⟨#[80, 77, 79, 86, 69]⟩, .string ⟨#[107]⟩, .string ⟨#[49, 48, 52, 56, 53, 55, 54]⟩, .string ⟨#[45, 49, 48, 52, 56, 53, 55, 54]⟩] 9)) := alloc_old
  refine (d_PMOVEf W0 bS bM F ⟨#[49, 48, 52, 56, 53, 55, 54]⟩ ⟨#[45, 49, 48, 52, 56, 53, 55, 54]⟩ (by decide) (by decide) 1048576 (-1048576) (by decide) (by decide) (by kernel_rfl) (by kernel_rfl) B hB0 hB hb hne M pM hM (fun i p hi hp => ?_) hbad _ _ (hL.old hb0) (SSl.lit X [⟨#[80, 77, 79, 86, 69]⟩, ⟨#[107]⟩, ⟨#[49, 48, 52, 56, 53, 55, 54]⟩, ⟨#[45, 49, 48, 52, 56, 53, 55, 54]⟩] (by simp))).mono ?_
  · have := hlo i p hi hp
    simpa using this
  · rintro e w' ⟨h1, h2, h3⟩
    exact ⟨h1, h2, (Kp.of hb0).trans ((Kp.of h3).mono (Below.size hb0) (fun _ h => h))⟩
end Go.Proofs.YticlacjpgjkhcaaGreatDoor

/- What the walks of the points' laws share. -/
namespace Go.Proofs.YticlacjpgjkhcaaGreatDoor
open Go.ChangeShapes Go.WideShapes Go.ChangeAt Go.RowKit Go.Fl

/-- A slice of whole numbers. -/
def ISp (w : World) (v : Value) (zs : List Int) : Prop := ∃ A cap, v = .slice A zs.length cap ∧ zs.length ≤ cap ∧ cap ≤ maxLen ∧
  (zs ≠ [] → ∃ blk off, A = some ⟨blk, off, none⟩ ∧ blk < w.heap.size ∧ ∀ (i : Nat) z, zs[i]? = some z → w.cell? ⟨blk, off + i, none⟩ = some (.int .i64 z)) ∧ ∀ z ∈ zs, I64 z
theorem tmodB (a : Int) : -1000 ≤ a.tmod 1001 ∧ a.tmod 1001 ≤ 1000 := by
  have := tmod_bd a 1001 (by decide)
  omega
/-- The parts of a law's points. -/
def prt (zs : List Int) (j : Nat) : Int := (zs[j]?.getD 0).tmod 1001
theorem prt_bd (zs : List Int) (j : Nat) : -1000 ≤ prt zs j ∧ prt zs j ≤ 1000 := tmodB _
theorem convP (i : Nat) (hi : i < 9) (X : World) (b : Nat) (h : X.heap[b]? = some (.cells #[.int .u8 (97 + (i : Int))] 5)) : (convert 31 9 (.slice (some ⟨b, 0, none⟩) 1 1)).run Tryz.prog X = .ok (.string (nP i)) X := by
  refine run_convert_bytes_back (P := Tryz.prog) X 31 9 5 ⟨b, 0, none⟩ 1 [UInt8.ofNat (97 + i)] Tryz.underlying31 Tryz.underlying5 Tryz.underlying9 (fun j hj => ?_)
  have hj0 : j = 0 := by simpa using hj
  subst hj0
  show X.cell? ⟨b, 0, none⟩ = _
  rw [cell_of_row _ b _ _ 5 (0, 0) h]
  match i, hi with
  | 0, _ => rfl
  | 1, _ => rfl
  | 2, _ => rfl
  | 3, _ => rfl
  | 4, _ => rfl
  | 5, _ => rfl
  | 6, _ => rfl
  | 7, _ => rfl
  | 8, _ => rfl
theorem w64d (x a : Int) (hx : -3000 ≤ x ∧ x ≤ 3000) (ha : -3000 ≤ a ∧ a ≤ 3000) : wrap64 (x - a) = x - a := by
  unfold wrap64
  omega
theorem w64q (e : Int) (h : -6000 ≤ e ∧ e ≤ 6000) : wrap64 (e * e) = e * e ∧ 0 ≤ e * e ∧ e * e ≤ 36000000 := by
  have h2 : e * e ≤ 36000000 ∧ 0 ≤ e * e := by
    have h3 : e.natAbs * e.natAbs ≤ 6000 * 6000 := Nat.mul_le_mul (by omega) (by omega)
    have h4 := Int.ofNat_le.2 h3
    have h5 : 0 ≤ ((e.natAbs * e.natAbs : Nat) : Int) := Int.natCast_nonneg _
    rw [Int.natAbs_mul_self] at h4 h5
    omega
  refine ⟨?_, h2.2, h2.1⟩
  unfold wrap64
  omega
theorem w64n (m : Int) (hm : -1000 ≤ m ∧ m ≤ 1000) : wrap64 (-m) = -m := by
  unfold wrap64
  omega
theorem w64a (a m : Int) (ha : -1000 ≤ a ∧ a ≤ 1000) (hm : -1000 ≤ m ∧ m ≤ 1000) : wrap64 (a + m) = a + m := by
  unfold wrap64
  omega
theorem w64p (a b : Int) (ha : 0 ≤ a ∧ a ≤ 36000000) (hb : 0 ≤ b ∧ b ≤ 36000000) : wrap64 (a + b) = a + b := by
  unfold wrap64
  omega
theorem PBd.fit {F : List (ByteArray × Int × Int)} {B : Int} (h : PBd F B) (f : Int → Int → Int × Int) (hf : ∀ p ∈ F, (okI (f p.2.1 p.2.2).1 && okI (f p.2.1 p.2.2).2) = true) : PBd (mapP f F) 1048576 := by
  refine ⟨by rw [map_len]; exact h.few, fun p hp => ?_, fun i p q hp hq => ?_, fun p hp => ?_⟩
  · obtain ⟨r, hr, rfl⟩ := List.mem_map.1 hp
    exact h.name r hr
  · unfold mapP at hp hq
    rw [List.getElem?_map] at hp hq
    cases h1 : F[i]? with
    | none => rw [h1] at hp; cases hp
    | some r =>
      cases h2 : F[i + 1]? with
      | none => rw [h2] at hq; cases hq
      | some s =>
        rw [h1] at hp
        rw [h2] at hq
        cases hp
        cases hq
        exact h.rise i r s h1 h2
  · obtain ⟨r, hr, rfl⟩ := List.mem_map.1 hp
    have := hf r hr
    simp [okI] at this
    exact this
end Go.Proofs.YticlacjpgjkhcaaGreatDoor
