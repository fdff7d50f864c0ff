/- Texts joined: R1 -/
import Derived.Test.YticlacjpgjkhcaaGreatDoorQh32

/- The law HashesCounts: its plain parts, its counting call. -/
namespace Go.Proofs.YticlacjpgjkhcaaGreatDoor
open Go.ChangeShapes Go.WideShapes Go.ChangeAt Go.RowKit

/-- The names that are counted. -/
def nK (k : Nat) : ByteArray := ⟨#[UInt8.ofNat (97 + k)]⟩
/-- The fields behind so many counts. -/
def fC (i : Nat) (s : Nat → Int) : List (ByteArray × ByteArray) := ([(nK 0, numT (s 0)), (nK 1, numT (s 1)), (nK 2, numT (s 2))] : List (ByteArray × ByteArray)).take i
def upd (s : Nat → Int) (k : Nat) (v : Int) : Nat → Int := fun j => if j = k then v else s j
theorem fC_more (i : Nat) (s : Nat → Int) (h : 3 ≤ i) : fC i s = [(nK 0, numT (s 0)), (nK 1, numT (s 1)), (nK 2, numT (s 2))] := List.take_of_length_le (by simpa using h)
theorem n01 : ¬ nK 0 = nK 1 := by decide
theorem n02 : ¬ nK 0 = nK 2 := by decide
theorem n12 : ¬ nK 1 = nK 2 := by decide
theorem fC_new (i : Nat) (s : Nat → Int) (v : Int) (h : i < 3) : findD (nK i) (fC i s) = none ∧ putD (nK i) (numT v) (fC i s) = fC (i + 1) (upd s i v) := by
  match i, h with
  | 0, _ => exact ⟨rfl, rfl⟩
  | 1, _ =>
    constructor
    · show (if nK 0 = nK 1 then _ else none) = none
      rw [if_neg n01]
    · show (if nK 0 = nK 1 then _ else (nK 0, numT (s 0)) :: [(nK 1, numT v)]) = _
      rw [if_neg n01]
      rfl
  | 2, _ =>
    constructor
    · show (if nK 0 = nK 2 then _ else if nK 1 = nK 2 then _ else none) = none
      rw [if_neg n02, if_neg n12]
    · show (if nK 0 = nK 2 then _ else (nK 0, numT (s 0)) :: (if nK 1 = nK 2 then _ else (nK 1, numT (s 1)) :: [(nK 2, numT v)])) = _
      rw [if_neg n02, if_neg n12]
      rfl
theorem fC_old (i k : Nat) (s : Nat → Int) (v : Int) (h : 3 ≤ i) (hk : k < 3) : findD (nK k) (fC i s) = some (numT (s k)) ∧ putD (nK k) (numT v) (fC i s) = fC (i + 1) (upd s k v) := by
  rw [fC_more i s h, fC_more (i + 1) _ (by omega)]
  match k, hk with
  | 0, _ => exact ⟨if_pos rfl, if_pos rfl⟩
  | 1, _ =>
    constructor
    · show (if nK 0 = nK 1 then _ else if nK 1 = nK 1 then _ else _) = _
      rw [if_neg n01, if_pos rfl]
    · show (if nK 0 = nK 1 then _ else (nK 0, numT (s 0)) :: (if nK 1 = nK 1 then (nK 1, numT v) :: _ else _)) = _
      rw [if_neg n01, if_pos rfl]
      rfl
  | 2, _ =>
    constructor
    · show (if nK 0 = nK 2 then _ else if nK 1 = nK 2 then _ else if nK 2 = nK 2 then _ else _) = _
      rw [if_neg n02, if_neg n12, if_pos rfl]
    · show (if nK 0 = nK 2 then _ else (nK 0, numT (s 0)) :: (if nK 1 = nK 2 then _ else (nK 1, numT (s 1)) :: (if nK 2 = nK 2 then (nK 2, numT v) :: _ else _))) = _
      rw [if_neg n02, if_neg n12, if_pos rfl]
      rfl
theorem fC_bd (i : Nat) (s : Nat → Int) (h : ∀ j, I64 (s j)) : FBd (fC i s) 100 := by
  have hnd : ([nK 0, nK 1, nK 2] : List ByteArray).Nodup := by decide
  refine ⟨?_, ?_, fun p hp => ?_⟩
  · unfold namesD fC
    rw [List.map_take]
    exact hnd.sublist (List.take_sublist _ _)
  · unfold fC
    rw [List.length_take]
    simp
    omega
  · have hp := List.mem_of_mem_take hp
    simp at hp
    rcases hp with rfl | rfl | rfl
    · exact ⟨(by decide : 1 ≤ 100), Nat.le_trans (numT_size _ (h 0)) (by decide)⟩
    · exact ⟨(by decide : 1 ≤ 100), Nat.le_trans (numT_size _ (h 1)) (by decide)⟩
    · exact ⟨(by decide : 1 ≤ 100), Nat.le_trans (numT_size _ (h 2)) (by decide)⟩
theorem nK_size (k : Nat) : (nK k).size = 1 := rfl
/-- One count. -/
theorem p_count (W0 : World) (bS bM : Nat) (hT : Tab W0) (i : Nat) (s : Nat → Int) (x : Int) (hx : I64 x) (hs : ∀ j, I64 (s j)) (h0 : ∀ j, i ≤ j → s j = 0) (hr : rng (s (i % 3) + x) = true) (Y : World) (vA : Value) (hL : LDF W0 Y bS bM (dF (fC i s))) (hA : SSl Y vA [⟨#[72, 73, 78, 67, 82, 66, 89]⟩, ⟨#[107]⟩, nK (i % 3), numT x]) : Calls Tryz.prog 23 #[.pointer (some ⟨bS, 0, none⟩), vA] Y (DoF W0 bS bM (dF (fC (i + 1) (upd s (i % 3) (s (i % 3) + x)))) 3 (s (i % 3) + x) ⟨#[]⟩ R0 Y) := by
  have hb := fC_bd i s hs
  have few : (srtF (fC i s)).length ≤ 15 := by rw [len_srtF]; exact hb.few
  have hxs := Nat.le_trans (numT_size x hx) (by decide : 21 ≤ 100000)
  have hv := rng_of hr
  have hok : okF ⟨#[107]⟩ (srtF (putD (nK (i % 3)) (numT (s (i % 3) + x)) (srtF (fC i s)))) := by
    rw [srtF_put hb.nd]
    refine okF_of (by decide) (putsD_ne1 _ _ _) (by have := len_putF (nK (i % 3)) (numT (s (i % 3) + x)) (fC i s); have := hb.few; omega) (nd_putD hb.nd) (fun p hp => ?_)
    rcases mem_putF hp with hp | rfl
    · have := hb.sz p hp; exact ⟨by omega, by omega⟩
    · exact ⟨by show (nK (i % 3)).size ≤ 4000; rw [nK_size]; decide, Nat.le_trans (numT_size _ hv) (by decide)⟩
  by_cases hi : i < 3
  · have hk : i % 3 = i := Nat.mod_eq_of_lt hi
    rw [hk] at hr hv hok hA ⊢
    have hs0 : s i = 0 := h0 i (Nat.le_refl _)
    rw [hs0] at hr hv hok ⊢
    obtain ⟨e1, e2⟩ := fC_new i s (0 + x) hi
    have h := d_HINCRBY0 W0 bS bM (dF (fC i s)) ⟨#[107]⟩ hT (srtF (fC i s)) (dF_find _) few (nK i) (numT x) (by rw [nK_size]; decide) x hxs (parse_numT x hx) hx hr (by rw [findD_srtF]; exact e1) hok (dF_len _) vA Y hL hA
    rw [puts1_set hb.nd, e2] at h
    exact h
  · have hi3 : 3 ≤ i := by omega
    obtain ⟨e1, e2⟩ := fC_old i (i % 3) s (s (i % 3) + x) hi3 (Nat.mod_lt _ (by decide))
    have h := d_HINCRBY1 W0 bS bM (dF (fC i s)) ⟨#[107]⟩ hT (srtF (fC i s)) (dF_find _) few (nK (i % 3)) (numT x) (by rw [nK_size]; decide) x hxs (parse_numT x hx) hx (numT (s (i % 3))) (s (i % 3)) (Nat.le_trans (numT_size _ (hs _)) (by decide)) (parse_numT _ (hs _)) (hs _) hr (by rw [findD_srtF]; exact e1) hok (dF_len _) vA Y hL hA
    rw [puts1_set hb.nd, e2] at h
    exact h
/-- A text that begins with x is no number. -/
theorem parse_x (t : ByteArray) : parseI ((⟨#[120]⟩ : ByteArray) ++ t).data.toList = none := by
  have e : ((⟨#[120]⟩ : ByteArray) ++ t).data.toList = 120 :: t.data.toList := by
    rw [ByteArray.data_append, Array.toList_append]
    rfl
  rw [e]
  refine parse_none_of _ fun h => ?_
  have hb : body (120 :: t.data.toList) = 120 :: t.data.toList := rfl
  rw [hb] at h
  simp [dig] at h
end Go.Proofs.YticlacjpgjkhcaaGreatDoor
