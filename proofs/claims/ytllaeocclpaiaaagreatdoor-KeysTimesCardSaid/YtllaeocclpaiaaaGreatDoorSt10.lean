/- command.Upper at a text without small letters. -/
import Derived.Test.YtllaeocclpaiaaaGreatDoorSt9
import Derived.Lib.ConvBytes
import Derived.Lib.SlBytesConst
import Derived.Lib.AtoiErrMem
namespace Go.Proofs.YtllaeocclpaiaaaGreatDoor
open Go.ChangeShapes Go.WideShapes Go.ChangeAt Go.RowKit

/-- The first n bytes of block B are what f says, and may be written. -/
def OB (w : World) (B n : Nat) (f : Nat → UInt8) : Prop := B < w.heap.size ∧ ∀ j, j < n → w.cell? ⟨B, j, none⟩ = some (.int .u8 ((f j).toNat : Int)) ∧ w.frozen? ⟨B, j, none⟩ = false
theorem OB.store {w : World} {B n : Nat} {f : Nat → UInt8} (h : OB w B n f) (k : Nat) (hk : k < n) (c : UInt8) : OB (w.setCell ⟨B, k, none⟩ (.int .u8 (c.toNat : Int))) B n (fun j => if j = k then c else f j) := by
  refine ⟨by simpa [World.setCell] using h.1, fun j hj => ?_⟩
  obtain ⟨h1, h2⟩ := h.2 j hj
  refine ⟨?_, by rw [World.frozen?_setCell]; exact h2⟩
  show _ = some (Value.int .u8 ((if j = k then c else f j).toNat : Int))
  by_cases e : j = k
  · subst e
    rw [if_pos rfl]
    exact World.cell?_setCell_same _ _ _ (by rw [h1])
  · rw [if_neg e]
    rw [World.cell?_setCell_other _ _ _ _ (fun g => e (congrArg Addr.off g).symm)]
    exact h1
theorem OB.congr {w : World} {B n : Nat} {f g : Nat → UInt8} (h : OB w B n f) (e : ∀ j, j < n → f j = g j) : OB w B n g := ⟨h.1, fun j hj => by rw [← e j hj]; exact h.2 j hj⟩
theorem conv_sb (w : World) (s : ByteArray) : (convert 9 116 (.string s)).run Tryz.prog w = .ok (.slice (some ⟨w.heap.size, 0, none⟩) s.size (grownCap w s.size 0 5)) (Lib.bytesWorld w 5 s) :=
  Lib.run_convert_string_bytes w 9 116 5 s Tryz.underlying9 Tryz.underlying116 Tryz.underlying5
def byteAt (s : ByteArray) (j : Nat) : UInt8 := s.data.toList.getD j 0
theorem OB.new (w : World) (s : ByteArray) : OB (Lib.bytesWorld w 5 s) w.heap.size s.size (byteAt s) := by
  refine ⟨by rw [Lib.bytesWorld_size]; omega, fun j hj => ⟨Lib.bytesWorld_cell w 5 s j hj, ?_⟩⟩
  unfold World.frozen?
  rw [Lib.bytesWorld_at_new]
  have : j < (Lib.bytesCells w 5 s).size := by
    have h1 := grownCap_ge w s.size 0 5
    simp [Lib.bytesCells]
    omega
  simp
  omega
theorem OB.back {w : World} {B n : Nat} {f : Nat → UInt8} (h : OB w B n f) (cap : Nat) : (convert 116 9 (.slice (some ⟨B, 0, none⟩) n cap)).run Tryz.prog w = .ok (.string ⟨((List.range n).map f).toArray⟩) w := by
  have e : ((List.range n).map f).length = n := by simp
  have := run_convert_bytes_back (P := Tryz.prog) w 116 9 5 ⟨B, 0, none⟩ cap ((List.range n).map f) Tryz.underlying116 Tryz.underlying5 Tryz.underlying9 (fun j hj => ?_)
  · rw [e] at this; exact this
  · rw [e] at hj
    have := (h.2 j hj).1
    have ea : (⟨B, 0, none⟩ : Addr).add j = ⟨B, j, none⟩ := by unfold Addr.add; split <;> simp_all
    rw [ea, this]
    simp
theorem self_mk (s : ByteArray) : (⟨((List.range s.size).map (byteAt s)).toArray⟩ : ByteArray) = s := by
  apply bytes_inj
  show (List.range s.size).map (byteAt s) = s.data.toList
  apply List.ext_getElem?
  intro j
  by_cases hj : j < s.size
  · rw [List.getElem?_map, List.getElem?_range hj]
    have hl : j < s.data.toList.length := by simpa using hj
    show some (byteAt s j) = _
    unfold byteAt
    rw [List.getD, List.getElem?_eq_getElem hl]
    rfl
  · have hl : s.data.toList.length ≤ j := by simp; omega
    rw [List.getElem?_eq_none (by simp; omega), List.getElem?_eq_none hl]
set_option maxHeartbeats 2000000 in
/-- A text without small letters stays. -/
theorem Upper62 (s : ByteArray) (hs : s.size ≤ 100) (hno : ∀ j, j < s.size → ((byteAt s j).toNat : Int) < 97) (w : World) : Calls Tryz.prog 40 #[.string s] w fun e w' => e = .returned (.string s) ∧ Below w.heap.size w w' := by
  have hcv := conv_sb
  have H0 := Lib.hid (OB.new w s)
  have HB := Lib.hid (Lib.bytesWorld_below w 5 s)
  have hc1 := grownCap_ge w s.size 0 5
  have hc2 := grownCap_le_maxLen w s.size 0 5 (by unfold maxLen; omega)
  unfold maxLen at hc2
  have HN := Lib.hid hno
  clear hno
  go_enter Tryz.func40, Tryz.ntmps40
  go_wp2_with fail
  generalize grownCap w s.size 0 5 = C at hc1 hc2 ⊢
  generalize Lib.bytesWorld w 5 s = W1 at H0 HB ⊢
  go_loop [10] (fun i => ∃ k : Nat, k ≤ s.size ∧ i = .int .i64 k) (fun i => s.size - (intOf i).toNat)
  case atStart => exact ⟨0, Nat.zero_le _, rfl⟩
  case round =>
    obtain ⟨k, hk, rfl⟩ := hrel
    by_cases hlt : k < s.size
    · obtain ⟨d0, d1⟩ := H0.out.2 k hlt
      have hlow := HN.out k hlt
      have i0 : (k : Int) < (s.size : Int) := by omega
      generalize ((byteAt s k).toNat : Int) = c at d0 hlow
      have i1 : ¬ (97 : Int) ≤ c := by omega
      go_wp2
      go_round
      case rel => exact ⟨k + 1, by omega, by go_num⟩
      case measure => simp [intOf]; omega
    · have hkl : k = s.size := by omega
      subst hkl
      have hcb := H0.out.back C
      rw [self_mk] at hcb
      have i0 : ¬ (s.size : Int) < (s.size : Int) := by omega
      go_wp2
      go_ret
      exact ⟨by simp, HB.out⟩
end Go.Proofs.YtllaeocclpaiaaaGreatDoor
