/- Texts turned byte by byte (lib.turned, lib.reverse). -/
import Derived.Test.YtjoegdnefdaokaaDoorLb2
import Derived.Lib.ConvBytes
import Derived.Lib.SlBytesConst
import Derived.Lib.AtoiErrMem
namespace Go.Proofs.YtjoegdnefdaokaaDoor
open Go.ChangeShapes Go.WideShapes Go.ChangeAt Go.RowKit

/-- The first n bytes of block B are what f says, and may be written. -/
def OB (w : World) (B n : Nat) (f : Nat → UInt8) : Prop := B < w.heap.size ∧ ∀ j, j < n → w.cell? ⟨B, j, none⟩ = some (.int .u8 ((f j).toNat : Int)) ∧ w.frozen? ⟨B, j, none⟩ = false
theorem OB.store {w : World} {B n : Nat} {f : Nat → UInt8} (h : OB w B n f) (k : Nat) (hk : k < n) (c : UInt8) : OB (w.setCell ⟨B, k, none⟩ (.int .u8 (c.toNat : Int))) B n (fun j => if j = k then c else f j) := by
  refine ⟨by simpa [World.setCell] using h.1, fun j hj => ?_⟩
  obtain ⟨h1, h2⟩ := h.2 j hj
  refine ⟨?_, by rw [World.frozen?_setCell]; exact h2⟩
  show _ = some (Value.int .u8 ((if j = k then c else f j).toNat : Int))
  by_cases e : j = k
  · subst e
    rw [if_pos rfl]
    exact World.cell?_setCell_same _ _ _ (by rw [h1])
  · rw [if_neg e]
    rw [World.cell?_setCell_other _ _ _ _ (fun g => e (congrArg Addr.off g).symm)]
    exact h1
theorem OB.congr {w : World} {B n : Nat} {f g : Nat → UInt8} (h : OB w B n f) (e : ∀ j, j < n → f j = g j) : OB w B n g := ⟨h.1, fun j hj => by rw [← e j hj]; exact h.2 j hj⟩
theorem conv_sb (w : World) (s : ByteArray) : (convert 9 42 (.string s)).run Tryd.prog w = .ok (.slice (some ⟨w.heap.size, 0, none⟩) s.size (grownCap w s.size 0 5)) (Lib.bytesWorld w 5 s) :=
  Lib.run_convert_string_bytes w 9 42 5 s Tryd.underlying9 Tryd.underlying42 Tryd.underlying5
def byteAt (s : ByteArray) (j : Nat) : UInt8 := s.data.toList.getD j 0
theorem OB.new (w : World) (s : ByteArray) : OB (Lib.bytesWorld w 5 s) w.heap.size s.size (byteAt s) := by
  refine ⟨by rw [Lib.bytesWorld_size]; omega, fun j hj => ⟨Lib.bytesWorld_cell w 5 s j hj, ?_⟩⟩
  unfold World.frozen?
  rw [Lib.bytesWorld_at_new]
  have : j < (Lib.bytesCells w 5 s).size := by
    have h1 := grownCap_ge w s.size 0 5
    simp [Lib.bytesCells]
    omega
  simp
  omega
theorem OB.back {w : World} {B n : Nat} {f : Nat → UInt8} (h : OB w B n f) (cap : Nat) : (convert 42 9 (.slice (some ⟨B, 0, none⟩) n cap)).run Tryd.prog w = .ok (.string ⟨((List.range n).map f).toArray⟩) w := by
  have e : ((List.range n).map f).length = n := by simp
  have := run_convert_bytes_back (P := Tryd.prog) w 42 9 5 ⟨B, 0, none⟩ cap ((List.range n).map f) Tryd.underlying42 Tryd.underlying5 Tryd.underlying9 (fun j hj => ?_)
  · rw [e] at this; exact this
  · rw [e] at hj
    have := (h.2 j hj).1
    have ea : (⟨B, 0, none⟩ : Addr).add j = ⟨B, j, none⟩ := by unfold Addr.add; split <;> simp_all
    rw [ea, this]
    simp
/-- k bytes are turned. -/
def mixF (s : ByteArray) (g : Nat → UInt8) (k : Nat) : Nat → UInt8 := fun j => if j < k then g j else byteAt s j
theorem mixF_store {w : World} {B : Nat} {s : ByteArray} {g : Nat → UInt8} {k : Nat} (h : OB w B s.size (mixF s g k)) (hk : k < s.size) (c : Value) (hc : c = .int .u8 ((g k).toNat : Int)) : OB (w.setCell ⟨B, k, none⟩ c) B s.size (mixF s g (k + 1)) := by
  subst hc
  refine (h.store k hk (g k)).congr fun j _ => ?_
  unfold mixF
  by_cases e : j = k
  · subst e; rw [if_pos rfl, if_pos (by omega)]
  · rw [if_neg e]
    by_cases e2 : j < k
    · rw [if_pos e2, if_pos (by omega)]
    · rw [if_neg e2, if_neg (by omega)]
theorem mixF_all {w : World} {B : Nat} {s : ByteArray} {g : Nat → UInt8} (h : OB w B s.size (mixF s g s.size)) : OB w B s.size g := h.congr fun j hj => by unfold mixF; rw [if_pos hj]
def revAt (s : ByteArray) (j : Nat) : UInt8 := byteAt s (s.size - 1 - j)
set_option maxHeartbeats 2000000 in
theorem reverse28 (s : ByteArray) (hs : s.size ≤ 1000000) (w : World) : Calls Tryd.prog 28 #[.string s] w fun e w' => e = .returned (.string ⟨((List.range s.size).map (revAt s)).toArray⟩) ∧ Below w.heap.size w w' := by
  have hcv := conv_sb
  have H0 := Lib.hid (OB.new w s)
  have HB := Lib.hid (Lib.bytesWorld_below w 5 s)
  have hc1 := grownCap_ge w s.size 0 5
  have hc2 := grownCap_le_maxLen w s.size 0 5 (by unfold maxLen; omega)
  unfold maxLen at hc2
  go_enter Tryd.func28, Tryd.ntmps28
  go_wp2_with fail
  generalize grownCap w s.size 0 5 = C at hc1 hc2 ⊢
  generalize Lib.bytesWorld w 5 s = W1 at H0 HB ⊢
  go_loopw [9] (fun i wr => ∃ k : Nat, k ≤ s.size ∧ i = .int .i64 k ∧ Hid (OB wr w.heap.size s.size (mixF s (revAt s) k) ∧ Below w.heap.size w wr)) (fun i _ => s.size - (intOf i).toNat)
  case atStart => exact ⟨0, Nat.zero_le _, rfl, Lib.hid ⟨H0.out.congr fun j _ => by unfold mixF; rw [if_neg (by omega)], HB.out⟩⟩
  case round =>
    obtain ⟨k, hk, rfl, HR⟩ := hrel
    by_cases hlt : k < s.size
    · obtain ⟨d0, d1⟩ := HR.out.1.2 k hlt
      have i0 : (k : Int) < (s.size : Int) := by omega
      have i1 : 0 ≤ (s.size : Int) - 1 - k := by omega
      have i2 : (s.size : Int) - 1 - k < s.size := by omega
      have hix : ∀ w, (Instr.index 9 (.string s) (.int .i64 ((s.size : Int) - 1 - k))).run Tryd.prog w = .ok (.int .u8 ((revAt s k).toNat : Int)) w := fun w => by
        rw [run_index_string w 9 s .i64 _ Tryd.underlying9, dif_pos ⟨i1, i2⟩]
        have e1 : ((s.size : Int) - 1 - k).toNat = s.size - 1 - k := by omega
        have e2 : s.data.toList[s.size - 1 - k]? = some (s[s.size - 1 - k]'(by omega)) := by rw [List.getElem?_eq_getElem (by simp; omega)]; rfl
        simp only [e1]
        unfold revAt byteAt
        rw [List.getD, e2]
        rfl
      go_wp2
      exact ⟨⟨k + 1, by omega, by go_num, Lib.hid ⟨mixF_store HR.out.1 hlt _ rfl, HR.out.2.setCell (Nat.le_refl _) _⟩⟩, by simp [intOf]; omega⟩
    · have hkl : k = s.size := by omega
      subst hkl
      have hcb := (mixF_all HR.out.1).back C
      have i0 : ¬ (s.size : Int) < (s.size : Int) := by omega
      go_wp2
      go_ret
      exact ⟨by simp, HR.out.2⟩
def upB (c : UInt8) : UInt8 := if 97 ≤ c.toNat ∧ c.toNat ≤ 122 then UInt8.ofNat (c.toNat - 32) else c
theorem up26 (c : UInt8) (w : World) : Calls Tryd.prog 26 #[.int .u8 (c.toNat : Int)] w fun e w' => e = .returned (.int .u8 ((upB c).toNat : Int)) ∧ w = w' := by
  have hlt := c.toNat_lt
  have e : ((upB c).toNat : Int) = if 97 ≤ c.toNat ∧ c.toNat ≤ 122 then (c.toNat : Int) - 32 else c.toNat := by
    unfold upB
    split
    · rw [UInt8.toNat_ofNat']; omega
    · rfl
  rw [e]
  clear e
  by_cases h1 : 97 ≤ c.toNat
  · by_cases h2 : c.toNat ≤ 122
    · rw [if_pos ⟨h1, h2⟩]
      have i1 : 97 ≤ (c.toNat : Int) := by omega
      have i2 : (c.toNat : Int) ≤ 122 := by omega
      go_enter Tryd.func26, Tryd.ntmps26
      go_wp2
      go_ret
      exact ⟨by simp, rfl⟩
    · rw [if_neg (by omega)]
      have i1 : 97 ≤ (c.toNat : Int) := by omega
      have i2 : ¬ (c.toNat : Int) ≤ 122 := by omega
      go_enter Tryd.func26, Tryd.ntmps26
      go_wp2
      go_ret
      exact ⟨by simp, rfl⟩
  · rw [if_neg (by omega)]
    have i1 : ¬ 97 ≤ (c.toNat : Int) := by omega
    go_enter Tryd.func26, Tryd.ntmps26
    go_wp2
    go_ret
    exact ⟨by simp, rfl⟩
def upAt (s : ByteArray) (j : Nat) : UInt8 := upB (byteAt s j)
set_option maxHeartbeats 2000000 in
theorem turned_up (s : ByteArray) (hs : s.size ≤ 1000000) (w : World) : Calls Tryd.prog 25 #[.string s, .func (.func 26) #[] #[]] w fun e w' => e = .returned (.string ⟨((List.range s.size).map (upAt s)).toArray⟩) ∧ Below w.heap.size w w' := by
  have hcv := conv_sb
  have H0 := Lib.hid (OB.new w s)
  have HB := Lib.hid (Lib.bytesWorld_below w 5 s)
  have hc1 := grownCap_ge w s.size 0 5
  have hc2 := grownCap_le_maxLen w s.size 0 5 (by unfold maxLen; omega)
  unfold maxLen at hc2
  go_enter Tryd.func25, Tryd.ntmps25
  go_wp2_with fail
  generalize grownCap w s.size 0 5 = C at hc1 hc2 ⊢
  generalize Lib.bytesWorld w 5 s = W1 at H0 HB ⊢
  go_loopw [11] (fun i wr => ∃ k : Nat, k ≤ s.size ∧ i = .int .i64 k ∧ Hid (OB wr w.heap.size s.size (mixF s (upAt s) k) ∧ Below w.heap.size w wr)) (fun i _ => s.size - (intOf i).toNat)
  case atStart => exact ⟨0, Nat.zero_le _, rfl, Lib.hid ⟨H0.out.congr fun j _ => by unfold mixF; rw [if_neg (by omega)], HB.out⟩⟩
  case round =>
    obtain ⟨k, hk, rfl, HR⟩ := hrel
    by_cases hlt : k < s.size
    · obtain ⟨d0, d1⟩ := HR.out.1.2 k hlt
      have e0 : mixF s (upAt s) k k = byteAt s k := by unfold mixF; rw [if_neg (by omega)]
      rw [e0] at d0
      clear e0
      have i0 : (k : Int) < (s.size : Int) := by omega
      have U := Lib.hid (fun w => up26 (byteAt s k) w)
      go_wp2_with (go_at_call 26; (with_reducible refine (U.out _).mono ?_); rintro e w1 ⟨rfl, rfl⟩)
      exact ⟨⟨k + 1, by omega, by go_num, Lib.hid ⟨mixF_store HR.out.1 hlt _ rfl, HR.out.2.setCell (Nat.le_refl _) _⟩⟩, by simp [intOf]; omega⟩
    · have hkl : k = s.size := by omega
      subst hkl
      have hcb := (mixF_all HR.out.1).back C
      have i0 : ¬ (s.size : Int) < (s.size : Int) := by omega
      go_wp2
      go_ret
      exact ⟨by simp, HR.out.2⟩
def lowB (c : UInt8) : UInt8 := if 65 ≤ c.toNat ∧ c.toNat ≤ 90 then UInt8.ofNat (c.toNat + 32) else c
theorem low27 (c : UInt8) (w : World) : Calls Tryd.prog 27 #[.int .u8 (c.toNat : Int)] w fun e w' => e = .returned (.int .u8 ((lowB c).toNat : Int)) ∧ w = w' := by
  have hlt := c.toNat_lt
  have e : ((lowB c).toNat : Int) = if 65 ≤ c.toNat ∧ c.toNat ≤ 90 then (c.toNat : Int) + 32 else c.toNat := by
    unfold lowB
    split
    · rw [UInt8.toNat_ofNat']; omega
    · rfl
  rw [e]
  clear e
  by_cases h1 : 65 ≤ c.toNat
  · by_cases h2 : c.toNat ≤ 90
    · rw [if_pos ⟨h1, h2⟩]
      have i1 : 65 ≤ (c.toNat : Int) := by omega
      have i2 : (c.toNat : Int) ≤ 90 := by omega
      go_enter Tryd.func27, Tryd.ntmps27
      go_wp2
      go_ret
      exact ⟨by simp, rfl⟩
    · rw [if_neg (by omega)]
      have i1 : 65 ≤ (c.toNat : Int) := by omega
      have i2 : ¬ (c.toNat : Int) ≤ 90 := by omega
      go_enter Tryd.func27, Tryd.ntmps27
      go_wp2
      go_ret
      exact ⟨by simp, rfl⟩
  · rw [if_neg (by omega)]
    have i1 : ¬ 65 ≤ (c.toNat : Int) := by omega
    go_enter Tryd.func27, Tryd.ntmps27
    go_wp2
    go_ret
    exact ⟨by simp, rfl⟩
def lowAt (s : ByteArray) (j : Nat) : UInt8 := lowB (byteAt s j)
set_option maxHeartbeats 2000000 in
theorem turned_low (s : ByteArray) (hs : s.size ≤ 1000000) (w : World) : Calls Tryd.prog 25 #[.string s, .func (.func 27) #[] #[]] w fun e w' => e = .returned (.string ⟨((List.range s.size).map (lowAt s)).toArray⟩) ∧ Below w.heap.size w w' := by
  have hcv := conv_sb
  have H0 := Lib.hid (OB.new w s)
  have HB := Lib.hid (Lib.bytesWorld_below w 5 s)
  have hc1 := grownCap_ge w s.size 0 5
  have hc2 := grownCap_le_maxLen w s.size 0 5 (by unfold maxLen; omega)
  unfold maxLen at hc2
  go_enter Tryd.func25, Tryd.ntmps25
  go_wp2_with fail
  generalize grownCap w s.size 0 5 = C at hc1 hc2 ⊢
  generalize Lib.bytesWorld w 5 s = W1 at H0 HB ⊢
  go_loopw [11] (fun i wr => ∃ k : Nat, k ≤ s.size ∧ i = .int .i64 k ∧ Hid (OB wr w.heap.size s.size (mixF s (lowAt s) k) ∧ Below w.heap.size w wr)) (fun i _ => s.size - (intOf i).toNat)
  case atStart => exact ⟨0, Nat.zero_le _, rfl, Lib.hid ⟨H0.out.congr fun j _ => by unfold mixF; rw [if_neg (by omega)], HB.out⟩⟩
  case round =>
    obtain ⟨k, hk, rfl, HR⟩ := hrel
    by_cases hlt : k < s.size
    · obtain ⟨d0, d1⟩ := HR.out.1.2 k hlt
      have e0 : mixF s (lowAt s) k k = byteAt s k := by unfold mixF; rw [if_neg (by omega)]
      rw [e0] at d0
      clear e0
      have i0 : (k : Int) < (s.size : Int) := by omega
      have U := Lib.hid (fun w => low27 (byteAt s k) w)
      go_wp2_with (go_at_call 27; (with_reducible refine (U.out _).mono ?_); rintro e w1 ⟨rfl, rfl⟩)
      exact ⟨⟨k + 1, by omega, by go_num, Lib.hid ⟨mixF_store HR.out.1 hlt _ rfl, HR.out.2.setCell (Nat.le_refl _) _⟩⟩, by simp [intOf]; omega⟩
    · have hkl : k = s.size := by omega
      subst hkl
      have hcb := (mixF_all HR.out.1).back C
      have i0 : ¬ (s.size : Int) < (s.size : Int) := by omega
      go_wp2
      go_ret
      exact ⟨by simp, HR.out.2⟩
end Go.Proofs.YtjoegdnefdaokaaDoor
