/- Texts joined: St12, St27 -/
import Derived.Test.YticlacjpgjkhcaaGreatDoorQh28
import Derived.Test.YticlacjpgjkhcaaGreatDoorQh4

/- command.groups and Fits at the strings' commands. -/
namespace Go.Proofs.YticlacjpgjkhcaaGreatDoor
open Go.ChangeShapes Go.WideShapes Go.ChangeAt Go.RowKit

theorem groups_GET (n : Int) (w : World) : Calls Tryz.prog 154 #[.string ⟨#[71, 69, 84]⟩, .int .i64 n] w fun e w' => e = .returned (.bool true) ∧ Below w.heap.size w w' := by
  go_enter Tryz.func154, Tryz.ntmps154
  go_wp2
  go_ret
  exact ⟨rfl, Below.refl _ _⟩
/-- A command whose arguments fit. -/
theorem Fits_ok (K : Nat) (raw b0 : ByteArray) (b1 b2 : Int) (b3 : Bool) (b4 b5 b6 : Int) (l0 : List UInt8) (hl0 : b0 = ⟨l0.toArray⟩) (hK : CmdT.rowsT[K]? = some (l0, b1, b2, b3, b4, b5, b6))
    (hu : ∀ w, Calls Tryz.prog 96 #[.string raw] w fun e w' => e = .returned (.string b0) ∧ Below w.heap.size w w') (v : Value) (xs : List ByteArray) (hx : xs[0]? = some raw) (hlo : b1 ≤ (xs.length : Int)) (hhi : b2 ≤ 0 ∨ (xs.length : Int) ≤ b2)
    (hg : ∀ w, Calls Tryz.prog 154 #[.string b0, .int .i64 (xs.length : Nat)] w fun e w' => e = .returned (.bool true) ∧ Below w.heap.size w w') (w : World) (h : SSl w v xs) :
    Calls Tryz.prog 95 #[v] w fun e w' => e = .returned (.int .i64 0) ∧ Below w.heap.size w w' := by
  have F := Lib.hid (fun w => Find_at K raw b0 b1 b2 b3 b4 b5 b6 l0 hl0 hK hu w)
  have G := Lib.hid hg
  obtain ⟨A, cap, rfl, p1, p2, p3⟩ := h
  have hlt : 0 < xs.length := (List.getElem?_eq_some_iff.1 hx).1
  obtain ⟨blk, off, rfl, hb, hc⟩ := p3 (by intro e; rw [e] at hlt; simp at hlt)
  have d0 := hc 0 raw hx
  rw [Nat.add_zero] at d0
  unfold maxLen at p2
  have i0 : (0 : Int) < (xs.length : Int) := by omega
  have i1 : ((xs.length : Int) == 0) = false := by rw [beq_eq_false_iff_ne]; omega
  have i2 : ¬ (xs.length : Int) < b1 := by omega
  clear hc p3 hx hl0 hK hu hg
  by_cases h2 : 0 < b2
  · have i3 : ¬ b2 < (xs.length : Int) := by
      rcases hhi with h | h
      · exact absurd h2 (Int.not_lt.2 h)
      · exact Int.not_lt.2 h
    clear hhi
    go_enter Tryz.func95, Tryz.ntmps95
    go_wp2_with (first | (go_at_call 153; (with_reducible refine (F.out _).mono ?_); rintro e w1 ⟨rfl, h1⟩; have B1 := Lib.hid h1; clear h1) | (go_at_call 154; (with_reducible refine (G.out _).mono ?_); rintro e w2 ⟨rfl, h3⟩; have B2 := Lib.hid (belA B1.out h3); clear h3))
    go_ret
    exact ⟨by simp, B2.out⟩
  · clear hhi
    go_enter Tryz.func95, Tryz.ntmps95
    go_wp2_with (first | (go_at_call 153; (with_reducible refine (F.out _).mono ?_); rintro e w1 ⟨rfl, h1⟩; have B1 := Lib.hid h1; clear h1) | (go_at_call 154; (with_reducible refine (G.out _).mono ?_); rintro e w2 ⟨rfl, h3⟩; have B2 := Lib.hid (belA B1.out h3); clear h3))
    go_ret
    exact ⟨by simp, B2.out⟩
end Go.Proofs.YticlacjpgjkhcaaGreatDoor

/- command.Upper at any text. -/
namespace Go.Proofs.YticlacjpgjkhcaaGreatDoor
open Go.ChangeShapes Go.WideShapes Go.ChangeAt Go.RowKit

/-- k bytes are turned. -/
def mixF (s : ByteArray) (g : Nat → UInt8) (k : Nat) : Nat → UInt8 := fun j => if j < k then g j else byteAt s j
theorem mixF_store {w : World} {B : Nat} {s : ByteArray} {g : Nat → UInt8} {k : Nat} (h : OB w B s.size (mixF s g k)) (hk : k < s.size) (c : Value) (hc : c = .int .u8 ((g k).toNat : Int)) : OB (w.setCell ⟨B, k, none⟩ c) B s.size (mixF s g (k + 1)) := by
  subst hc
  refine (h.store k hk (g k)).congr fun j _ => ?_
  unfold mixF
  by_cases e : j = k
  · subst e; rw [if_pos rfl, if_pos (by omega)]
  · rw [if_neg e]
    by_cases e2 : j < k
    · rw [if_pos e2, if_pos (by omega)]
    · rw [if_neg e2, if_neg (by omega)]
theorem mixF_same {w : World} {B : Nat} {s : ByteArray} {g : Nat → UInt8} {k : Nat} (h : OB w B s.size (mixF s g k)) (hg : g k = byteAt s k) : OB w B s.size (mixF s g (k + 1)) := by
  refine h.congr fun j _ => ?_
  unfold mixF
  by_cases e : j = k
  · subst e; rw [if_neg (by omega), if_pos (by omega), hg]
  · by_cases e2 : j < k
    · rw [if_pos e2, if_pos (by omega)]
    · rw [if_neg e2, if_neg (by omega)]
theorem mixF_all {w : World} {B : Nat} {s : ByteArray} {g : Nat → UInt8} (h : OB w B s.size (mixF s g s.size)) : OB w B s.size g := h.congr fun j hj => by unfold mixF; rw [if_pos hj]
def upB (c : UInt8) : UInt8 := if 97 ≤ c.toNat ∧ c.toNat ≤ 122 then UInt8.ofNat (c.toNat - 32) else c
def upAt (s : ByteArray) (j : Nat) : UInt8 := upB (byteAt s j)
/-- A text with great letters. -/
def upT (s : ByteArray) : ByteArray := ⟨((List.range s.size).map (upAt s)).toArray⟩
set_option maxHeartbeats 2000000 in
theorem UpperG (s : ByteArray) (hs : s.size ≤ 100) (w : World) : Calls Tryz.prog 96 #[.string s] w fun e w' => e = .returned (.string (upT s)) ∧ Below w.heap.size w w' := by
  have hcv := conv_sb
  have H0 := Lib.hid (OB.new w s)
  have HB := Lib.hid (Lib.bytesWorld_below w 5 s)
  have hc1 := grownCap_ge w s.size 0 5
  have hc2 := grownCap_le_maxLen w s.size 0 5 (by unfold maxLen; omega)
  unfold maxLen at hc2
  go_enter Tryz.func96, Tryz.ntmps96
  go_wp2_with fail
  generalize grownCap w s.size 0 5 = C at hc1 hc2 ⊢
  generalize Lib.bytesWorld w 5 s = W1 at H0 HB ⊢
  go_loopw [10] (fun i wr => ∃ k : Nat, k ≤ s.size ∧ i = .int .i64 k ∧ Hid (OB wr w.heap.size s.size (mixF s (upAt s) k) ∧ Below w.heap.size w wr)) (fun i _ => s.size - (intOf i).toNat)
  case atStart => exact ⟨0, Nat.zero_le _, rfl, Lib.hid ⟨H0.out.congr fun j _ => by unfold mixF; rw [if_neg (by omega)], HB.out⟩⟩
  case round =>
    obtain ⟨k, hk, rfl, HR⟩ := hrel
    by_cases hlt : k < s.size
    · obtain ⟨d0, d1⟩ := HR.out.1.2 k hlt
      have e0 : mixF s (upAt s) k k = byteAt s k := by unfold mixF; rw [if_neg (by omega)]
      rw [e0] at d0
      clear e0
      have i0 : (k : Int) < (s.size : Int) := by omega
      have hb := (byteAt s k).toNat_lt
      by_cases h1 : 97 ≤ (byteAt s k).toNat
      · by_cases h2 : (byteAt s k).toNat ≤ 122
        · have hu : ((upAt s k).toNat : Int) = ((byteAt s k).toNat : Int) - 32 := by
            unfold upAt upB
            rw [if_pos ⟨h1, h2⟩, UInt8.toNat_ofNat']; omega
          have HU := Lib.hid hu
          have i1 : (97 : Int) ≤ ((byteAt s k).toNat : Int) := by omega
          have i2 : ((byteAt s k).toNat : Int) ≤ 122 := by omega
          have q1 : IntKind.u8.wrap (((byteAt s k).toNat : Int) - 32) = ((byteAt s k).toNat : Int) - 32 := IntWalk.u8_in _ (by omega)
          clear hu
          generalize ((byteAt s k).toNat : Int) = c at d0 i1 i2 q1 HU h1 h2
          go_wp2
          exact ⟨⟨k + 1, by omega, by go_num, Lib.hid ⟨mixF_store HR.out.1 hlt _ (by rw [HU.out]), HR.out.2.setCell (Nat.le_refl _) _⟩⟩, by simp [intOf]; omega⟩
        · have hu : upAt s k = byteAt s k := by unfold upAt upB; rw [if_neg (by omega)]
          have HU := Lib.hid hu
          have i1 : (97 : Int) ≤ ((byteAt s k).toNat : Int) := by omega
          have i2 : ¬ ((byteAt s k).toNat : Int) ≤ 122 := by omega
          clear hu
          generalize ((byteAt s k).toNat : Int) = c at d0 i1 i2 h1 h2
          go_wp2
          exact ⟨⟨k + 1, by omega, by go_num, Lib.hid ⟨mixF_same HR.out.1 HU.out, HR.out.2⟩⟩, by simp [intOf]; omega⟩
      · have hu : upAt s k = byteAt s k := by unfold upAt upB; rw [if_neg (by omega)]
        have HU := Lib.hid hu
        have i1 : ¬ (97 : Int) ≤ ((byteAt s k).toNat : Int) := by omega
        clear hu
        generalize ((byteAt s k).toNat : Int) = c at d0 i1 h1
        go_wp2
        exact ⟨⟨k + 1, by omega, by go_num, Lib.hid ⟨mixF_same HR.out.1 HU.out, HR.out.2⟩⟩, by simp [intOf]; omega⟩
    · have hkl : k = s.size := by omega
      subst hkl
      have hcb := (mixF_all HR.out.1).back C
      have i0 : ¬ (s.size : Int) < (s.size : Int) := by omega
      go_wp2
      go_ret
      exact ⟨by simp [upT], HR.out.2⟩
end Go.Proofs.YticlacjpgjkhcaaGreatDoor
