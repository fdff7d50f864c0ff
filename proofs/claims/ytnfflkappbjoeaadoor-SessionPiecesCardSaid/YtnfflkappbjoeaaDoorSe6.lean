/- Contracts of command.Upper, at a text without small letters. -/
import Derived.Test.YtnfflkappbjoeaaDoorSe4
import Derived.Lib.SlBytesConst
namespace Go.Proofs.YtnfflkappbjoeaaDoor
open Go.ChangeShapes Go.WideShapes Go.ChangeAt Go.RowKit Go.Resp

/-- 'string(b)' of a slice of bytes. -/
theorem conv_bs {w : World} {v : Value} {l : List UInt8} (h : BSl w v l) : (convert 24 9 v).run Tryd.prog w = .ok (.string ⟨l.toArray⟩) w := by
  obtain ⟨A, cap, rfl, h1, h2, h3⟩ := h
  by_cases hl : l = []
  · subst hl
    have := run_convert_bytes_string (P := Tryd.prog) w 24 9 5 A 0 cap Tryd.underlying24 Tryd.underlying5 Tryd.underlying9
    rw [show ([] : List UInt8).length = 0 from rfl, this]
    cases A <;> rfl
  · obtain ⟨blk, off, rfl, h4, h5⟩ := h3 hl
    refine run_convert_bytes_back (P := Tryd.prog) w 24 9 5 ⟨blk, off, none⟩ cap l Tryd.underlying24 Tryd.underlying5 Tryd.underlying9 (fun j hj => ?_)
    have := h5 j l[j] (List.getElem?_eq_getElem hj)
    rw [← this]
    unfold Addr.add
    by_cases h0 : j = 0
    · subst h0; simp
    · simp [h0]
theorem Upper23 (s : ByteArray) (hs : s.size ≤ 100) (hno : ∀ c ∈ s.data.toList, (c.toNat : Int) < 97) (w : World) : Calls Tryd.prog 29 #[.string s] w fun e w' => e = .returned (.string s) ∧ Below w.heap.size w w' := by
  have hcv := conv_sb
  have HB := Lib.hid (BSl_bytes w s (by unfold maxLen; omega))
  have hc1 := grownCap_ge w s.size 0 5
  have hc2 := grownCap_le_maxLen w s.size 0 5 (by unfold maxLen; omega)
  unfold maxLen at hc2
  have HN := Lib.hid hno
  clear hno
  go_enter Tryd.func29, Tryd.ntmps29
  go_wp2_with fail
  generalize grownCap w s.size 0 5 = C at HB hc1 hc2 ⊢
  go_loop [10] (fun i => ∃ k : Nat, k ≤ s.size ∧ i = .int .i64 k) (fun i => s.size - (intOf i).toNat)
  case atStart => exact ⟨0, Nat.zero_le _, rfl⟩
  case round =>
    obtain ⟨k, hk, rfl⟩ := hrel
    by_cases hlt : k < s.size
    · obtain ⟨c, hc⟩ : ∃ c, s.data.toList[k]? = some c := ⟨_, List.getElem?_eq_getElem (by simpa using hlt)⟩
      have hcell : (Lib.bytesWorld w 5 s).cell? ⟨w.heap.size, k, none⟩ = some (.int .u8 (c.toNat : Int)) := by
        rw [Lib.bytesWorld_cell w 5 s k hlt, getD_of hc]
      have hlow := HN.out c (List.mem_of_getElem? hc)
      clear hc
      go_wp2
      go_round
      case rel => exact ⟨k + 1, by omega, by go_num⟩
      case measure => simp [intOf]; omega
    · have hkl : k = s.size := by omega
      subst hkl
      have hcb := conv_bs HB.out
      go_wp2
      go_ret
      exact ⟨by simp, Lib.bytesWorld_below w 5 s⟩
end Go.Proofs.YtnfflkappbjoeaaDoor
