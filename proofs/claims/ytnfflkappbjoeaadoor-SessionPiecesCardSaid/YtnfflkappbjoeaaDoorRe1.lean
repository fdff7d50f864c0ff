/- Contracts of resp.number, one for each way. -/
import Derived.Test.YtnfflkappbjoeaaDoorRows
import Derived.WalkKit
import Derived.ProofKit
import Derived.OpenShut
import Derived.WalkLawsBesides
import Derived.Outline
import Derived.Lib.Hide
import Derived.Deep.RegionWith
import Derived.BigQuiet
import Derived.Deep.QuietTactic
import Derived.ScopeJumps
import Derived.WalkMore
import Derived.Test.YtnfflkappbjoeaaDoorReP
namespace Go.Proofs.YtnfflkappbjoeaaDoor
open Go.ChangeShapes Go.WideShapes Go.ChangeAt Go.RowKit Go.Resp

/-- A row of bytes: its cells. -/
def Bytes (w : World) (blk off : Nat) (l : List UInt8) : Prop := ∀ i c, l[i]? = some c → w.cell? ⟨blk, off + i, none⟩ = some (.int .u8 (c.toNat : Int))
/-- number's three results. -/
def num3 (r : Int × Nat × Nat) : Value := .tuple #[.int .i64 r.1, .int .i64 (r.2.1 : Int), .int .i64 (r.2.2 : Int)]
theorem drop_at {l : List UInt8} {k : Nat} {c : UInt8} (h : l[k]? = some c) : l.drop k = c :: l.drop (k + 1) := by
  obtain ⟨hk, rfl⟩ := List.getElem?_eq_some_iff.1 h
  exact List.drop_eq_getElem_cons hk
theorem number_none (A : Option Addr) (n cap : Nat) (ai m least most : Int) (ha : ai = (n : Int)) (w : World) :
    Calls Tryd.prog 25 #[.slice A n cap, .int .i64 ai, .int .u8 m, .int .i64 least, .int .i64 most] w fun e w' => e = .returned (num3 (0, n, 1)) ∧ w = w' := by
  have h1 : (ai == (n : Int)) = true := by simp [ha]
  have HA := Lib.hid ha
  clear ha
  go_enter Tryd.func25, Tryd.ntmps25
  go_wp2
  go_ret3
  exact ⟨by simp [num3, HA.out], rfl⟩
theorem number_mark (blk off : Nat) (l : List UInt8) (cap at_ : Nat) (_hmaxl : l.length ≤ maxLen) (ai m least most : Int) (ha : ai = (at_ : Int)) (hlt : at_ < l.length) (c : UInt8) (hc : l[at_]? = some c) (hm : ¬ (c.toNat : Int) = m)
    (w : World) (hB : Bytes w blk off l) :
    Calls Tryd.prog 25 #[.slice (some ⟨blk, off, none⟩) l.length cap, .int .i64 ai, .int .u8 m, .int .i64 least, .int .i64 most] w fun e w' => e = .returned (num3 (0, at_, 2)) ∧ w = w' := by
  unfold maxLen at _hmaxl
  subst ha
  have h1 : (((at_ : Nat) : Int) == (l.length : Int)) = false := by rw [beq_eq_false_iff_ne]; omega
  have h1' : ((at_ : Nat) == l.length) = false := by rw [beq_eq_false_iff_ne]; omega
  have hcell := hB _ _ hc
  obtain ⟨ci, hci⟩ : ∃ ci : Int, ci = (c.toNat : Int) := ⟨_, rfl⟩
  rw [← hci] at hcell hm
  have hne : (ci != m) = true := by simp [hm]
  go_enter Tryd.func25, Tryd.ntmps25
  go_wp2
  go_ret3
  exact ⟨by simp [num3], rfl⟩
set_option maxRecDepth 100000 in
set_option maxHeartbeats 1000000 in
theorem number_some (blk off : Nat) (l : List UInt8) (cap at_ : Nat) (hmaxl : l.length ≤ maxLen) (ai m least most : Int) (hmost : 0 ≤ most) (hmost' : most ≤ 1000000) (ha : ai = (at_ : Int)) (hlt : at_ < l.length) (c : UInt8) (hc : l[at_]? = some c) (hm : (c.toNat : Int) = m)
    (w : World) (hB : Bytes w blk off l) :
    Calls Tryd.prog 25 #[.slice (some ⟨blk, off, none⟩) l.length cap, .int .i64 ai, .int .u8 m, .int .i64 least, .int .i64 most] w fun e w' => e = .returned (num3 (numS least most (l.drop (at_ + 1)) (at_ + 1) 0 0)) ∧ w = w' := by
  unfold maxLen at hmaxl
  subst ha
  have h1 : (((at_ : Nat) : Int) == (l.length : Int)) = false := by rw [beq_eq_false_iff_ne]; omega
  have h1' : ((at_ : Nat) == l.length) = false := by rw [beq_eq_false_iff_ne]; omega
  have hcell := hB _ _ hc
  rw [hm] at hcell
  obtain ⟨R, hR⟩ : ∃ R, numS least most (l.drop (at_ + 1)) (at_ + 1) 0 0 = R := ⟨_, rfl⟩
  have HR := Lib.hid hR
  have HB := Lib.hid hB
  rw [hR]
  clear hR hB hm hc
  go_enter Tryd.func25, Tryd.ntmps25
  go_wp2
  go_loop [1, 13, 14] (fun a n d => ∃ (k dd : Nat) (v : Int), k ≤ l.length ∧ dd ≤ k ∧ 0 ≤ v ∧ v ≤ most ∧ Hid (numS least most (l.drop k) k v dd = R) ∧ a = .int .i64 k ∧ n = .int .i64 v ∧ d = .int .i64 dd) (fun a _ _ => l.length - (intOf a).toNat)
  case atStart => exact ⟨at_ + 1, 0, 0, by omega, by omega, by omega, hmost, HR, by go_num, rfl, rfl⟩
  case round =>
    obtain ⟨k, dd, v, hk, hdk, hv0, hv1, HS, rfl, rfl, rfl⟩ := hrel
    clear hcell
    by_cases hkl : k < l.length
    · obtain ⟨c, hc⟩ : ∃ c, l[k]? = some c := ⟨_, List.getElem?_eq_getElem hkl⟩
      have hcell := HB.out k c hc
      have hb : (c.toNat : Int) < 256 := by have := c.toNat_lt; omega
      have HS' := HS.out
      rw [drop_at hc] at HS'
      unfold numS at HS'
      obtain ⟨ci, hci⟩ : ∃ ci : Int, (c.toNat : Int) = ci := ⟨_, rfl⟩
      rw [hci] at HS' hcell hb
      have hb0 : 0 ≤ ci := by omega
      have HC := Lib.hid hc
      clear hc hci
      by_cases hdig : 48 ≤ ci ∧ ci ≤ 57
      · rw [if_pos hdig] at HS'
        obtain ⟨hd1, hd2⟩ := hdig
        by_cases a1 : most < v * 10 + (ci - 48)
        · rw [if_pos (.inl a1)] at HS'
          have E := Lib.hid (show num3 (0, k, 2) = num3 R by rw [← HS'])
          clear HS'
          go_wp2
          go_ret3
          exact ⟨by rw [← E.out]; simp [num3], rfl⟩
        by_cases a2 : 0 < dd
        · by_cases a3 : v * 10 + (ci - 48) < 10
          · rw [if_pos (.inr (.inl ⟨a2, a3⟩))] at HS'
            have E := Lib.hid (show num3 (0, k, 2) = num3 R by rw [← HS'])
            clear HS'
            go_wp2
            go_ret3
            exact ⟨by rw [← E.out]; simp [num3], rfl⟩
          · rw [if_neg (by omega)] at HS'
            have a4 : ¬ v * 10 + (ci - 48) < 1 := by omega
            have HN := Lib.hid HS'
            clear HS'
            go_wp2
            go_round
            case rel => exact ⟨k + 1, dd + 1, v * 10 + (ci - 48), by omega, by omega, by omega, by omega, HN, by go_num, rfl, by go_num⟩
            case measure => simp [intOf]; omega
        · by_cases a4 : v * 10 + (ci - 48) < 1
          · by_cases a5 : 0 < least
            · rw [if_pos (.inr (.inr ⟨a4, a5⟩))] at HS'
              have E := Lib.hid (show num3 (0, k, 2) = num3 R by rw [← HS'])
              clear HS'
              go_wp2
              go_ret3
              exact ⟨by rw [← E.out]; simp [num3], rfl⟩
            · rw [if_neg (by omega)] at HS'
              have HN := Lib.hid HS'
              clear HS'
              go_wp2
              go_round
              case rel => exact ⟨k + 1, dd + 1, v * 10 + (ci - 48), by omega, by omega, by omega, by omega, HN, by go_num, rfl, by go_num⟩
              case measure => simp [intOf]; omega
          · rw [if_neg (by omega)] at HS'
            have HN := Lib.hid HS'
            clear HS'
            go_wp2
            go_round
            case rel => exact ⟨k + 1, dd + 1, v * 10 + (ci - 48), by omega, by omega, by omega, by omega, HN, by go_num, rfl, by go_num⟩
            case measure => simp [intOf]; omega
      · rw [if_neg hdig] at HS'
        by_cases h13 : ci = 13
        · subst h13
          clear hdig
          by_cases a2 : 0 < dd
          · rw [if_pos ⟨rfl, a2⟩] at HS'
            by_cases hk1 : k + 1 < l.length
            · obtain ⟨e, he⟩ : ∃ e, l[k + 1]? = some e := ⟨_, List.getElem?_eq_getElem hk1⟩
              have hcell2 := HB.out (k + 1) e he
              rw [drop_at he] at HS'
              have z1 : ((k + 1 : Nat) == l.length) = false := by rw [beq_eq_false_iff_ne]; omega
              have z2 : (((k : Nat) : Int) + 1 == (l.length : Int)) = false := by rw [beq_eq_false_iff_ne]; omega
              obtain ⟨ei, hei⟩ : ∃ ei : Int, (e.toNat : Int) = ei := ⟨_, rfl⟩
              simp only [hei] at HS' hcell2
              have HE := Lib.hid he
              clear he hei
              by_cases h10 : ei = 10
              · rw [if_pos h10] at HS'
                subst h10
                have E := Lib.hid (show num3 (v, k + 2, 0) = num3 R by rw [← HS'])
                clear HS'
                go_wp2
                go_ret3
                exact ⟨by rw [← E.out]; simp [num3], rfl⟩
              · rw [if_neg h10] at HS'
                have z3 : (ei != 10) = true := by simp [h10]
                have E := Lib.hid (show num3 (0, k, 2) = num3 R by rw [← HS'])
                clear HS'
                go_wp2
                go_ret3
                exact ⟨by rw [← E.out]; simp [num3], rfl⟩
            · have z1 : ((k + 1 : Nat) == l.length) = true := by rw [beq_iff_eq]; omega
              have z2 : (((k : Nat) : Int) + 1 == (l.length : Int)) = true := by rw [beq_iff_eq]; omega
              rw [List.drop_of_length_le (by omega)] at HS'
              have E := Lib.hid (show num3 (0, k, 1) = num3 R by rw [← HS'])
              clear HS'
              go_wp2
              go_ret3
              exact ⟨by rw [← E.out]; simp [num3], rfl⟩
          · rw [if_neg (fun g => a2 g.2)] at HS'
            have E := Lib.hid (show num3 (0, k, 2) = num3 R by rw [← HS'])
            clear HS'
            go_wp2
            go_ret3
            exact ⟨by rw [← E.out]; simp [num3], rfl⟩
        · rw [if_neg (fun g => h13 g.1)] at HS'
          have z1 : (ci == 13) = false := by simp [h13]
          by_cases hlo : ci < 48
          · clear hdig
            have E := Lib.hid (show num3 (0, k, 2) = num3 R by rw [← HS'])
            clear HS'
            go_wp2
            go_ret3
            exact ⟨by rw [← E.out]; simp [num3], rfl⟩
          · have hhi : 57 < ci := by omega
            clear hdig
            have E := Lib.hid (show num3 (0, k, 2) = num3 R by rw [← HS'])
            clear HS'
            go_wp2
            go_ret3
            exact ⟨by rw [← E.out]; simp [num3], rfl⟩
    · have hkl' : k = l.length := by omega
      have HS' := HS.out
      rw [List.drop_of_length_le (by omega)] at HS'
      have E := Lib.hid (show num3 (0, k, 1) = num3 R by rw [← HS']; rfl)
      clear HS' hkl'
      go_wp2
      go_ret3
      exact ⟨by rw [← E.out]; simp [num3], rfl⟩
end Go.Proofs.YtnfflkappbjoeaaDoor
