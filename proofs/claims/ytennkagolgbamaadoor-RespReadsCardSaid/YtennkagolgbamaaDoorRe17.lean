/- The contract of the reference's number. -/
import Derived.Test.YtennkagolgbamaaDoorRe16
namespace Go.Proofs.YtennkagolgbamaaDoor
open Go.ChangeShapes Go.WideShapes Go.ChangeAt Go.RowKit Go.Resp

/-- What the reference's number hands back. -/
def ref3 (r : Int × Nat × Nat) : Value := if r.2.2 = 0 then .tuple #[.int .i64 r.1, .int .i64 (r.2.1 : Int), .int .i64 0] else .tuple #[.int .i64 0, .int .i64 0, .int .i64 (if r.2.2 = 1 then 25 else 22)]
theorem drop_head (s : ByteArray) (k : Nat) (hk : k < s.size) : s.data.toList.drop k = s[k] :: s.data.toList.drop (k + 1) := by
  have hl : k < s.data.toList.length := by simpa using hk
  exact List.drop_eq_getElem_cons hl
theorem drop_end (s : ByteArray) (k : Nat) (hk : ¬ k < s.size) : s.data.toList.drop k = [] := List.drop_of_length_le (by simpa using Nat.not_lt.1 hk)
/-- The reference's loop at a round's head. -/
def RN (s : ByteArray) (at_ : Nat) (least most : Int) (R : Int × Nat × Nat) (n i : Value) : Prop := ∃ (dd : Nat) (v : Int), at_ + 1 + dd ≤ s.size ∧ 0 ≤ v ∧ v ≤ most ∧ (dd = 0 → v = 0) ∧ Hid (numS least most (s.data.toList.drop (at_ + 1 + dd)) (at_ + 1 + dd) v dd = R) ∧ n = .int .i64 v ∧ i = .int .i64 ((at_ + 1 + dd : Nat) : Int)
set_option maxRecDepth 100000 in
set_option maxHeartbeats 4000000 in
theorem refnum (s : ByteArray) (hs : s.size ≤ 100000) (at_ : Nat) (ai m least most : Int) (hmost : 0 ≤ most) (hmost' : most ≤ 1000000) (hm : (m = 42 ∧ least = 1) ∨ (m = 36 ∧ least = 0)) (ha : ai = (at_ : Int)) (w : World) :
    Calls Tryd.prog 26 #[.string s, .int .i64 ai, .int .u8 m, .int .i64 most] w fun e w' => e = .returned (ref3 (numL s.data.toList at_ m least most)) ∧ w = w' := by
  subst ha
  obtain ⟨R, hR⟩ : ∃ R, numL s.data.toList at_ m least most = R := ⟨_, rfl⟩
  rw [hR]
  have HR := Lib.hid hR
  clear hR
  by_cases hat : at_ < s.size
  · have hR2 := HR.out
    unfold numL at hR2
    rw [drop_head s at_ hat] at hR2
    simp only at hR2
    have hat' : (at_ : Int) < (s.size : Int) := by omega
    have hge1 : decide (s.size ≤ at_) = false := by simp; omega
    have hge2 : decide ((s.size : Int) ≤ (at_ : Int)) = false := by simp; omega
    obtain ⟨ci, hci⟩ : ∃ ci : Int, ((s[at_]).toNat : Int) = ci := ⟨_, rfl⟩
    rw [hci] at hR2
    by_cases hmk : ci = m
    · rw [if_pos hmk] at hR2
      have HS0 := Lib.hid hR2
      have hmk' : (ci != m) = false := by simp [hmk]
      clear hR2
      rcases hm with ⟨rfl, rfl⟩ | ⟨rfl, rfl⟩
      · go_enter Tryd.func26, Tryd.ntmps26
        go_wp2_with fail
        go_loop [11, 12] (fun n i => RN s at_ 1 most R n i) (fun _ i => s.size - (intOf i).toNat)
        case atStart => exact ⟨0, 0, by omega, by omega, hmost, fun _ => rfl, HS0, rfl, by go_num⟩
        case round =>
          obtain ⟨dd, v, hk, hv0, hv1, hvd, HS, rfl, rfl⟩ := hrel
          clear hci hmk hmk'
          by_cases hkl : at_ + 1 + dd < s.size
          · have HS' := HS.out
            rw [drop_head s _ hkl] at HS'
            obtain ⟨cj, hcj⟩ : ∃ cj : Int, ((s[at_ + 1 + dd]).toNat : Int) = cj := ⟨_, rfl⟩
            have hb1 : 0 ≤ cj := by omega
            have hb2 : cj < 256 := by rw [← hcj]; have := (s[at_ + 1 + dd]).toNat_lt; omega
            unfold numS at HS'
            rw [hcj] at HS'
            have hkl' : (at_ : Int) + 1 + (dd : Int) < (s.size : Int) := by omega
            have z0 : (v = 0) ∨ 1 ≤ v := by omega
            by_cases hd : 0 < dd
            · have hd' : (((at_ + 1 + dd : Nat) : Int) == (at_ : Int) + 1) = false := by rw [beq_eq_false_iff_ne]; omega
              have hd2 : ((at_ : Int) + 1 + (dd : Int) == (at_ : Int) + 1) = false := by rw [beq_eq_false_iff_ne]; omega
              have hd3 : (at_ : Int) + 1 < (at_ : Int) + 1 + (dd : Int) := by omega
              by_cases hdig : 48 ≤ cj ∧ cj ≤ 57
              · have t13 : (cj == 13) = false := by rw [beq_eq_false_iff_ne]; omega
                rw [if_pos hdig] at HS'
                obtain ⟨g1, g2⟩ := hdig
                by_cases hv : v = 0
                · have tv : (v == 0) = true := by simp [hv]
                  rw [if_pos (.inr (.inl ⟨hd, by omega⟩))] at HS'
                  clear hv z0
                  have E := Lib.hid (show .tuple #[.int .i64 0, .int .i64 0, .int .i64 22] = ref3 R by rw [← HS']; rfl)
                  clear HS'
                  go_wp2
                  go_ret3
                  exact ⟨by rw [← E.out]; simp, rfl⟩
                · have tv : (v == 0) = false := by simp [hv]
                  have hv' : 1 ≤ v := by omega
                  clear hv z0
                  by_cases hmo : most < v * 10 + (cj - 48)
                  · rw [if_pos (.inl hmo)] at HS'
                    have E := Lib.hid (show .tuple #[.int .i64 0, .int .i64 0, .int .i64 22] = ref3 R by rw [← HS']; rfl)
                    clear HS'
                    go_wp2
                    go_ret3
                    exact ⟨by rw [← E.out]; simp, rfl⟩
                  · rw [if_neg (by omega)] at HS'
                    have HN := Lib.hid HS'
                    clear HS'
                    go_wp2
                    go_round
                    case rel => exact ⟨dd + 1, _, by omega, by omega, by omega, fun h => by omega, HN, rfl, by go_num⟩
                    case measure => simp [intOf]; omega
              · rw [if_neg hdig] at HS'
                by_cases h13 : cj = 13
                · have t13 : (cj == 13) = true := by simp [h13]
                  rw [if_pos ⟨h13, hd⟩] at HS'
                  clear hdig h13 z0
                  by_cases hk1 : at_ + 1 + dd + 1 < s.size
                  · rw [drop_head s _ hk1] at HS'
                    have hk1' : (at_ : Int) + 1 + (dd : Int) + 1 < (s.size : Int) := by omega
                    obtain ⟨ce, hce⟩ : ∃ ce : Int, ((s[at_ + 1 + dd + 1]).toNat : Int) = ce := ⟨_, rfl⟩
                    simp only [hce] at HS'
                    by_cases h10 : ce = 10
                    · have t10 : (ce != 10) = false := by simp [h10]
                      rw [if_pos h10] at HS'
                      clear h10
                      have E := Lib.hid (show .tuple #[.int .i64 v, .int .i64 ((at_ + 1 + dd + 2 : Nat) : Int), .int .i64 0] = ref3 R by rw [← HS']; rfl)
                      clear HS'
                      go_wp2
                      go_ret3
                      exact ⟨by rw [← E.out]; simp, rfl⟩
                    · have t10 : (ce != 10) = true := by simp [h10]
                      rw [if_neg h10] at HS'
                      clear h10
                      have E := Lib.hid (show .tuple #[.int .i64 0, .int .i64 0, .int .i64 22] = ref3 R by rw [← HS']; rfl)
                      clear HS'
                      go_wp2
                      go_ret3
                      exact ⟨by rw [← E.out]; simp, rfl⟩
                  · rw [drop_end s _ hk1] at HS'
                    have hk1' : ¬ (at_ : Int) + 1 + (dd : Int) + 1 < (s.size : Int) := by omega
                    have E := Lib.hid (show .tuple #[.int .i64 0, .int .i64 0, .int .i64 25] = ref3 R by rw [← HS']; rfl)
                    clear HS'
                    go_wp2
                    go_ret3
                    exact ⟨by rw [← E.out]; simp, rfl⟩
                · have t13 : (cj == 13) = false := by simp [h13]
                  rw [if_neg (fun g => h13 g.1)] at HS'
                  clear h13 z0
                  by_cases hlo : cj < 48
                  · clear hdig
                    have E := Lib.hid (show .tuple #[.int .i64 0, .int .i64 0, .int .i64 22] = ref3 R by rw [← HS']; rfl)
                    clear HS'
                    go_wp2
                    go_ret3
                    exact ⟨by rw [← E.out]; simp, rfl⟩
                  · have hhi : 57 < cj := by omega
                    clear hdig
                    have E := Lib.hid (show .tuple #[.int .i64 0, .int .i64 0, .int .i64 22] = ref3 R by rw [← HS']; rfl)
                    clear HS'
                    go_wp2
                    go_ret3
                    exact ⟨by rw [← E.out]; simp, rfl⟩
            · obtain rfl : dd = 0 := by omega
              obtain rfl : v = 0 := hvd rfl
              simp only [Nat.add_zero] at hcj HS' hkl hk
              simp only [Nat.lt_irrefl, false_and, false_or, and_false, if_false] at HS'
              clear z0 hd hvd
              by_cases hdig : 48 ≤ cj ∧ cj ≤ 57
              · have t13 : (cj == 13) = false := by rw [beq_eq_false_iff_ne]; omega
                rw [if_pos hdig] at HS'
                obtain ⟨g1, g2⟩ := hdig
                by_cases h48 : cj = 48
                · have t48 : (cj == 48) = true := by simp [h48]
                  rw [if_pos (.inr ⟨by omega, by omega⟩)] at HS'
                  clear h48
                  have E := Lib.hid (show .tuple #[.int .i64 0, .int .i64 0, .int .i64 22] = ref3 R by rw [← HS']; rfl)
                  clear HS'
                  go_wp2
                  go_ret3
                  exact ⟨by rw [← E.out]; simp, rfl⟩
                · have t48 : (cj == 48) = false := by simp [h48]
                  have g3 : 49 ≤ cj := by omega
                  clear h48
                  by_cases hmo : most < 0 * 10 + (cj - 48)
                  · rw [if_pos (.inl hmo)] at HS'
                    have E := Lib.hid (show .tuple #[.int .i64 0, .int .i64 0, .int .i64 22] = ref3 R by rw [← HS']; rfl)
                    clear HS'
                    go_wp2
                    go_ret3
                    exact ⟨by rw [← E.out]; simp, rfl⟩
                  · rw [if_neg (by omega)] at HS'
                    have HN := Lib.hid HS'
                    clear HS'
                    go_wp2
                    go_round
                    case rel => exact ⟨0 + 1, 0 * 10 + (cj - 48), by omega, by omega, by omega, fun h => by omega, HN, by go_num, by go_num⟩
                    case measure => simp [intOf]; omega
              · rw [if_neg hdig] at HS'
                have t13 : cj < 48 ∨ 57 < cj := by omega
                rcases t13 with hlo | hhi
                · clear hdig
                  have E := Lib.hid (show .tuple #[.int .i64 0, .int .i64 0, .int .i64 22] = ref3 R by rw [← HS']; rfl)
                  clear HS'
                  by_cases h13 : cj = 13
                  · have t13 : (cj == 13) = true := by simp [h13]
                    clear h13
                    go_wp2
                    go_ret3
                    exact ⟨by rw [← E.out]; simp, rfl⟩
                  · have t13 : (cj == 13) = false := by simp [h13]
                    clear h13
                    go_wp2
                    go_ret3
                    exact ⟨by rw [← E.out]; simp, rfl⟩
                · clear hdig
                  have t13 : (cj == 13) = false := by rw [beq_eq_false_iff_ne]; omega
                  have E := Lib.hid (show .tuple #[.int .i64 0, .int .i64 0, .int .i64 22] = ref3 R by rw [← HS']; rfl)
                  clear HS'
                  go_wp2
                  go_ret3
                  exact ⟨by rw [← E.out]; simp, rfl⟩
          · have HS' := HS.out
            rw [drop_end s _ hkl] at HS'
            have hkl' : ¬ (at_ : Int) + 1 + (dd : Int) < (s.size : Int) := by omega
            have E := Lib.hid (show .tuple #[.int .i64 0, .int .i64 0, .int .i64 25] = ref3 R by rw [← HS']; rfl)
            clear HS'
            go_wp2
            go_ret3
            exact ⟨by rw [← E.out]; simp, rfl⟩
      · go_enter Tryd.func26, Tryd.ntmps26
        go_wp2_with fail
        go_loop [11, 12] (fun n i => RN s at_ 0 most R n i) (fun _ i => s.size - (intOf i).toNat)
        case atStart => exact ⟨0, 0, by omega, by omega, hmost, fun _ => rfl, HS0, rfl, by go_num⟩
        case round =>
          obtain ⟨dd, v, hk, hv0, hv1, hvd, HS, rfl, rfl⟩ := hrel
          clear hci hmk hmk'
          by_cases hkl : at_ + 1 + dd < s.size
          · have HS' := HS.out
            rw [drop_head s _ hkl] at HS'
            obtain ⟨cj, hcj⟩ : ∃ cj : Int, ((s[at_ + 1 + dd]).toNat : Int) = cj := ⟨_, rfl⟩
            have hb1 : 0 ≤ cj := by omega
            have hb2 : cj < 256 := by rw [← hcj]; have := (s[at_ + 1 + dd]).toNat_lt; omega
            unfold numS at HS'
            rw [hcj] at HS'
            have hkl' : (at_ : Int) + 1 + (dd : Int) < (s.size : Int) := by omega
            have z0 : (v = 0) ∨ 1 ≤ v := by omega
            by_cases hd : 0 < dd
            · have hd' : (((at_ + 1 + dd : Nat) : Int) == (at_ : Int) + 1) = false := by rw [beq_eq_false_iff_ne]; omega
              have hd2 : ((at_ : Int) + 1 + (dd : Int) == (at_ : Int) + 1) = false := by rw [beq_eq_false_iff_ne]; omega
              have hd3 : (at_ : Int) + 1 < (at_ : Int) + 1 + (dd : Int) := by omega
              by_cases hdig : 48 ≤ cj ∧ cj ≤ 57
              · have t13 : (cj == 13) = false := by rw [beq_eq_false_iff_ne]; omega
                rw [if_pos hdig] at HS'
                obtain ⟨g1, g2⟩ := hdig
                by_cases hv : v = 0
                · have tv : (v == 0) = true := by simp [hv]
                  rw [if_pos (.inr (.inl ⟨hd, by omega⟩))] at HS'
                  clear hv z0
                  have E := Lib.hid (show .tuple #[.int .i64 0, .int .i64 0, .int .i64 22] = ref3 R by rw [← HS']; rfl)
                  clear HS'
                  go_wp2
                  go_ret3
                  exact ⟨by rw [← E.out]; simp, rfl⟩
                · have tv : (v == 0) = false := by simp [hv]
                  have hv' : 1 ≤ v := by omega
                  clear hv z0
                  by_cases hmo : most < v * 10 + (cj - 48)
                  · rw [if_pos (.inl hmo)] at HS'
                    have E := Lib.hid (show .tuple #[.int .i64 0, .int .i64 0, .int .i64 22] = ref3 R by rw [← HS']; rfl)
                    clear HS'
                    go_wp2
                    go_ret3
                    exact ⟨by rw [← E.out]; simp, rfl⟩
                  · rw [if_neg (by omega)] at HS'
                    have HN := Lib.hid HS'
                    clear HS'
                    go_wp2
                    go_round
                    case rel => exact ⟨dd + 1, _, by omega, by omega, by omega, fun h => by omega, HN, rfl, by go_num⟩
                    case measure => simp [intOf]; omega
              · rw [if_neg hdig] at HS'
                by_cases h13 : cj = 13
                · have t13 : (cj == 13) = true := by simp [h13]
                  rw [if_pos ⟨h13, hd⟩] at HS'
                  clear hdig h13 z0
                  by_cases hk1 : at_ + 1 + dd + 1 < s.size
                  · rw [drop_head s _ hk1] at HS'
                    have hk1' : (at_ : Int) + 1 + (dd : Int) + 1 < (s.size : Int) := by omega
                    obtain ⟨ce, hce⟩ : ∃ ce : Int, ((s[at_ + 1 + dd + 1]).toNat : Int) = ce := ⟨_, rfl⟩
                    simp only [hce] at HS'
                    by_cases h10 : ce = 10
                    · have t10 : (ce != 10) = false := by simp [h10]
                      rw [if_pos h10] at HS'
                      clear h10
                      have E := Lib.hid (show .tuple #[.int .i64 v, .int .i64 ((at_ + 1 + dd + 2 : Nat) : Int), .int .i64 0] = ref3 R by rw [← HS']; rfl)
                      clear HS'
                      go_wp2
                      go_ret3
                      exact ⟨by rw [← E.out]; simp, rfl⟩
                    · have t10 : (ce != 10) = true := by simp [h10]
                      rw [if_neg h10] at HS'
                      clear h10
                      have E := Lib.hid (show .tuple #[.int .i64 0, .int .i64 0, .int .i64 22] = ref3 R by rw [← HS']; rfl)
                      clear HS'
                      go_wp2
                      go_ret3
                      exact ⟨by rw [← E.out]; simp, rfl⟩
                  · rw [drop_end s _ hk1] at HS'
                    have hk1' : ¬ (at_ : Int) + 1 + (dd : Int) + 1 < (s.size : Int) := by omega
                    have E := Lib.hid (show .tuple #[.int .i64 0, .int .i64 0, .int .i64 25] = ref3 R by rw [← HS']; rfl)
                    clear HS'
                    go_wp2
                    go_ret3
                    exact ⟨by rw [← E.out]; simp, rfl⟩
                · have t13 : (cj == 13) = false := by simp [h13]
                  rw [if_neg (fun g => h13 g.1)] at HS'
                  clear h13 z0
                  by_cases hlo : cj < 48
                  · clear hdig
                    have E := Lib.hid (show .tuple #[.int .i64 0, .int .i64 0, .int .i64 22] = ref3 R by rw [← HS']; rfl)
                    clear HS'
                    go_wp2
                    go_ret3
                    exact ⟨by rw [← E.out]; simp, rfl⟩
                  · have hhi : 57 < cj := by omega
                    clear hdig
                    have E := Lib.hid (show .tuple #[.int .i64 0, .int .i64 0, .int .i64 22] = ref3 R by rw [← HS']; rfl)
                    clear HS'
                    go_wp2
                    go_ret3
                    exact ⟨by rw [← E.out]; simp, rfl⟩
            · obtain rfl : dd = 0 := by omega
              obtain rfl : v = 0 := hvd rfl
              simp only [Nat.add_zero] at hcj HS' hkl hk
              simp only [Nat.lt_irrefl, false_and, false_or, and_false, if_false] at HS'
              clear z0 hd hvd
              by_cases hdig : 48 ≤ cj ∧ cj ≤ 57
              · have t13 : (cj == 13) = false := by rw [beq_eq_false_iff_ne]; omega
                rw [if_pos hdig] at HS'
                obtain ⟨g1, g2⟩ := hdig
                by_cases hmo : most < 0 * 10 + (cj - 48)
                · rw [if_pos (.inl hmo)] at HS'
                  have E := Lib.hid (show .tuple #[.int .i64 0, .int .i64 0, .int .i64 22] = ref3 R by rw [← HS']; rfl)
                  clear HS'
                  go_wp2
                  go_ret3
                  exact ⟨by rw [← E.out]; simp, rfl⟩
                · rw [if_neg (by omega)] at HS'
                  have HN := Lib.hid HS'
                  clear HS'
                  go_wp2
                  go_round
                  case rel => exact ⟨0 + 1, 0 * 10 + (cj - 48), by omega, by omega, by omega, fun h => by omega, HN, by go_num, by go_num⟩
                  case measure => simp [intOf]; omega
              · rw [if_neg hdig] at HS'
                have t13 : cj < 48 ∨ 57 < cj := by omega
                rcases t13 with hlo | hhi
                · clear hdig
                  have E := Lib.hid (show .tuple #[.int .i64 0, .int .i64 0, .int .i64 22] = ref3 R by rw [← HS']; rfl)
                  clear HS'
                  by_cases h13 : cj = 13
                  · have t13 : (cj == 13) = true := by simp [h13]
                    clear h13
                    go_wp2
                    go_ret3
                    exact ⟨by rw [← E.out]; simp, rfl⟩
                  · have t13 : (cj == 13) = false := by simp [h13]
                    clear h13
                    go_wp2
                    go_ret3
                    exact ⟨by rw [← E.out]; simp, rfl⟩
                · clear hdig
                  have t13 : (cj == 13) = false := by rw [beq_eq_false_iff_ne]; omega
                  have E := Lib.hid (show .tuple #[.int .i64 0, .int .i64 0, .int .i64 22] = ref3 R by rw [← HS']; rfl)
                  clear HS'
                  go_wp2
                  go_ret3
                  exact ⟨by rw [← E.out]; simp, rfl⟩
          · have HS' := HS.out
            rw [drop_end s _ hkl] at HS'
            have hkl' : ¬ (at_ : Int) + 1 + (dd : Int) < (s.size : Int) := by omega
            have E := Lib.hid (show .tuple #[.int .i64 0, .int .i64 0, .int .i64 25] = ref3 R by rw [← HS']; rfl)
            clear HS'
            go_wp2
            go_ret3
            exact ⟨by rw [← E.out]; simp, rfl⟩
    · rw [if_neg hmk] at hR2
      have hmk' : (ci != m) = true := by simp [hmk]
      have E := Lib.hid (show ref3 R = .tuple #[.int .i64 0, .int .i64 0, .int .i64 22] by rw [← hR2]; rfl)
      clear hR2 hmk hm
      go_enter Tryd.func26, Tryd.ntmps26
      go_wp2
      go_ret3
      exact ⟨by rw [E.out]; simp, rfl⟩
  · have hR2 := HR.out
    unfold numL at hR2
    rw [drop_end s at_ hat] at hR2
    simp only at hR2
    have E := Lib.hid (show ref3 R = .tuple #[.int .i64 0, .int .i64 0, .int .i64 25] by rw [← hR2]; rfl)
    have hat' : ¬ (at_ : Int) < (s.size : Int) := by omega
    clear hR2 hm
    go_enter Tryd.func26, Tryd.ntmps26
    go_wp2
    go_ret3
    exact ⟨by rw [E.out]; simp, rfl⟩
end Go.Proofs.YtennkagolgbamaaDoor
