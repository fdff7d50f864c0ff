/- Parts of texts (lib.sub). -/
import Derived.Test.YtjoegdnefdaokaaDoorLb1
namespace Go.Proofs.YtjoegdnefdaokaaDoor
open Go.ChangeShapes Go.WideShapes Go.ChangeAt Go.RowKit

theorem slice_at (s : ByteArray) (lo hi : Nat) (h1 : 1 ≤ lo) (h2 : lo ≤ hi + 1) (h3 : hi ≤ s.size) (w : World) :
    (Instr.slice 9 (.string s) (some (.int .i64 ((lo : Int) - 1))) (some (.int .i64 (hi : Int))) none).run Tryd.prog w = .ok (.string (s.extract (lo - 1) hi)) w := by
  rw [run_slice_string w 9 s .i64 .i64 _ _ Tryd.underlying9 (by omega) (by omega) (by omega)]
  rw [show ((lo : Int) - 1).toNat = lo - 1 by omega]
  rfl
theorem sub_lt (s : ByteArray) (hs : s.size ≤ 1000000) (lo hi : Nat) (h1 : 1 ≤ lo) (h2 : lo ≤ hi) (h3 : hi ≤ s.size) (w : World) :
    Calls Tryd.prog 32 #[.string s, .int .i64 lo, .int .i64 hi] w fun e w' => e = .returned (.string (s.extract (lo - 1) hi)) ∧ w = w' := by
  have i1 : ¬ (lo : Int) < 0 := by omega
  have i2 : ¬ (hi : Int) < 0 := by omega
  have m1 : max (lo : Int) 1 = lo := by omega
  have m2 : min (hi : Int) (s.size : Int) = hi := by omega
  have i5 : ¬ (hi : Int) < (lo : Int) := by omega
  have hsl := slice_at s lo hi h1 (by omega) h3
  go_enter Tryd.func32, Tryd.ntmps32
  go_wp2
  go_ret
  exact ⟨rfl, rfl⟩
theorem sub_gt (s : ByteArray) (lo hi : Nat) (h1 : 1 ≤ lo) (h2 : hi < lo) (h3 : hi ≤ s.size) (w : World) :
    Calls Tryd.prog 32 #[.string s, .int .i64 lo, .int .i64 hi] w fun e w' => e = .returned (.string ⟨#[]⟩) ∧ w = w' := by
  have i1 : ¬ (lo : Int) < 0 := by omega
  have i2 : ¬ (hi : Int) < 0 := by omega
  have m1 : max (lo : Int) 1 = lo := by omega
  have m2 : min (hi : Int) (s.size : Int) = hi := by omega
  have i5 : (hi : Int) < (lo : Int) := by omega
  go_enter Tryd.func32, Tryd.ntmps32
  go_wp2
  go_ret
  exact ⟨rfl, rfl⟩
theorem sub_m1 (s : ByteArray) (hs : s.size ≤ 1000000) (lo : Nat) (h1 : 1 ≤ lo) (h2 : lo ≤ s.size) (w : World) :
    Calls Tryd.prog 32 #[.string s, .int .i64 lo, .int .i64 (-1)] w fun e w' => e = .returned (.string (s.extract (lo - 1) s.size)) ∧ w = w' := by
  have i1 : ¬ (lo : Int) < 0 := by omega
  have m1 : max (lo : Int) 1 = lo := by omega
  have m3 : max (-1) (-(s.size : Int) - 1) = -1 := by omega
  have m4 : (-1 : Int) + (s.size : Int) + 1 = s.size := by omega
  have i5 : ¬ (s.size : Int) < (lo : Int) := by omega
  have hsl := slice_at s lo s.size h1 (by omega) (Nat.le_refl _)
  go_enter Tryd.func32, Tryd.ntmps32
  go_wp2
  go_ret
  exact ⟨rfl, rfl⟩
theorem sub_m1e (s : ByteArray) (hs : s.size ≤ 1000000) (lo : Nat) (h1 : 1 ≤ lo) (h2 : s.size < lo) (w : World) :
    Calls Tryd.prog 32 #[.string s, .int .i64 lo, .int .i64 (-1)] w fun e w' => e = .returned (.string ⟨#[]⟩) ∧ w = w' := by
  have i1 : ¬ (lo : Int) < 0 := by omega
  have m1 : max (lo : Int) 1 = lo := by omega
  have m3 : max (-1) (-(s.size : Int) - 1) = -1 := by omega
  have m4 : (-1 : Int) + (s.size : Int) + 1 = s.size := by omega
  have i5 : (s.size : Int) < (lo : Int) := by omega
  go_enter Tryd.func32, Tryd.ntmps32
  go_wp2
  go_ret
  exact ⟨rfl, rfl⟩
theorem sub_abc (w : World) :
    Calls Tryd.prog 32 #[.string ⟨#[97, 98, 99]⟩, .int .i64 (-2), .int .i64 (-1)] w fun e w' => e = .returned (.string ⟨#[98, 99]⟩) ∧ w = w' := by
  have hsl : ∀ w, (Instr.slice 9 (.string ⟨#[97, 98, 99]⟩) (some (.int .i64 1)) (some (.int .i64 3)) none).run Tryd.prog w = .ok (.string ⟨#[98, 99]⟩) w := fun w => by kernel_rfl
  have a1 : min (2 : Int) 4 = 2 := rfl
  have a2 : min (1 : Int) 4 = 1 := rfl
  have a3 : max (2 : Int) 1 = 2 := rfl
  have a4 : min (3 : Int) 3 = 3 := rfl
  go_enter Tryd.func32, Tryd.ntmps32
  go_wp2
  go_ret
  exact ⟨rfl, rfl⟩
end Go.Proofs.YtjoegdnefdaokaaDoor
