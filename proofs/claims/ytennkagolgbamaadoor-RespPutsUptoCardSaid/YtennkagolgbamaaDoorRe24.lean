/- The walk of the law RespPuts. -/
import Derived.Test.YtennkagolgbamaaDoorRe23
import Derived.Deep.RegionHeldLaw
namespace Go.Proofs.YtennkagolgbamaaDoor
open Go.ChangeShapes Go.WideShapes Go.ChangeAt Go.RowKit Go.Resp

def RefAt2 (w0 : World) (k n : Int) (s : ByteArray) (l : Value) (out : List UInt8) : Prop := ∀ w, Inv w0 w → Calls Tryd.prog 12 #[.agg #[.int .i64 k, .int .i64 n, .string s, l]] w fun e w' => e = .returned (.string ⟨out.toArray⟩) ∧ Below w.heap.size w w'
def BoxAt (wb : World) (g : Nat) (k n : Int) (s : ByteArray) (l : Value) (X : World) : Prop := X.cell? ⟨g, 0, none⟩ = some (.int .i64 k) ∧ X.cell? ⟨g, 1, none⟩ = some (.int .i64 n) ∧ X.cell? ⟨g, 2, none⟩ = some (.string s) ∧ X.cell? ⟨g, 3, none⟩ = some l ∧ Below wb.heap.size wb X
theorem BoxAt.on {wb : World} {g : Nat} {k n : Int} {s : ByteArray} {l : Value} {X Y : World} (hg : g < wb.heap.size) (h : BoxAt wb g k n s l X) (hb : Below X.heap.size X Y) : BoxAt wb g k n s l Y := by
  obtain ⟨h1, h2, h3, h4, h5⟩ := h
  have hX : g < X.heap.size := Nat.lt_of_lt_of_le hg (Below.size h5)
  exact ⟨(hb.cell (p := ⟨g, 0, none⟩) hX).trans h1, (hb.cell (p := ⟨g, 1, none⟩) hX).trans h2, (hb.cell (p := ⟨g, 2, none⟩) hX).trans h3, (hb.cell (p := ⟨g, 3, none⟩) hX).trans h4, h5.trans (hb.mono (Below.size h5))⟩
set_option maxHeartbeats 4000000 in
theorem puts_walk {w : World} (hT : Tab w) {k n : Int} {s : ByteArray} {A : Option Addr} {m cap : Nat} {b : Nat} {out : List UInt8} (h : RV w k n s (.slice A m cap) b out) (hb1 : b ≤ 1048576) :
    Calls Tryd.prog 3 #[.agg #[.int .i64 k, .int .i64 n, .string s, .slice A m cap]] w fun e w' => e = .returned (.bool true) ∧ Below w.heap.size w w' := by
  obtain ⟨wb, hwb⟩ : ∃ wb, wb = w.alloc (.cells #[.int .i64 k, .int .i64 n, .string s, .slice A m cap] 24) := ⟨_, rfl⟩
  have bw : Below w.heap.size w wb := by rw [hwb]; exact box_below w _
  have hbox : wb.rangeAt w.heap.size 0 (repC k n s (.slice A m cap)) := by rw [hwb]; exact box_at w k n s _ _ _
  have hlt0 : w.heap.size < wb.heap.size := by rw [hwb]; simp
  have D := Lib.hid (fun w => deep8 h w)
  have S := Lib.hid (fun w => size9 h w)
  have P := Lib.hid (Put11 hT h hb1)
  have R := Lib.hid (show RefAt2 w k n s (.slice A m cap) out from fun X hX => (Ref12 hT h hb1 X hX).mono fun e w' ⟨⟨t, h1, h2⟩, h3⟩ => ⟨by rw [h1, ← h2], h3⟩)
  have T := Lib.hid told_any
  have IW := Lib.hid (show Inv w wb from bw)
  have HBX := Lib.hid hbox
  obtain ⟨c0, c1, c2, c3⟩ := range_cells hbox
  clear h hbox bw hT
  go_enter Tryd.func3, Tryd.ntmps3
  go_wp2_with (first | (go_at_call 8; rw [← hwb]; (with_reducible refine (D.out _ IW.out).mono ?_); rintro e w1 ⟨⟨z1, rfl⟩, hb1⟩; have HB1 := Lib.hid hb1; clear hb1; refine Hid.out ?_))
  refine Lib.hid ?_
  have X0 := Lib.hid (show BoxAt wb w.heap.size k n s (.slice A m cap) wb from by
    rw [Nat.zero_add] at c1 c2 c3
    exact ⟨c0, c1, c2, c3, Below.refl _ _⟩)
  clear c0 c1 c2 c3 hwb
  have X1 := Lib.hid (X0.out.on hlt0 HB1.out)
  obtain ⟨d0, d1, d2, d3, d4⟩ := X1.out
  by_cases g1 : 5 < z1
  · go_wp2_with (first | (go_at_call 10; (with_reducible refine (T.out _).mono ?_); rintro e w2 ⟨rfl, hb2⟩))
    go_ret
    exact ⟨rfl, IW.out.trans ((X1.out.on hlt0 hb2).2.2.2.2.mono (Nat.le_of_lt hlt0))⟩
  · have I1 := Lib.hid (show Inv w w1 from IW.out.on d4)
    clear d4
    go_wp2_with (first | (go_at_call 9; (with_reducible refine (S.out _ I1.out).mono ?_); rintro e w2 ⟨⟨z2, rfl⟩, hb2⟩; have HB2 := Lib.hid hb2; clear hb2; refine Hid.out ?_))
    refine Lib.hid ?_
    have X2 := Lib.hid (X1.out.on hlt0 HB2.out)
    clear d0 d1 d2 d3
    by_cases g2 : 5000 < z2
    · go_wp2_with (first | (go_at_call 10; (with_reducible refine (T.out _).mono ?_); rintro e w3 ⟨rfl, hb3⟩))
      go_ret
      exact ⟨rfl, IW.out.trans ((X2.out.on hlt0 hb3).2.2.2.2.mono (Nat.le_of_lt hlt0))⟩
    · go_wp2
      have S0 : (fun X : World => X.cell? ⟨w.heap.size, 0, none⟩ = some (.int .i64 k) ∧ X.cell? ⟨w.heap.size, 1, none⟩ = some (.int .i64 n) ∧ X.cell? ⟨w.heap.size, 2, none⟩ = some (.string s) ∧ X.cell? ⟨w.heap.size, 3, none⟩ = some (.slice A m cap) ∧ Below wb.heap.size wb X) w2.drew := X2.out.on hlt0 ⟨rfl, rfl, rfl, Nat.le_refl _, fun _ _ => rfl⟩
      have SK := Lib.hid (show ∀ X Y : World, (fun X : World => X.cell? ⟨w.heap.size, 0, none⟩ = some (.int .i64 k) ∧ X.cell? ⟨w.heap.size, 1, none⟩ = some (.int .i64 n) ∧ X.cell? ⟨w.heap.size, 2, none⟩ = some (.string s) ∧ X.cell? ⟨w.heap.size, 3, none⟩ = some (.slice A m cap) ∧ Below wb.heap.size wb X) X → Below X.heap.size X Y → (fun X : World => X.cell? ⟨w.heap.size, 0, none⟩ = some (.int .i64 k) ∧ X.cell? ⟨w.heap.size, 1, none⟩ = some (.int .i64 n) ∧ X.cell? ⟨w.heap.size, 2, none⟩ = some (.string s) ∧ X.cell? ⟨w.heap.size, 3, none⟩ = some (.slice A m cap) ∧ Below wb.heap.size wb X) Y from fun X Y h hb => BoxAt.on (k := k) (n := n) (s := s) (l := .slice A m cap) hlt0 h hb)
      simp only at S0 SK
      have PC := Lib.hid (show ∀ X : World, (X.cell? ⟨w.heap.size, 0, none⟩ = some (.int .i64 k) ∧ X.cell? ⟨w.heap.size, 1, none⟩ = some (.int .i64 n) ∧ X.cell? ⟨w.heap.size, 2, none⟩ = some (.string s) ∧ X.cell? ⟨w.heap.size, 3, none⟩ = some (.slice A m cap) ∧ Below wb.heap.size wb X) → Calls Tryd.prog 11 #[.agg #[.int .i64 k, .int .i64 n, .string s, .slice A m cap]] X fun e w' => ∃ v, e = .returned v ∧ OwnN X.heap.size w' v out ∧ Below X.heap.size X w' from fun X h => P.out X (IW.out.on h.2.2.2.2))
      have RC := Lib.hid (show ∀ X : World, (X.cell? ⟨w.heap.size, 0, none⟩ = some (.int .i64 k) ∧ X.cell? ⟨w.heap.size, 1, none⟩ = some (.int .i64 n) ∧ X.cell? ⟨w.heap.size, 2, none⟩ = some (.string s) ∧ X.cell? ⟨w.heap.size, 3, none⟩ = some (.slice A m cap) ∧ Below wb.heap.size wb X) → Calls Tryd.prog 12 #[.agg #[.int .i64 k, .int .i64 n, .string s, .slice A m cap]] X fun e w' => e = .returned (.string ⟨out.toArray⟩) ∧ Below X.heap.size X w' from fun X h => R.out X (IW.out.on h.2.2.2.2))
      clear P R D S
      go_region_held_law (fun X => X.cell? ⟨w.heap.size, 0, none⟩ = some (.int .i64 k) ∧ X.cell? ⟨w.heap.size, 1, none⟩ = some (.int .i64 n) ∧ X.cell? ⟨w.heap.size, 2, none⟩ = some (.string s) ∧ X.cell? ⟨w.heap.size, 3, none⟩ = some (.slice A m cap) ∧ Below wb.heap.size wb X) (first | assumption | exact S0 | (refine SK.out _ _ ?_ hb5; assumption) | (refine SK.out _ _ ?_ hb4; assumption) | (refine SK.out _ _ ?_ hb3; assumption))
        (first
          | (go_at_call 10; (with_reducible refine (T.out _).mono ?_); rintro e w3 ⟨rfl, hb3⟩)
          | (go_at_call 11; refine (PC.out _ ?_).mono ?_; assumption; rintro e w4 ⟨v4, rfl, hO4, hb4⟩; have cv4 := conv_bs hO4.slice)
          | (go_at_call 12; refine (RC.out _ ?_).mono ?_; assumption; rintro e w5 ⟨rfl, hb5⟩; have cv5 := conv_bs (hO4.slice.below hb5))
          | (go_at_call 12; refine (RC.out _ ?_).mono ?_; assumption; rintro e w5 ⟨rfl, hb5⟩))
      all_goals
        have hS5 : w5.cell? ⟨w.heap.size, 0, none⟩ = some (.int .i64 k) ∧ w5.cell? ⟨w.heap.size, 1, none⟩ = some (.int .i64 n) ∧ w5.cell? ⟨w.heap.size, 2, none⟩ = some (.string s) ∧ w5.cell? ⟨w.heap.size, 3, none⟩ = some (.slice A m cap) ∧ Below wb.heap.size wb w5 := by assumption
        go_wp2
        go_ret
        exact ⟨by simp, IW.out.trans (hS5.2.2.2.2.mono (Nat.le_of_lt hlt0))⟩
end Go.Proofs.YtennkagolgbamaaDoor
