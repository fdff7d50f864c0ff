/- The law StringsSet, whole. -/
import Derived.Test.YtaomiglmahklfaaGreatDoorSt42z
import Derived.Test.YtaomiglmahklfaaGreatDoorSt42n
import Derived.Test.YtaomiglmahklfaaGreatDoorCards
import Derived.Lib.LaidTab
import Derived.Stop.LaidErr
namespace Go.Proofs.YtaomiglmahklfaaGreatDoor
open Go.ChangeShapes Go.WideShapes Go.ChangeAt Go.RowKit

theorem ov_eq (t w : ByteArray) (p : Nat) (h : p + w.size ≤ t.size) : ovT t w p = t.extract 0 p ++ w ++ t.extract (p + w.size) t.size := by
  apply bytes_inj
  have hl : t.data.toList.length = t.size := by simp
  have hw : w.data.toList.length = w.size := by simp
  have e0 : p + w.size - t.size = 0 := by omega
  have e1 : (ovT t w p).data.toList = ovL (t.data.toList ++ List.replicate (p + w.size - t.size) 0) w.data.toList p := rfl
  rw [e1, e0, List.replicate_zero, List.append_nil]
  unfold ovL
  rw [ByteArray.data_append, Array.toList_append, ByteArray.data_append, Array.toList_append, toList_ext, toList_ext, List.drop_zero, Nat.sub_zero, hw]
  rw [List.take_of_length_le (l := t.data.toList.drop (p + w.size)) (by rw [List.length_drop]; omega)]
theorem empty_of (w : ByteArray) (h : w.size = 0) : w = ⟨#[]⟩ := by
  apply bytes_inj
  have : w.data.toList.length = 0 := by simpa using h
  rw [List.eq_nil_of_length_eq_zero this]
theorem app_empty (v : ByteArray) : v ++ (⟨#[]⟩ : ByteArray) = v := by
  apply bytes_inj
  rw [ByteArray.data_append, Array.toList_append]
  simp
theorem empty_app (v : ByteArray) : (⟨#[]⟩ : ByteArray) ++ v = v := by
  apply bytes_inj
  rw [ByteArray.data_append, Array.toList_append]
  simp
theorem sl_to (t : ByteArray) (p : Nat) (h : p ≤ t.size) (X : World) : (Instr.slice 9 (.string t) none (some (.int .i64 (p : Int))) none).run Tryz.prog X = .ok (.string (t.extract 0 p)) X := by
  rw [run_slice_string_to_if X 9 t .i64 (p : Int) Tryz.underlying9, if_pos ⟨by omega, by omega⟩, Int.toNat_natCast]
theorem sl_from (t : ByteArray) (p : Nat) (h : p ≤ t.size) (X : World) : (Instr.slice 9 (.string t) (some (.int .i64 (p : Int))) none none).run Tryz.prog X = .ok (.string (t.extract p t.size)) X := by
  rw [run_slice_string_from_if X 9 t .i64 (p : Int) Tryz.underlying9, if_pos ⟨by omega, by omega⟩, Int.toNat_natCast]
theorem place (a : Int) (n : Nat) (hn : n ≤ 300) : ∃ p : Nat, wrap64 ((IntKind.u64.wrap a).tmod ((n : Int) + 1)) = (p : Int) ∧ p ≤ n := by
  have h0 : 0 ≤ IntKind.u64.wrap a := by rw [IntKind.wrap_u64]; omega
  have h1 : (IntKind.u64.wrap a).tmod ((n : Int) + 1) = (IntKind.u64.wrap a) % ((n : Int) + 1) := Int.tmod_eq_emod_of_nonneg h0
  have h2 : 0 ≤ (IntKind.u64.wrap a) % ((n : Int) + 1) := Int.emod_nonneg _ (by omega)
  have h3 : (IntKind.u64.wrap a) % ((n : Int) + 1) < (n : Int) + 1 := Int.emod_lt_of_pos _ (by omega)
  refine ⟨((IntKind.u64.wrap a) % ((n : Int) + 1)).toNat, ?_, by omega⟩
  rw [h1, IntWalk.wrap64_in _ (by omega)]
  omega
set_option maxRecDepth 100000 in
set_option maxHeartbeats 2000000 in
theorem set_big1 (v w : ByteArray) (at_ : Int) (h : 300 < v.size) (w0 : World) (hT : Tab w0) : Calls Tryz.prog 6 #[.string v, .string w, .int .i64 at_] w0 fun e w' => e = .returned (.bool true) ∧ Below w0.heap.size w0 w' := by
  have TO := Lib.hid (told8 w0 hT)
  have g1 : (300 : Int) < (v.size : Int) := by omega
  go_enter Tryz.func6, Tryz.ntmps6
  go_wp2_with (first | (go_at_call 8; (with_reducible refine (TO.out).mono ?_); rintro e x1 ⟨rfl, hb⟩))
  go_ret
  exact ⟨rfl, hb⟩
set_option maxRecDepth 100000 in
set_option maxHeartbeats 2000000 in
theorem set_big2 (v w : ByteArray) (at_ : Int) (hv : v.size ≤ 300) (h : 300 < w.size) (w0 : World) (hT : Tab w0) : Calls Tryz.prog 6 #[.string v, .string w, .int .i64 at_] w0 fun e w' => e = .returned (.bool true) ∧ Below w0.heap.size w0 w' := by
  have TO := Lib.hid (told8 w0 hT)
  have g1 : ¬ (300 : Int) < (v.size : Int) := by omega
  have g2 : (300 : Int) < (w.size : Int) := by omega
  go_enter Tryz.func6, Tryz.ntmps6
  go_wp2_with (first | (go_at_call 8; (with_reducible refine (TO.out).mono ?_); rintro e x1 ⟨rfl, hb⟩))
  go_ret
  exact ⟨rfl, hb⟩
theorem set_walk (v w : ByteArray) (at_ : Int) (w0 : World) (hT : Tab w0) : Calls Tryz.prog 6 #[.string v, .string w, .int .i64 at_] w0 fun e w' => e = .returned (.bool true) ∧ Below w0.heap.size w0 w' := by
  by_cases hv : 300 < v.size
  · exact set_big1 v w at_ hv w0 hT
  by_cases hw : 300 < w.size
  · exact set_big2 v w at_ (by omega) hw w0 hT
  obtain ⟨p, hk, hp⟩ := place at_ v.size (by omega)
  have hj := ext_join v p hp
  have hv3 : v.size ≤ 300 := by omega
  have hw3 : w.size ≤ 300 := by omega
  have hds : (v.extract p v.size).size ≤ 300 := by rw [ext_size _ _ _ (Nat.le_refl _)]; omega
  have h00 : (((0 : Nat) : Int) == 0) = true := by decide
  have hj0 : (⟨#[]⟩ : ByteArray) ++ v.extract 0 v.size = v := by rw [empty_app]; exact ext_all v
  have hne : p ≠ 0 → ((p : Int) == 0) = false := fun h => by rw [beq_eq_false_iff_ne]; omega
  by_cases we : w.size = 0
  · obtain rfl := empty_of w we
    have hxv : (v.extract 0 p).size = p := by rw [ext_size _ _ _ hp]; omega
    have hxs : (v.extract 0 p).size ≤ 1000 := by rw [hxv]; omega
    have hx2 : (v.extract p v.size).size ≤ 1000 := by omega
    by_cases hlt : p < v.size
    · have hl : ((v.extract 0 p).size : Int) < (v.size : Int) := by rw [hxv]; omega
      have hs2 : ∀ X, (Instr.slice 9 (.string v) (some (.int .i64 ((v.extract 0 p).size : Int))) none none).run Tryz.prog X = .ok (.string (v.extract p v.size)) X := fun X => by rw [hxv]; exact sl_from v p hp X
      by_cases hz : p = 0
      · subst hz
        exact set_zelt v hv3 at_ 0 hp hk _ rfl hds h00 hj0 _ (app_empty v) (app_empty _) hxs (sl_to v 0 hp) _ _ hx2 hl hs2 rfl w0 hT
      · exact set_nelt v hv3 at_ p hp hk _ rfl hds (hne hz) (by omega) _ (app_empty v) (app_empty _) hxs (sl_to v p hp) _ _ hx2 hl hs2 rfl w0 hT
    · have hl : ¬ ((v.extract 0 p).size : Int) < (v.size : Int) := by rw [hxv]; omega
      by_cases hz : p = 0
      · subst hz
        exact set_zeeq v hv3 at_ 0 hp hk _ rfl hds h00 hj0 _ (app_empty v) (app_empty _) hxs (sl_to v 0 hp) hl w0 hT
      · exact set_neeq v hv3 at_ p hp hk _ rfl hds (hne hz) (by omega) _ (app_empty v) (app_empty _) hxs (sl_to v p hp) hl w0 hT
  · have hw0 : 0 < w.size := by omega
    have ht : (v ++ w).size = v.size + w.size := ByteArray.size_append
    have htN : ((v ++ w).size : Int) = (v.size : Int) + (w.size : Int) := by rw [ht]; omega
    have hx : ((v ++ w).extract 0 p).size = p := by rw [ext_size _ _ _ (by omega)]; omega
    have hy : ((v ++ w).extract 0 p ++ w).size = p + w.size := by rw [ByteArray.size_append, hx]
    have hO := ov_eq (v ++ w) w p (by omega)
    have hys : ((v ++ w).extract 0 p ++ w).size ≤ 1000 := by rw [hy]; omega
    have hxs : ((v ++ w).extract 0 p).size ≤ 1000 := by rw [hx]; omega
    have hpt : p ≤ (v ++ w).size := by omega
    by_cases hlt : p < v.size
    · have hTs : ((v ++ w).extract 0 p ++ w ++ (v ++ w).extract (p + w.size) (v ++ w).size).size = (v ++ w).size := by rw [ByteArray.size_append, hy, ext_size _ _ _ (Nat.le_refl _)]; omega
      have hx2 : ((v ++ w).extract (p + w.size) (v ++ w).size).size ≤ 1000 := by rw [ext_size _ _ _ (Nat.le_refl _)]; omega
      have hl : (((v ++ w).extract 0 p ++ w).size : Int) < (v.size : Int) + (w.size : Int) := by rw [hy]; omega
      have hs2 : ∀ X, (Instr.slice 9 (.string (v ++ w)) (some (.int .i64 (((v ++ w).extract 0 p ++ w).size : Int))) none none).run Tryz.prog X = .ok (.string ((v ++ w).extract (p + w.size) (v ++ w).size)) X := fun X => by rw [hy]; exact sl_from (v ++ w) _ (by omega) X
      by_cases hz : p = 0
      · subst hz
        exact set_zwlt v hv3 at_ 0 hp hk _ rfl hds h00 hj0 w _ _ _ hw3 hw0 (ne_empty hw0) rfl htN rfl hys hxs (sl_to (v ++ w) 0 hpt) _ _ hx2 hl hs2 rfl hO hTs w0 hT
      · exact set_nwlt v hv3 at_ p hp hk _ rfl hds (hne hz) (by omega) w _ _ _ hw3 hw0 (ne_empty hw0) rfl htN rfl hys hxs (sl_to (v ++ w) p hpt) _ _ hx2 hl hs2 rfl hO hTs w0 hT
    · have hO2 : ovT (v ++ w) w p = (v ++ w).extract 0 p ++ w := by rw [hO, ext_nil _ _ _ (by omega) (Nat.le_refl _), app_empty]
      have hl : ¬ (((v ++ w).extract 0 p ++ w).size : Int) < (v.size : Int) + (w.size : Int) := by rw [hy]; omega
      have hTs : ((v ++ w).extract 0 p ++ w).size = (v ++ w).size := by rw [hy]; omega
      by_cases hz : p = 0
      · subst hz
        exact set_zweq v hv3 at_ 0 hp hk _ rfl hds h00 hj0 w _ _ _ hw3 hw0 (ne_empty hw0) rfl htN rfl hys hxs (sl_to (v ++ w) 0 hpt) hl hO2 hTs w0 hT
      · exact set_nweq v hv3 at_ p hp hk _ rfl hds (hne hz) (by omega) w _ _ _ hw3 hw0 (ne_empty hw0) rfl htN rfl hys hxs (sl_to (v ++ w) p hpt) hl hO2 hTs w0 hT
theorem gPow : Tryz.prog.globalNamed "internal/strconv.uint64pow10" = some 0 := by kernel_rfl
theorem gPowType : (Tryz.prog.globals[0]?).map (·.type) = some 147 := by kernel_rfl
theorem cellsT : Tryz.prog.cellsOf 147 = 20 := by kernel_rfl
theorem cellsE : Tryz.prog.cellsOf 131 = 1 := by kernel_rfl
theorem tab_set {W : World} (h : laidMetH Tryz.prog Rows.stringsSetRow.laid W) : Tab W :=
  Lib.tabIs_of_head (rest := []) (zs := Lib.pow10Tab) gPow gPowType (by kernel_rfl) (by kernel_rfl) cellsE cellsT (laidMet.tail (laidMet.tail h))
theorem set_law {W : World} (hT : Tab W) (v w : ByteArray) (at_ : Int) : Calls Tryz.prog 6 #[.string v, .string w, .int .i64 at_] W fun e w' => e = .returned (.bool true) ∧ Below W.heap.size W w' := set_walk v w at_ W hT
end Go.Proofs.YtaomiglmahklfaaGreatDoor
