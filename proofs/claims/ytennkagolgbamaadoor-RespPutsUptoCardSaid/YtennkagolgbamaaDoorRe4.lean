/- Read's contract for each slice of bytes; resp.line; the law's digits. -/
import Derived.Test.YtennkagolgbamaaDoorRe3
import Derived.Lib.ConvBytes
import Derived.Lib.AtoiErrMem
import Derived.WalkSmall
import Derived.Lib.AppendIntMem
namespace Go.Proofs.YtennkagolgbamaaDoor
open Go.ChangeShapes Go.WideShapes Go.ChangeAt Go.RowKit Go.Resp

/-- A slice of bytes: nil, empty or a row. -/
def BSl (w : World) (v : Value) (l : List UInt8) : Prop := ∃ A cap, v = .slice A l.length cap ∧ l.length ≤ cap ∧ cap ≤ maxLen ∧ (l ≠ [] → ∃ blk off, A = some ⟨blk, off, none⟩ ∧ blk < w.heap.size ∧ Bytes w blk off l)
theorem Read_any (w : World) (v : Value) (l : List UInt8) (h : BSl w v l) : Calls Tryd.prog 13 #[v] w (Back w.heap.size w l) := by
  obtain ⟨A, cap, rfl, h1, h2, h3⟩ := h
  by_cases hl : l = []
  · subst hl; exact read_nil A cap w
  · obtain ⟨blk, off, rfl, h4, h5⟩ := h3 hl
    exact read_some blk off l cap h1 h2 w h4 h5
def cellsOfB (l : List UInt8) : Array Value := (l.map fun b => Value.int .u8 (b.toNat : Int)).toArray
theorem BSl_const (w : World) (l : List UInt8) (hl : l.length ≤ maxLen) : BSl (w.alloc (.cells (cellsOfB l) 5 (l.length, l.length + 1))) (.slice (some ⟨w.heap.size, 0, none⟩) l.length l.length) l := by
  refine ⟨_, _, rfl, Nat.le_refl _, hl, fun _ => ⟨_, _, rfl, ?_, ?_⟩⟩
  · simp
  · intro i c hc
    rw [Nat.zero_add, World.cell?_alloc_mark]
    simp [cellsOfB, hc]
theorem BSl_bytes (w : World) (s : ByteArray) (hs : s.size ≤ maxLen) : BSl (Lib.bytesWorld w 5 s) (.slice (some ⟨w.heap.size, 0, none⟩) s.size (grownCap w s.size 0 5)) s.data.toList := by
  have e : s.data.toList.length = s.size := by simp
  have hc1 := grownCap_ge w s.size 0 5
  have hc2 := grownCap_le_maxLen w s.size 0 5 hs
  refine ⟨_, _, by rw [e], by omega, hc2, fun _ => ⟨_, _, rfl, ?_, ?_⟩⟩
  · rw [Lib.bytesWorld_size]; omega
  · intro i c hc
    have hi : i < s.size := by rw [← e]; exact (List.getElem?_eq_some_iff.1 hc).1
    rw [Nat.zero_add, Lib.bytesWorld_cell w 5 s i hi, getD_of hc]
/-- What is read of bytes that the text writes out. -/
theorem read_const (l : List UInt8) (hl : l.length ≤ maxLen) (w : World) : Calls Tryd.prog 13 #[.slice (some ⟨w.heap.size, 0, none⟩) l.length l.length] (w.alloc (.cells (cellsOfB l) 5 (l.length, l.length + 1))) (Back (w.heap.size + 1) (w.alloc (.cells (cellsOfB l) 5 (l.length, l.length + 1))) l) := by
  have := Read_any _ _ l (BSl_const w l hl)
  simpa using this

theorem data_app (a b : ByteArray) : (a ++ b).data.toList = a.data.toList ++ b.data.toList := by simp
theorem conv_sb (w : World) (s : ByteArray) : (convert 9 27 (.string s)).run Tryd.prog w = .ok (.slice (some ⟨w.heap.size, 0, none⟩) s.size (grownCap w s.size 0 5)) (Lib.bytesWorld w 5 s) :=
  Lib.run_convert_string_bytes w 9 27 5 s Tryd.underlying9 Tryd.underlying27 Tryd.underlying5
/-- resp.line: a text with 13 10 behind, as bytes. -/
theorem line21 (s : ByteArray) (hs : s.size + 2 ≤ 9223372036854775807) (w : World) : Calls Tryd.prog 21 #[.string s] w fun e w' => ∃ v, e = .returned v ∧ BSl w' v (s.data.toList ++ [13, 10]) ∧ Below w.heap.size w w' := by
  have hcv := conv_sb
  have HB := Lib.hid (BSl_bytes w (s ++ ⟨#[13, 10]⟩) (by rw [ByteArray.size_append]; unfold maxLen; exact hs))
  go_enter Tryd.func21, Tryd.ntmps21
  go_wp2
  go_ret
  have h := HB.out
  rw [data_app, ByteArray.size_append] at h
  exact ⟨_, rfl, h, Lib.bytesWorld_below w 5 _⟩
def digC (m : Nat) : ByteArray := ⟨#[UInt8.ofNat (48 + m)]⟩
theorem dig_slice0 (w : World) : (Instr.slice 9 (.string ⟨#[48, 49, 50, 51, 52, 53, 54, 55, 56, 57]⟩) (some (.int .i64 0)) (some (.int .i64 1)) none).run Tryd.prog w = .ok (.string (digC 0)) w := by kernel_rfl
theorem dig_slice1 (w : World) : (Instr.slice 9 (.string ⟨#[48, 49, 50, 51, 52, 53, 54, 55, 56, 57]⟩) (some (.int .i64 1)) (some (.int .i64 2)) none).run Tryd.prog w = .ok (.string (digC 1)) w := by kernel_rfl
theorem dig_slice2 (w : World) : (Instr.slice 9 (.string ⟨#[48, 49, 50, 51, 52, 53, 54, 55, 56, 57]⟩) (some (.int .i64 2)) (some (.int .i64 3)) none).run Tryd.prog w = .ok (.string (digC 2)) w := by kernel_rfl
theorem dig_slice3 (w : World) : (Instr.slice 9 (.string ⟨#[48, 49, 50, 51, 52, 53, 54, 55, 56, 57]⟩) (some (.int .i64 3)) (some (.int .i64 4)) none).run Tryd.prog w = .ok (.string (digC 3)) w := by kernel_rfl
theorem dig_slice4 (w : World) : (Instr.slice 9 (.string ⟨#[48, 49, 50, 51, 52, 53, 54, 55, 56, 57]⟩) (some (.int .i64 4)) (some (.int .i64 5)) none).run Tryd.prog w = .ok (.string (digC 4)) w := by kernel_rfl
theorem dig_slice5 (w : World) : (Instr.slice 9 (.string ⟨#[48, 49, 50, 51, 52, 53, 54, 55, 56, 57]⟩) (some (.int .i64 5)) (some (.int .i64 6)) none).run Tryd.prog w = .ok (.string (digC 5)) w := by kernel_rfl
theorem dig_slice6 (w : World) : (Instr.slice 9 (.string ⟨#[48, 49, 50, 51, 52, 53, 54, 55, 56, 57]⟩) (some (.int .i64 6)) (some (.int .i64 7)) none).run Tryd.prog w = .ok (.string (digC 6)) w := by kernel_rfl
theorem dig_slice7 (w : World) : (Instr.slice 9 (.string ⟨#[48, 49, 50, 51, 52, 53, 54, 55, 56, 57]⟩) (some (.int .i64 7)) (some (.int .i64 8)) none).run Tryd.prog w = .ok (.string (digC 7)) w := by kernel_rfl
theorem dig_slice8 (w : World) : (Instr.slice 9 (.string ⟨#[48, 49, 50, 51, 52, 53, 54, 55, 56, 57]⟩) (some (.int .i64 8)) (some (.int .i64 9)) none).run Tryd.prog w = .ok (.string (digC 8)) w := by kernel_rfl
theorem dig_slice9 (w : World) : (Instr.slice 9 (.string ⟨#[48, 49, 50, 51, 52, 53, 54, 55, 56, 57]⟩) (some (.int .i64 9)) (some (.int .i64 10)) none).run Tryd.prog w = .ok (.string (digC 9)) w := by kernel_rfl
theorem dig_slice (m : Int) (k : Nat) (hk : m = (k : Int)) (hm : k < 10) (w : World) : (Instr.slice 9 (.string ⟨#[48, 49, 50, 51, 52, 53, 54, 55, 56, 57]⟩) (some (.int .i64 m)) (some (.int .i64 (m + 1))) none).run Tryd.prog w = .ok (.string (digC k)) w := by
  subst hk
  have h : k = 0 ∨ k = 1 ∨ k = 2 ∨ k = 3 ∨ k = 4 ∨ k = 5 ∨ k = 6 ∨ k = 7 ∨ k = 8 ∨ k = 9 := by omega
  rcases h with rfl | rfl | rfl | rfl | rfl | rfl | rfl | rfl | rfl | rfl
  · exact dig_slice0 w
  · exact dig_slice1 w
  · exact dig_slice2 w
  · exact dig_slice3 w
  · exact dig_slice4 w
  · exact dig_slice5 w
  · exact dig_slice6 w
  · exact dig_slice7 w
  · exact dig_slice8 w
  · exact dig_slice9 w
theorem digits14 (n : Nat) (hn' : n ≤ 1000000) (w : World) : Calls Tryd.prog 14 #[.int .i64 (n : Int)] w fun e w' => e = .returned (.string ⟨(Lib.decDigits n).toArray⟩) ∧ w = w' := by
  go_enter Tryd.func14, Tryd.ntmps14
  go_wp2
  go_loop [0, 3] (fun m s => ∃ (k : Nat) (t : ByteArray), k ≤ n ∧ t.size ≤ 1000000 - k ∧ Hid (Lib.decDigits n = Lib.decDigits k ++ t.data.toList) ∧ m = .int .i64 k ∧ s = .string t) (fun m _ => (intOf m).toNat)
  case atStart => exact ⟨n, ⟨#[]⟩, Nat.le_refl _, Nat.zero_le _, Lib.hid (by simp), rfl, rfl⟩
  case round =>
    obtain ⟨k, t, hk, ht, H, rfl, rfl⟩ := hrel
    by_cases h : (10 : Int) ≤ (k : Int)
    · have hsl := dig_slice ((k : Int) % 10) (k % 10) (by omega) (by omega)
      have hsz : (digC (k % 10)).size = 1 := rfl
      have H2 := Lib.hid hsz
      have b1 : (digC (k % 10)).size ≤ 1 := by rw [hsz]; exact Nat.le_refl _
      clear hsz
      go_wp2
      go_round
      case rel =>
        refine ⟨k / 10, digC (k % 10) ++ t, by omega, by rw [ByteArray.size_append, H2.out]; omega, Lib.hid ?_, by go_num, rfl⟩
        rw [H.out, data_app, Lib.decDigits, dif_neg (by omega)]
        simp [digC]
      case measure => simp [intOf]; omega
    · have hsl := dig_slice (k : Int) k rfl (by omega)
      have b1 : (digC k).size ≤ 1 := Nat.le_refl _
      have E := Lib.hid (show (⟨(Lib.decDigits n).toArray⟩ : ByteArray) = digC k ++ t from by
        refine bytes_inj ?_
        rw [data_app]
        show Lib.decDigits n = _
        rw [H.out, Lib.decDigits, dif_pos (by omega)]
        simp [digC])
      go_wp2
      go_ret
      exact ⟨by rw [E.out]; simp, rfl⟩
end Go.Proofs.YtennkagolgbamaaDoor
