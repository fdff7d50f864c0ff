/- Read's contract for each slice of bytes; resp.line; the law's digits. -/
import Derived.Test.YtnfflkappbjoeaaDoorRe3
import Derived.Lib.ConvBytes
import Derived.Lib.AtoiErrMem
import Derived.WalkSmall
import Derived.Lib.AppendIntMem
namespace Go.Proofs.YtnfflkappbjoeaaDoor
open Go.ChangeShapes Go.WideShapes Go.ChangeAt Go.RowKit Go.Resp

/-- A slice of bytes: nil, empty or a row. -/
def BSl (w : World) (v : Value) (l : List UInt8) : Prop := ∃ A cap, v = .slice A l.length cap ∧ l.length ≤ cap ∧ cap ≤ maxLen ∧ (l ≠ [] → ∃ blk off, A = some ⟨blk, off, none⟩ ∧ blk < w.heap.size ∧ Bytes w blk off l)
theorem Read_any (w : World) (v : Value) (l : List UInt8) (h : BSl w v l) : Calls Tryd.prog 18 #[v] w (Back w.heap.size w l) := by
  obtain ⟨A, cap, rfl, h1, h2, h3⟩ := h
  by_cases hl : l = []
  · subst hl; exact read_nil A cap w
  · obtain ⟨blk, off, rfl, h4, h5⟩ := h3 hl
    exact read_some blk off l cap h1 h2 w h4 h5
def cellsOfB (l : List UInt8) : Array Value := (l.map fun b => Value.int .u8 (b.toNat : Int)).toArray
theorem BSl_const (w : World) (l : List UInt8) (hl : l.length ≤ maxLen) : BSl (w.alloc (.cells (cellsOfB l) 5 (l.length, l.length + 1))) (.slice (some ⟨w.heap.size, 0, none⟩) l.length l.length) l := by
  refine ⟨_, _, rfl, Nat.le_refl _, hl, fun _ => ⟨_, _, rfl, ?_, ?_⟩⟩
  · simp
  · intro i c hc
    rw [Nat.zero_add, World.cell?_alloc_mark]
    simp [cellsOfB, hc]
theorem BSl_bytes (w : World) (s : ByteArray) (hs : s.size ≤ maxLen) : BSl (Lib.bytesWorld w 5 s) (.slice (some ⟨w.heap.size, 0, none⟩) s.size (grownCap w s.size 0 5)) s.data.toList := by
  have e : s.data.toList.length = s.size := by simp
  have hc1 := grownCap_ge w s.size 0 5
  have hc2 := grownCap_le_maxLen w s.size 0 5 hs
  refine ⟨_, _, by rw [e], by omega, hc2, fun _ => ⟨_, _, rfl, ?_, ?_⟩⟩
  · rw [Lib.bytesWorld_size]; omega
  · intro i c hc
    have hi : i < s.size := by rw [← e]; exact (List.getElem?_eq_some_iff.1 hc).1
    rw [Nat.zero_add, Lib.bytesWorld_cell w 5 s i hi, getD_of hc]
/-- What is read of bytes that the text writes out. -/
theorem read_const (l : List UInt8) (hl : l.length ≤ maxLen) (w : World) : Calls Tryd.prog 18 #[.slice (some ⟨w.heap.size, 0, none⟩) l.length l.length] (w.alloc (.cells (cellsOfB l) 5 (l.length, l.length + 1))) (Back (w.heap.size + 1) (w.alloc (.cells (cellsOfB l) 5 (l.length, l.length + 1))) l) := by
  have := Read_any _ _ l (BSl_const w l hl)
  simpa using this

theorem data_app (a b : ByteArray) : (a ++ b).data.toList = a.data.toList ++ b.data.toList := by simp
theorem conv_sb (w : World) (s : ByteArray) : (convert 9 24 (.string s)).run Tryd.prog w = .ok (.slice (some ⟨w.heap.size, 0, none⟩) s.size (grownCap w s.size 0 5)) (Lib.bytesWorld w 5 s) :=
  Lib.run_convert_string_bytes w 9 24 5 s Tryd.underlying9 Tryd.underlying24 Tryd.underlying5
end Go.Proofs.YtnfflkappbjoeaaDoor
