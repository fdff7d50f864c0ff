/- Contracts of replies, of Clone, of the commands' table and of Fits. -/
import Derived.Test.YtnfflkappbjoeaaDoorSe3
import Derived.Deep.AppendLies
namespace Go.Proofs.YtnfflkappbjoeaaDoor
open Go.ChangeShapes Go.WideShapes Go.ChangeAt Go.RowKit Go.Resp

def replyV (k n : Int) (s : ByteArray) : Value := .agg #[.int .i64 k, .int .i64 n, .string s, .slice none 0 0]
theorem Err14 (n : Int) (w : World) : Calls Tryd.prog 19 #[.int .i64 n] w fun e w' => e = .returned (replyV 2 n ⟨#[]⟩) ∧ Below w.heap.size w w' := by
  have hb := Lib.hid (Below.refl w.heap.size w)
  go_enter Tryd.func19, Tryd.ntmps19
  go_wp2
  exact bodyPost_ret (v := replyV 2 n ⟨#[]⟩) (by simp [results, Tryd.results19, go_sem]; rfl) rfl ⟨rfl, hb.out.alloc (Nat.le_refl _) _⟩
theorem OK15 (w : World) : Calls Tryd.prog 20 #[] w fun e w' => e = .returned (replyV 1 0 ⟨#[79, 75]⟩) ∧ Below w.heap.size w w' := by
  have hb := Lib.hid (Below.refl w.heap.size w)
  go_enter Tryd.func20, Tryd.ntmps20
  go_wp2
  exact bodyPost_ret (v := replyV 1 0 ⟨#[79, 75]⟩) (by simp [results, Tryd.results20, go_sem]; rfl) rfl ⟨rfl, hb.out.alloc (Nat.le_refl _) _⟩
theorem Simple18 (s : ByteArray) (w : World) : Calls Tryd.prog 23 #[.string s] w fun e w' => e = .returned (replyV 1 0 s) ∧ Below w.heap.size w w' := by
  have hb := Lib.hid (Below.refl w.heap.size w)
  go_enter Tryd.func23, Tryd.ntmps23
  go_wp2
  exact bodyPost_ret (v := replyV 1 0 s) (by simp [results, Tryd.results23, go_sem]; rfl) rfl ⟨rfl, hb.out.alloc (Nat.le_refl _) _⟩
theorem groups21 (w : World) : Calls Tryd.prog 27 #[.string ⟨#[71, 69, 84]⟩, .int .i64 2] w fun e w' => e = .returned (.bool true) ∧ w = w' := by
  go_enter Tryd.func27, Tryd.ntmps27
  go_wp2
  go_ret
  exact ⟨rfl, rfl⟩
end Go.Proofs.YtnfflkappbjoeaaDoor
