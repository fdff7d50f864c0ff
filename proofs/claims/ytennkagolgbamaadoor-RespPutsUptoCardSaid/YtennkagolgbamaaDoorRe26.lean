/- The law RespPuts at a reply that comes in. -/
import Derived.Test.YtennkagolgbamaaDoorRe24
import Derived.Test.YtennkagolgbamaaDoorRe25
namespace Go.Proofs.YtennkagolgbamaaDoor
open Go.ChangeShapes Go.WideShapes Go.ChangeAt Go.RowKit Go.Resp Go.Joins Go.Deep

theorem puts_law {H : Type} {enc : TypeId × Value → H} {W : World} {base : Nat} {v : Value} {d : DataW H} {ps : List MemPlace} (hT : Tab W) (hv : Value.okWide Tryd.prog W .any base 24 v)
    (h : DataW.Trod enc Tryd.prog W 0 (fun _ => true) true 24 v d ps) (hb : Rows.uptoBulk d ≤ 1048576) : Calls Tryd.prog 3 #[v] W fun e w' => e = .returned (.bool true) ∧ Below W.heap.size W w' := by
  obtain ⟨cs, rfl, hsz⟩ := okWide_struct Tryd.underlying24 hv
  obtain ⟨fuel, hf⟩ := h
  obtain ⟨k, n, s, l, out, hcs, hr⟩ := RV.of_trod (W := W) _ fuel _ d ps (Nat.le_refl _) hf
  obtain ⟨A, m, cap, rfl⟩ := hr.sl
  have e : cs = #[.int .i64 k, .int .i64 n, .string s, .slice A m cap] := by
    have h2 : cs.toList = repC k n s (.slice A m cap) := hcs
    apply Array.toList_inj.1
    rw [h2]; rfl
  subst e
  exact puts_walk hT hr hb
end Go.Proofs.YtennkagolgbamaaDoor
