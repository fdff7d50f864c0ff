/-
  No cell of these rows narrows 'for every input' (looked for: loops, veiled, ifaces, maps, wideKeys, modest, calm, conditions, laid).
  DERIVED. THE GIVEN ROWS OF THIS SEAT. 2 by the template 'for every input the law returns true; each argument reads behind the call as it read before'; 0 by the template 'total and deterministic' (their statements: YtnfflkappbjoeaaTotals.lean).
  GIVEN WITH THE SEED: the statements are not yours to turn. If you find one false, say at which input.
  Laid BY PROGRAM, IN A SANDBOX (cutbox-rows.mjs): the forced cells as the released guide's own fill.sh prints them over the translation 608c0ea82a308098… (all of the seat's roots in one cut). By AI agents, Wed Nov 11 2026. No macro, syntax, notation, axiom, sorry.
-/
import Derived.Test.YtnfflkappbjoeaaChecked
import GoSem.Claim
import GoSem.ClaimJoined
import GoSem.ClaimMapViews
import Derived.JoinedTies
import Derived.KernelRfl
namespace Go.Proofs.Ytnfflkappbjoeaa
/- THE CELL 'sum', in the pinned program and in every row, IS THE sha256 OF THE DUMP (.gsa) THAT YtnfflkappbjoeaaProg.lean LOADS. Nothing in Lean hashes anything: it is a label: what it is worth is what the hold of that sum in a sandbox is worth. -/
noncomputable def Try.pinned : Pinned := { name := "ytnfflkappbjoeaa", sum := "608c0ea82a3080983826e63e1afd3daad157b0fc3f892ee2cdb30c681545d58d", checked := Try.checked }
namespace Rows
def none {H : Type} : Left H := { results := [], args := [] }

/-- 'scriptoriumlaw37.SessionQueues': WHATEVER THE INPUT: true; the input reads as it did. -/
def sessionQueuesSpec : ChangeSpec := { name := "sessionQueues", fn := fun _ => fun
  | [d1, d2] => { results := [.lit (.bool true)], args := [d1, d2] }
  | _ => none }
def sessionQueuesRow : OpenClaim := { program := "ytnfflkappbjoeaa", sum := "608c0ea82a3080983826e63e1afd3daad157b0fc3f892ee2cdb30c681545d58d", func := "scriptorium/scriptoriumlaw37.SessionQueues", spec := "sessionQueues", apart := false }
def SessionQueuesSaid : Prop := sessionQueuesRow.holds Try.pinned (OpenSpec.ofChange sessionQueuesSpec)

/-- ITS FALSE NEIGHBOUR: 'it returns false'. Refute it at one input. -/
def sessionQueuesWrong : ChangeSpec := { name := "sessionQueues", fn := fun _ => fun
  | [d1, d2] => { results := [.lit (.bool false)], args := [d1, d2] }
  | _ => none }
def SessionQueuesWrongFalsely : Prop := sessionQueuesRow.holds Try.pinned (OpenSpec.ofChange sessionQueuesWrong)

/-- 'scriptoriumlaw37.SessionFull': WHATEVER THE INPUT: true; the input reads as it did. -/
def sessionFullSpec : ChangeSpec := { name := "sessionFull", fn := fun _ => fun
  | [d] => { results := [.lit (.bool true)], args := [d] }
  | _ => none }
def sessionFullRow : OpenClaim := { program := "ytnfflkappbjoeaa", sum := "608c0ea82a3080983826e63e1afd3daad157b0fc3f892ee2cdb30c681545d58d", func := "scriptorium/scriptoriumlaw37.SessionFull", spec := "sessionFull", apart := false }
def SessionFullSaid : Prop := sessionFullRow.holds Try.pinned (OpenSpec.ofChange sessionFullSpec)

/-- ITS FALSE NEIGHBOUR: 'it returns false'. Refute it at one input. -/
def sessionFullWrong : ChangeSpec := { name := "sessionFull", fn := fun _ => fun
  | [d] => { results := [.lit (.bool false)], args := [d] }
  | _ => none }
def SessionFullWrongFalsely : Prop := sessionFullRow.holds Try.pinned (OpenSpec.ofChange sessionFullWrong)

/- THE SECOND FORM. 'bulk': how many values and letters a reading holds, each counted each time it is reached (what is shared counts as often as it is met; a slice's spare places count too). A statement '..UptoSaid' is the law's where the arguments, and the package variables that the reading takes, are together of bulk at most 1048576: NARROWER than '..Said'. Prove '..Said' where nothing that the law and all that it calls make is longer than what came in: it says more and counts as full. Else prove '..UptoSaid'. A law counts once. -/
mutual
def uptoBulk {H : Type} : DataW H → Nat
  | .lit (.string bytes) => bytes.length + 1
  | .lit _ => 1
  | .nil => 1
  | .ptr d => uptoBulk d + 1
  | .slice elems spare => uptoBulkAll elems + uptoBulkAll spare + 1
  | .agg parts => uptoBulkAll parts + 1
  | .iface _ d => uptoBulk d + 1
  | .map entries => uptoBulkEntries entries + 1
  | .held _ => 1
def uptoBulkAll {H : Type} : List (DataW H) → Nat
  | [] => 0
  | d :: r => uptoBulk d + uptoBulkAll r
def uptoBulkEntries {H : Type} : List (Lit × DataW H) → Nat
  | [] => 0
  | x :: r => uptoBulkEntry x + uptoBulkEntries r
def uptoBulkEntry {H : Type} : Lit × DataW H → Nat
  | (.string bytes, d) => bytes.length + uptoBulk d + 1
  | (_, d) => uptoBulk d + 1
 end
def uptoSmall : (H : Type) → List (DataW H) → Bool := fun _ ds => decide (uptoBulkAll ds ≤ 1048576)
def OpenSpec.upto (s : _root_.Go.ChangeSpec) : _root_.Go.OpenSpec := { _root_.Go.OpenSpec.ofChange s with cond := some uptoSmall }

/-- 'scriptoriumlaw37.SessionQueues', WHERE WHAT IT READS IS OF BULK AT MOST 1048576: true; the input reads as it did. -/
def sessionQueuesUptoRow : OpenClaim := { program := "ytnfflkappbjoeaa", sum := "608c0ea82a3080983826e63e1afd3daad157b0fc3f892ee2cdb30c681545d58d", func := "scriptorium/scriptoriumlaw37.SessionQueues", spec := "sessionQueues", apart := false, narrowed := true }
def SessionQueuesUptoSaid : Prop := sessionQueuesUptoRow.holds Try.pinned (OpenSpec.upto sessionQueuesSpec)

/-- 'scriptoriumlaw37.SessionFull', WHERE WHAT IT READS IS OF BULK AT MOST 1048576: true; the input reads as it did. -/
def sessionFullUptoRow : OpenClaim := { program := "ytnfflkappbjoeaa", sum := "608c0ea82a3080983826e63e1afd3daad157b0fc3f892ee2cdb30c681545d58d", func := "scriptorium/scriptoriumlaw37.SessionFull", spec := "sessionFull", apart := false, narrowed := true }
def SessionFullUptoSaid : Prop := sessionFullUptoRow.holds Try.pinned (OpenSpec.upto sessionFullSpec)

end Rows
end Go.Proofs.Ytnfflkappbjoeaa
