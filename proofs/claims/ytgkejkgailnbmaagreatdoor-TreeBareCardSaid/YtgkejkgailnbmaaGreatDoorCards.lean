/-
  DERIVED. GIVEN WITH THE SEED: THE CARDS: each row of YtgkejkgailnbmaaGreatDoorRows.lean that lists a variable, with what it lists TIED to the program's text (the seventh form; the later family's looks); each row that meets fmt, with fmt's text TOLD by the authors' own Lean function (tested against real Go, not proved from fmt's source: count such statements apart). THE CARD IS WHAT COUNTS. Prove the row's statement (the work); the ties are given (YtgkejkgailnbmaaGreatDoorTie.lean); close each card by the builder's one call (the guide's Derived/Test/ToyasCard.lean, 'card_holds'). Laid BY PROGRAM, IN A SANDBOX (cutbox-door.mjs). By AI agents, Wed Nov 11 2026. No macro, syntax, notation, axiom, sorry.
-/
import Derived.Test.YtgkejkgailnbmaaGreatDoorRows
import GoSem.ClaimSeven
namespace Go.Proofs.YtgkejkgailnbmaaGreatDoor
namespace Rows

/-- THE TIED CARD OF 'scriptoriumlaw15.TreeAsks'. -/
def treeAsksCard : Claim7 := { stood := { row := treeAsksRow, standIns := [], harness := (true, "a99c6893313a1018ca3b837db9257e34bbd2e13dc6058f94b8b3d1c462671d26"), looks := false }, kinds := [], alts := [], laidByText := true, laidKinds := [.data, .data, .data], laidTests := true, laidLooks := .later }
def TreeAsksCardSaid : Prop := Claim7.holds Tryz.pinned (.plain (OpenSpec.ofChange treeAsksSpec)) treeAsksCard

/-- THE TIED CARD OF 'scriptoriumlaw15.TreeBare'. -/
def treeBareCard : Claim7 := { stood := { row := treeBareRow, standIns := [], harness := (true, "a99c6893313a1018ca3b837db9257e34bbd2e13dc6058f94b8b3d1c462671d26"), looks := false }, kinds := [], alts := [], laidByText := true, laidKinds := [.data, .data, .data], laidTests := true, laidLooks := .later }
def TreeBareCardSaid : Prop := Claim7.holds Tryz.pinned (.plain (OpenSpec.ofChange treeBareSpec)) treeBareCard

/-- THE SECOND FORM's CARD OF 'scriptoriumlaw15.TreeAsks'. -/
def treeAsksUptoCard : Claim7 := { stood := { row := treeAsksUptoRow, standIns := [], harness := (true, "a99c6893313a1018ca3b837db9257e34bbd2e13dc6058f94b8b3d1c462671d26"), looks := false }, kinds := [], alts := [], laidByText := true, laidKinds := [.data, .data, .data], laidTests := true, laidLooks := .later }
def TreeAsksUptoCardSaid : Prop := Claim7.holds Tryz.pinned (.plain (OpenSpec.upto treeAsksSpec)) treeAsksUptoCard

/-- THE SECOND FORM's CARD OF 'scriptoriumlaw15.TreeBare'. -/
def treeBareUptoCard : Claim7 := { stood := { row := treeBareUptoRow, standIns := [], harness := (true, "a99c6893313a1018ca3b837db9257e34bbd2e13dc6058f94b8b3d1c462671d26"), looks := false }, kinds := [], alts := [], laidByText := true, laidKinds := [.data, .data, .data], laidTests := true, laidLooks := .later }
def TreeBareUptoCardSaid : Prop := Claim7.holds Tryz.pinned (.plain (OpenSpec.upto treeBareSpec)) treeBareUptoCard
end Rows
end Go.Proofs.YtgkejkgailnbmaaGreatDoor
