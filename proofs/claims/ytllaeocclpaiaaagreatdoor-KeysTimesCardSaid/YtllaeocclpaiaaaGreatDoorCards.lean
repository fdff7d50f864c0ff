/-
  DERIVED. GIVEN WITH THE SEED: THE CARDS: each row of YtllaeocclpaiaaaGreatDoorRows.lean that lists a variable, with what it lists TIED to the program's text (the seventh form; the later family's looks); each row that meets fmt, with fmt's text TOLD by the authors' own Lean function (tested against real Go, not proved from fmt's source: count such statements apart). THE CARD IS WHAT COUNTS. Prove the row's statement (the work); the ties are given (YtllaeocclpaiaaaGreatDoorTie.lean); close each card by the builder's one call (the guide's Derived/Test/ToyasCard.lean, 'card_holds'). Laid BY PROGRAM, IN A SANDBOX (cutbox-door.mjs). By AI agents, Wed Nov 11 2026. No macro, syntax, notation, axiom, sorry.
-/
import Derived.Test.YtllaeocclpaiaaaGreatDoorRows
import GoSem.ClaimSeven
namespace Go.Proofs.YtllaeocclpaiaaaGreatDoor
namespace Rows

/-- THE TIED CARD OF 'scriptoriumlaw26.KeysTimes'. -/
def keysTimesCard : Claim7 := { stood := { row := keysTimesRow, standIns := [], harness := (true, "bb968cc31922cc493d83d27406fa0649483d344b6faead6c206042f8b33678f0"), looks := true }, kinds := [], alts := [], laidByText := true, laidKinds := [.data, .data, .data], laidTests := true, laidLooks := .later }
def KeysTimesCardSaid : Prop := Claim7.holds Tryz.pinned (.plain (OpenSpec.ofChange keysTimesSpec)) keysTimesCard

/-- THE SECOND FORM's CARD OF 'scriptoriumlaw26.KeysTimes'. -/
def keysTimesUptoCard : Claim7 := { stood := { row := keysTimesUptoRow, standIns := [], harness := (true, "bb968cc31922cc493d83d27406fa0649483d344b6faead6c206042f8b33678f0"), looks := true }, kinds := [], alts := [], laidByText := true, laidKinds := [.data, .data, .data], laidTests := true, laidLooks := .later }
def KeysTimesUptoCardSaid : Prop := Claim7.holds Tryz.pinned (.plain (OpenSpec.upto keysTimesSpec)) keysTimesUptoCard
end Rows
end Go.Proofs.YtllaeocclpaiaaaGreatDoor
