/-
  DERIVED. GIVEN WITH THE SEED: THE CARDS: each row of YtnfflkappbjoeaaDoorRows.lean that lists a variable, with what it lists TIED to the program's text (the seventh form; the later family's looks); each row that meets fmt, with fmt's text TOLD by the authors' own Lean function (tested against real Go, not proved from fmt's source: count such statements apart). THE CARD IS WHAT COUNTS. Prove the row's statement (the work); the ties are given (YtnfflkappbjoeaaDoorTie.lean); close each card by the builder's one call (the guide's Derived/Test/ToyasCard.lean, 'card_holds'). Laid BY PROGRAM, IN A SANDBOX (cutbox-door.mjs). By AI agents, Wed Nov 11 2026. No macro, syntax, notation, axiom, sorry.
-/
import Derived.Test.YtnfflkappbjoeaaDoorRows
import GoSem.ClaimSeven
namespace Go.Proofs.YtnfflkappbjoeaaDoor
namespace Rows

/-- THE TIED CARD OF 'scriptoriumlaw37.SessionPieces'. -/
def sessionPiecesCard : Claim7 := { stood := { row := sessionPiecesRow, standIns := [], harness := (true, "d958b58d0f5c07ee3913201492f7b20a6877fab1fb6b590e41e56985fe3e0532"), looks := false }, kinds := [], alts := [], laidByText := true, laidKinds := [.data, .data, .data], laidTests := true, laidLooks := .later }
def SessionPiecesCardSaid : Prop := Claim7.holds Tryd.pinned (.plain (OpenSpec.ofChange sessionPiecesSpec)) sessionPiecesCard

/-- THE SECOND FORM's CARD OF 'scriptoriumlaw37.SessionPieces'. -/
def sessionPiecesUptoCard : Claim7 := { stood := { row := sessionPiecesUptoRow, standIns := [], harness := (true, "d958b58d0f5c07ee3913201492f7b20a6877fab1fb6b590e41e56985fe3e0532"), looks := false }, kinds := [], alts := [], laidByText := true, laidKinds := [.data, .data, .data], laidTests := true, laidLooks := .later }
def SessionPiecesUptoCardSaid : Prop := Claim7.holds Tryd.pinned (.plain (OpenSpec.upto sessionPiecesSpec)) sessionPiecesUptoCard
end Rows
end Go.Proofs.YtnfflkappbjoeaaDoor
