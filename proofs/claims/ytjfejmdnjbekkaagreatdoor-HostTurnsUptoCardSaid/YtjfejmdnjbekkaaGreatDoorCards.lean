/-
  DERIVED. GIVEN WITH THE SEED: THE CARDS: each row of YtjfejmdnjbekkaaGreatDoorRows.lean that lists a variable, with what it lists TIED to the program's text (the seventh form; the later family's looks); each row that meets fmt, with fmt's text TOLD by the authors' own Lean function (tested against real Go, not proved from fmt's source: count such statements apart). THE CARD IS WHAT COUNTS. Prove the row's statement (the work); the ties are given (YtjfejmdnjbekkaaGreatDoorTie.lean); close each card by the builder's one call (the guide's Derived/Test/ToyasCard.lean, 'card_holds'). Laid BY PROGRAM, IN A SANDBOX (cutbox-door.mjs). By AI agents, Wed Nov 11 2026. No macro, syntax, notation, axiom, sorry.
-/
import Derived.Test.YtjfejmdnjbekkaaGreatDoorRows
import GoSem.ClaimSeven
namespace Go.Proofs.YtjfejmdnjbekkaaGreatDoor
namespace Rows

/-- THE TIED CARD OF 'scriptoriumlaw33.HostTurns'. -/
def hostTurnsCard : Claim7 := { stood := { row := hostTurnsRow, standIns := [], harness := (true, "82d5fd33c6c952923589a53e07f58665f481cd3b93d5dce48f1af4eb145f6ab7"), looks := true }, kinds := [], alts := [], laidByText := true, laidKinds := [.data, .data, .data], laidTests := true, laidLooks := .later }
def HostTurnsCardSaid : Prop := Claim7.holds Tryz.pinned (.plain (OpenSpec.ofChange hostTurnsSpec)) hostTurnsCard

/-- THE TIED CARD OF 'scriptoriumlaw33.HostBack'. -/
def hostBackCard : Claim7 := { stood := { row := hostBackRow, standIns := [], harness := (true, "82d5fd33c6c952923589a53e07f58665f481cd3b93d5dce48f1af4eb145f6ab7"), looks := true }, kinds := [], alts := [], laidByText := true, laidKinds := [.data, .data, .data], laidTests := true, laidLooks := .later }
def HostBackCardSaid : Prop := Claim7.holds Tryz.pinned (.plain (OpenSpec.ofChange hostBackSpec)) hostBackCard

/-- THE SECOND FORM's CARD OF 'scriptoriumlaw33.HostTurns'. -/
def hostTurnsUptoCard : Claim7 := { stood := { row := hostTurnsUptoRow, standIns := [], harness := (true, "82d5fd33c6c952923589a53e07f58665f481cd3b93d5dce48f1af4eb145f6ab7"), looks := true }, kinds := [], alts := [], laidByText := true, laidKinds := [.data, .data, .data], laidTests := true, laidLooks := .later }
def HostTurnsUptoCardSaid : Prop := Claim7.holds Tryz.pinned (.plain (OpenSpec.upto hostTurnsSpec)) hostTurnsUptoCard

/-- THE SECOND FORM's CARD OF 'scriptoriumlaw33.HostBack'. -/
def hostBackUptoCard : Claim7 := { stood := { row := hostBackUptoRow, standIns := [], harness := (true, "82d5fd33c6c952923589a53e07f58665f481cd3b93d5dce48f1af4eb145f6ab7"), looks := true }, kinds := [], alts := [], laidByText := true, laidKinds := [.data, .data, .data], laidTests := true, laidLooks := .later }
def HostBackUptoCardSaid : Prop := Claim7.holds Tryz.pinned (.plain (OpenSpec.upto hostBackSpec)) hostBackUptoCard
end Rows
end Go.Proofs.YtjfejmdnjbekkaaGreatDoor
