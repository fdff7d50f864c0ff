/-
  DERIVED. GIVEN WITH THE SEED: THE CARDS: each row of YticlacjpgjkhcaaGreatDoorRows.lean that lists a variable, with what it lists TIED to the program's text (the seventh form; the later family's looks); each row that meets fmt, with fmt's text TOLD by the authors' own Lean function (tested against real Go, not proved from fmt's source: count such statements apart). THE CARD IS WHAT COUNTS. Prove the row's statement (the work); the ties are given (YticlacjpgjkhcaaGreatDoorTie.lean); close each card by the builder's one call (the guide's Derived/Test/ToyasCard.lean, 'card_holds'). Laid BY PROGRAM, IN A SANDBOX (cutbox-door.mjs). By AI agents, Wed Nov 11 2026. No macro, syntax, notation, axiom, sorry.
-/
import Derived.Test.YticlacjpgjkhcaaGreatDoorRows
import GoSem.ClaimSeven
namespace Go.Proofs.YticlacjpgjkhcaaGreatDoor
namespace Rows

/-- THE TIED CARD OF 'scriptoriumlaw31.PointsTurns'. -/
def pointsTurnsCard : Claim7 := { stood := { row := pointsTurnsRow, standIns := [], harness := (true, "c7edf96bfaaeecae9d4ae20fd69e2b19097b888b33821107bc34386cf0a058dd"), looks := true }, kinds := [], alts := [], laidByText := true, laidKinds := [.data, .data, .data], laidTests := true, laidLooks := .later }
def PointsTurnsCardSaid : Prop := Claim7.holds Tryz.pinned (.plain (OpenSpec.ofChange pointsTurnsSpec)) pointsTurnsCard

/-- THE TIED CARD OF 'scriptoriumlaw31.PointsNear'. -/
def pointsNearCard : Claim7 := { stood := { row := pointsNearRow, standIns := [], harness := (true, "c7edf96bfaaeecae9d4ae20fd69e2b19097b888b33821107bc34386cf0a058dd"), looks := true }, kinds := [], alts := [], laidByText := true, laidKinds := [.data, .data, .data], laidTests := true, laidLooks := .later }
def PointsNearCardSaid : Prop := Claim7.holds Tryz.pinned (.plain (OpenSpec.ofChange pointsNearSpec)) pointsNearCard

/-- THE TIED CARD OF 'scriptoriumlaw30.ScoresTrim'. -/
def scoresTrimCard : Claim7 := { stood := { row := scoresTrimRow, standIns := [], harness := (true, "c7edf96bfaaeecae9d4ae20fd69e2b19097b888b33821107bc34386cf0a058dd"), looks := true }, kinds := [], alts := [], laidByText := true, laidKinds := [.data, .data, .data], laidTests := true, laidLooks := .later }
def ScoresTrimCardSaid : Prop := Claim7.holds Tryz.pinned (.plain (OpenSpec.ofChange scoresTrimSpec)) scoresTrimCard

/-- THE TIED CARD OF 'scriptoriumlaw30.ScoresMoves'. -/
def scoresMovesCard : Claim7 := { stood := { row := scoresMovesRow, standIns := [], harness := (true, "c7edf96bfaaeecae9d4ae20fd69e2b19097b888b33821107bc34386cf0a058dd"), looks := true }, kinds := [], alts := [], laidByText := true, laidKinds := [.data, .data, .data], laidTests := true, laidLooks := .later }
def ScoresMovesCardSaid : Prop := Claim7.holds Tryz.pinned (.plain (OpenSpec.ofChange scoresMovesSpec)) scoresMovesCard

/-- THE TIED CARD OF 'scriptoriumlaw29.HashesFields'. -/
def hashesFieldsCard : Claim7 := { stood := { row := hashesFieldsRow, standIns := [], harness := (true, "c7edf96bfaaeecae9d4ae20fd69e2b19097b888b33821107bc34386cf0a058dd"), looks := true }, kinds := [], alts := [], laidByText := true, laidKinds := [.data, .data, .data], laidTests := true, laidLooks := .later }
def HashesFieldsCardSaid : Prop := Claim7.holds Tryz.pinned (.plain (OpenSpec.ofChange hashesFieldsSpec)) hashesFieldsCard

/-- THE TIED CARD OF 'scriptoriumlaw29.HashesCounts'. -/
def hashesCountsCard : Claim7 := { stood := { row := hashesCountsRow, standIns := [], harness := (true, "c7edf96bfaaeecae9d4ae20fd69e2b19097b888b33821107bc34386cf0a058dd"), looks := true }, kinds := [], alts := [], laidByText := true, laidKinds := [.data, .data, .data], laidTests := true, laidLooks := .later }
def HashesCountsCardSaid : Prop := Claim7.holds Tryz.pinned (.plain (OpenSpec.ofChange hashesCountsSpec)) hashesCountsCard

/-- THE TIED CARD OF 'scriptoriumlaw30.ScoresRanks'. -/
def scoresRanksCard : Claim7 := { stood := { row := scoresRanksRow, standIns := [], harness := (true, "c7edf96bfaaeecae9d4ae20fd69e2b19097b888b33821107bc34386cf0a058dd"), looks := true }, kinds := [], alts := [], laidByText := true, laidKinds := [.data, .data, .data], laidTests := true, laidLooks := .later }
def ScoresRanksCardSaid : Prop := Claim7.holds Tryz.pinned (.plain (OpenSpec.ofChange scoresRanksSpec)) scoresRanksCard

/-- THE SECOND FORM's CARD OF 'scriptoriumlaw31.PointsTurns'. -/
def pointsTurnsUptoCard : Claim7 := { stood := { row := pointsTurnsUptoRow, standIns := [], harness := (true, "c7edf96bfaaeecae9d4ae20fd69e2b19097b888b33821107bc34386cf0a058dd"), looks := true }, kinds := [], alts := [], laidByText := true, laidKinds := [.data, .data, .data], laidTests := true, laidLooks := .later }
def PointsTurnsUptoCardSaid : Prop := Claim7.holds Tryz.pinned (.plain (OpenSpec.upto pointsTurnsSpec)) pointsTurnsUptoCard

/-- THE SECOND FORM's CARD OF 'scriptoriumlaw31.PointsNear'. -/
def pointsNearUptoCard : Claim7 := { stood := { row := pointsNearUptoRow, standIns := [], harness := (true, "c7edf96bfaaeecae9d4ae20fd69e2b19097b888b33821107bc34386cf0a058dd"), looks := true }, kinds := [], alts := [], laidByText := true, laidKinds := [.data, .data, .data], laidTests := true, laidLooks := .later }
def PointsNearUptoCardSaid : Prop := Claim7.holds Tryz.pinned (.plain (OpenSpec.upto pointsNearSpec)) pointsNearUptoCard

/-- THE SECOND FORM's CARD OF 'scriptoriumlaw30.ScoresTrim'. -/
def scoresTrimUptoCard : Claim7 := { stood := { row := scoresTrimUptoRow, standIns := [], harness := (true, "c7edf96bfaaeecae9d4ae20fd69e2b19097b888b33821107bc34386cf0a058dd"), looks := true }, kinds := [], alts := [], laidByText := true, laidKinds := [.data, .data, .data], laidTests := true, laidLooks := .later }
def ScoresTrimUptoCardSaid : Prop := Claim7.holds Tryz.pinned (.plain (OpenSpec.upto scoresTrimSpec)) scoresTrimUptoCard

/-- THE SECOND FORM's CARD OF 'scriptoriumlaw30.ScoresMoves'. -/
def scoresMovesUptoCard : Claim7 := { stood := { row := scoresMovesUptoRow, standIns := [], harness := (true, "c7edf96bfaaeecae9d4ae20fd69e2b19097b888b33821107bc34386cf0a058dd"), looks := true }, kinds := [], alts := [], laidByText := true, laidKinds := [.data, .data, .data], laidTests := true, laidLooks := .later }
def ScoresMovesUptoCardSaid : Prop := Claim7.holds Tryz.pinned (.plain (OpenSpec.upto scoresMovesSpec)) scoresMovesUptoCard

/-- THE SECOND FORM's CARD OF 'scriptoriumlaw29.HashesFields'. -/
def hashesFieldsUptoCard : Claim7 := { stood := { row := hashesFieldsUptoRow, standIns := [], harness := (true, "c7edf96bfaaeecae9d4ae20fd69e2b19097b888b33821107bc34386cf0a058dd"), looks := true }, kinds := [], alts := [], laidByText := true, laidKinds := [.data, .data, .data], laidTests := true, laidLooks := .later }
def HashesFieldsUptoCardSaid : Prop := Claim7.holds Tryz.pinned (.plain (OpenSpec.upto hashesFieldsSpec)) hashesFieldsUptoCard

/-- THE SECOND FORM's CARD OF 'scriptoriumlaw29.HashesCounts'. -/
def hashesCountsUptoCard : Claim7 := { stood := { row := hashesCountsUptoRow, standIns := [], harness := (true, "c7edf96bfaaeecae9d4ae20fd69e2b19097b888b33821107bc34386cf0a058dd"), looks := true }, kinds := [], alts := [], laidByText := true, laidKinds := [.data, .data, .data], laidTests := true, laidLooks := .later }
def HashesCountsUptoCardSaid : Prop := Claim7.holds Tryz.pinned (.plain (OpenSpec.upto hashesCountsSpec)) hashesCountsUptoCard

/-- THE SECOND FORM's CARD OF 'scriptoriumlaw30.ScoresRanks'. -/
def scoresRanksUptoCard : Claim7 := { stood := { row := scoresRanksUptoRow, standIns := [], harness := (true, "c7edf96bfaaeecae9d4ae20fd69e2b19097b888b33821107bc34386cf0a058dd"), looks := true }, kinds := [], alts := [], laidByText := true, laidKinds := [.data, .data, .data], laidTests := true, laidLooks := .later }
def ScoresRanksUptoCardSaid : Prop := Claim7.holds Tryz.pinned (.plain (OpenSpec.upto scoresRanksSpec)) scoresRanksUptoCard
end Rows
end Go.Proofs.YticlacjpgjkhcaaGreatDoor
