/-
  DERIVED. GIVEN WITH THE SEED: THE CARDS: each row of YtaomiglmahklfaaGreatDoorRows.lean that lists a variable, with what it lists TIED to the program's text (the seventh form; the later family's looks); each row that meets fmt, with fmt's text TOLD by the authors' own Lean function (tested against real Go, not proved from fmt's source: count such statements apart). THE CARD IS WHAT COUNTS. Prove the row's statement (the work); the ties are given (YtaomiglmahklfaaGreatDoorTie.lean); close each card by the builder's one call (the guide's Derived/Test/ToyasCard.lean, 'card_holds'). Laid BY PROGRAM, IN A SANDBOX (cutbox-door.mjs). By AI agents, Wed Nov 11 2026. No macro, syntax, notation, axiom, sorry.
-/
import Derived.Test.YtaomiglmahklfaaGreatDoorRows
import GoSem.ClaimSeven
namespace Go.Proofs.YtaomiglmahklfaaGreatDoor
namespace Rows

/-- THE TIED CARD OF 'scriptoriumlaw27.StringsMany'. -/
def stringsManyCard : Claim7 := { stood := { row := stringsManyRow, standIns := [], harness := (true, "860c536134a423c37d5c6f26ccc457a8804b26de826f59b314117366ede18070"), looks := true }, kinds := [], alts := [], laidByText := true, laidKinds := [.data, .data, .data], laidTests := true, laidLooks := .later }
def StringsManyCardSaid : Prop := Claim7.holds Tryz.pinned (.plain (OpenSpec.ofChange stringsManySpec)) stringsManyCard

/-- THE TIED CARD OF 'scriptoriumlaw27.StringsOptions'. -/
def stringsOptionsCard : Claim7 := { stood := { row := stringsOptionsRow, standIns := [], harness := (true, "860c536134a423c37d5c6f26ccc457a8804b26de826f59b314117366ede18070"), looks := true }, kinds := [], alts := [], laidByText := true, laidKinds := [.data, .data, .data], laidTests := true, laidLooks := .later }
def StringsOptionsCardSaid : Prop := Claim7.holds Tryz.pinned (.plain (OpenSpec.ofChange stringsOptionsSpec)) stringsOptionsCard

/-- THE TIED CARD OF 'scriptoriumlaw27.StringsWrites'. -/
def stringsWritesCard : Claim7 := { stood := { row := stringsWritesRow, standIns := [], harness := (true, "860c536134a423c37d5c6f26ccc457a8804b26de826f59b314117366ede18070"), looks := true }, kinds := [], alts := [], laidByText := true, laidKinds := [.data, .data, .data], laidTests := true, laidLooks := .later }
def StringsWritesCardSaid : Prop := Claim7.holds Tryz.pinned (.plain (OpenSpec.ofChange stringsWritesSpec)) stringsWritesCard

/-- THE TIED CARD OF 'scriptoriumlaw27.StringsSet'. -/
def stringsSetCard : Claim7 := { stood := { row := stringsSetRow, standIns := [], harness := (true, "860c536134a423c37d5c6f26ccc457a8804b26de826f59b314117366ede18070"), looks := true }, kinds := [], alts := [], laidByText := true, laidKinds := [.data, .data, .data], laidTests := true, laidLooks := .later }
def StringsSetCardSaid : Prop := Claim7.holds Tryz.pinned (.plain (OpenSpec.ofChange stringsSetSpec)) stringsSetCard

/-- THE TIED CARD OF 'scriptoriumlaw27.StringsCounts'. -/
def stringsCountsCard : Claim7 := { stood := { row := stringsCountsRow, standIns := [], harness := (true, "860c536134a423c37d5c6f26ccc457a8804b26de826f59b314117366ede18070"), looks := true }, kinds := [], alts := [], laidByText := true, laidKinds := [.data, .data, .data], laidTests := true, laidLooks := .later }
def StringsCountsCardSaid : Prop := Claim7.holds Tryz.pinned (.plain (OpenSpec.ofChange stringsCountsSpec)) stringsCountsCard

/-- THE SECOND FORM's CARD OF 'scriptoriumlaw27.StringsMany'. -/
def stringsManyUptoCard : Claim7 := { stood := { row := stringsManyUptoRow, standIns := [], harness := (true, "860c536134a423c37d5c6f26ccc457a8804b26de826f59b314117366ede18070"), looks := true }, kinds := [], alts := [], laidByText := true, laidKinds := [.data, .data, .data], laidTests := true, laidLooks := .later }
def StringsManyUptoCardSaid : Prop := Claim7.holds Tryz.pinned (.plain (OpenSpec.upto stringsManySpec)) stringsManyUptoCard

/-- THE SECOND FORM's CARD OF 'scriptoriumlaw27.StringsOptions'. -/
def stringsOptionsUptoCard : Claim7 := { stood := { row := stringsOptionsUptoRow, standIns := [], harness := (true, "860c536134a423c37d5c6f26ccc457a8804b26de826f59b314117366ede18070"), looks := true }, kinds := [], alts := [], laidByText := true, laidKinds := [.data, .data, .data], laidTests := true, laidLooks := .later }
def StringsOptionsUptoCardSaid : Prop := Claim7.holds Tryz.pinned (.plain (OpenSpec.upto stringsOptionsSpec)) stringsOptionsUptoCard

/-- THE SECOND FORM's CARD OF 'scriptoriumlaw27.StringsWrites'. -/
def stringsWritesUptoCard : Claim7 := { stood := { row := stringsWritesUptoRow, standIns := [], harness := (true, "860c536134a423c37d5c6f26ccc457a8804b26de826f59b314117366ede18070"), looks := true }, kinds := [], alts := [], laidByText := true, laidKinds := [.data, .data, .data], laidTests := true, laidLooks := .later }
def StringsWritesUptoCardSaid : Prop := Claim7.holds Tryz.pinned (.plain (OpenSpec.upto stringsWritesSpec)) stringsWritesUptoCard

/-- THE SECOND FORM's CARD OF 'scriptoriumlaw27.StringsSet'. -/
def stringsSetUptoCard : Claim7 := { stood := { row := stringsSetUptoRow, standIns := [], harness := (true, "860c536134a423c37d5c6f26ccc457a8804b26de826f59b314117366ede18070"), looks := true }, kinds := [], alts := [], laidByText := true, laidKinds := [.data, .data, .data], laidTests := true, laidLooks := .later }
def StringsSetUptoCardSaid : Prop := Claim7.holds Tryz.pinned (.plain (OpenSpec.upto stringsSetSpec)) stringsSetUptoCard

/-- THE SECOND FORM's CARD OF 'scriptoriumlaw27.StringsCounts'. -/
def stringsCountsUptoCard : Claim7 := { stood := { row := stringsCountsUptoRow, standIns := [], harness := (true, "860c536134a423c37d5c6f26ccc457a8804b26de826f59b314117366ede18070"), looks := true }, kinds := [], alts := [], laidByText := true, laidKinds := [.data, .data, .data], laidTests := true, laidLooks := .later }
def StringsCountsUptoCardSaid : Prop := Claim7.holds Tryz.pinned (.plain (OpenSpec.upto stringsCountsSpec)) stringsCountsUptoCard
end Rows
end Go.Proofs.YtaomiglmahklfaaGreatDoor
