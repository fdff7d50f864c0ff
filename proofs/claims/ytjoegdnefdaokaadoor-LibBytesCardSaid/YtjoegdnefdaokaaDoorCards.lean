/-
  DERIVED. GIVEN WITH THE SEED: THE CARDS: each row of YtjoegdnefdaokaaDoorRows.lean that lists a variable, with what it lists TIED to the program's text (the seventh form; the later family's looks); each row that meets fmt, with fmt's text TOLD by the authors' own Lean function (tested against real Go, not proved from fmt's source: count such statements apart). THE CARD IS WHAT COUNTS. Prove the row's statement (the work); the ties are given (YtjoegdnefdaokaaDoorTie.lean); close each card by the builder's one call (the guide's Derived/Test/ToyasCard.lean, 'card_holds'). Laid BY PROGRAM, IN A SANDBOX (cutbox-door.mjs). By AI agents, Wed Nov 11 2026. No macro, syntax, notation, axiom, sorry.
-/
import Derived.Test.YtjoegdnefdaokaaDoorRows
import GoSem.ClaimSeven
namespace Go.Proofs.YtjoegdnefdaokaaDoor
namespace Rows

/-- THE TIED CARD OF 'scriptoriumlaw20.LibParts'. -/
def libPartsCard : Claim7 := { stood := { row := libPartsRow, standIns := [], harness := (true, "df78793f710b95fff268adfa62aa0275a1ebeaf0c87d36adf94a33c3cbda5c64"), looks := false }, kinds := [], alts := [], laidByText := true, laidKinds := [.data, .data, .data], laidTests := true, laidLooks := .later }
def LibPartsCardSaid : Prop := Claim7.holds Tryd.pinned (.plain (OpenSpec.ofChange libPartsSpec)) libPartsCard

/-- THE TIED CARD OF 'scriptoriumlaw20.LibBytes'. -/
def libBytesCard : Claim7 := { stood := { row := libBytesRow, standIns := [], harness := (true, "df78793f710b95fff268adfa62aa0275a1ebeaf0c87d36adf94a33c3cbda5c64"), looks := false }, kinds := [], alts := [], laidByText := true, laidKinds := [.data, .data, .data], laidTests := true, laidLooks := .later }
def LibBytesCardSaid : Prop := Claim7.holds Tryd.pinned (.plain (OpenSpec.ofChange libBytesSpec)) libBytesCard

/-- THE TIED CARD OF 'scriptoriumlaw20.LibTimes'. -/
def libTimesCard : Claim7 := { stood := { row := libTimesRow, standIns := [], harness := (true, "df78793f710b95fff268adfa62aa0275a1ebeaf0c87d36adf94a33c3cbda5c64"), looks := false }, kinds := [], alts := [], laidByText := true, laidKinds := [.data, .data, .data], laidTests := true, laidLooks := .later }
def LibTimesCardSaid : Prop := Claim7.holds Tryd.pinned (.plain (OpenSpec.ofChange libTimesSpec)) libTimesCard

/-- THE SECOND FORM's CARD OF 'scriptoriumlaw20.LibParts'. -/
def libPartsUptoCard : Claim7 := { stood := { row := libPartsUptoRow, standIns := [], harness := (true, "df78793f710b95fff268adfa62aa0275a1ebeaf0c87d36adf94a33c3cbda5c64"), looks := false }, kinds := [], alts := [], laidByText := true, laidKinds := [.data, .data, .data], laidTests := true, laidLooks := .later }
def LibPartsUptoCardSaid : Prop := Claim7.holds Tryd.pinned (.plain (OpenSpec.upto libPartsSpec)) libPartsUptoCard

/-- THE SECOND FORM's CARD OF 'scriptoriumlaw20.LibBytes'. -/
def libBytesUptoCard : Claim7 := { stood := { row := libBytesUptoRow, standIns := [], harness := (true, "df78793f710b95fff268adfa62aa0275a1ebeaf0c87d36adf94a33c3cbda5c64"), looks := false }, kinds := [], alts := [], laidByText := true, laidKinds := [.data, .data, .data], laidTests := true, laidLooks := .later }
def LibBytesUptoCardSaid : Prop := Claim7.holds Tryd.pinned (.plain (OpenSpec.upto libBytesSpec)) libBytesUptoCard

/-- THE SECOND FORM's CARD OF 'scriptoriumlaw20.LibTimes'. -/
def libTimesUptoCard : Claim7 := { stood := { row := libTimesUptoRow, standIns := [], harness := (true, "df78793f710b95fff268adfa62aa0275a1ebeaf0c87d36adf94a33c3cbda5c64"), looks := false }, kinds := [], alts := [], laidByText := true, laidKinds := [.data, .data, .data], laidTests := true, laidLooks := .later }
def LibTimesUptoCardSaid : Prop := Claim7.holds Tryd.pinned (.plain (OpenSpec.upto libTimesSpec)) libTimesUptoCard
end Rows
end Go.Proofs.YtjoegdnefdaokaaDoor
