/-
  DERIVED. GIVEN WITH THE SEED: THE CARDS: each row of YtjljljjmdlddkaaGreatDoorRows.lean that lists a variable, with what it lists TIED to the program's text (the seventh form; the later family's looks); each row that meets fmt, with fmt's text TOLD by the authors' own Lean function (tested against real Go, not proved from fmt's source: count such statements apart). THE CARD IS WHAT COUNTS. Prove the row's statement (the work); the ties are given (YtjljljjmdlddkaaGreatDoorTie.lean); close each card by the builder's one call (the guide's Derived/Test/ToyasCard.lean, 'card_holds'). Laid BY PROGRAM, IN A SANDBOX (cutbox-door.mjs). By AI agents, Wed Nov 11 2026. No macro, syntax, notation, axiom, sorry.
-/
import Derived.Test.YtjljljjmdlddkaaGreatDoorRows
import GoSem.ClaimSeven
namespace Go.Proofs.YtjljljjmdlddkaaGreatDoor
namespace Rows

/-- THE TIED CARD OF 'scriptoriumlaw28.ListsPlaces'. -/
def listsPlacesCard : Claim7 := { stood := { row := listsPlacesRow, standIns := [], harness := (true, "a14ebcf401cae9815f616a761270d447a008805df8879431b40313c6243ccdd0"), looks := true }, kinds := [], alts := [], laidByText := true, laidKinds := [.data, .data, .data], laidTests := true, laidLooks := .later }
def ListsPlacesCardSaid : Prop := Claim7.holds Tryz.pinned (.plain (OpenSpec.ofChange listsPlacesSpec)) listsPlacesCard

/-- THE TIED CARD OF 'scriptoriumlaw28.ListsTurn'. -/
def listsTurnCard : Claim7 := { stood := { row := listsTurnRow, standIns := [], harness := (true, "a14ebcf401cae9815f616a761270d447a008805df8879431b40313c6243ccdd0"), looks := true }, kinds := [], alts := [], laidByText := true, laidKinds := [.data, .data, .data], laidTests := true, laidLooks := .later }
def ListsTurnCardSaid : Prop := Claim7.holds Tryz.pinned (.plain (OpenSpec.ofChange listsTurnSpec)) listsTurnCard

/-- THE TIED CARD OF 'scriptoriumlaw28.ListsTakes'. -/
def listsTakesCard : Claim7 := { stood := { row := listsTakesRow, standIns := [], harness := (true, "a14ebcf401cae9815f616a761270d447a008805df8879431b40313c6243ccdd0"), looks := true }, kinds := [], alts := [], laidByText := true, laidKinds := [.data, .data, .data], laidTests := true, laidLooks := .later }
def ListsTakesCardSaid : Prop := Claim7.holds Tryz.pinned (.plain (OpenSpec.ofChange listsTakesSpec)) listsTakesCard

/-- THE SECOND FORM's CARD OF 'scriptoriumlaw28.ListsPlaces'. -/
def listsPlacesUptoCard : Claim7 := { stood := { row := listsPlacesUptoRow, standIns := [], harness := (true, "a14ebcf401cae9815f616a761270d447a008805df8879431b40313c6243ccdd0"), looks := true }, kinds := [], alts := [], laidByText := true, laidKinds := [.data, .data, .data], laidTests := true, laidLooks := .later }
def ListsPlacesUptoCardSaid : Prop := Claim7.holds Tryz.pinned (.plain (OpenSpec.upto listsPlacesSpec)) listsPlacesUptoCard

/-- THE SECOND FORM's CARD OF 'scriptoriumlaw28.ListsTurn'. -/
def listsTurnUptoCard : Claim7 := { stood := { row := listsTurnUptoRow, standIns := [], harness := (true, "a14ebcf401cae9815f616a761270d447a008805df8879431b40313c6243ccdd0"), looks := true }, kinds := [], alts := [], laidByText := true, laidKinds := [.data, .data, .data], laidTests := true, laidLooks := .later }
def ListsTurnUptoCardSaid : Prop := Claim7.holds Tryz.pinned (.plain (OpenSpec.upto listsTurnSpec)) listsTurnUptoCard

/-- THE SECOND FORM's CARD OF 'scriptoriumlaw28.ListsTakes'. -/
def listsTakesUptoCard : Claim7 := { stood := { row := listsTakesUptoRow, standIns := [], harness := (true, "a14ebcf401cae9815f616a761270d447a008805df8879431b40313c6243ccdd0"), looks := true }, kinds := [], alts := [], laidByText := true, laidKinds := [.data, .data, .data], laidTests := true, laidLooks := .later }
def ListsTakesUptoCardSaid : Prop := Claim7.holds Tryz.pinned (.plain (OpenSpec.upto listsTakesSpec)) listsTakesUptoCard
end Rows
end Go.Proofs.YtjljljjmdlddkaaGreatDoor
