/-
  DERIVED. GIVEN WITH THE SEED: THE CARDS: each row of YtcogfggfbfoaoaaDoorRows.lean that lists a variable, with what it lists TIED to the program's text (the seventh form; the later family's looks); each row that meets fmt, with fmt's text TOLD by the authors' own Lean function (tested against real Go, not proved from fmt's source: count such statements apart). THE CARD IS WHAT COUNTS. Prove the row's statement (the work); the ties are given (YtcogfggfbfoaoaaDoorTie.lean); close each card by the builder's one call (the guide's Derived/Test/ToyasCard.lean, 'card_holds'). Laid BY PROGRAM, IN A SANDBOX (cutbox-door.mjs). By AI agents, Wed Nov 11 2026. No macro, syntax, notation, axiom, sorry.
-/
import Derived.Test.YtcogfggfbfoaoaaDoorRows
import GoSem.ClaimSeven
namespace Go.Proofs.YtcogfggfbfoaoaaDoor
namespace Rows

/-- THE TIED CARD OF 'scriptoriumlaw1.IntsTexts'. -/
def intsTextsCard : Claim7 := { stood := { row := intsTextsRow, standIns := [], harness := (true, "c5590c1a1d10fc588cea6e544a0d101e0fef1d50a3c025f0a0cbc935d59f9fc3"), looks := false }, kinds := [], alts := [], laidByText := true, laidKinds := [.data, .data, .data], laidTests := true, laidLooks := .later }
def IntsTextsCardSaid : Prop := Claim7.holds Tryd.pinned (.plain (OpenSpec.ofChange intsTextsSpec)) intsTextsCard

/-- THE TIED CARD OF 'scriptoriumlaw1.IntsSums'. -/
def intsSumsCard : Claim7 := { stood := { row := intsSumsRow, standIns := [], harness := (true, "c5590c1a1d10fc588cea6e544a0d101e0fef1d50a3c025f0a0cbc935d59f9fc3"), looks := false }, kinds := [], alts := [], laidByText := true, laidKinds := [.data, .data, .data], laidTests := true, laidLooks := .later }
def IntsSumsCardSaid : Prop := Claim7.holds Tryd.pinned (.plain (OpenSpec.ofChange intsSumsSpec)) intsSumsCard

/-- THE TIED CARD OF 'scriptoriumlaw1.IntsParts'. -/
def intsPartsCard : Claim7 := { stood := { row := intsPartsRow, standIns := [], harness := (true, "c5590c1a1d10fc588cea6e544a0d101e0fef1d50a3c025f0a0cbc935d59f9fc3"), looks := false }, kinds := [], alts := [], laidByText := true, laidKinds := [.data, .data, .data], laidTests := true, laidLooks := .later }
def IntsPartsCardSaid : Prop := Claim7.holds Tryd.pinned (.plain (OpenSpec.ofChange intsPartsSpec)) intsPartsCard

/-- THE TIED CARD OF 'scriptoriumlaw1.IntsOrder'. -/
def intsOrderCard : Claim7 := { stood := { row := intsOrderRow, standIns := [], harness := (true, "c5590c1a1d10fc588cea6e544a0d101e0fef1d50a3c025f0a0cbc935d59f9fc3"), looks := false }, kinds := [], alts := [], laidByText := true, laidKinds := [.data, .data, .data], laidTests := true, laidLooks := .later }
def IntsOrderCardSaid : Prop := Claim7.holds Tryd.pinned (.plain (OpenSpec.ofChange intsOrderSpec)) intsOrderCard

/-- THE TIED CARD OF 'scriptoriumlaw1.IntsFloors'. -/
def intsFloorsCard : Claim7 := { stood := { row := intsFloorsRow, standIns := [], harness := (true, "c5590c1a1d10fc588cea6e544a0d101e0fef1d50a3c025f0a0cbc935d59f9fc3"), looks := false }, kinds := [], alts := [], laidByText := true, laidKinds := [.data, .data, .data], laidTests := true, laidLooks := .later }
def IntsFloorsCardSaid : Prop := Claim7.holds Tryd.pinned (.plain (OpenSpec.ofChange intsFloorsSpec)) intsFloorsCard

/-- THE SECOND FORM's CARD OF 'scriptoriumlaw1.IntsTexts'. -/
def intsTextsUptoCard : Claim7 := { stood := { row := intsTextsUptoRow, standIns := [], harness := (true, "c5590c1a1d10fc588cea6e544a0d101e0fef1d50a3c025f0a0cbc935d59f9fc3"), looks := false }, kinds := [], alts := [], laidByText := true, laidKinds := [.data, .data, .data], laidTests := true, laidLooks := .later }
def IntsTextsUptoCardSaid : Prop := Claim7.holds Tryd.pinned (.plain (OpenSpec.upto intsTextsSpec)) intsTextsUptoCard

/-- THE SECOND FORM's CARD OF 'scriptoriumlaw1.IntsSums'. -/
def intsSumsUptoCard : Claim7 := { stood := { row := intsSumsUptoRow, standIns := [], harness := (true, "c5590c1a1d10fc588cea6e544a0d101e0fef1d50a3c025f0a0cbc935d59f9fc3"), looks := false }, kinds := [], alts := [], laidByText := true, laidKinds := [.data, .data, .data], laidTests := true, laidLooks := .later }
def IntsSumsUptoCardSaid : Prop := Claim7.holds Tryd.pinned (.plain (OpenSpec.upto intsSumsSpec)) intsSumsUptoCard

/-- THE SECOND FORM's CARD OF 'scriptoriumlaw1.IntsParts'. -/
def intsPartsUptoCard : Claim7 := { stood := { row := intsPartsUptoRow, standIns := [], harness := (true, "c5590c1a1d10fc588cea6e544a0d101e0fef1d50a3c025f0a0cbc935d59f9fc3"), looks := false }, kinds := [], alts := [], laidByText := true, laidKinds := [.data, .data, .data], laidTests := true, laidLooks := .later }
def IntsPartsUptoCardSaid : Prop := Claim7.holds Tryd.pinned (.plain (OpenSpec.upto intsPartsSpec)) intsPartsUptoCard

/-- THE SECOND FORM's CARD OF 'scriptoriumlaw1.IntsOrder'. -/
def intsOrderUptoCard : Claim7 := { stood := { row := intsOrderUptoRow, standIns := [], harness := (true, "c5590c1a1d10fc588cea6e544a0d101e0fef1d50a3c025f0a0cbc935d59f9fc3"), looks := false }, kinds := [], alts := [], laidByText := true, laidKinds := [.data, .data, .data], laidTests := true, laidLooks := .later }
def IntsOrderUptoCardSaid : Prop := Claim7.holds Tryd.pinned (.plain (OpenSpec.upto intsOrderSpec)) intsOrderUptoCard

/-- THE SECOND FORM's CARD OF 'scriptoriumlaw1.IntsFloors'. -/
def intsFloorsUptoCard : Claim7 := { stood := { row := intsFloorsUptoRow, standIns := [], harness := (true, "c5590c1a1d10fc588cea6e544a0d101e0fef1d50a3c025f0a0cbc935d59f9fc3"), looks := false }, kinds := [], alts := [], laidByText := true, laidKinds := [.data, .data, .data], laidTests := true, laidLooks := .later }
def IntsFloorsUptoCardSaid : Prop := Claim7.holds Tryd.pinned (.plain (OpenSpec.upto intsFloorsSpec)) intsFloorsUptoCard
end Rows
end Go.Proofs.YtcogfggfbfoaoaaDoor
