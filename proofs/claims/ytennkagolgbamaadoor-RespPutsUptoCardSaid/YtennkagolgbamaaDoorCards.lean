/-
  DERIVED. GIVEN WITH THE SEED: THE CARDS: each row of YtennkagolgbamaaDoorRows.lean that lists a variable, with what it lists TIED to the program's text (the seventh form; the later family's looks); each row that meets fmt, with fmt's text TOLD by the authors' own Lean function (tested against real Go, not proved from fmt's source: count such statements apart). THE CARD IS WHAT COUNTS. Prove the row's statement (the work); the ties are given (YtennkagolgbamaaDoorTie.lean); close each card by the builder's one call (the guide's Derived/Test/ToyasCard.lean, 'card_holds'). Laid BY PROGRAM, IN A SANDBOX (cutbox-door.mjs). By AI agents, Wed Nov 11 2026. No macro, syntax, notation, axiom, sorry.
-/
import Derived.Test.YtennkagolgbamaaDoorRows
import GoSem.ClaimSeven
namespace Go.Proofs.YtennkagolgbamaaDoor
namespace Rows

/-- THE TIED CARD OF 'scriptoriumlaw24.RespPuts'. -/
def respPutsCard : Claim7 := { stood := { row := respPutsRow, standIns := [], harness := (true, "1d1f6dfbdc110680a405f6d0bace893f779e8d31082aadc5699d550ceb41083e"), looks := false }, kinds := [], alts := [], laidByText := true, laidKinds := [.data, .data, .data], laidTests := true, laidLooks := .later }
def RespPutsCardSaid : Prop := Claim7.holds Tryd.pinned (.plain (OpenSpec.ofChange respPutsSpec)) respPutsCard

/-- THE TIED CARD OF 'scriptoriumlaw24.RespSizes'. -/
def respSizesCard : Claim7 := { stood := { row := respSizesRow, standIns := [], harness := (true, "1d1f6dfbdc110680a405f6d0bace893f779e8d31082aadc5699d550ceb41083e"), looks := false }, kinds := [], alts := [], laidByText := true, laidKinds := [.data, .data, .data], laidTests := true, laidLooks := .later }
def RespSizesCardSaid : Prop := Claim7.holds Tryd.pinned (.plain (OpenSpec.ofChange respSizesSpec)) respSizesCard

/-- THE TIED CARD OF 'scriptoriumlaw24.RespReads'. -/
def respReadsCard : Claim7 := { stood := { row := respReadsRow, standIns := [], harness := (true, "1d1f6dfbdc110680a405f6d0bace893f779e8d31082aadc5699d550ceb41083e"), looks := false }, kinds := [], alts := [], laidByText := true, laidKinds := [.data, .data, .data], laidTests := true, laidLooks := .later }
def RespReadsCardSaid : Prop := Claim7.holds Tryd.pinned (.plain (OpenSpec.ofChange respReadsSpec)) respReadsCard

/-- THE TIED CARD OF 'scriptoriumlaw24.RespBack'. -/
def respBackCard : Claim7 := { stood := { row := respBackRow, standIns := [], harness := (true, "1d1f6dfbdc110680a405f6d0bace893f779e8d31082aadc5699d550ceb41083e"), looks := false }, kinds := [], alts := [], laidByText := true, laidKinds := [.data, .data, .data], laidTests := true, laidLooks := .later }
def RespBackCardSaid : Prop := Claim7.holds Tryd.pinned (.plain (OpenSpec.ofChange respBackSpec)) respBackCard

/-- THE TIED CARD OF 'scriptoriumlaw24.RespMany'. -/
def respManyCard : Claim7 := { stood := { row := respManyRow, standIns := [], harness := (true, "1d1f6dfbdc110680a405f6d0bace893f779e8d31082aadc5699d550ceb41083e"), looks := false }, kinds := [], alts := [], laidByText := true, laidKinds := [.data, .data, .data], laidTests := true, laidLooks := .later }
def RespManyCardSaid : Prop := Claim7.holds Tryd.pinned (.plain (OpenSpec.ofChange respManySpec)) respManyCard

/-- THE SECOND FORM's CARD OF 'scriptoriumlaw24.RespPuts'. -/
def respPutsUptoCard : Claim7 := { stood := { row := respPutsUptoRow, standIns := [], harness := (true, "1d1f6dfbdc110680a405f6d0bace893f779e8d31082aadc5699d550ceb41083e"), looks := false }, kinds := [], alts := [], laidByText := true, laidKinds := [.data, .data, .data], laidTests := true, laidLooks := .later }
def RespPutsUptoCardSaid : Prop := Claim7.holds Tryd.pinned (.plain (OpenSpec.upto respPutsSpec)) respPutsUptoCard

/-- THE SECOND FORM's CARD OF 'scriptoriumlaw24.RespSizes'. -/
def respSizesUptoCard : Claim7 := { stood := { row := respSizesUptoRow, standIns := [], harness := (true, "1d1f6dfbdc110680a405f6d0bace893f779e8d31082aadc5699d550ceb41083e"), looks := false }, kinds := [], alts := [], laidByText := true, laidKinds := [.data, .data, .data], laidTests := true, laidLooks := .later }
def RespSizesUptoCardSaid : Prop := Claim7.holds Tryd.pinned (.plain (OpenSpec.upto respSizesSpec)) respSizesUptoCard

/-- THE SECOND FORM's CARD OF 'scriptoriumlaw24.RespReads'. -/
def respReadsUptoCard : Claim7 := { stood := { row := respReadsUptoRow, standIns := [], harness := (true, "1d1f6dfbdc110680a405f6d0bace893f779e8d31082aadc5699d550ceb41083e"), looks := false }, kinds := [], alts := [], laidByText := true, laidKinds := [.data, .data, .data], laidTests := true, laidLooks := .later }
def RespReadsUptoCardSaid : Prop := Claim7.holds Tryd.pinned (.plain (OpenSpec.upto respReadsSpec)) respReadsUptoCard

/-- THE SECOND FORM's CARD OF 'scriptoriumlaw24.RespBack'. -/
def respBackUptoCard : Claim7 := { stood := { row := respBackUptoRow, standIns := [], harness := (true, "1d1f6dfbdc110680a405f6d0bace893f779e8d31082aadc5699d550ceb41083e"), looks := false }, kinds := [], alts := [], laidByText := true, laidKinds := [.data, .data, .data], laidTests := true, laidLooks := .later }
def RespBackUptoCardSaid : Prop := Claim7.holds Tryd.pinned (.plain (OpenSpec.upto respBackSpec)) respBackUptoCard

/-- THE SECOND FORM's CARD OF 'scriptoriumlaw24.RespMany'. -/
def respManyUptoCard : Claim7 := { stood := { row := respManyUptoRow, standIns := [], harness := (true, "1d1f6dfbdc110680a405f6d0bace893f779e8d31082aadc5699d550ceb41083e"), looks := false }, kinds := [], alts := [], laidByText := true, laidKinds := [.data, .data, .data], laidTests := true, laidLooks := .later }
def RespManyUptoCardSaid : Prop := Claim7.holds Tryd.pinned (.plain (OpenSpec.upto respManySpec)) respManyUptoCard
end Rows
end Go.Proofs.YtennkagolgbamaaDoor
