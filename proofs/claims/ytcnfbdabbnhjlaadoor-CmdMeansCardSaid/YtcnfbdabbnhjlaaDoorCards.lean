/-
  DERIVED. GIVEN WITH THE SEED: THE CARDS: each row of YtcnfbdabbnhjlaaDoorRows.lean that lists a variable, with what it lists TIED to the program's text (the seventh form; the later family's looks); each row that meets fmt, with fmt's text TOLD by the authors' own Lean function (tested against real Go, not proved from fmt's source: count such statements apart). THE CARD IS WHAT COUNTS. Prove the row's statement (the work); the ties are given (YtcnfbdabbnhjlaaDoorTie.lean); close each card by the builder's one call (the guide's Derived/Test/ToyasCard.lean, 'card_holds'). Laid BY PROGRAM, IN A SANDBOX (cutbox-door.mjs). By AI agents, Wed Nov 11 2026. No macro, syntax, notation, axiom, sorry.
-/
import Derived.Test.YtcnfbdabbnhjlaaDoorRows
import GoSem.ClaimSeven
namespace Go.Proofs.YtcnfbdabbnhjlaaDoor
namespace Rows

/-- THE TIED CARD OF 'inglenooklaw26.CmdQuotes'. -/
def cmdQuotesCard : Claim7 := { stood := { row := cmdQuotesRow, standIns := [], harness := (true, "9fe896f2814cc2b3b766ecf996786518a3b0a49a1bc79cbf478989123220dbf5"), looks := false }, kinds := [], alts := [], laidByText := true, laidKinds := [.data, .sentinel, .sentinel, .sentinel, .sentinel, .sentinel, .listed, .data, .pinned], laidTests := true, laidLooks := .later }
def CmdQuotesCardSaid : Prop := Claim7.holds Tryd.pinned (.plain (OpenSpec.ofChange cmdQuotesSpec)) cmdQuotesCard

/-- THE TIED CARD OF 'inglenooklaw26.CmdShort'. -/
def cmdShortCard : Claim7 := { stood := { row := cmdShortRow, standIns := [], harness := (true, "9fe896f2814cc2b3b766ecf996786518a3b0a49a1bc79cbf478989123220dbf5"), looks := false }, kinds := [], alts := [], laidByText := true, laidKinds := [.data, .sentinel, .sentinel, .sentinel, .sentinel, .sentinel, .listed, .data, .pinned], laidTests := true, laidLooks := .later }
def CmdShortCardSaid : Prop := Claim7.holds Tryd.pinned (.plain (OpenSpec.ofChange cmdShortSpec)) cmdShortCard

/-- THE TIED CARD OF 'inglenooklaw26.CmdMeans'. -/
def cmdMeansCard : Claim7 := { stood := { row := cmdMeansRow, standIns := [], harness := (true, "9fe896f2814cc2b3b766ecf996786518a3b0a49a1bc79cbf478989123220dbf5"), looks := false }, kinds := [], alts := [], laidByText := true, laidKinds := [.data, .sentinel, .sentinel, .sentinel, .sentinel, .sentinel, .listed, .data, .pinned], laidTests := true, laidLooks := .later }
def CmdMeansCardSaid : Prop := Claim7.holds Tryd.pinned (.plain (OpenSpec.ofChange cmdMeansSpec)) cmdMeansCard

/-- THE SECOND FORM's CARD OF 'inglenooklaw26.CmdQuotes'. -/
def cmdQuotesUptoCard : Claim7 := { stood := { row := cmdQuotesUptoRow, standIns := [], harness := (true, "9fe896f2814cc2b3b766ecf996786518a3b0a49a1bc79cbf478989123220dbf5"), looks := false }, kinds := [], alts := [], laidByText := true, laidKinds := [.data, .sentinel, .sentinel, .sentinel, .sentinel, .sentinel, .listed, .data, .pinned], laidTests := true, laidLooks := .later }
def CmdQuotesUptoCardSaid : Prop := Claim7.holds Tryd.pinned (.plain (OpenSpec.upto cmdQuotesSpec)) cmdQuotesUptoCard

/-- THE SECOND FORM's CARD OF 'inglenooklaw26.CmdShort'. -/
def cmdShortUptoCard : Claim7 := { stood := { row := cmdShortUptoRow, standIns := [], harness := (true, "9fe896f2814cc2b3b766ecf996786518a3b0a49a1bc79cbf478989123220dbf5"), looks := false }, kinds := [], alts := [], laidByText := true, laidKinds := [.data, .sentinel, .sentinel, .sentinel, .sentinel, .sentinel, .listed, .data, .pinned], laidTests := true, laidLooks := .later }
def CmdShortUptoCardSaid : Prop := Claim7.holds Tryd.pinned (.plain (OpenSpec.upto cmdShortSpec)) cmdShortUptoCard

/-- THE SECOND FORM's CARD OF 'inglenooklaw26.CmdMeans'. -/
def cmdMeansUptoCard : Claim7 := { stood := { row := cmdMeansUptoRow, standIns := [], harness := (true, "9fe896f2814cc2b3b766ecf996786518a3b0a49a1bc79cbf478989123220dbf5"), looks := false }, kinds := [], alts := [], laidByText := true, laidKinds := [.data, .sentinel, .sentinel, .sentinel, .sentinel, .sentinel, .listed, .data, .pinned], laidTests := true, laidLooks := .later }
def CmdMeansUptoCardSaid : Prop := Claim7.holds Tryd.pinned (.plain (OpenSpec.upto cmdMeansSpec)) cmdMeansUptoCard
end Rows
end Go.Proofs.YtcnfbdabbnhjlaaDoor
