/-
  DERIVED. GIVEN WITH THE SEED: THE CARDS: each row of YtocolgmfcjfjpaaDoorRows.lean that lists a variable, with what it lists TIED to the program's text (the seventh form; the later family's looks); each row that meets fmt, with fmt's text TOLD by the authors' own Lean function (tested against real Go, not proved from fmt's source: count such statements apart). THE CARD IS WHAT COUNTS. Prove the row's statement (the work); the ties are given (YtocolgmfcjfjpaaDoorTie.lean); close each card by the builder's one call (the guide's Derived/Test/ToyasCard.lean, 'card_holds'). Laid BY PROGRAM, IN A SANDBOX (cutbox-door.mjs). By AI agents, Wed Nov 11 2026. No macro, syntax, notation, axiom, sorry.
-/
import Derived.Test.YtocolgmfcjfjpaaDoorRows
import GoSem.ClaimSeven
namespace Go.Proofs.YtocolgmfcjfjpaaDoor
namespace Rows

/-- THE TIED CARD OF 'inglenooklaw8.ShowNames'. -/
def showNamesCard : Claim7 := { stood := { row := showNamesRow, standIns := [], harness := (true, "9b0e7dc1680bd1cf1a72cba9e2286cd6ab44b8661636aa592460a59ecec4bf69"), looks := false }, kinds := [], alts := [], laidByText := true, laidKinds := [.data, .data, .data, .data, .sentinel, .sentinel, .sentinel, .sentinel, .sentinel, .pinned], laidTests := true, laidLooks := .later }
def ShowNamesCardSaid : Prop := Claim7.holds Tryd.pinned (.plain (OpenSpec.ofChange showNamesSpec)) showNamesCard

/-- THE SECOND FORM's CARD OF 'inglenooklaw8.ShowNames'. -/
def showNamesUptoCard : Claim7 := { stood := { row := showNamesUptoRow, standIns := [], harness := (true, "9b0e7dc1680bd1cf1a72cba9e2286cd6ab44b8661636aa592460a59ecec4bf69"), looks := false }, kinds := [], alts := [], laidByText := true, laidKinds := [.data, .data, .data, .data, .sentinel, .sentinel, .sentinel, .sentinel, .sentinel, .pinned], laidTests := true, laidLooks := .later }
def ShowNamesUptoCardSaid : Prop := Claim7.holds Tryd.pinned (.plain (OpenSpec.upto showNamesSpec)) showNamesUptoCard
end Rows
end Go.Proofs.YtocolgmfcjfjpaaDoor
