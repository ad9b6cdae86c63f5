/-
  DERIVED. GIVEN WITH THE SEED: THE CARDS: each row of YtfganjmadehhaaaGreatDoorRows.lean that lists a variable, with what it lists TIED to the program's text (the seventh form; the later family's looks); each row that meets fmt, with fmt's text TOLD by the authors' own Lean function (tested against real Go, not proved from fmt's source: count such statements apart). THE CARD IS WHAT COUNTS. Prove the row's statement (the work); the ties are given (YtfganjmadehhaaaGreatDoorTie.lean); close each card by the builder's one call (the guide's Derived/Test/ToyasCard.lean, 'card_holds'). Laid BY PROGRAM, IN A SANDBOX (cutbox-door.mjs). By AI agents, Wed Nov 11 2026. No macro, syntax, notation, axiom, sorry.
-/
import Derived.Test.YtfganjmadehhaaaGreatDoorRows
import GoSem.ClaimSeven
namespace Go.Proofs.YtfganjmadehhaaaGreatDoor
namespace Rows

/-- THE TIED CARD OF 'inglenooklaw6.LexWords'. -/
def lexWordsCard : Claim7 := { stood := { row := lexWordsRow, standIns := [], harness := (true, "c19dc36caee858b9da6119125f86c65ea7c5b1f49d22319f1b824ab2d9deaed8"), looks := true }, kinds := [], alts := [], laidByText := true, laidKinds := [.data, .data, .data, .sentinel, .sentinel, .sentinel, .sentinel, .sentinel, .sentinel, .sentinel, .sentinel, .sentinel, .sentinel, .sentinel, .sentinel, .sentinel, .sentinel, .sentinel, .sentinel, .sentinel, .sentinel, .sentinel, .listed, .data], laidTests := true, laidLooks := .later }
def LexWordsCardSaid : Prop := Claim7.holds Tryz.pinned (.plain (OpenSpec.ofChange lexWordsSpec)) lexWordsCard

/-- THE TIED CARD OF 'inglenooklaw6.LexEnds'. -/
def lexEndsCard : Claim7 := { stood := { row := lexEndsRow, standIns := [], harness := (true, "c19dc36caee858b9da6119125f86c65ea7c5b1f49d22319f1b824ab2d9deaed8"), looks := true }, kinds := [], alts := [], laidByText := true, laidKinds := [.data, .data, .data, .sentinel, .sentinel, .sentinel, .sentinel, .sentinel, .sentinel, .sentinel, .sentinel, .sentinel, .sentinel, .sentinel, .sentinel, .sentinel, .sentinel, .sentinel, .sentinel, .sentinel, .sentinel, .sentinel, .listed, .data], laidTests := true, laidLooks := .later }
def LexEndsCardSaid : Prop := Claim7.holds Tryz.pinned (.plain (OpenSpec.ofChange lexEndsSpec)) lexEndsCard

/-- THE TIED CARD OF 'inglenooklaw6.LexLits'. -/
def lexLitsCard : Claim7 := { stood := { row := lexLitsRow, standIns := [], harness := (true, "c19dc36caee858b9da6119125f86c65ea7c5b1f49d22319f1b824ab2d9deaed8"), looks := true }, kinds := [], alts := [], laidByText := true, laidKinds := [.data, .data, .data, .sentinel, .sentinel, .sentinel, .sentinel, .sentinel, .sentinel, .sentinel, .sentinel, .sentinel, .sentinel, .sentinel, .sentinel, .sentinel, .sentinel, .sentinel, .sentinel, .sentinel, .sentinel, .sentinel, .listed, .data], laidTests := true, laidLooks := .later }
def LexLitsCardSaid : Prop := Claim7.holds Tryz.pinned (.plain (OpenSpec.ofChange lexLitsSpec)) lexLitsCard

/-- THE TIED CARD OF 'inglenooklaw6.LexSpaces'. -/
def lexSpacesCard : Claim7 := { stood := { row := lexSpacesRow, standIns := [], harness := (true, "c19dc36caee858b9da6119125f86c65ea7c5b1f49d22319f1b824ab2d9deaed8"), looks := true }, kinds := [], alts := [], laidByText := true, laidKinds := [.data, .data, .data, .data, .sentinel, .sentinel, .sentinel, .sentinel, .sentinel, .sentinel, .sentinel, .listed, .data, .pinned], laidTests := true, laidLooks := .later }
def LexSpacesCardSaid : Prop := Claim7.holds Tryz.pinned (.plain (OpenSpec.ofChange lexSpacesSpec)) lexSpacesCard

/-- THE SECOND FORM's CARD OF 'inglenooklaw6.LexWords'. -/
def lexWordsUptoCard : Claim7 := { stood := { row := lexWordsUptoRow, standIns := [], harness := (true, "c19dc36caee858b9da6119125f86c65ea7c5b1f49d22319f1b824ab2d9deaed8"), looks := true }, kinds := [], alts := [], laidByText := true, laidKinds := [.data, .data, .data, .sentinel, .sentinel, .sentinel, .sentinel, .sentinel, .sentinel, .sentinel, .sentinel, .sentinel, .sentinel, .sentinel, .sentinel, .sentinel, .sentinel, .sentinel, .sentinel, .sentinel, .sentinel, .sentinel, .listed, .data], laidTests := true, laidLooks := .later }
def LexWordsUptoCardSaid : Prop := Claim7.holds Tryz.pinned (.plain (OpenSpec.upto lexWordsSpec)) lexWordsUptoCard

/-- THE SECOND FORM's CARD OF 'inglenooklaw6.LexEnds'. -/
def lexEndsUptoCard : Claim7 := { stood := { row := lexEndsUptoRow, standIns := [], harness := (true, "c19dc36caee858b9da6119125f86c65ea7c5b1f49d22319f1b824ab2d9deaed8"), looks := true }, kinds := [], alts := [], laidByText := true, laidKinds := [.data, .data, .data, .sentinel, .sentinel, .sentinel, .sentinel, .sentinel, .sentinel, .sentinel, .sentinel, .sentinel, .sentinel, .sentinel, .sentinel, .sentinel, .sentinel, .sentinel, .sentinel, .sentinel, .sentinel, .sentinel, .listed, .data], laidTests := true, laidLooks := .later }
def LexEndsUptoCardSaid : Prop := Claim7.holds Tryz.pinned (.plain (OpenSpec.upto lexEndsSpec)) lexEndsUptoCard

/-- THE SECOND FORM's CARD OF 'inglenooklaw6.LexLits'. -/
def lexLitsUptoCard : Claim7 := { stood := { row := lexLitsUptoRow, standIns := [], harness := (true, "c19dc36caee858b9da6119125f86c65ea7c5b1f49d22319f1b824ab2d9deaed8"), looks := true }, kinds := [], alts := [], laidByText := true, laidKinds := [.data, .data, .data, .sentinel, .sentinel, .sentinel, .sentinel, .sentinel, .sentinel, .sentinel, .sentinel, .sentinel, .sentinel, .sentinel, .sentinel, .sentinel, .sentinel, .sentinel, .sentinel, .sentinel, .sentinel, .sentinel, .listed, .data], laidTests := true, laidLooks := .later }
def LexLitsUptoCardSaid : Prop := Claim7.holds Tryz.pinned (.plain (OpenSpec.upto lexLitsSpec)) lexLitsUptoCard

/-- THE SECOND FORM's CARD OF 'inglenooklaw6.LexSpaces'. -/
def lexSpacesUptoCard : Claim7 := { stood := { row := lexSpacesUptoRow, standIns := [], harness := (true, "c19dc36caee858b9da6119125f86c65ea7c5b1f49d22319f1b824ab2d9deaed8"), looks := true }, kinds := [], alts := [], laidByText := true, laidKinds := [.data, .data, .data, .data, .sentinel, .sentinel, .sentinel, .sentinel, .sentinel, .sentinel, .sentinel, .listed, .data, .pinned], laidTests := true, laidLooks := .later }
def LexSpacesUptoCardSaid : Prop := Claim7.holds Tryz.pinned (.plain (OpenSpec.upto lexSpacesSpec)) lexSpacesUptoCard
end Rows
end Go.Proofs.YtfganjmadehhaaaGreatDoor
