/-
  DERIVED. GIVEN WITH THE SEED: THE CARDS: each row of YtjibjgokloondaaGreatDoorRows.lean that lists a variable, with what it lists TIED to the program's text (the seventh form; the later family's looks); each row that meets fmt, with fmt's text TOLD by the authors' own Lean function (tested against real Go, not proved from fmt's source: count such statements apart). THE CARD IS WHAT COUNTS. Prove the row's statement (the work); the ties are given (YtjibjgokloondaaGreatDoorTie.lean); close each card by the builder's one call (the guide's Derived/Test/ToyasCard.lean, 'card_holds'). Laid BY PROGRAM, IN A SANDBOX (cutbox-door.mjs). By AI agents, Wed Nov 11 2026. No macro, syntax, notation, axiom, sorry.
-/
import Derived.Test.YtjibjgokloondaaGreatDoorRows
import GoSem.ClaimSeven
namespace Go.Proofs.YtjibjgokloondaaGreatDoor
namespace Rows

/-- THE TIED CARD OF 'inglenooklaw9.ParseBinds'. -/
def parseBindsCard : Claim7 := { stood := { row := parseBindsRow, standIns := [], harness := (true, "42566b0fd39c7d7827a0f32089d5a2801fea0e51768b276f175f458dceab9b5f"), looks := true }, kinds := [], alts := [], laidByText := true, laidKinds := [.data, .data, .data, .sentinel, .sentinel, .sentinel, .sentinel, .sentinel, .sentinel, .sentinel, .sentinel, .listed, .data], laidTests := true, laidLooks := .later }
def ParseBindsCardSaid : Prop := Claim7.holds Tryz.pinned (.plain (OpenSpec.ofChange parseBindsSpec)) parseBindsCard

/-- THE TIED CARD OF 'inglenooklaw9.ParseWays'. -/
def parseWaysCard : Claim7 := { stood := { row := parseWaysRow, standIns := [], harness := (true, "42566b0fd39c7d7827a0f32089d5a2801fea0e51768b276f175f458dceab9b5f"), looks := true }, kinds := [], alts := [], laidByText := true, laidKinds := [.data, .data, .data, .sentinel, .sentinel, .sentinel, .sentinel, .sentinel, .sentinel, .sentinel, .sentinel, .sentinel, .sentinel, .sentinel, .sentinel, .sentinel, .sentinel, .sentinel, .sentinel, .sentinel, .sentinel, .sentinel, .listed, .data], laidTests := true, laidLooks := .later }
def ParseWaysCardSaid : Prop := Claim7.holds Tryz.pinned (.plain (OpenSpec.ofChange parseWaysSpec)) parseWaysCard

/-- THE TIED CARD OF 'inglenooklaw9.ParseErrors'. -/
def parseErrorsCard : Claim7 := { stood := { row := parseErrorsRow, standIns := [], harness := (true, "42566b0fd39c7d7827a0f32089d5a2801fea0e51768b276f175f458dceab9b5f"), looks := true }, kinds := [], alts := [], laidByText := true, laidKinds := [.data, .data, .data, .sentinel, .sentinel, .sentinel, .sentinel, .sentinel, .sentinel, .sentinel, .sentinel, .sentinel, .sentinel, .sentinel, .sentinel, .sentinel, .sentinel, .sentinel, .sentinel, .sentinel, .sentinel, .sentinel, .listed, .data], laidTests := true, laidLooks := .later }
def ParseErrorsCardSaid : Prop := Claim7.holds Tryz.pinned (.plain (OpenSpec.ofChange parseErrorsSpec)) parseErrorsCard

/-- THE TIED CARD OF 'inglenooklaw9.ParseDeep'. -/
def parseDeepCard : Claim7 := { stood := { row := parseDeepRow, standIns := [], harness := (true, "42566b0fd39c7d7827a0f32089d5a2801fea0e51768b276f175f458dceab9b5f"), looks := true }, kinds := [], alts := [], laidByText := true, laidKinds := [.data, .data, .data, .sentinel, .sentinel, .sentinel, .sentinel, .sentinel, .sentinel, .sentinel, .sentinel, .sentinel, .sentinel, .sentinel, .sentinel, .sentinel, .sentinel, .sentinel, .sentinel, .sentinel, .sentinel, .sentinel, .listed, .data], laidTests := true, laidLooks := .later }
def ParseDeepCardSaid : Prop := Claim7.holds Tryz.pinned (.plain (OpenSpec.ofChange parseDeepSpec)) parseDeepCard

/-- THE SECOND FORM's CARD OF 'inglenooklaw9.ParseBinds'. -/
def parseBindsUptoCard : Claim7 := { stood := { row := parseBindsUptoRow, standIns := [], harness := (true, "42566b0fd39c7d7827a0f32089d5a2801fea0e51768b276f175f458dceab9b5f"), looks := true }, kinds := [], alts := [], laidByText := true, laidKinds := [.data, .data, .data, .sentinel, .sentinel, .sentinel, .sentinel, .sentinel, .sentinel, .sentinel, .sentinel, .listed, .data], laidTests := true, laidLooks := .later }
def ParseBindsUptoCardSaid : Prop := Claim7.holds Tryz.pinned (.plain (OpenSpec.upto parseBindsSpec)) parseBindsUptoCard

/-- THE SECOND FORM's CARD OF 'inglenooklaw9.ParseWays'. -/
def parseWaysUptoCard : Claim7 := { stood := { row := parseWaysUptoRow, standIns := [], harness := (true, "42566b0fd39c7d7827a0f32089d5a2801fea0e51768b276f175f458dceab9b5f"), looks := true }, kinds := [], alts := [], laidByText := true, laidKinds := [.data, .data, .data, .sentinel, .sentinel, .sentinel, .sentinel, .sentinel, .sentinel, .sentinel, .sentinel, .sentinel, .sentinel, .sentinel, .sentinel, .sentinel, .sentinel, .sentinel, .sentinel, .sentinel, .sentinel, .sentinel, .listed, .data], laidTests := true, laidLooks := .later }
def ParseWaysUptoCardSaid : Prop := Claim7.holds Tryz.pinned (.plain (OpenSpec.upto parseWaysSpec)) parseWaysUptoCard

/-- THE SECOND FORM's CARD OF 'inglenooklaw9.ParseErrors'. -/
def parseErrorsUptoCard : Claim7 := { stood := { row := parseErrorsUptoRow, standIns := [], harness := (true, "42566b0fd39c7d7827a0f32089d5a2801fea0e51768b276f175f458dceab9b5f"), looks := true }, kinds := [], alts := [], laidByText := true, laidKinds := [.data, .data, .data, .sentinel, .sentinel, .sentinel, .sentinel, .sentinel, .sentinel, .sentinel, .sentinel, .sentinel, .sentinel, .sentinel, .sentinel, .sentinel, .sentinel, .sentinel, .sentinel, .sentinel, .sentinel, .sentinel, .listed, .data], laidTests := true, laidLooks := .later }
def ParseErrorsUptoCardSaid : Prop := Claim7.holds Tryz.pinned (.plain (OpenSpec.upto parseErrorsSpec)) parseErrorsUptoCard

/-- THE SECOND FORM's CARD OF 'inglenooklaw9.ParseDeep'. -/
def parseDeepUptoCard : Claim7 := { stood := { row := parseDeepUptoRow, standIns := [], harness := (true, "42566b0fd39c7d7827a0f32089d5a2801fea0e51768b276f175f458dceab9b5f"), looks := true }, kinds := [], alts := [], laidByText := true, laidKinds := [.data, .data, .data, .sentinel, .sentinel, .sentinel, .sentinel, .sentinel, .sentinel, .sentinel, .sentinel, .sentinel, .sentinel, .sentinel, .sentinel, .sentinel, .sentinel, .sentinel, .sentinel, .sentinel, .sentinel, .sentinel, .listed, .data], laidTests := true, laidLooks := .later }
def ParseDeepUptoCardSaid : Prop := Claim7.holds Tryz.pinned (.plain (OpenSpec.upto parseDeepSpec)) parseDeepUptoCard
end Rows
end Go.Proofs.YtjibjgokloondaaGreatDoor
