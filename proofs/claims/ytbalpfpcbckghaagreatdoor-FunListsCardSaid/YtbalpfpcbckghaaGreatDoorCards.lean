/-
  DERIVED. GIVEN WITH THE SEED: THE CARDS: each row of YtbalpfpcbckghaaGreatDoorRows.lean that lists a variable, with what it lists TIED to the program's text (the seventh form; the later family's looks); each row that meets fmt, with fmt's text TOLD by the authors' own Lean function (tested against real Go, not proved from fmt's source: count such statements apart). THE CARD IS WHAT COUNTS. Prove the row's statement (the work); the ties are given (YtbalpfpcbckghaaGreatDoorTie.lean); close each card by the builder's one call (the guide's Derived/Test/ToyasCard.lean, 'card_holds'). Laid BY PROGRAM, IN A SANDBOX (cutbox-door.mjs). By AI agents, Wed Nov 11 2026. No macro, syntax, notation, axiom, sorry.
-/
import Derived.Test.YtbalpfpcbckghaaGreatDoorRows
import GoSem.ClaimSeven
namespace Go.Proofs.YtbalpfpcbckghaaGreatDoor
namespace Rows

/-- THE TIED CARD OF 'inglenooklaw16.FunLists'. -/
def funListsCard : Claim7 := { stood := { row := funListsRow, standIns := [], harness := (true, "5915e900c3686fb0a2a65095ddafe60afccc71f40baecda0f42221358f06883c"), looks := true }, kinds := [], alts := [], laidByText := true, laidKinds := [.data, .data, .data, .data, .sentinel, .sentinel, .sentinel, .sentinel, .sentinel, .sentinel, .listed, .data, .pinned], laidTests := true, laidLooks := .later }
def FunListsCardSaid : Prop := Claim7.holds Tryz.pinned (.plain (OpenSpec.ofChange funListsSpec)) funListsCard

/-- THE TIED CARD OF 'inglenooklaw16.FunTexts'. -/
def funTextsCard : Claim7 := { stood := { row := funTextsRow, standIns := [], harness := (true, "5915e900c3686fb0a2a65095ddafe60afccc71f40baecda0f42221358f06883c"), looks := true }, kinds := [], alts := [], laidByText := true, laidKinds := [.data, .data, .data, .data, .sentinel, .sentinel, .sentinel, .sentinel, .sentinel, .sentinel, .listed, .data, .pinned], laidTests := true, laidLooks := .later }
def FunTextsCardSaid : Prop := Claim7.holds Tryz.pinned (.plain (OpenSpec.ofChange funTextsSpec)) funTextsCard

/-- THE TIED CARD OF 'inglenooklaw16.FunEach'. -/
def funEachCard : Claim7 := { stood := { row := funEachRow, standIns := [], harness := (true, "5915e900c3686fb0a2a65095ddafe60afccc71f40baecda0f42221358f06883c"), looks := true }, kinds := [], alts := [], laidByText := true, laidKinds := [.data, .data, .data, .data, .sentinel, .sentinel, .sentinel, .sentinel, .sentinel, .sentinel, .listed, .data, .pinned], laidTests := true, laidLooks := .later }
def FunEachCardSaid : Prop := Claim7.holds Tryz.pinned (.plain (OpenSpec.ofChange funEachSpec)) funEachCard

/-- THE TIED CARD OF 'inglenooklaw16.FunTakes'. -/
def funTakesCard : Claim7 := { stood := { row := funTakesRow, standIns := [], harness := (true, "5915e900c3686fb0a2a65095ddafe60afccc71f40baecda0f42221358f06883c"), looks := true }, kinds := [], alts := [], laidByText := true, laidKinds := [.data, .data, .data, .data, .sentinel, .sentinel, .sentinel, .sentinel, .sentinel, .sentinel, .listed, .data, .pinned], laidTests := true, laidLooks := .later }
def FunTakesCardSaid : Prop := Claim7.holds Tryz.pinned (.plain (OpenSpec.ofChange funTakesSpec)) funTakesCard

/-- THE SECOND FORM's CARD OF 'inglenooklaw16.FunLists'. -/
def funListsUptoCard : Claim7 := { stood := { row := funListsUptoRow, standIns := [], harness := (true, "5915e900c3686fb0a2a65095ddafe60afccc71f40baecda0f42221358f06883c"), looks := true }, kinds := [], alts := [], laidByText := true, laidKinds := [.data, .data, .data, .data, .sentinel, .sentinel, .sentinel, .sentinel, .sentinel, .sentinel, .listed, .data, .pinned], laidTests := true, laidLooks := .later }
def FunListsUptoCardSaid : Prop := Claim7.holds Tryz.pinned (.plain (OpenSpec.upto funListsSpec)) funListsUptoCard

/-- THE SECOND FORM's CARD OF 'inglenooklaw16.FunTexts'. -/
def funTextsUptoCard : Claim7 := { stood := { row := funTextsUptoRow, standIns := [], harness := (true, "5915e900c3686fb0a2a65095ddafe60afccc71f40baecda0f42221358f06883c"), looks := true }, kinds := [], alts := [], laidByText := true, laidKinds := [.data, .data, .data, .data, .sentinel, .sentinel, .sentinel, .sentinel, .sentinel, .sentinel, .listed, .data, .pinned], laidTests := true, laidLooks := .later }
def FunTextsUptoCardSaid : Prop := Claim7.holds Tryz.pinned (.plain (OpenSpec.upto funTextsSpec)) funTextsUptoCard

/-- THE SECOND FORM's CARD OF 'inglenooklaw16.FunEach'. -/
def funEachUptoCard : Claim7 := { stood := { row := funEachUptoRow, standIns := [], harness := (true, "5915e900c3686fb0a2a65095ddafe60afccc71f40baecda0f42221358f06883c"), looks := true }, kinds := [], alts := [], laidByText := true, laidKinds := [.data, .data, .data, .data, .sentinel, .sentinel, .sentinel, .sentinel, .sentinel, .sentinel, .listed, .data, .pinned], laidTests := true, laidLooks := .later }
def FunEachUptoCardSaid : Prop := Claim7.holds Tryz.pinned (.plain (OpenSpec.upto funEachSpec)) funEachUptoCard

/-- THE SECOND FORM's CARD OF 'inglenooklaw16.FunTakes'. -/
def funTakesUptoCard : Claim7 := { stood := { row := funTakesUptoRow, standIns := [], harness := (true, "5915e900c3686fb0a2a65095ddafe60afccc71f40baecda0f42221358f06883c"), looks := true }, kinds := [], alts := [], laidByText := true, laidKinds := [.data, .data, .data, .data, .sentinel, .sentinel, .sentinel, .sentinel, .sentinel, .sentinel, .listed, .data, .pinned], laidTests := true, laidLooks := .later }
def FunTakesUptoCardSaid : Prop := Claim7.holds Tryz.pinned (.plain (OpenSpec.upto funTakesSpec)) funTakesUptoCard
end Rows
end Go.Proofs.YtbalpfpcbckghaaGreatDoor
