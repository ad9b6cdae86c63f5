/-
  DERIVED. GIVEN WITH THE SEED: THE CARDS: each row of YtoemnccklakkeaaDoorRows.lean that lists a variable, with what it lists TIED to the program's text (the seventh form; the later family's looks); each row that meets fmt, with fmt's text TOLD by the authors' own Lean function (tested against real Go, not proved from fmt's source: count such statements apart). THE CARD IS WHAT COUNTS. Prove the row's statement (the work); the ties are given (YtoemnccklakkeaaDoorTie.lean); close each card by the builder's one call (the guide's Derived/Test/ToyasCard.lean, 'card_holds'). Laid BY PROGRAM, IN A SANDBOX (cutbox-door.mjs). By AI agents, Wed Nov 11 2026. No macro, syntax, notation, axiom, sorry.
-/
import Derived.Test.YtoemnccklakkeaaDoorRows
import GoSem.ClaimSeven
namespace Go.Proofs.YtoemnccklakkeaaDoor
namespace Rows

/-- THE TIED CARD OF 'inglenooklaw2.LitNames'. -/
def litNamesCard : Claim7 := { stood := { row := litNamesRow, standIns := [], harness := (true, "22319db88f70a56ce4b2bad35f7018789af83f993724aae3bdd95c772fdcf8c5"), looks := true }, kinds := [], alts := [], laidByText := true, laidKinds := [.data, .data, .data, .sentinel, .sentinel, .sentinel, .sentinel, .sentinel, .sentinel, .sentinel], laidTests := true, laidLooks := .later }
def LitNamesCardSaid : Prop := Claim7.holds Tryd.pinned (.plain (OpenSpec.ofChange litNamesSpec)) litNamesCard

/-- THE TIED CARD OF 'inglenooklaw2.LitReads'. -/
def litReadsCard : Claim7 := { stood := { row := litReadsRow, standIns := [], harness := (true, "22319db88f70a56ce4b2bad35f7018789af83f993724aae3bdd95c772fdcf8c5"), looks := true }, kinds := [], alts := [], laidByText := true, laidKinds := [.data, .data, .data, .data, .sentinel, .sentinel, .sentinel, .sentinel, .sentinel, .sentinel, .sentinel, .sentinel, .sentinel, .sentinel, .sentinel, .sentinel, .sentinel, .sentinel, .sentinel, .sentinel, .sentinel, .pinned], laidTests := true, laidLooks := .later }
def LitReadsCardSaid : Prop := Claim7.holds Tryd.pinned (.plain (OpenSpec.ofChange litReadsSpec)) litReadsCard

/-- THE TIED CARD OF 'inglenooklaw2.LitSays'. -/
def litSaysCard : Claim7 := { stood := { row := litSaysRow, standIns := [], harness := (true, "22319db88f70a56ce4b2bad35f7018789af83f993724aae3bdd95c772fdcf8c5"), looks := true }, kinds := [], alts := [], laidByText := true, laidKinds := [.data, .data, .data, .data, .sentinel, .sentinel, .sentinel, .sentinel, .sentinel, .pinned], laidTests := true, laidLooks := .later }
def LitSaysCardSaid : Prop := Claim7.holds Tryd.pinned (.plain (OpenSpec.ofChange litSaysSpec)) litSaysCard

/-- THE TIED CARD OF 'inglenooklaw2.LitPlain'. -/
def litPlainCard : Claim7 := { stood := { row := litPlainRow, standIns := [], harness := (true, "22319db88f70a56ce4b2bad35f7018789af83f993724aae3bdd95c772fdcf8c5"), looks := true }, kinds := [], alts := [], laidByText := true, laidKinds := [.data, .data, .data, .data, .sentinel, .sentinel, .sentinel, .sentinel, .sentinel, .pinned], laidTests := true, laidLooks := .later }
def LitPlainCardSaid : Prop := Claim7.holds Tryd.pinned (.plain (OpenSpec.ofChange litPlainSpec)) litPlainCard

/-- THE TIED CARD OF 'inglenooklaw2.LitLists'. -/
def litListsCard : Claim7 := { stood := { row := litListsRow, standIns := [], harness := (true, "22319db88f70a56ce4b2bad35f7018789af83f993724aae3bdd95c772fdcf8c5"), looks := true }, kinds := [], alts := [], laidByText := true, laidKinds := [.data, .data, .data, .data, .sentinel, .sentinel, .sentinel, .sentinel, .sentinel, .sentinel, .sentinel, .sentinel, .sentinel, .sentinel, .sentinel, .sentinel, .sentinel, .sentinel, .sentinel, .sentinel, .sentinel, .pinned], laidTests := true, laidLooks := .later }
def LitListsCardSaid : Prop := Claim7.holds Tryd.pinned (.plain (OpenSpec.ofChange litListsSpec)) litListsCard

/-- THE TIED CARD OF 'inglenooklaw2.LitSpoilt'. -/
def litSpoiltCard : Claim7 := { stood := { row := litSpoiltRow, standIns := [], harness := (true, "22319db88f70a56ce4b2bad35f7018789af83f993724aae3bdd95c772fdcf8c5"), looks := true }, kinds := [], alts := [], laidByText := true, laidKinds := [.data, .data, .data, .data, .sentinel, .sentinel, .sentinel, .sentinel, .sentinel, .pinned], laidTests := true, laidLooks := .later }
def LitSpoiltCardSaid : Prop := Claim7.holds Tryd.pinned (.plain (OpenSpec.ofChange litSpoiltSpec)) litSpoiltCard

/-- THE TIED CARD OF 'inglenooklaw2.LitNumbers'. -/
def litNumbersCard : Claim7 := { stood := { row := litNumbersRow, standIns := [], harness := (true, "22319db88f70a56ce4b2bad35f7018789af83f993724aae3bdd95c772fdcf8c5"), looks := true }, kinds := [], alts := [], laidByText := true, laidKinds := [.data, .data, .data, .data, .sentinel, .sentinel, .sentinel, .sentinel, .sentinel, .sentinel, .sentinel, .pinned], laidTests := true, laidLooks := .later }
def LitNumbersCardSaid : Prop := Claim7.holds Tryd.pinned (.plain (OpenSpec.ofChange litNumbersSpec)) litNumbersCard

/-- THE SECOND FORM's CARD OF 'inglenooklaw2.LitNames'. -/
def litNamesUptoCard : Claim7 := { stood := { row := litNamesUptoRow, standIns := [], harness := (true, "22319db88f70a56ce4b2bad35f7018789af83f993724aae3bdd95c772fdcf8c5"), looks := true }, kinds := [], alts := [], laidByText := true, laidKinds := [.data, .data, .data, .sentinel, .sentinel, .sentinel, .sentinel, .sentinel, .sentinel, .sentinel], laidTests := true, laidLooks := .later }
def LitNamesUptoCardSaid : Prop := Claim7.holds Tryd.pinned (.plain (OpenSpec.upto litNamesSpec)) litNamesUptoCard

/-- THE SECOND FORM's CARD OF 'inglenooklaw2.LitReads'. -/
def litReadsUptoCard : Claim7 := { stood := { row := litReadsUptoRow, standIns := [], harness := (true, "22319db88f70a56ce4b2bad35f7018789af83f993724aae3bdd95c772fdcf8c5"), looks := true }, kinds := [], alts := [], laidByText := true, laidKinds := [.data, .data, .data, .data, .sentinel, .sentinel, .sentinel, .sentinel, .sentinel, .sentinel, .sentinel, .sentinel, .sentinel, .sentinel, .sentinel, .sentinel, .sentinel, .sentinel, .sentinel, .sentinel, .sentinel, .pinned], laidTests := true, laidLooks := .later }
def LitReadsUptoCardSaid : Prop := Claim7.holds Tryd.pinned (.plain (OpenSpec.upto litReadsSpec)) litReadsUptoCard

/-- THE SECOND FORM's CARD OF 'inglenooklaw2.LitSays'. -/
def litSaysUptoCard : Claim7 := { stood := { row := litSaysUptoRow, standIns := [], harness := (true, "22319db88f70a56ce4b2bad35f7018789af83f993724aae3bdd95c772fdcf8c5"), looks := true }, kinds := [], alts := [], laidByText := true, laidKinds := [.data, .data, .data, .data, .sentinel, .sentinel, .sentinel, .sentinel, .sentinel, .pinned], laidTests := true, laidLooks := .later }
def LitSaysUptoCardSaid : Prop := Claim7.holds Tryd.pinned (.plain (OpenSpec.upto litSaysSpec)) litSaysUptoCard

/-- THE SECOND FORM's CARD OF 'inglenooklaw2.LitPlain'. -/
def litPlainUptoCard : Claim7 := { stood := { row := litPlainUptoRow, standIns := [], harness := (true, "22319db88f70a56ce4b2bad35f7018789af83f993724aae3bdd95c772fdcf8c5"), looks := true }, kinds := [], alts := [], laidByText := true, laidKinds := [.data, .data, .data, .data, .sentinel, .sentinel, .sentinel, .sentinel, .sentinel, .pinned], laidTests := true, laidLooks := .later }
def LitPlainUptoCardSaid : Prop := Claim7.holds Tryd.pinned (.plain (OpenSpec.upto litPlainSpec)) litPlainUptoCard

/-- THE SECOND FORM's CARD OF 'inglenooklaw2.LitLists'. -/
def litListsUptoCard : Claim7 := { stood := { row := litListsUptoRow, standIns := [], harness := (true, "22319db88f70a56ce4b2bad35f7018789af83f993724aae3bdd95c772fdcf8c5"), looks := true }, kinds := [], alts := [], laidByText := true, laidKinds := [.data, .data, .data, .data, .sentinel, .sentinel, .sentinel, .sentinel, .sentinel, .sentinel, .sentinel, .sentinel, .sentinel, .sentinel, .sentinel, .sentinel, .sentinel, .sentinel, .sentinel, .sentinel, .sentinel, .pinned], laidTests := true, laidLooks := .later }
def LitListsUptoCardSaid : Prop := Claim7.holds Tryd.pinned (.plain (OpenSpec.upto litListsSpec)) litListsUptoCard

/-- THE SECOND FORM's CARD OF 'inglenooklaw2.LitSpoilt'. -/
def litSpoiltUptoCard : Claim7 := { stood := { row := litSpoiltUptoRow, standIns := [], harness := (true, "22319db88f70a56ce4b2bad35f7018789af83f993724aae3bdd95c772fdcf8c5"), looks := true }, kinds := [], alts := [], laidByText := true, laidKinds := [.data, .data, .data, .data, .sentinel, .sentinel, .sentinel, .sentinel, .sentinel, .pinned], laidTests := true, laidLooks := .later }
def LitSpoiltUptoCardSaid : Prop := Claim7.holds Tryd.pinned (.plain (OpenSpec.upto litSpoiltSpec)) litSpoiltUptoCard

/-- THE SECOND FORM's CARD OF 'inglenooklaw2.LitNumbers'. -/
def litNumbersUptoCard : Claim7 := { stood := { row := litNumbersUptoRow, standIns := [], harness := (true, "22319db88f70a56ce4b2bad35f7018789af83f993724aae3bdd95c772fdcf8c5"), looks := true }, kinds := [], alts := [], laidByText := true, laidKinds := [.data, .data, .data, .data, .sentinel, .sentinel, .sentinel, .sentinel, .sentinel, .sentinel, .sentinel, .pinned], laidTests := true, laidLooks := .later }
def LitNumbersUptoCardSaid : Prop := Claim7.holds Tryd.pinned (.plain (OpenSpec.upto litNumbersSpec)) litNumbersUptoCard
end Rows
end Go.Proofs.YtoemnccklakkeaaDoor
