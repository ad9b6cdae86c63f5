/-
  DERIVED. GIVEN WITH THE SEED: THE CARDS: each row of YtnphgcbknfmapaaDoorRows.lean that lists a variable, with what it lists TIED to the program's text (the seventh form; the later family's looks); each row that meets fmt, with fmt's text TOLD by the authors' own Lean function (tested against real Go, not proved from fmt's source: count such statements apart). THE CARD IS WHAT COUNTS. Prove the row's statement (the work); the ties are given (YtnphgcbknfmapaaDoorTie.lean); close each card by the builder's one call (the guide's Derived/Test/ToyasCard.lean, 'card_holds'). Laid BY PROGRAM, IN A SANDBOX (cutbox-door.mjs). By AI agents, Wed Nov 11 2026. No macro, syntax, notation, axiom, sorry.
-/
import Derived.Test.YtnphgcbknfmapaaDoorRows
import GoSem.ClaimSeven
namespace Go.Proofs.YtnphgcbknfmapaaDoor
namespace Rows

/-- THE TIED CARD OF 'inglenooklaw13.PropsNames'. -/
def propsNamesCard : Claim7 := { stood := { row := propsNamesRow, standIns := [], harness := (true, "eaaa4a2cf325b26ac8a0708452a4b3c47e36b9ac32fe53cdb3337a76fec5797a"), looks := false }, kinds := [], alts := [], laidByText := true, laidKinds := [.sentinel, .sentinel, .sentinel, .sentinel], laidTests := true, laidLooks := .later }
def PropsNamesCardSaid : Prop := Claim7.holds Tryd.pinned (.plain (OpenSpec.ofChange propsNamesSpec)) propsNamesCard

/-- THE TIED CARD OF 'inglenooklaw13.PropsOwners'. -/
def propsOwnersCard : Claim7 := { stood := { row := propsOwnersRow, standIns := [], harness := (true, "eaaa4a2cf325b26ac8a0708452a4b3c47e36b9ac32fe53cdb3337a76fec5797a"), looks := false }, kinds := [], alts := [], laidByText := true, laidKinds := [.sentinel, .sentinel, .sentinel, .sentinel], laidTests := true, laidLooks := .later }
def PropsOwnersCardSaid : Prop := Claim7.holds Tryd.pinned (.plain (OpenSpec.ofChange propsOwnersSpec)) propsOwnersCard

/-- THE SECOND FORM's CARD OF 'inglenooklaw13.PropsNames'. -/
def propsNamesUptoCard : Claim7 := { stood := { row := propsNamesUptoRow, standIns := [], harness := (true, "eaaa4a2cf325b26ac8a0708452a4b3c47e36b9ac32fe53cdb3337a76fec5797a"), looks := false }, kinds := [], alts := [], laidByText := true, laidKinds := [.sentinel, .sentinel, .sentinel, .sentinel], laidTests := true, laidLooks := .later }
def PropsNamesUptoCardSaid : Prop := Claim7.holds Tryd.pinned (.plain (OpenSpec.upto propsNamesSpec)) propsNamesUptoCard

/-- THE SECOND FORM's CARD OF 'inglenooklaw13.PropsOwners'. -/
def propsOwnersUptoCard : Claim7 := { stood := { row := propsOwnersUptoRow, standIns := [], harness := (true, "eaaa4a2cf325b26ac8a0708452a4b3c47e36b9ac32fe53cdb3337a76fec5797a"), looks := false }, kinds := [], alts := [], laidByText := true, laidKinds := [.sentinel, .sentinel, .sentinel, .sentinel], laidTests := true, laidLooks := .later }
def PropsOwnersUptoCardSaid : Prop := Claim7.holds Tryd.pinned (.plain (OpenSpec.upto propsOwnersSpec)) propsOwnersUptoCard
end Rows
end Go.Proofs.YtnphgcbknfmapaaDoor
