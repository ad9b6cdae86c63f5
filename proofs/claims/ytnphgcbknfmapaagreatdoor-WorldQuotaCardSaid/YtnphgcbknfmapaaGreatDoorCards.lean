/-
  DERIVED. GIVEN WITH THE SEED: THE CARDS: each row of YtnphgcbknfmapaaGreatDoorRows.lean that lists a variable, with what it lists TIED to the program's text (the seventh form; the later family's looks); each row that meets fmt, with fmt's text TOLD by the authors' own Lean function (tested against real Go, not proved from fmt's source: count such statements apart). THE CARD IS WHAT COUNTS. Prove the row's statement (the work); the ties are given (YtnphgcbknfmapaaGreatDoorTie.lean); close each card by the builder's one call (the guide's Derived/Test/ToyasCard.lean, 'card_holds'). Laid BY PROGRAM, IN A SANDBOX (cutbox-door.mjs). By AI agents, Wed Nov 11 2026. No macro, syntax, notation, axiom, sorry.
-/
import Derived.Test.YtnphgcbknfmapaaGreatDoorRows
import GoSem.ClaimSeven
namespace Go.Proofs.YtnphgcbknfmapaaGreatDoor
namespace Rows

/-- THE TIED CARD OF 'inglenooklaw12.ObjsSlots'. -/
def objsSlotsCard : Claim7 := { stood := { row := objsSlotsRow, standIns := [], harness := (true, "425272658a3a0c35279a7c5ed70ece5e81f12970c8386cb5167a54606503493f"), looks := false }, kinds := [], alts := [], laidByText := true, laidKinds := [.data, .sentinel, .sentinel, .sentinel, .sentinel, .sentinel, .pinned], laidTests := true, laidLooks := .later }
def ObjsSlotsCardSaid : Prop := Claim7.holds Tryz.pinned (.plain (OpenSpec.ofChange objsSlotsSpec)) objsSlotsCard

/-- THE TIED CARD OF 'inglenooklaw13.PropsBuiltin'. -/
def propsBuiltinCard : Claim7 := { stood := { row := propsBuiltinRow, standIns := [], harness := (true, "425272658a3a0c35279a7c5ed70ece5e81f12970c8386cb5167a54606503493f"), looks := false }, kinds := [], alts := [], laidByText := true, laidKinds := [.sentinel, .sentinel, .sentinel, .sentinel], laidTests := true, laidLooks := .later }
def PropsBuiltinCardSaid : Prop := Claim7.holds Tryz.pinned (.plain (OpenSpec.ofChange propsBuiltinSpec)) propsBuiltinCard

/-- THE TIED CARD OF 'inglenooklaw13.PropsInherit'. -/
def propsInheritCard : Claim7 := { stood := { row := propsInheritRow, standIns := [], harness := (true, "425272658a3a0c35279a7c5ed70ece5e81f12970c8386cb5167a54606503493f"), looks := false }, kinds := [], alts := [], laidByText := true, laidKinds := [.sentinel, .sentinel, .sentinel, .sentinel], laidTests := true, laidLooks := .later }
def PropsInheritCardSaid : Prop := Claim7.holds Tryz.pinned (.plain (OpenSpec.ofChange propsInheritSpec)) propsInheritCard

/-- THE TIED CARD OF 'inglenooklaw15.WorldOwners'. -/
def worldOwnersCard : Claim7 := { stood := { row := worldOwnersRow, standIns := [], harness := (true, "425272658a3a0c35279a7c5ed70ece5e81f12970c8386cb5167a54606503493f"), looks := false }, kinds := [], alts := [], laidByText := true, laidKinds := [.data, .sentinel, .sentinel, .sentinel, .sentinel, .sentinel, .pinned], laidTests := true, laidLooks := .later }
def WorldOwnersCardSaid : Prop := Claim7.holds Tryz.pinned (.plain (OpenSpec.ofChange worldOwnersSpec)) worldOwnersCard

/-- THE TIED CARD OF 'inglenooklaw15.WorldMoves'. -/
def worldMovesCard : Claim7 := { stood := { row := worldMovesRow, standIns := [], harness := (true, "425272658a3a0c35279a7c5ed70ece5e81f12970c8386cb5167a54606503493f"), looks := false }, kinds := [], alts := [], laidByText := true, laidKinds := [.data, .sentinel, .sentinel, .sentinel, .sentinel, .sentinel, .pinned], laidTests := true, laidLooks := .later }
def WorldMovesCardSaid : Prop := Claim7.holds Tryz.pinned (.plain (OpenSpec.ofChange worldMovesSpec)) worldMovesCard

/-- THE TIED CARD OF 'inglenooklaw15.WorldQuota'. -/
def worldQuotaCard : Claim7 := { stood := { row := worldQuotaRow, standIns := [], harness := (true, "425272658a3a0c35279a7c5ed70ece5e81f12970c8386cb5167a54606503493f"), looks := false }, kinds := [], alts := [], laidByText := true, laidKinds := [.data, .sentinel, .sentinel, .sentinel, .sentinel, .sentinel, .pinned], laidTests := true, laidLooks := .later }
def WorldQuotaCardSaid : Prop := Claim7.holds Tryz.pinned (.plain (OpenSpec.ofChange worldQuotaSpec)) worldQuotaCard

/-- THE SECOND FORM's CARD OF 'inglenooklaw12.ObjsSlots'. -/
def objsSlotsUptoCard : Claim7 := { stood := { row := objsSlotsUptoRow, standIns := [], harness := (true, "425272658a3a0c35279a7c5ed70ece5e81f12970c8386cb5167a54606503493f"), looks := false }, kinds := [], alts := [], laidByText := true, laidKinds := [.data, .sentinel, .sentinel, .sentinel, .sentinel, .sentinel, .pinned], laidTests := true, laidLooks := .later }
def ObjsSlotsUptoCardSaid : Prop := Claim7.holds Tryz.pinned (.plain (OpenSpec.upto objsSlotsSpec)) objsSlotsUptoCard

/-- THE SECOND FORM's CARD OF 'inglenooklaw13.PropsBuiltin'. -/
def propsBuiltinUptoCard : Claim7 := { stood := { row := propsBuiltinUptoRow, standIns := [], harness := (true, "425272658a3a0c35279a7c5ed70ece5e81f12970c8386cb5167a54606503493f"), looks := false }, kinds := [], alts := [], laidByText := true, laidKinds := [.sentinel, .sentinel, .sentinel, .sentinel], laidTests := true, laidLooks := .later }
def PropsBuiltinUptoCardSaid : Prop := Claim7.holds Tryz.pinned (.plain (OpenSpec.upto propsBuiltinSpec)) propsBuiltinUptoCard

/-- THE SECOND FORM's CARD OF 'inglenooklaw13.PropsInherit'. -/
def propsInheritUptoCard : Claim7 := { stood := { row := propsInheritUptoRow, standIns := [], harness := (true, "425272658a3a0c35279a7c5ed70ece5e81f12970c8386cb5167a54606503493f"), looks := false }, kinds := [], alts := [], laidByText := true, laidKinds := [.sentinel, .sentinel, .sentinel, .sentinel], laidTests := true, laidLooks := .later }
def PropsInheritUptoCardSaid : Prop := Claim7.holds Tryz.pinned (.plain (OpenSpec.upto propsInheritSpec)) propsInheritUptoCard

/-- THE SECOND FORM's CARD OF 'inglenooklaw15.WorldOwners'. -/
def worldOwnersUptoCard : Claim7 := { stood := { row := worldOwnersUptoRow, standIns := [], harness := (true, "425272658a3a0c35279a7c5ed70ece5e81f12970c8386cb5167a54606503493f"), looks := false }, kinds := [], alts := [], laidByText := true, laidKinds := [.data, .sentinel, .sentinel, .sentinel, .sentinel, .sentinel, .pinned], laidTests := true, laidLooks := .later }
def WorldOwnersUptoCardSaid : Prop := Claim7.holds Tryz.pinned (.plain (OpenSpec.upto worldOwnersSpec)) worldOwnersUptoCard

/-- THE SECOND FORM's CARD OF 'inglenooklaw15.WorldMoves'. -/
def worldMovesUptoCard : Claim7 := { stood := { row := worldMovesUptoRow, standIns := [], harness := (true, "425272658a3a0c35279a7c5ed70ece5e81f12970c8386cb5167a54606503493f"), looks := false }, kinds := [], alts := [], laidByText := true, laidKinds := [.data, .sentinel, .sentinel, .sentinel, .sentinel, .sentinel, .pinned], laidTests := true, laidLooks := .later }
def WorldMovesUptoCardSaid : Prop := Claim7.holds Tryz.pinned (.plain (OpenSpec.upto worldMovesSpec)) worldMovesUptoCard

/-- THE SECOND FORM's CARD OF 'inglenooklaw15.WorldQuota'. -/
def worldQuotaUptoCard : Claim7 := { stood := { row := worldQuotaUptoRow, standIns := [], harness := (true, "425272658a3a0c35279a7c5ed70ece5e81f12970c8386cb5167a54606503493f"), looks := false }, kinds := [], alts := [], laidByText := true, laidKinds := [.data, .sentinel, .sentinel, .sentinel, .sentinel, .sentinel, .pinned], laidTests := true, laidLooks := .later }
def WorldQuotaUptoCardSaid : Prop := Claim7.holds Tryz.pinned (.plain (OpenSpec.upto worldQuotaSpec)) worldQuotaUptoCard
end Rows
end Go.Proofs.YtnphgcbknfmapaaGreatDoor
