/-
  NARROWER THAN 'FOR EVERY INPUT', by the rows' own cells (each row's printed sentence says how): ObjsSlots: laid · PropsBuiltin: laid · PropsInherit: laid · WorldOwners: laid · WorldMoves: laid · WorldQuota: laid.
  DERIVED. THE GIVEN ROWS OF THIS SEAT. 6 by the template 'for every input the law returns true; each argument reads behind the call as it read before'; 0 by the template 'total and deterministic' (their statements: YtnphgcbknfmapaaGreatDoorTotals.lean).
  GIVEN WITH THE SEED: the statements are not yours to turn. If you find one false, say at which input.
  Laid BY PROGRAM, IN A SANDBOX (cutbox-rows.mjs): the forced cells as the released guide's own fill.sh prints them over the translation 5125d718a2903e23… (all of the seat's roots in one cut). By AI agents, Wed Nov 11 2026. No macro, syntax, notation, axiom, sorry.
-/
import Derived.Test.YtnphgcbknfmapaaGreatDoorChecked
import GoSem.PinnedTables
import GoSem.Claim
import GoSem.ClaimJoined
import GoSem.ClaimMapViews
import Derived.JoinedTies
import Derived.KernelRfl
namespace Go.Proofs.YtnphgcbknfmapaaGreatDoor
/- THE CELL 'sum', in the pinned program and in every row, IS THE sha256 OF THE DUMP (.gsa) THAT YtnphgcbknfmapaaGreatDoorProg.lean LOADS. Nothing in Lean hashes anything: it is a label: what it is worth is what the hold of that sum in a sandbox is worth. -/
noncomputable def Tryz.pinned : Pinned := { name := "ytnphgcbknfmapaagreatdoor", sum := "5125d718a2903e23160146f1a0e6458f638d3c4fb87442d21ff03207f92bab3e", checked := Tryz.checked }
namespace Rows
def none {H : Type} : Left H := { results := [], args := [] }

/- WHAT THE LISTED PACKAGE-LEVEL VARIABLES READ AS WHEN THE CALL BEGINS. Each datum BY PROGRAM (the guide's laid-datum.mjs) off the statement by which the dump's own 'gosem.cut.vars' lays the variable. In a bare row this is a premise. The card (YtnphgcbknfmapaaGreatDoorCards.lean) ties it to the program's text. -/
def laid_unicode_utf8_acceptRanges {H : Type} : DataW H := .agg [.agg [.lit (.int .u8 128), .lit (.int .u8 191)], .agg [.lit (.int .u8 160), .lit (.int .u8 191)], .agg [.lit (.int .u8 128), .lit (.int .u8 159)], .agg [.lit (.int .u8 144), .lit (.int .u8 191)], .agg [.lit (.int .u8 128), .lit (.int .u8 143)], .agg [.lit (.int .u8 0), .lit (.int .u8 0)], .agg [.lit (.int .u8 0), .lit (.int .u8 0)], .agg [.lit (.int .u8 0), .lit (.int .u8 0)], .agg [.lit (.int .u8 0), .lit (.int .u8 0)], .agg [.lit (.int .u8 0), .lit (.int .u8 0)], .agg [.lit (.int .u8 0), .lit (.int .u8 0)], .agg [.lit (.int .u8 0), .lit (.int .u8 0)], .agg [.lit (.int .u8 0), .lit (.int .u8 0)], .agg [.lit (.int .u8 0), .lit (.int .u8 0)], .agg [.lit (.int .u8 0), .lit (.int .u8 0)], .agg [.lit (.int .u8 0), .lit (.int .u8 0)]]
def laid_inglenook_api_ErrShape {H : Type} : DataW H := .iface "*errors.errorString" (.ptr (.agg [.lit (.string [110, 111, 116, 32, 97, 115, 32, 105, 116, 32, 104, 97, 115, 32, 116, 111, 32, 98, 101])]))
def laid_inglenook_api_ErrMany {H : Type} : DataW H := .iface "*errors.errorString" (.ptr (.agg [.lit (.string [116, 111, 111, 32, 109, 97, 110, 121])]))
def laid_inglenook_api_ErrRange {H : Type} : DataW H := .iface "*errors.errorString" (.ptr (.agg [.lit (.string [97, 32, 110, 117, 109, 98, 101, 114, 32, 111, 117, 116, 32, 111, 102, 32, 105, 116, 115, 32, 114, 97, 110, 103, 101])]))
def laid_inglenook_api_ErrName {H : Type} : DataW H := .iface "*errors.errorString" (.ptr (.agg [.lit (.string [110, 111, 32, 110, 97, 109, 101, 32, 116, 104, 97, 116, 32, 109, 97, 121, 32, 98, 101])]))
def laid_inglenook_api_ErrDeep {H : Type} : DataW H := .iface "*errors.errorString" (.ptr (.agg [.lit (.string [116, 111, 111, 32, 100, 101, 101, 112])]))
/-- One of Go's own tables, pinned by name: the form's constant. -/
def laid_unicode_utf8_first : DataW Unit := Go.Pinned.utf8First

/-- 'inglenooklaw12.ObjsSlots': WHATEVER THE INPUT: true; the input reads as it did. -/
def objsSlotsSpec : ChangeSpec := { name := "objsSlots", fn := fun _ => fun
  | [d1, d2] => { results := [.lit (.bool true)], args := [d1, d2] }
  | _ => none }
def objsSlotsRow : OpenClaim := { program := "ytnphgcbknfmapaagreatdoor", sum := "5125d718a2903e23160146f1a0e6458f638d3c4fb87442d21ff03207f92bab3e", func := "inglenook/inglenooklaw12.ObjsSlots", spec := "objsSlots", inPlace := ["internal/bytealg.CountString", "internal/bytealg.IndexByteString", "internal/bytealg.IndexString"], unfollowed := true, recurses := true, named := ["inglenook/api.ErrMany", "inglenook/api.ErrShape", "inglenook/api.ErrDeep", "inglenook/api.ErrRange", "unicode/utf8.first", "unicode/utf8.acceptRanges", "internal/bytealg.MaxLen", "inglenook/api.ErrName"], apart := false, laid := [("unicode/utf8.acceptRanges", laid_unicode_utf8_acceptRanges), ("inglenook/api.ErrShape", laid_inglenook_api_ErrShape), ("inglenook/api.ErrMany", laid_inglenook_api_ErrMany), ("inglenook/api.ErrRange", laid_inglenook_api_ErrRange), ("inglenook/api.ErrName", laid_inglenook_api_ErrName), ("inglenook/api.ErrDeep", laid_inglenook_api_ErrDeep), ("unicode/utf8.first", laid_unicode_utf8_first)] }
def ObjsSlotsSaid : Prop := objsSlotsRow.holds Tryz.pinned (OpenSpec.ofChange objsSlotsSpec)

/-- ITS FALSE NEIGHBOUR: 'it returns false'. Refute it at one input. -/
def objsSlotsWrong : ChangeSpec := { name := "objsSlots", fn := fun _ => fun
  | [d1, d2] => { results := [.lit (.bool false)], args := [d1, d2] }
  | _ => none }
def ObjsSlotsWrongFalsely : Prop := objsSlotsRow.holds Tryz.pinned (OpenSpec.ofChange objsSlotsWrong)

/-- 'inglenooklaw13.PropsBuiltin': WHATEVER THE INPUT: true; the input reads as it did. -/
def propsBuiltinSpec : ChangeSpec := { name := "propsBuiltin", fn := fun _ => fun
  | [d1, d2, d3] => { results := [.lit (.bool true)], args := [d1, d2, d3] }
  | _ => none }
def propsBuiltinRow : OpenClaim := { program := "ytnphgcbknfmapaagreatdoor", sum := "5125d718a2903e23160146f1a0e6458f638d3c4fb87442d21ff03207f92bab3e", func := "inglenook/inglenooklaw13.PropsBuiltin", spec := "propsBuiltin", unfollowed := true, recurses := true, named := ["inglenook/api.ErrDeep", "inglenook/api.ErrMany", "inglenook/api.ErrRange", "inglenook/api.ErrShape"], apart := false, laid := [("inglenook/api.ErrShape", laid_inglenook_api_ErrShape), ("inglenook/api.ErrMany", laid_inglenook_api_ErrMany), ("inglenook/api.ErrRange", laid_inglenook_api_ErrRange), ("inglenook/api.ErrDeep", laid_inglenook_api_ErrDeep)] }
def PropsBuiltinSaid : Prop := propsBuiltinRow.holds Tryz.pinned (OpenSpec.ofChange propsBuiltinSpec)

/-- ITS FALSE NEIGHBOUR: 'it returns false'. Refute it at one input. -/
def propsBuiltinWrong : ChangeSpec := { name := "propsBuiltin", fn := fun _ => fun
  | [d1, d2, d3] => { results := [.lit (.bool false)], args := [d1, d2, d3] }
  | _ => none }
def PropsBuiltinWrongFalsely : Prop := propsBuiltinRow.holds Tryz.pinned (OpenSpec.ofChange propsBuiltinWrong)

/-- 'inglenooklaw13.PropsInherit': WHATEVER THE INPUT: true; the input reads as it did. -/
def propsInheritSpec : ChangeSpec := { name := "propsInherit", fn := fun _ => fun
  | [d1, d2, d3] => { results := [.lit (.bool true)], args := [d1, d2, d3] }
  | _ => none }
def propsInheritRow : OpenClaim := { program := "ytnphgcbknfmapaagreatdoor", sum := "5125d718a2903e23160146f1a0e6458f638d3c4fb87442d21ff03207f92bab3e", func := "inglenook/inglenooklaw13.PropsInherit", spec := "propsInherit", unfollowed := true, recurses := true, named := ["inglenook/api.ErrDeep", "inglenook/api.ErrMany", "inglenook/api.ErrRange", "inglenook/api.ErrShape"], apart := false, laid := [("inglenook/api.ErrShape", laid_inglenook_api_ErrShape), ("inglenook/api.ErrMany", laid_inglenook_api_ErrMany), ("inglenook/api.ErrRange", laid_inglenook_api_ErrRange), ("inglenook/api.ErrDeep", laid_inglenook_api_ErrDeep)] }
def PropsInheritSaid : Prop := propsInheritRow.holds Tryz.pinned (OpenSpec.ofChange propsInheritSpec)

/-- ITS FALSE NEIGHBOUR: 'it returns false'. Refute it at one input. -/
def propsInheritWrong : ChangeSpec := { name := "propsInherit", fn := fun _ => fun
  | [d1, d2, d3] => { results := [.lit (.bool false)], args := [d1, d2, d3] }
  | _ => none }
def PropsInheritWrongFalsely : Prop := propsInheritRow.holds Tryz.pinned (OpenSpec.ofChange propsInheritWrong)

/-- 'inglenooklaw15.WorldOwners': WHATEVER THE INPUT: true; the input reads as it did. -/
def worldOwnersSpec : ChangeSpec := { name := "worldOwners", fn := fun _ => fun
  | [d1, d2, d3] => { results := [.lit (.bool true)], args := [d1, d2, d3] }
  | _ => none }
def worldOwnersRow : OpenClaim := { program := "ytnphgcbknfmapaagreatdoor", sum := "5125d718a2903e23160146f1a0e6458f638d3c4fb87442d21ff03207f92bab3e", func := "inglenook/inglenooklaw15.WorldOwners", spec := "worldOwners", inPlace := ["internal/bytealg.CountString", "internal/bytealg.IndexByteString", "internal/bytealg.IndexString"], unfollowed := true, recurses := true, named := ["inglenook/api.ErrMany", "inglenook/api.ErrShape", "inglenook/api.ErrDeep", "inglenook/api.ErrRange", "unicode/utf8.first", "unicode/utf8.acceptRanges", "internal/bytealg.MaxLen", "inglenook/api.ErrName"], apart := false, laid := [("unicode/utf8.acceptRanges", laid_unicode_utf8_acceptRanges), ("inglenook/api.ErrShape", laid_inglenook_api_ErrShape), ("inglenook/api.ErrMany", laid_inglenook_api_ErrMany), ("inglenook/api.ErrRange", laid_inglenook_api_ErrRange), ("inglenook/api.ErrName", laid_inglenook_api_ErrName), ("inglenook/api.ErrDeep", laid_inglenook_api_ErrDeep), ("unicode/utf8.first", laid_unicode_utf8_first)] }
def WorldOwnersSaid : Prop := worldOwnersRow.holds Tryz.pinned (OpenSpec.ofChange worldOwnersSpec)

/-- ITS FALSE NEIGHBOUR: 'it returns false'. Refute it at one input. -/
def worldOwnersWrong : ChangeSpec := { name := "worldOwners", fn := fun _ => fun
  | [d1, d2, d3] => { results := [.lit (.bool false)], args := [d1, d2, d3] }
  | _ => none }
def WorldOwnersWrongFalsely : Prop := worldOwnersRow.holds Tryz.pinned (OpenSpec.ofChange worldOwnersWrong)

/-- 'inglenooklaw15.WorldMoves': WHATEVER THE INPUT: true; the input reads as it did. -/
def worldMovesSpec : ChangeSpec := { name := "worldMoves", fn := fun _ => fun
  | [d1, d2, d3] => { results := [.lit (.bool true)], args := [d1, d2, d3] }
  | _ => none }
def worldMovesRow : OpenClaim := { program := "ytnphgcbknfmapaagreatdoor", sum := "5125d718a2903e23160146f1a0e6458f638d3c4fb87442d21ff03207f92bab3e", func := "inglenook/inglenooklaw15.WorldMoves", spec := "worldMoves", inPlace := ["internal/bytealg.CountString", "internal/bytealg.IndexByteString", "internal/bytealg.IndexString"], unfollowed := true, recurses := true, named := ["inglenook/api.ErrMany", "inglenook/api.ErrShape", "inglenook/api.ErrDeep", "inglenook/api.ErrRange", "unicode/utf8.first", "unicode/utf8.acceptRanges", "internal/bytealg.MaxLen", "inglenook/api.ErrName"], apart := false, laid := [("unicode/utf8.acceptRanges", laid_unicode_utf8_acceptRanges), ("inglenook/api.ErrShape", laid_inglenook_api_ErrShape), ("inglenook/api.ErrMany", laid_inglenook_api_ErrMany), ("inglenook/api.ErrRange", laid_inglenook_api_ErrRange), ("inglenook/api.ErrName", laid_inglenook_api_ErrName), ("inglenook/api.ErrDeep", laid_inglenook_api_ErrDeep), ("unicode/utf8.first", laid_unicode_utf8_first)] }
def WorldMovesSaid : Prop := worldMovesRow.holds Tryz.pinned (OpenSpec.ofChange worldMovesSpec)

/-- ITS FALSE NEIGHBOUR: 'it returns false'. Refute it at one input. -/
def worldMovesWrong : ChangeSpec := { name := "worldMoves", fn := fun _ => fun
  | [d1, d2, d3] => { results := [.lit (.bool false)], args := [d1, d2, d3] }
  | _ => none }
def WorldMovesWrongFalsely : Prop := worldMovesRow.holds Tryz.pinned (OpenSpec.ofChange worldMovesWrong)

/-- 'inglenooklaw15.WorldQuota': WHATEVER THE INPUT: true; the input reads as it did. -/
def worldQuotaSpec : ChangeSpec := { name := "worldQuota", fn := fun _ => fun
  | [d] => { results := [.lit (.bool true)], args := [d] }
  | _ => none }
def worldQuotaRow : OpenClaim := { program := "ytnphgcbknfmapaagreatdoor", sum := "5125d718a2903e23160146f1a0e6458f638d3c4fb87442d21ff03207f92bab3e", func := "inglenook/inglenooklaw15.WorldQuota", spec := "worldQuota", inPlace := ["internal/bytealg.CountString", "internal/bytealg.IndexByteString", "internal/bytealg.IndexString"], unfollowed := true, recurses := true, named := ["inglenook/api.ErrMany", "inglenook/api.ErrShape", "inglenook/api.ErrDeep", "inglenook/api.ErrRange", "unicode/utf8.first", "unicode/utf8.acceptRanges", "internal/bytealg.MaxLen", "inglenook/api.ErrName"], apart := false, laid := [("unicode/utf8.acceptRanges", laid_unicode_utf8_acceptRanges), ("inglenook/api.ErrShape", laid_inglenook_api_ErrShape), ("inglenook/api.ErrMany", laid_inglenook_api_ErrMany), ("inglenook/api.ErrRange", laid_inglenook_api_ErrRange), ("inglenook/api.ErrName", laid_inglenook_api_ErrName), ("inglenook/api.ErrDeep", laid_inglenook_api_ErrDeep), ("unicode/utf8.first", laid_unicode_utf8_first)] }
def WorldQuotaSaid : Prop := worldQuotaRow.holds Tryz.pinned (OpenSpec.ofChange worldQuotaSpec)

/-- ITS FALSE NEIGHBOUR: 'it returns false'. Refute it at one input. -/
def worldQuotaWrong : ChangeSpec := { name := "worldQuota", fn := fun _ => fun
  | [d] => { results := [.lit (.bool false)], args := [d] }
  | _ => none }
def WorldQuotaWrongFalsely : Prop := worldQuotaRow.holds Tryz.pinned (OpenSpec.ofChange worldQuotaWrong)

/- THE SECOND FORM. 'bulk': how many values and letters a reading holds, each counted each time it is reached (what is shared counts as often as it is met; a slice's spare places count too). A statement '..UptoSaid' is the law's where the arguments, and the package variables that the reading takes, are together of bulk at most 1048576: NARROWER than '..Said'. Prove '..Said' where nothing that the law and all that it calls make is longer than what came in: it says more and counts as full. Else prove '..UptoSaid'. A law counts once. -/
mutual
def uptoBulk {H : Type} : DataW H → Nat
  | .lit (.string bytes) => bytes.length + 1
  | .lit _ => 1
  | .nil => 1
  | .ptr d => uptoBulk d + 1
  | .slice elems spare => uptoBulkAll elems + uptoBulkAll spare + 1
  | .agg parts => uptoBulkAll parts + 1
  | .iface _ d => uptoBulk d + 1
  | .map entries => uptoBulkEntries entries + 1
  | .held _ => 1
def uptoBulkAll {H : Type} : List (DataW H) → Nat
  | [] => 0
  | d :: r => uptoBulk d + uptoBulkAll r
def uptoBulkEntries {H : Type} : List (Lit × DataW H) → Nat
  | [] => 0
  | x :: r => uptoBulkEntry x + uptoBulkEntries r
def uptoBulkEntry {H : Type} : Lit × DataW H → Nat
  | (.string bytes, d) => bytes.length + uptoBulk d + 1
  | (_, d) => uptoBulk d + 1
 end
def uptoSmall : (H : Type) → List (DataW H) → Bool := fun _ ds => decide (uptoBulkAll ds ≤ 1048576)
def OpenSpec.upto (s : _root_.Go.ChangeSpec) : _root_.Go.OpenSpec := { _root_.Go.OpenSpec.ofChange s with cond := some uptoSmall }

/-- 'inglenooklaw12.ObjsSlots', WHERE WHAT IT READS IS OF BULK AT MOST 1048576: true; the input reads as it did. -/
def objsSlotsUptoRow : OpenClaim := { program := "ytnphgcbknfmapaagreatdoor", sum := "5125d718a2903e23160146f1a0e6458f638d3c4fb87442d21ff03207f92bab3e", func := "inglenook/inglenooklaw12.ObjsSlots", spec := "objsSlots", inPlace := ["internal/bytealg.CountString", "internal/bytealg.IndexByteString", "internal/bytealg.IndexString"], unfollowed := true, recurses := true, named := ["inglenook/api.ErrMany", "inglenook/api.ErrShape", "inglenook/api.ErrDeep", "inglenook/api.ErrRange", "unicode/utf8.first", "unicode/utf8.acceptRanges", "internal/bytealg.MaxLen", "inglenook/api.ErrName"], apart := false, laid := [("unicode/utf8.acceptRanges", laid_unicode_utf8_acceptRanges), ("inglenook/api.ErrShape", laid_inglenook_api_ErrShape), ("inglenook/api.ErrMany", laid_inglenook_api_ErrMany), ("inglenook/api.ErrRange", laid_inglenook_api_ErrRange), ("inglenook/api.ErrName", laid_inglenook_api_ErrName), ("inglenook/api.ErrDeep", laid_inglenook_api_ErrDeep), ("unicode/utf8.first", laid_unicode_utf8_first)], narrowed := true }
def ObjsSlotsUptoSaid : Prop := objsSlotsUptoRow.holds Tryz.pinned (OpenSpec.upto objsSlotsSpec)

/-- 'inglenooklaw13.PropsBuiltin', WHERE WHAT IT READS IS OF BULK AT MOST 1048576: true; the input reads as it did. -/
def propsBuiltinUptoRow : OpenClaim := { program := "ytnphgcbknfmapaagreatdoor", sum := "5125d718a2903e23160146f1a0e6458f638d3c4fb87442d21ff03207f92bab3e", func := "inglenook/inglenooklaw13.PropsBuiltin", spec := "propsBuiltin", unfollowed := true, recurses := true, named := ["inglenook/api.ErrDeep", "inglenook/api.ErrMany", "inglenook/api.ErrRange", "inglenook/api.ErrShape"], apart := false, laid := [("inglenook/api.ErrShape", laid_inglenook_api_ErrShape), ("inglenook/api.ErrMany", laid_inglenook_api_ErrMany), ("inglenook/api.ErrRange", laid_inglenook_api_ErrRange), ("inglenook/api.ErrDeep", laid_inglenook_api_ErrDeep)], narrowed := true }
def PropsBuiltinUptoSaid : Prop := propsBuiltinUptoRow.holds Tryz.pinned (OpenSpec.upto propsBuiltinSpec)

/-- 'inglenooklaw13.PropsInherit', WHERE WHAT IT READS IS OF BULK AT MOST 1048576: true; the input reads as it did. -/
def propsInheritUptoRow : OpenClaim := { program := "ytnphgcbknfmapaagreatdoor", sum := "5125d718a2903e23160146f1a0e6458f638d3c4fb87442d21ff03207f92bab3e", func := "inglenook/inglenooklaw13.PropsInherit", spec := "propsInherit", unfollowed := true, recurses := true, named := ["inglenook/api.ErrDeep", "inglenook/api.ErrMany", "inglenook/api.ErrRange", "inglenook/api.ErrShape"], apart := false, laid := [("inglenook/api.ErrShape", laid_inglenook_api_ErrShape), ("inglenook/api.ErrMany", laid_inglenook_api_ErrMany), ("inglenook/api.ErrRange", laid_inglenook_api_ErrRange), ("inglenook/api.ErrDeep", laid_inglenook_api_ErrDeep)], narrowed := true }
def PropsInheritUptoSaid : Prop := propsInheritUptoRow.holds Tryz.pinned (OpenSpec.upto propsInheritSpec)

/-- 'inglenooklaw15.WorldOwners', WHERE WHAT IT READS IS OF BULK AT MOST 1048576: true; the input reads as it did. -/
def worldOwnersUptoRow : OpenClaim := { program := "ytnphgcbknfmapaagreatdoor", sum := "5125d718a2903e23160146f1a0e6458f638d3c4fb87442d21ff03207f92bab3e", func := "inglenook/inglenooklaw15.WorldOwners", spec := "worldOwners", inPlace := ["internal/bytealg.CountString", "internal/bytealg.IndexByteString", "internal/bytealg.IndexString"], unfollowed := true, recurses := true, named := ["inglenook/api.ErrMany", "inglenook/api.ErrShape", "inglenook/api.ErrDeep", "inglenook/api.ErrRange", "unicode/utf8.first", "unicode/utf8.acceptRanges", "internal/bytealg.MaxLen", "inglenook/api.ErrName"], apart := false, laid := [("unicode/utf8.acceptRanges", laid_unicode_utf8_acceptRanges), ("inglenook/api.ErrShape", laid_inglenook_api_ErrShape), ("inglenook/api.ErrMany", laid_inglenook_api_ErrMany), ("inglenook/api.ErrRange", laid_inglenook_api_ErrRange), ("inglenook/api.ErrName", laid_inglenook_api_ErrName), ("inglenook/api.ErrDeep", laid_inglenook_api_ErrDeep), ("unicode/utf8.first", laid_unicode_utf8_first)], narrowed := true }
def WorldOwnersUptoSaid : Prop := worldOwnersUptoRow.holds Tryz.pinned (OpenSpec.upto worldOwnersSpec)

/-- 'inglenooklaw15.WorldMoves', WHERE WHAT IT READS IS OF BULK AT MOST 1048576: true; the input reads as it did. -/
def worldMovesUptoRow : OpenClaim := { program := "ytnphgcbknfmapaagreatdoor", sum := "5125d718a2903e23160146f1a0e6458f638d3c4fb87442d21ff03207f92bab3e", func := "inglenook/inglenooklaw15.WorldMoves", spec := "worldMoves", inPlace := ["internal/bytealg.CountString", "internal/bytealg.IndexByteString", "internal/bytealg.IndexString"], unfollowed := true, recurses := true, named := ["inglenook/api.ErrMany", "inglenook/api.ErrShape", "inglenook/api.ErrDeep", "inglenook/api.ErrRange", "unicode/utf8.first", "unicode/utf8.acceptRanges", "internal/bytealg.MaxLen", "inglenook/api.ErrName"], apart := false, laid := [("unicode/utf8.acceptRanges", laid_unicode_utf8_acceptRanges), ("inglenook/api.ErrShape", laid_inglenook_api_ErrShape), ("inglenook/api.ErrMany", laid_inglenook_api_ErrMany), ("inglenook/api.ErrRange", laid_inglenook_api_ErrRange), ("inglenook/api.ErrName", laid_inglenook_api_ErrName), ("inglenook/api.ErrDeep", laid_inglenook_api_ErrDeep), ("unicode/utf8.first", laid_unicode_utf8_first)], narrowed := true }
def WorldMovesUptoSaid : Prop := worldMovesUptoRow.holds Tryz.pinned (OpenSpec.upto worldMovesSpec)

/-- 'inglenooklaw15.WorldQuota', WHERE WHAT IT READS IS OF BULK AT MOST 1048576: true; the input reads as it did. -/
def worldQuotaUptoRow : OpenClaim := { program := "ytnphgcbknfmapaagreatdoor", sum := "5125d718a2903e23160146f1a0e6458f638d3c4fb87442d21ff03207f92bab3e", func := "inglenook/inglenooklaw15.WorldQuota", spec := "worldQuota", inPlace := ["internal/bytealg.CountString", "internal/bytealg.IndexByteString", "internal/bytealg.IndexString"], unfollowed := true, recurses := true, named := ["inglenook/api.ErrMany", "inglenook/api.ErrShape", "inglenook/api.ErrDeep", "inglenook/api.ErrRange", "unicode/utf8.first", "unicode/utf8.acceptRanges", "internal/bytealg.MaxLen", "inglenook/api.ErrName"], apart := false, laid := [("unicode/utf8.acceptRanges", laid_unicode_utf8_acceptRanges), ("inglenook/api.ErrShape", laid_inglenook_api_ErrShape), ("inglenook/api.ErrMany", laid_inglenook_api_ErrMany), ("inglenook/api.ErrRange", laid_inglenook_api_ErrRange), ("inglenook/api.ErrName", laid_inglenook_api_ErrName), ("inglenook/api.ErrDeep", laid_inglenook_api_ErrDeep), ("unicode/utf8.first", laid_unicode_utf8_first)], narrowed := true }
def WorldQuotaUptoSaid : Prop := worldQuotaUptoRow.holds Tryz.pinned (OpenSpec.upto worldQuotaSpec)

end Rows
end Go.Proofs.YtnphgcbknfmapaaGreatDoor
