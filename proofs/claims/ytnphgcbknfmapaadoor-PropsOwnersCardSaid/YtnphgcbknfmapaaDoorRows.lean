/-
  NARROWER THAN 'FOR EVERY INPUT', by the rows' own cells (each row's printed sentence says how): PropsNames: laid · PropsOwners: laid.
  DERIVED. THE GIVEN ROWS OF THIS SEAT. 2 by the template 'for every input the law returns true; each argument reads behind the call as it read before'; 0 by the template 'total and deterministic' (their statements: YtnphgcbknfmapaaDoorTotals.lean).
  GIVEN WITH THE SEED: the statements are not yours to turn. If you find one false, say at which input.
  Laid BY PROGRAM, IN A SANDBOX (cutbox-rows.mjs): the forced cells as the released guide's own fill.sh prints them over the translation 2a326c401567afa5… (all of the seat's roots in one cut). By AI agents, Wed Nov 11 2026. No macro, syntax, notation, axiom, sorry.
-/
import Derived.Test.YtnphgcbknfmapaaDoorChecked
import GoSem.Claim
import GoSem.ClaimJoined
import GoSem.ClaimMapViews
import Derived.JoinedTies
import Derived.KernelRfl
namespace Go.Proofs.YtnphgcbknfmapaaDoor
/- THE CELL 'sum', in the pinned program and in every row, IS THE sha256 OF THE DUMP (.gsa) THAT YtnphgcbknfmapaaDoorProg.lean LOADS. Nothing in Lean hashes anything: it is a label: what it is worth is what the hold of that sum in a sandbox is worth. -/
noncomputable def Tryd.pinned : Pinned := { name := "ytnphgcbknfmapaadoor", sum := "2a326c401567afa5b169d697a86cf4ee5b969004c6ca97a635742d124aa504ba", checked := Tryd.checked }
namespace Rows
def none {H : Type} : Left H := { results := [], args := [] }

/- WHAT THE LISTED PACKAGE-LEVEL VARIABLES READ AS WHEN THE CALL BEGINS. Each datum BY PROGRAM (the guide's laid-datum.mjs) off the statement by which the dump's own 'gosem.cut.vars' lays the variable. In a bare row this is a premise. The card (YtnphgcbknfmapaaDoorCards.lean) ties it to the program's text. -/
def laid_inglenook_api_ErrShape {H : Type} : DataW H := .iface "*errors.errorString" (.ptr (.agg [.lit (.string [110, 111, 116, 32, 97, 115, 32, 105, 116, 32, 104, 97, 115, 32, 116, 111, 32, 98, 101])]))
def laid_inglenook_api_ErrMany {H : Type} : DataW H := .iface "*errors.errorString" (.ptr (.agg [.lit (.string [116, 111, 111, 32, 109, 97, 110, 121])]))
def laid_inglenook_api_ErrRange {H : Type} : DataW H := .iface "*errors.errorString" (.ptr (.agg [.lit (.string [97, 32, 110, 117, 109, 98, 101, 114, 32, 111, 117, 116, 32, 111, 102, 32, 105, 116, 115, 32, 114, 97, 110, 103, 101])]))
def laid_inglenook_api_ErrDeep {H : Type} : DataW H := .iface "*errors.errorString" (.ptr (.agg [.lit (.string [116, 111, 111, 32, 100, 101, 101, 112])]))

/-- 'inglenooklaw13.PropsNames': WHATEVER THE INPUT: true; the input reads as it did. -/
def propsNamesSpec : ChangeSpec := { name := "propsNames", fn := fun _ => fun
  | [d1, d2, d3, d4] => { results := [.lit (.bool true)], args := [d1, d2, d3, d4] }
  | _ => none }
def propsNamesRow : OpenClaim := { program := "ytnphgcbknfmapaadoor", sum := "2a326c401567afa5b169d697a86cf4ee5b969004c6ca97a635742d124aa504ba", func := "inglenook/inglenooklaw13.PropsNames", spec := "propsNames", unfollowed := true, recurses := true, named := ["inglenook/api.ErrDeep", "inglenook/api.ErrMany", "inglenook/api.ErrRange", "inglenook/api.ErrShape"], apart := false, laid := [("inglenook/api.ErrShape", laid_inglenook_api_ErrShape), ("inglenook/api.ErrMany", laid_inglenook_api_ErrMany), ("inglenook/api.ErrRange", laid_inglenook_api_ErrRange), ("inglenook/api.ErrDeep", laid_inglenook_api_ErrDeep)] }
def PropsNamesSaid : Prop := propsNamesRow.holds Tryd.pinned (OpenSpec.ofChange propsNamesSpec)

/-- ITS FALSE NEIGHBOUR: 'it returns false'. Refute it at one input. -/
def propsNamesWrong : ChangeSpec := { name := "propsNames", fn := fun _ => fun
  | [d1, d2, d3, d4] => { results := [.lit (.bool false)], args := [d1, d2, d3, d4] }
  | _ => none }
def PropsNamesWrongFalsely : Prop := propsNamesRow.holds Tryd.pinned (OpenSpec.ofChange propsNamesWrong)

/-- 'inglenooklaw13.PropsOwners': WHATEVER THE INPUT: true; the input reads as it did. -/
def propsOwnersSpec : ChangeSpec := { name := "propsOwners", fn := fun _ => fun
  | [d1, d2, d3] => { results := [.lit (.bool true)], args := [d1, d2, d3] }
  | _ => none }
def propsOwnersRow : OpenClaim := { program := "ytnphgcbknfmapaadoor", sum := "2a326c401567afa5b169d697a86cf4ee5b969004c6ca97a635742d124aa504ba", func := "inglenook/inglenooklaw13.PropsOwners", spec := "propsOwners", unfollowed := true, recurses := true, named := ["inglenook/api.ErrDeep", "inglenook/api.ErrMany", "inglenook/api.ErrRange", "inglenook/api.ErrShape"], apart := false, laid := [("inglenook/api.ErrShape", laid_inglenook_api_ErrShape), ("inglenook/api.ErrMany", laid_inglenook_api_ErrMany), ("inglenook/api.ErrRange", laid_inglenook_api_ErrRange), ("inglenook/api.ErrDeep", laid_inglenook_api_ErrDeep)] }
def PropsOwnersSaid : Prop := propsOwnersRow.holds Tryd.pinned (OpenSpec.ofChange propsOwnersSpec)

/-- ITS FALSE NEIGHBOUR: 'it returns false'. Refute it at one input. -/
def propsOwnersWrong : ChangeSpec := { name := "propsOwners", fn := fun _ => fun
  | [d1, d2, d3] => { results := [.lit (.bool false)], args := [d1, d2, d3] }
  | _ => none }
def PropsOwnersWrongFalsely : Prop := propsOwnersRow.holds Tryd.pinned (OpenSpec.ofChange propsOwnersWrong)

/- THE SECOND FORM. 'bulk': how many values and letters a reading holds, each counted each time it is reached (what is shared counts as often as it is met; a slice's spare places count too). A statement '..UptoSaid' is the law's where the arguments, and the package variables that the reading takes, are together of bulk at most 1048576: NARROWER than '..Said'. Prove '..Said' where nothing that the law and all that it calls make is longer than what came in: it says more and counts as full. Else prove '..UptoSaid'. A law counts once. -/
mutual
def uptoBulk {H : Type} : DataW H → Nat
  | .lit (.string bytes) => bytes.length + 1
  | .lit _ => 1
  | .nil => 1
  | .ptr d => uptoBulk d + 1
  | .slice elems spare => uptoBulkAll elems + uptoBulkAll spare + 1
  | .agg parts => uptoBulkAll parts + 1
  | .iface _ d => uptoBulk d + 1
  | .map entries => uptoBulkEntries entries + 1
  | .held _ => 1
def uptoBulkAll {H : Type} : List (DataW H) → Nat
  | [] => 0
  | d :: r => uptoBulk d + uptoBulkAll r
def uptoBulkEntries {H : Type} : List (Lit × DataW H) → Nat
  | [] => 0
  | x :: r => uptoBulkEntry x + uptoBulkEntries r
def uptoBulkEntry {H : Type} : Lit × DataW H → Nat
  | (.string bytes, d) => bytes.length + uptoBulk d + 1
  | (_, d) => uptoBulk d + 1
 end
def uptoSmall : (H : Type) → List (DataW H) → Bool := fun _ ds => decide (uptoBulkAll ds ≤ 1048576)
def OpenSpec.upto (s : _root_.Go.ChangeSpec) : _root_.Go.OpenSpec := { _root_.Go.OpenSpec.ofChange s with cond := some uptoSmall }

/-- 'inglenooklaw13.PropsNames', WHERE WHAT IT READS IS OF BULK AT MOST 1048576: true; the input reads as it did. -/
def propsNamesUptoRow : OpenClaim := { program := "ytnphgcbknfmapaadoor", sum := "2a326c401567afa5b169d697a86cf4ee5b969004c6ca97a635742d124aa504ba", func := "inglenook/inglenooklaw13.PropsNames", spec := "propsNames", unfollowed := true, recurses := true, named := ["inglenook/api.ErrDeep", "inglenook/api.ErrMany", "inglenook/api.ErrRange", "inglenook/api.ErrShape"], apart := false, laid := [("inglenook/api.ErrShape", laid_inglenook_api_ErrShape), ("inglenook/api.ErrMany", laid_inglenook_api_ErrMany), ("inglenook/api.ErrRange", laid_inglenook_api_ErrRange), ("inglenook/api.ErrDeep", laid_inglenook_api_ErrDeep)], narrowed := true }
def PropsNamesUptoSaid : Prop := propsNamesUptoRow.holds Tryd.pinned (OpenSpec.upto propsNamesSpec)

/-- 'inglenooklaw13.PropsOwners', WHERE WHAT IT READS IS OF BULK AT MOST 1048576: true; the input reads as it did. -/
def propsOwnersUptoRow : OpenClaim := { program := "ytnphgcbknfmapaadoor", sum := "2a326c401567afa5b169d697a86cf4ee5b969004c6ca97a635742d124aa504ba", func := "inglenook/inglenooklaw13.PropsOwners", spec := "propsOwners", unfollowed := true, recurses := true, named := ["inglenook/api.ErrDeep", "inglenook/api.ErrMany", "inglenook/api.ErrRange", "inglenook/api.ErrShape"], apart := false, laid := [("inglenook/api.ErrShape", laid_inglenook_api_ErrShape), ("inglenook/api.ErrMany", laid_inglenook_api_ErrMany), ("inglenook/api.ErrRange", laid_inglenook_api_ErrRange), ("inglenook/api.ErrDeep", laid_inglenook_api_ErrDeep)], narrowed := true }
def PropsOwnersUptoSaid : Prop := propsOwnersUptoRow.holds Tryd.pinned (OpenSpec.upto propsOwnersSpec)

end Rows
end Go.Proofs.YtnphgcbknfmapaaDoor
