/-
  NARROWER THAN 'FOR EVERY INPUT', by the rows' own cells (each row's printed sentence says how): ObjsTrees: loops.
  DERIVED. THE GIVEN ROWS OF THIS SEAT. 3 by the template 'for every input the law returns true; each argument reads behind the call as it read before'; 0 by the template 'total and deterministic' (their statements: YtagajoagdhickaaTotals.lean).
  GIVEN WITH THE SEED: the statements are not yours to turn. If you find one false, say at which input.
  Laid BY PROGRAM, IN A SANDBOX (cutbox-rows.mjs): the forced cells as the released guide's own fill.sh prints them over the translation b8a808e560d21a4b… (all of the seat's roots in one cut). By AI agents, Wed Nov 11 2026. No macro, syntax, notation, axiom, sorry.
-/
import Derived.Test.YtagajoagdhickaaChecked
import GoSem.Claim
import GoSem.ClaimJoined
import GoSem.ClaimMapViews
import Derived.JoinedTies
import Derived.KernelRfl
namespace Go.Proofs.Ytagajoagdhickaa
/- THE CELL 'sum', in the pinned program and in every row, IS THE sha256 OF THE DUMP (.gsa) THAT YtagajoagdhickaaProg.lean LOADS. Nothing in Lean hashes anything: it is a label: what it is worth is what the hold of that sum in a sandbox is worth. -/
noncomputable def Try.pinned : Pinned := { name := "ytagajoagdhickaa", sum := "b8a808e560d21a4bc37ee3c795a2004d4b55cbe6aaa2a9b75224170db3ac9791", checked := Try.checked }
namespace Rows
def none {H : Type} : Left H := { results := [], args := [] }

/-- 'inglenooklaw12.ObjsNumbers': WHATEVER THE INPUT: true; the input reads as it did. -/
def objsNumbersSpec : ChangeSpec := { name := "objsNumbers", fn := fun _ => fun
  | [d] => { results := [.lit (.bool true)], args := [d] }
  | _ => none }
def objsNumbersRow : OpenClaim := { program := "ytagajoagdhickaa", sum := "b8a808e560d21a4bc37ee3c795a2004d4b55cbe6aaa2a9b75224170db3ac9791", func := "inglenook/inglenooklaw12.ObjsNumbers", spec := "objsNumbers", unfollowed := true, recurses := true, apart := false }
def ObjsNumbersSaid : Prop := objsNumbersRow.holds Try.pinned (OpenSpec.ofChange objsNumbersSpec)

/-- ITS FALSE NEIGHBOUR: 'it returns false'. Refute it at one input. -/
def objsNumbersWrong : ChangeSpec := { name := "objsNumbers", fn := fun _ => fun
  | [d] => { results := [.lit (.bool false)], args := [d] }
  | _ => none }
def ObjsNumbersWrongFalsely : Prop := objsNumbersRow.holds Try.pinned (OpenSpec.ofChange objsNumbersWrong)

/-- 'inglenooklaw12.ObjsTrees': WHATEVER THE INPUT: true; the input reads as it did. -/
def objsTreesSpec : ChangeSpec := { name := "objsTrees", fn := fun _ => fun
  | [d1, d2] => { results := [.lit (.bool true)], args := [d1, d2] }
  | _ => none }
def objsTreesRow : OpenClaim := { program := "ytagajoagdhickaa", sum := "b8a808e560d21a4bc37ee3c795a2004d4b55cbe6aaa2a9b75224170db3ac9791", func := "inglenook/inglenooklaw12.ObjsTrees", spec := "objsTrees", unfollowed := true, recurses := true, loops := true, apart := false }
def ObjsTreesSaid : Prop := objsTreesRow.holds Try.pinned (OpenSpec.ofChange objsTreesSpec)

/-- ITS FALSE NEIGHBOUR: 'it returns false'. Refute it at one input. -/
def objsTreesWrong : ChangeSpec := { name := "objsTrees", fn := fun _ => fun
  | [d1, d2] => { results := [.lit (.bool false)], args := [d1, d2] }
  | _ => none }
def ObjsTreesWrongFalsely : Prop := objsTreesRow.holds Try.pinned (OpenSpec.ofChange objsTreesWrong)

/-- 'inglenooklaw12.ObjsRecycles': WHATEVER THE INPUT: true; the input reads as it did. -/
def objsRecyclesSpec : ChangeSpec := { name := "objsRecycles", fn := fun _ => fun
  | [d1, d2, d3] => { results := [.lit (.bool true)], args := [d1, d2, d3] }
  | _ => none }
def objsRecyclesRow : OpenClaim := { program := "ytagajoagdhickaa", sum := "b8a808e560d21a4bc37ee3c795a2004d4b55cbe6aaa2a9b75224170db3ac9791", func := "inglenook/inglenooklaw12.ObjsRecycles", spec := "objsRecycles", unfollowed := true, recurses := true, apart := false }
def ObjsRecyclesSaid : Prop := objsRecyclesRow.holds Try.pinned (OpenSpec.ofChange objsRecyclesSpec)

/-- ITS FALSE NEIGHBOUR: 'it returns false'. Refute it at one input. -/
def objsRecyclesWrong : ChangeSpec := { name := "objsRecycles", fn := fun _ => fun
  | [d1, d2, d3] => { results := [.lit (.bool false)], args := [d1, d2, d3] }
  | _ => none }
def ObjsRecyclesWrongFalsely : Prop := objsRecyclesRow.holds Try.pinned (OpenSpec.ofChange objsRecyclesWrong)

/- THE SECOND FORM. 'bulk': how many values and letters a reading holds, each counted each time it is reached (what is shared counts as often as it is met; a slice's spare places count too). A statement '..UptoSaid' is the law's where the arguments, and the package variables that the reading takes, are together of bulk at most 1048576: NARROWER than '..Said'. Prove '..Said' where nothing that the law and all that it calls make is longer than what came in: it says more and counts as full. Else prove '..UptoSaid'. A law counts once. -/
mutual
def uptoBulk {H : Type} : DataW H → Nat
  | .lit (.string bytes) => bytes.length + 1
  | .lit _ => 1
  | .nil => 1
  | .ptr d => uptoBulk d + 1
  | .slice elems spare => uptoBulkAll elems + uptoBulkAll spare + 1
  | .agg parts => uptoBulkAll parts + 1
  | .iface _ d => uptoBulk d + 1
  | .map entries => uptoBulkEntries entries + 1
  | .held _ => 1
def uptoBulkAll {H : Type} : List (DataW H) → Nat
  | [] => 0
  | d :: r => uptoBulk d + uptoBulkAll r
def uptoBulkEntries {H : Type} : List (Lit × DataW H) → Nat
  | [] => 0
  | x :: r => uptoBulkEntry x + uptoBulkEntries r
def uptoBulkEntry {H : Type} : Lit × DataW H → Nat
  | (.string bytes, d) => bytes.length + uptoBulk d + 1
  | (_, d) => uptoBulk d + 1
 end
def uptoSmall : (H : Type) → List (DataW H) → Bool := fun _ ds => decide (uptoBulkAll ds ≤ 1048576)
def OpenSpec.upto (s : _root_.Go.ChangeSpec) : _root_.Go.OpenSpec := { _root_.Go.OpenSpec.ofChange s with cond := some uptoSmall }

/-- 'inglenooklaw12.ObjsNumbers', WHERE WHAT IT READS IS OF BULK AT MOST 1048576: true; the input reads as it did. -/
def objsNumbersUptoRow : OpenClaim := { program := "ytagajoagdhickaa", sum := "b8a808e560d21a4bc37ee3c795a2004d4b55cbe6aaa2a9b75224170db3ac9791", func := "inglenook/inglenooklaw12.ObjsNumbers", spec := "objsNumbers", unfollowed := true, recurses := true, apart := false, narrowed := true }
def ObjsNumbersUptoSaid : Prop := objsNumbersUptoRow.holds Try.pinned (OpenSpec.upto objsNumbersSpec)

/-- 'inglenooklaw12.ObjsTrees', WHERE WHAT IT READS IS OF BULK AT MOST 1048576: true; the input reads as it did. -/
def objsTreesUptoRow : OpenClaim := { program := "ytagajoagdhickaa", sum := "b8a808e560d21a4bc37ee3c795a2004d4b55cbe6aaa2a9b75224170db3ac9791", func := "inglenook/inglenooklaw12.ObjsTrees", spec := "objsTrees", unfollowed := true, recurses := true, loops := true, apart := false, narrowed := true }
def ObjsTreesUptoSaid : Prop := objsTreesUptoRow.holds Try.pinned (OpenSpec.upto objsTreesSpec)

/-- 'inglenooklaw12.ObjsRecycles', WHERE WHAT IT READS IS OF BULK AT MOST 1048576: true; the input reads as it did. -/
def objsRecyclesUptoRow : OpenClaim := { program := "ytagajoagdhickaa", sum := "b8a808e560d21a4bc37ee3c795a2004d4b55cbe6aaa2a9b75224170db3ac9791", func := "inglenook/inglenooklaw12.ObjsRecycles", spec := "objsRecycles", unfollowed := true, recurses := true, apart := false, narrowed := true }
def ObjsRecyclesUptoSaid : Prop := objsRecyclesUptoRow.holds Try.pinned (OpenSpec.upto objsRecyclesSpec)

end Rows
end Go.Proofs.Ytagajoagdhickaa
