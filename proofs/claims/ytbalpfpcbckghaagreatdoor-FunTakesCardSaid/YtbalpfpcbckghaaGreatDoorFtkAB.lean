/- Contracts of the functions that the statement reaches, and the plain mathematics beneath: several texts joined. -/
import Derived.Lib.ItoaMem
import Derived.Lib.ItoaLen
import Derived.Lib.ParseIntBCases
import Derived.Lib.ParseIntBTie
namespace Go.Proofs.YtbalpfpcbckghaaGreatDoor
open Go.Lib
set_option linter.unusedVariables false

/-- What digits spell. -/
def dg1 (c : UInt8) : Nat := c.toNat - 48
attribute [irreducible] dg1
end Go.Proofs.YtbalpfpcbckghaaGreatDoor
