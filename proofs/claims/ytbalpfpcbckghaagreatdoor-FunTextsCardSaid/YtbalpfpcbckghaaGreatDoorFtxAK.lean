/- Contracts of the functions that the statement reaches, and the plain mathematics beneath: several texts joined. -/
import Derived.Deep.RegionHeld3
import Derived.Test.YtbalpfpcbckghaaGreatDoorFtxAJ
import Derived.Test.YtbalpfpcbckghaaGreatDoorFtxAD
import Derived.Test.YtbalpfpcbckghaaGreatDoorFtxAF
import Derived.Test.YtbalpfpcbckghaaGreatDoorFtxAI
namespace Go.Proofs.YtbalpfpcbckghaaGreatDoor
open Go.RowKit Go.Lib
set_option linter.unusedVariables false

end Go.Proofs.YtbalpfpcbckghaaGreatDoor
