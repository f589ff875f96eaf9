/- Graphs counted, copied, compared. -/
import Derived.Test.YthbodgnoadlbcaaGreatDoorGG
namespace Go.Proofs.YthbodgnoadlbcaaGreatDoor.Asl
open Go.RowKit Go.Proofs.YthbodgnoadlbcaaGreatDoorW.PrintLast
set_option linter.unusedVariables false
set_option linter.unusedSimpArgs false
attribute [local irreducible] WP WL andThen inBlock noGoto atEnd ACall DA DL PO Hold
set_option maxHeartbeats 4000000

end Go.Proofs.YthbodgnoadlbcaaGreatDoor.Asl
