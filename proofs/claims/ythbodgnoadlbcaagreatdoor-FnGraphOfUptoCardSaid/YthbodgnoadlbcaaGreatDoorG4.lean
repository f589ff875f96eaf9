/- Which graphs are ones: the reference's answer. -/
import Derived.Test.YthbodgnoadlbcaaGreatDoorG3
namespace Go.Proofs.YthbodgnoadlbcaaGreatDoor.Asl
open Go.RowKit Go.Proofs.YthbodgnoadlbcaaGreatDoorW.PrintLast
set_option linter.unusedVariables false
attribute [local irreducible] WP WL andThen inBlock noGoto atEnd ACall DA DL PO Hold
set_option maxHeartbeats 4000000
end Go.Proofs.YthbodgnoadlbcaaGreatDoor.Asl
