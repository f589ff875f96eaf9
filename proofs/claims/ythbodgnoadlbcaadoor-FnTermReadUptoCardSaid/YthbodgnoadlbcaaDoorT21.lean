/- A marked term read again. -/
import Derived.Test.YthbodgnoadlbcaaDoorT20
import Derived.Test.YthbodgnoadlbcaaDoorTU
namespace Go.Proofs.YthbodgnoadlbcaaDoor.Asl
open Go.RowKit
set_option linter.unusedVariables false
attribute [local irreducible] WP WL andThen inBlock noGoto atEnd ACall DA DL PO Hold actB inB nodeOk Tm.shape Tm.ok
set_option maxHeartbeats 4000000

end Go.Proofs.YthbodgnoadlbcaaDoor.Asl
