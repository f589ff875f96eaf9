/- Names exchanged in a term: the table, as the judge says it. -/
import Derived.Test.YthbodgnoadlbcaaDoorT18
namespace Go.Proofs.YthbodgnoadlbcaaDoor.Asl
open Go.RowKit
set_option linter.unusedVariables false
attribute [local irreducible] WP WL andThen inBlock noGoto atEnd ACall DA DL PO Hold actB inB nodeOk
set_option maxHeartbeats 4000000

def tblSw (a b : Nat) : List Nat := ((List.range 4).set a b).set b a
end Go.Proofs.YthbodgnoadlbcaaDoor.Asl
