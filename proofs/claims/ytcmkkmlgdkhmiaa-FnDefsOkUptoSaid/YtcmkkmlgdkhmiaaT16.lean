/- Names exchanged: numbers. -/
import Derived.Test.YtcmkkmlgdkhmiaaT15
namespace Go.Proofs.Ytcmkkmlgdkhmiaa.Asl
open Go.RowKit
set_option linter.unusedVariables false
attribute [local irreducible] WP WL andThen inBlock noGoto atEnd ACall DA DL PO Hold actB inB nodeOk
set_option maxHeartbeats 4000000

def swN (k a b : Int) : Int := if k = a then b else if k = b then a else k
def swA (x a b : Int) : Int := if 0 < x then swN (x - 1) a b + 1 else if x < 0 then -(swN (-x - 1) a b) - 1 else x
section
variable {base : Nat}
end
end Go.Proofs.Ytcmkkmlgdkhmiaa.Asl
