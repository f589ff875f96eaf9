/- Names exchanged in a term: the program. -/
import Derived.Test.YthbodgnoadlbcaaDoorDD
namespace Go.Proofs.YthbodgnoadlbcaaDoor.Asl
open Go.RowKit
set_option linter.unusedVariables false
attribute [local irreducible] WP WL andThen inBlock noGoto atEnd ACall DA DL PO Hold actB inB nodeOk
set_option maxHeartbeats 4000000

mutual
def Tm.sw (a b : Int) : Tm → Tm | .node op n ps => .node op (if op = 1 then swA n a b else if op = 4 then swN n a b else n) (Tm.sws a b ps)
def Tm.sws (a b : Int) : List Tm → List Tm | [] => [] | p :: ps => p.sw a b :: Tm.sws a b ps
end
end Go.Proofs.YthbodgnoadlbcaaDoor.Asl
