/- Several texts in one. -/
import Derived.Test.YtcmkkmlgdkhmiaaDD
import Derived.Test.YtcmkkmlgdkhmiaaTT
/- Names exchanged in a term: the program. -/
namespace Go.Proofs.Ytcmkkmlgdkhmiaa.Asl
open Go.RowKit
set_option linter.unusedVariables false
attribute [local irreducible] WP WL andThen inBlock noGoto atEnd ACall DA DL PO Hold actB inB nodeOk
set_option maxHeartbeats 4000000

mutual
def Tm.sw (a b : Int) : Tm → Tm | .node op n ps => .node op (if op = 1 then swA n a b else if op = 4 then swN n a b else n) (Tm.sws a b ps)
def Tm.sws (a b : Int) : List Tm → List Tm | [] => [] | p :: ps => p.sw a b :: Tm.sws a b ps
end
end Go.Proofs.Ytcmkkmlgdkhmiaa.Asl

/- Several texts in one. -/
/- Names exchanged in a term: the table, as the judge says it. -/
namespace Go.Proofs.Ytcmkkmlgdkhmiaa.Asl
open Go.RowKit
set_option linter.unusedVariables false
attribute [local irreducible] WP WL andThen inBlock noGoto atEnd ACall DA DL PO Hold actB inB nodeOk
set_option maxHeartbeats 4000000

def tblSw (a b : Nat) : List Nat := ((List.range 4).set a b).set b a
end Go.Proofs.Ytcmkkmlgdkhmiaa.Asl

/- Names exchanged in a term: both programs, whole. -/
namespace Go.Proofs.Ytcmkkmlgdkhmiaa.Asl
open Go.RowKit
set_option linter.unusedVariables false
attribute [local irreducible] WP WL andThen inBlock noGoto atEnd ACall DA DL PO Hold actB inB nodeOk Tm.shape Tm.ok
set_option maxHeartbeats 4000000

def tmO (o : Option Tm) : Tm := o.getD (.node 0 0 [])
def RetTO (σ : Store) (o : Option Tm) : AV → Store → Prop := fun r σ' => ∃ s, r = .tup [.agg [I (tmO o).op, I (tmO o).n, s], Bo o.isSome] ∧ RTsD σ σ' s (tmO o).ps ∧ Grow σ σ'
def Tm.swO (t : Tm) (a b : Int) : Option Tm := if (t.ok && inB a 0 3 && inB b 0 3) = true then some (t.sw a b) else none
end Go.Proofs.Ytcmkkmlgdkhmiaa.Asl
