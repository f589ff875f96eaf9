/- What the drawn law FnTermSwap draws; terms alike. -/
import Derived.Test.YthbodgnoadlbcaaDoorDD
import Derived.Test.YthbodgnoadlbcaaDoorT21
namespace Go.Proofs.YthbodgnoadlbcaaDoor.Asl
open Go.RowKit
set_option linter.unusedVariables false
set_option linter.unusedSimpArgs false
attribute [local irreducible] WP WL andThen inBlock noGoto atEnd ACall DA DL PO Hold Tm.ok
set_option maxHeartbeats 4000000
section
variable {base : Nat}
def RetTS (σ : Store) : AV → Store → Prop := fun r σ' => ∃ (t : Tm) (u : AV) (m1 m2 : Int), r = .tup [.agg [I t.op, I t.n, u], I m1, I m2] ∧ RTs σ' u t.ps ∧ -10 ≤ m1 ∧ m1 ≤ 10 ∧ -10 ≤ m2 ∧ m2 ≤ 10 ∧ Grow σ σ'
end
/-! Exchanged twice. -/
end Go.Proofs.YthbodgnoadlbcaaDoor.Asl
