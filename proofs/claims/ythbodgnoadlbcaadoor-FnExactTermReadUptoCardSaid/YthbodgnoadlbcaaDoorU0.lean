/- A row's arguments as abstract values: terms. -/
import Derived.Test.YthbodgnoadlbcaaDoorRows
import Derived.Test.YthbodgnoadlbcaaDoorF
import Derived.Test.YthbodgnoadlbcaaDoorTT
import Derived.Test.YthbodgnoadlbcaaDoorUB
namespace Go.Proofs.YthbodgnoadlbcaaDoor.Asl
open Go.RowKit
set_option linter.unusedVariables false
set_option linter.unusedSimpArgs false

/-- The types of terms and of their lists. -/
structure TermTy (P : Program) (t e : TypeId) : Prop where
  sl : P.underlying t = some (.slice e)
  st : ∃ f0 f1 f2 : Field, P.underlying e = some (.struct #[f0, f1, f2]) ∧ f0.offset = 0 ∧ f1.offset = 1 ∧ f2.offset = 2 ∧ P.underlying f0.type = some (.int .i64) ∧ P.underlying f1.type = some (.int .i64) ∧ f2.type = t ∧ P.cellsOf f0.type = 1 ∧ P.cellsOf f1.type = 1
  ce : P.cellsOf e = 3
  ct : P.cellsOf t = 1

section
variable {H : Type} {enc : TypeId × Value → H} {P : Program} {w : World} {sp : Nat → Bool} {held : Bool} {t e : TypeId}
/-- What a list of terms is opened to. -/
def Opened (w : World) (σ : Store) (ρ : Pl) (v : Value) (ts : List Tm) : Prop :=
  ∃ s σ' ρ', R ρ' s v ∧ RTs σ' s ts ∧ Sim w.heap.size ρ' σ' w ∧ Le ρ ρ' ∧ LeS σ σ'

end
end Go.Proofs.YthbodgnoadlbcaaDoor.Asl
