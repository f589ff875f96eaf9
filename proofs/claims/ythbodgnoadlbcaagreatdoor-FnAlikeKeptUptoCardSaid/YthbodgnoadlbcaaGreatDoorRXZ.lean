/- Several texts in one. -/
import Derived.Test.YthbodgnoadlbcaaGreatDoorRows
import Derived.Test.YthbodgnoadlbcaaGreatDoorF
import Derived.Test.YthbodgnoadlbcaaGreatDoorTT
import Derived.Test.YthbodgnoadlbcaaGreatDoorUB
import Derived.JoinedCond
import Derived.Carry
/- A row's arguments as abstract values: terms. -/
namespace Go.Proofs.YthbodgnoadlbcaaGreatDoor.Asl
open Go.RowKit
set_option linter.unusedVariables false
set_option linter.unusedSimpArgs false

structure TermTy (P : Program) (t e : TypeId) : Prop where
  sl : P.underlying t = some (.slice e)
  st : ∃ f0 f1 f2 : Field, P.underlying e = some (.struct #[f0, f1, f2]) ∧ f0.offset = 0 ∧ f1.offset = 1 ∧ f2.offset = 2 ∧ P.underlying f0.type = some (.int .i64) ∧ P.underlying f1.type = some (.int .i64) ∧ f2.type = t ∧ P.cellsOf f0.type = 1 ∧ P.cellsOf f1.type = 1
  ce : P.cellsOf e = 3
  ct : P.cellsOf t = 1

section
variable {H : Type} {enc : TypeId × Value → H} {P : Program} {w : World} {sp : Nat → Bool} {held : Bool} {t e : TypeId}
def Opened (w : World) (σ : Store) (ρ : Pl) (v : Value) (ts : List Tm) : Prop :=
  ∃ s σ' ρ', R ρ' s v ∧ RTs σ' s ts ∧ Sim w.heap.size ρ' σ' w ∧ Le ρ ρ' ∧ LeS σ σ'

end
end Go.Proofs.YthbodgnoadlbcaaGreatDoor.Asl

/- Facts of the program that each row of this seat wants. -/
namespace Go.Proofs.YthbodgnoadlbcaaGreatDoor.rx
open Go.ChangeShapes Go.WideShapes Go.ChangeAt Go.RowKit
theorem andt {a b : Bool} (h : a = true) (k : b = true) : (a && b) = true := by rw [h, k]; rfl
theorem laid : (laidOutB Tryz.prog) = true := by kernel_rfl
theorem maps : (mapsRowed Tryz.prog) = true := by kernel_rfl
theorem stops : ((Tryz.prog.stops == [])) = true := by kernel_rfl
theorem knobs : ((Tryz.prog.stopKnobs == [])) = true := by kernel_rfl
theorem heard : (Tryz.prog.stopsHeard) = true := by kernel_rfl
theorem enter : (Tryz.prog.mayEnter) = true := by kernel_rfl
theorem plain : ((Rows.fnGraphOfUptoRow.plainKeys == Tryz.prog.plainKeys)) = true := by kernel_rfl
theorem lifted : ((Rows.fnGraphOfUptoRow.lifted == Tryz.prog.liftsFinal)) = true := by kernel_rfl
theorem make : ((Tryz.prog.make == some Rows.fnGraphOfUptoRow.make)) = true := by kernel_rfl
theorem pinned : ((Rows.fnGraphOfUptoRow.pinned == Rows.fnGraphOfUptoRow.pinnedBy)) = true := by kernel_rfl
end Go.Proofs.YthbodgnoadlbcaaGreatDoor.rx
