/- Facts of the program that each row of this seat wants. -/
import Derived.Test.YthbodgnoadlbcaaU1
import Derived.JoinedCond
import Derived.Carry
namespace Go.Proofs.Ythbodgnoadlbcaa.rx
open Go.ChangeShapes Go.WideShapes Go.ChangeAt Go.RowKit
theorem andt {a b : Bool} (h : a = true) (k : b = true) : (a && b) = true := by rw [h, k]; rfl
theorem laid : (laidOutB Try.prog) = true := by kernel_rfl
theorem maps : (mapsRowed Try.prog) = true := by kernel_rfl
theorem stops : ((Try.prog.stops == [])) = true := by kernel_rfl
theorem knobs : ((Try.prog.stopKnobs == [])) = true := by kernel_rfl
theorem heard : (Try.prog.stopsHeard) = true := by kernel_rfl
theorem enter : (Try.prog.mayEnter) = true := by kernel_rfl
theorem plain : ((Rows.fnGraphBothUptoRow.plainKeys == Try.prog.plainKeys)) = true := by kernel_rfl
theorem lifted : ((Rows.fnGraphBothUptoRow.lifted == Try.prog.liftsFinal)) = true := by kernel_rfl
theorem make : ((Try.prog.make == some Rows.fnGraphBothUptoRow.make)) = true := by kernel_rfl
theorem pinned : ((Rows.fnGraphBothUptoRow.pinned == Rows.fnGraphBothUptoRow.pinnedBy)) = true := by kernel_rfl
end Go.Proofs.Ythbodgnoadlbcaa.rx
