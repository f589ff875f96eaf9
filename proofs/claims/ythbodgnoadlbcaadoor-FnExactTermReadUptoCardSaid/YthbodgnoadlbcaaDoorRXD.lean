/- Facts of the program that each row of this seat wants. -/
import Derived.Test.YthbodgnoadlbcaaDoorU0
import Derived.JoinedCond
import Derived.Carry
namespace Go.Proofs.YthbodgnoadlbcaaDoor.rx
open Go.ChangeShapes Go.WideShapes Go.ChangeAt Go.RowKit
theorem andt {a b : Bool} (h : a = true) (k : b = true) : (a && b) = true := by rw [h, k]; rfl
theorem laid : (laidOutB Tryd.prog) = true := by kernel_rfl
theorem maps : (mapsRowed Tryd.prog) = true := by kernel_rfl
theorem stops : ((Tryd.prog.stops == [])) = true := by kernel_rfl
theorem knobs : ((Tryd.prog.stopKnobs == [])) = true := by kernel_rfl
theorem heard : (Tryd.prog.stopsHeard) = true := by kernel_rfl
theorem enter : (Tryd.prog.mayEnter) = true := by kernel_rfl
theorem plain : ((Rows.fnTermOkUptoRow.plainKeys == Tryd.prog.plainKeys)) = true := by kernel_rfl
theorem lifted : ((Rows.fnTermOkUptoRow.lifted == Tryd.prog.liftsFinal)) = true := by kernel_rfl
theorem make : ((Tryd.prog.make == some Rows.fnTermOkUptoRow.make)) = true := by kernel_rfl
theorem pinned : ((Rows.fnTermOkUptoRow.pinned == Rows.fnTermOkUptoRow.pinnedBy)) = true := by kernel_rfl
end Go.Proofs.YthbodgnoadlbcaaDoor.rx
