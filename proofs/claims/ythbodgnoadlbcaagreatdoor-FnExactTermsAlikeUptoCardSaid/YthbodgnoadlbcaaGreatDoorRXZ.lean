/- Facts of the program that each row of this seat wants. -/
import Derived.Test.YthbodgnoadlbcaaGreatDoorU0
import Derived.JoinedCond
import Derived.Carry
namespace Go.Proofs.YthbodgnoadlbcaaGreatDoor.rx
open Go.ChangeShapes Go.WideShapes Go.ChangeAt Go.RowKit
theorem andt {a b : Bool} (h : a = true) (k : b = true) : (a && b) = true := by rw [h, k]; rfl
theorem laid : (laidOutB Tryz.prog) = true := by kernel_rfl
theorem maps : (mapsRowed Tryz.prog) = true := by kernel_rfl
theorem stops : ((Tryz.prog.stops == [])) = true := by kernel_rfl
theorem knobs : ((Tryz.prog.stopKnobs == [])) = true := by kernel_rfl
theorem heard : (Tryz.prog.stopsHeard) = true := by kernel_rfl
theorem enter : (Tryz.prog.mayEnter) = true := by kernel_rfl
theorem plain : ((Rows.fnGraphOfUptoRow.plainKeys == Tryz.prog.plainKeys)) = true := by kernel_rfl
theorem lifted : ((Rows.fnGraphOfUptoRow.lifted == Tryz.prog.liftsFinal)) = true := by kernel_rfl
theorem make : ((Tryz.prog.make == some Rows.fnGraphOfUptoRow.make)) = true := by kernel_rfl
theorem pinned : ((Rows.fnGraphOfUptoRow.pinned == Rows.fnGraphOfUptoRow.pinnedBy)) = true := by kernel_rfl
end Go.Proofs.YthbodgnoadlbcaaGreatDoor.rx
