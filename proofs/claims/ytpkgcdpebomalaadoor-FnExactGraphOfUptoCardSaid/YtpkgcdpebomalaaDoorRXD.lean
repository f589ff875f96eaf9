/- Facts of the program that each row of this seat wants. -/
import Derived.Test.YtpkgcdpebomalaaDoorU0
import Derived.JoinedCond
import Derived.Carry
namespace Go.Proofs.YtpkgcdpebomalaaDoor.rx
open Go.ChangeShapes Go.WideShapes Go.ChangeAt Go.RowKit
theorem andt {a b : Bool} (h : a = true) (k : b = true) : (a && b) = true := by rw [h, k]; rfl
theorem laid : (laidOutB Tryd.prog) = true := by kernel_rfl
theorem maps : (mapsRowed Tryd.prog) = true := by kernel_rfl
theorem stops : ((Tryd.prog.stops == [])) = true := by kernel_rfl
theorem knobs : ((Tryd.prog.stopKnobs == [])) = true := by kernel_rfl
theorem heard : (Tryd.prog.stopsHeard) = true := by kernel_rfl
theorem enter : (Tryd.prog.mayEnter) = true := by kernel_rfl
theorem plain : ((Rows.fnTermTextUptoRow.plainKeys == Tryd.prog.plainKeys)) = true := by kernel_rfl
theorem lifted : ((Rows.fnTermTextUptoRow.lifted == Tryd.prog.liftsFinal)) = true := by kernel_rfl
theorem make : ((Tryd.prog.make == some Rows.fnTermTextUptoRow.make)) = true := by kernel_rfl
theorem pinned : ((Rows.fnTermTextUptoRow.pinned == Rows.fnTermTextUptoRow.pinnedBy)) = true := by kernel_rfl
end Go.Proofs.YtpkgcdpebomalaaDoor.rx
