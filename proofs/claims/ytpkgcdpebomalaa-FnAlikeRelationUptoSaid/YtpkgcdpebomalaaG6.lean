/- Graphs put together. -/
import Derived.Test.YtpkgcdpebomalaaG4
import Derived.Test.YtpkgcdpebomalaaGG
namespace Go.Proofs.Ytpkgcdpebomalaa.Asl
open Go.RowKit Go.Proofs.YtpkgcdpebomalaaW.PrintLast
set_option linter.unusedVariables false
attribute [local irreducible] WP WL andThen inBlock noGoto atEnd ACall DA DL PO Hold
set_option maxHeartbeats 4000000

def shiftM (n : Int) (m : Mv) : Mv := (m.1, m.2 + n)
theorem map_take_succ {α β : Type} {l : List α} {f : α → β} {k : Nat} {d : α} (h : k < l.length) : (l.map f).take (k + 1) = (l.map f).take k ++ [f (l.getD k d)] := by
  rw [List.take_succ_eq_append_getElem (by simpa using h), List.getElem_map, getD_lt h]
end Go.Proofs.Ytpkgcdpebomalaa.Asl
