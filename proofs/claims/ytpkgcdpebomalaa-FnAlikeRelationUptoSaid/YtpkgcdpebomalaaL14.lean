/- Several texts in one. -/
import Derived.Test.YtpkgcdpebomalaaGG
import Derived.Test.YtpkgcdpebomalaaG2
import Derived.Test.YtpkgcdpebomalaaS3
import Derived.Test.YtpkgcdpebomalaaK6
import Derived.Test.YtpkgcdpebomalaaS6
import Derived.Test.YtpkgcdpebomalaaG6
import Derived.Test.YtpkgcdpebomalaaPP
import Derived.Test.YtpkgcdpebomalaaG8
import Derived.Test.YtpkgcdpebomalaaG22
import Derived.Test.YtpkgcdpebomalaaG9
import Derived.Test.YtpkgcdpebomalaaS2
import Derived.Test.YtpkgcdpebomalaaBB
/- Several texts in one. -/
/- The drawn laws' helpers on lists of numbers and on graphs. -/
namespace Go.Proofs.Ytpkgcdpebomalaa.Asl
open Go.RowKit Go.Proofs.YtpkgcdpebomalaaW.PrintLast
set_option linter.unusedVariables false
set_option linter.unusedSimpArgs false
attribute [local irreducible] WP WL andThen inBlock noGoto atEnd ACall DA DL PO Hold
set_option maxHeartbeats 4000000
set_option synthInstance.maxHeartbeats 400000
set_option synthInstance.maxSize 10000
/-- A list of numbers rises. -/
def Rises (l : List Nat) : Prop := ∀ i, i + 1 < l.length → l.getD i 0 < l.getD (i + 1) 0
/-- What is of one class by the first list is so by the second. -/
def Finer (a b : List Nat) : Prop := a.length = b.length ∧ ∀ s t, s < a.length → t < s → a.getD s 0 = a.getD t 0 → b.getD s 0 = b.getD t 0
end Go.Proofs.Ytpkgcdpebomalaa.Asl

/- Several texts in one. -/
/- The drawn laws' helpers on rows and on graphs. -/
namespace Go.Proofs.Ytpkgcdpebomalaa.Asl
open Go.RowKit Go.Proofs.YtpkgcdpebomalaaW.PrintLast
set_option linter.unusedVariables false
set_option linter.unusedSimpArgs false
attribute [local irreducible] WP WL andThen inBlock noGoto atEnd ACall DA DL PO Hold
set_option maxHeartbeats 4000000
set_option synthInstance.maxHeartbeats 400000
set_option synthInstance.maxSize 10000
end Go.Proofs.Ytpkgcdpebomalaa.Asl

/- The drawn laws' helper on the first states of two graphs. -/
namespace Go.Proofs.Ytpkgcdpebomalaa.Asl
open Go.RowKit Go.Proofs.YtpkgcdpebomalaaW.PrintLast
set_option linter.unusedVariables false
set_option linter.unusedSimpArgs false
attribute [local irreducible] WP WL andThen inBlock noGoto atEnd ACall DA DL PO Hold
set_option maxHeartbeats 4000000
set_option synthInstance.maxHeartbeats 400000
set_option synthInstance.maxSize 10000
theorem optB_pos {α : Type} {p : Prop} {x : α} (h : p) : optB p x = some x := by
  unfold optB; rw [prB_true h]
end Go.Proofs.Ytpkgcdpebomalaa.Asl

/- Several texts in one. -/
/- The states to which one comes: the program, by a map. -/
namespace Go.Proofs.Ytpkgcdpebomalaa.Asl
open Go.RowKit Go.Proofs.YtpkgcdpebomalaaW.PrintLast
set_option linter.unusedVariables false
set_option linter.unusedSimpArgs false
attribute [local irreducible] WP WL andThen inBlock noGoto atEnd ACall DA DL PO Hold
set_option maxHeartbeats 4000000
set_option synthInstance.maxHeartbeats 400000
set_option synthInstance.maxSize 10000

/-- A map of the states that have been found. -/
def seenM (out : List Nat) : List (Int × AV) := out.map fun (x : Nat) => (((x : Nat) : Int), Bo true)
/-- While states are found. -/
structure FM (σ : Store) (i : Nat) (g : Gr) (a : Nat) (out : List Nat) (u : AV) (σ' : Store) : Prop where
  found : Found g a out
  le : LeS σ σ'
  ow : OW σ σ' u out
  seen : Has σ' i (MapOb (seenM out))
  ne : ∀ m, u ≠ .sl i 0 m

end Go.Proofs.Ytpkgcdpebomalaa.Asl

/- Several texts in one. -/
/- A graph's part: the reference. -/
namespace Go.Proofs.Ytpkgcdpebomalaa.Asl
open Go.RowKit Go.Proofs.YtpkgcdpebomalaaW.PrintLast
set_option linter.unusedVariables false
set_option linter.unusedSimpArgs false
attribute [local irreducible] WP WL andThen inBlock noGoto atEnd ACall DA DL PO Hold
set_option maxHeartbeats 4000000
set_option synthInstance.maxHeartbeats 400000
set_option synthInstance.maxSize 10000
/-- A state's moves in the part. -/
def partM (F : List Nat) (m : Mv) : Mv := (m.1, ((F.idxOf m.2.toNat : Nat) : Int))
end Go.Proofs.Ytpkgcdpebomalaa.Asl

/- Several texts in one. -/
/- A graph's part: the program. -/
namespace Go.Proofs.Ytpkgcdpebomalaa.Asl
open Go.RowKit Go.Proofs.YtpkgcdpebomalaaW.PrintLast
set_option linter.unusedVariables false
set_option linter.unusedSimpArgs false
attribute [local irreducible] WP WL andThen inBlock noGoto atEnd ACall DA DL DX PO Hold
set_option maxHeartbeats 4000000
set_option synthInstance.maxHeartbeats 400000
set_option synthInstance.maxSize 10000
end Go.Proofs.Ytpkgcdpebomalaa.Asl

/- Several texts in one. -/
/- The states to which one comes, in order: the program's answer. -/
namespace Go.Proofs.Ytpkgcdpebomalaa.Asl
open Go.RowKit Go.Proofs.YtpkgcdpebomalaaW.PrintLast
set_option linter.unusedVariables false
set_option linter.unusedSimpArgs false
attribute [local irreducible] WP WL andThen inBlock noGoto atEnd ACall DA DL PO Hold
set_option maxHeartbeats 4000000
set_option synthInstance.maxHeartbeats 400000
set_option synthInstance.maxSize 10000

end Go.Proofs.Ytpkgcdpebomalaa.Asl

/- The drawn law FnGraphOk. -/
namespace Go.Proofs.Ytpkgcdpebomalaa.Asl
open Go.RowKit Go.Proofs.YtpkgcdpebomalaaW.PrintLast
set_option linter.unusedVariables false
set_option linter.unusedSimpArgs false
attribute [local irreducible] WP WL andThen inBlock noGoto atEnd ACall DA DL PO Hold
set_option maxHeartbeats 4000000
set_option synthInstance.maxHeartbeats 400000
set_option synthInstance.maxSize 10000
theorem lim_ofP {g : Gr} (h : ∀ l ∈ g, l.length ≤ 331776) : ∀ k, (g.getD k []).length < 4294967296 := fun k => Nat.lt_of_le_of_lt (getD_all (p := fun (l : List Mv) => l.length ≤ 331776) h (by simp) k) (by decide)
end Go.Proofs.Ytpkgcdpebomalaa.Asl
