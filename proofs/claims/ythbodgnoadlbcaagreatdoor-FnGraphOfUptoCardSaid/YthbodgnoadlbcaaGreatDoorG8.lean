/- The states to which one comes. -/
import Derived.Test.YthbodgnoadlbcaaGreatDoorG4
import Derived.Test.YthbodgnoadlbcaaGreatDoorGG
namespace Go.Proofs.YthbodgnoadlbcaaGreatDoor.Asl
open Go.RowKit Go.Proofs.YthbodgnoadlbcaaGreatDoorW.PrintLast
set_option linter.unusedVariables false
set_option linter.unusedSimpArgs false
attribute [local irreducible] WP WL andThen inBlock noGoto atEnd ACall DA DL PO Hold
set_option maxHeartbeats 4000000
set_option synthInstance.maxHeartbeats 400000
set_option synthInstance.maxSize 10000

/-- Which states have been found. -/
def seenL (n : Nat) (out : List Nat) : List Bool := (List.range n).map fun x => decide (x ∈ out)
theorem scan_take {out : List Nat} {ms : List Mv} {j : Nat} (h : j < ms.length) : scan out (ms.take (j + 1)) = if (ms.getD j (0, 0)).2.toNat ∈ scan out (ms.take j) then scan out (ms.take j) else scan out (ms.take j) ++ [(ms.getD j (0, 0)).2.toNat] := by
  rw [take_succ_getD h (d := (0, 0)), scan_snoc]
/-- While states are found. -/
structure FI (σ : Store) (i n : Nat) (g : Gr) (a : Nat) (out : List Nat) (u : AV) (σ' : Store) : Prop where
  found : Found g a out
  le : LeS σ σ'
  ow : OW σ σ' u out
  seen : Has σ' i (Row (seenL n out))
  ne : ∀ m, u ≠ .sl i 0 m

end Go.Proofs.YthbodgnoadlbcaaGreatDoor.Asl
