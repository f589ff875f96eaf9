/- Rows of whole numbers: alike, marked, what was marked held. -/
import Derived.Test.YthbodgnoadlbcaaGreatDoorG5
import Derived.Test.YthbodgnoadlbcaaGreatDoorGG
namespace Go.Proofs.YthbodgnoadlbcaaGreatDoor.Asl
open Go.RowKit Go.Proofs.YthbodgnoadlbcaaGreatDoorW.PrintLast
set_option linter.unusedVariables false
set_option linter.unusedSimpArgs false
attribute [local irreducible] WP WL andThen inBlock noGoto atEnd ACall DA DL PO Hold
set_option maxHeartbeats 4000000
/-- Numbers that count on. -/
def cntN (a : Nat) : Nat → List Nat
  | 0 => []
  | n + 1 => cntN a n ++ [a + n]
section
variable {α : Type} [Enc α] {E : Env} {ops : Array Oper} {l : List Oper} {Q : Exit → Slots → Store → Prop} {S : Slots} {σ : Store} {d : Option Tmp} {ty : TypeId} {pos : String} {af : Array Edge} {x y : Operand}
theorem OW.id_lt {σ₀ σ : Store} {u : AV} {g : List α} (h : OW σ₀ σ u g) {j n : Nat} (e : u = .sl j 0 n) : σ₀.length ≤ j ∧ j < σ.length ∧ Has σ j (Row g) := by
  rcases h.rep with ⟨_, h1⟩ | ⟨id, h1, h2, h3⟩
  · rw [e] at h1; cases h1
  · rw [e] at h1; cases h1; exact ⟨h2, h3.lt, h3⟩
end
end Go.Proofs.YthbodgnoadlbcaaGreatDoor.Asl
