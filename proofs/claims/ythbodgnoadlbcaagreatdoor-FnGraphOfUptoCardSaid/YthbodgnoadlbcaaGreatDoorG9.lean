/- The states to which one comes, in order. -/
import Derived.Test.YthbodgnoadlbcaaGreatDoorG8
namespace Go.Proofs.YthbodgnoadlbcaaGreatDoor.Asl
open Go.RowKit Go.Proofs.YthbodgnoadlbcaaGreatDoorW.PrintLast
set_option linter.unusedVariables false
set_option linter.unusedSimpArgs false
attribute [local irreducible] WP WL andThen inBlock noGoto atEnd ACall DA DL PO Hold
set_option maxHeartbeats 4000000

theorem optB_getD_yes {α : Type} {p : Prop} {l : List α} (h : p) : (optB p l).getD [] = l := by rw [optB_yes h]; rfl
theorem optB_getD_no {α : Type} {p : Prop} {l : List α} (h : ¬ p) : (optB p l).getD [] = [] := by rw [optB_no h]; rfl
/-- The states below s to which one comes. -/
def belowL (g : Gr) (s : Nat) : List Nat := (List.range s).filter fun x => decide (x ∈ fromL g 0)
theorem OW.lt {α : Type} [Enc α] {σ₀ σ : Store} {u : AV} {l : List α} (h : OW σ₀ σ u l) {j n : Nat} (e : u = .sl j 0 n) : j < σ.length := by
  rcases h.rep with ⟨_, h1⟩ | ⟨id, h1, h2, h3⟩
  · rw [e] at h1; cases h1
  · rw [e] at h1; cases h1; exact h3.lt
/-- A row that grows beside one that stays. -/
structure Two (σ σu : Store) {α β : Type} [Enc α] [Enc β] (v : AV) (out : List α) (u : AV) (F : List β) (σ' : Store) : Prop where
  le : LeS σ σ'
  ow : OW σ σ' v out
  two : OW σu σ' u F
  ne : ∀ j n m, v = .sl j 0 n → u ≠ .sl j 0 m
end Go.Proofs.YthbodgnoadlbcaaGreatDoor.Asl
