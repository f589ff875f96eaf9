/- Several texts in one. -/
import Derived.Test.YthbodgnoadlbcaaGreatDoorG2
import Derived.Test.YthbodgnoadlbcaaGreatDoorBB
import Derived.Test.YthbodgnoadlbcaaGreatDoorGG
/- Rows and graphs marked, and what was marked held. -/
namespace Go.Proofs.YthbodgnoadlbcaaGreatDoor.Asl
open Go.RowKit Go.Proofs.YthbodgnoadlbcaaGreatDoorW.PrintLast
set_option linter.unusedVariables false
set_option linter.unusedSimpArgs false
attribute [local irreducible] WP WL andThen inBlock noGoto atEnd ACall DA DL PO Hold
set_option maxHeartbeats 4000000

section
variable {α : Type} [Enc α]
instance instRWMk {σ σa σb σ' : Store} {s : AV} {l : List α} [m : Mk σ σa σb σ'] [a : LeS σa σ] [h : RW σa s l] : RW σ' s l := by
  have h2 := h.les a
  rcases h.rep with ⟨rfl, b, c, rfl⟩ | ⟨id, off, o, rfl, h1, _⟩
  · exact .nil _ _ _
  · exact h2.mono fun o _ ho => m.keep _ o (.inl (Has.lt ⟨h1⟩)) ho
instance instRRsMk {σ σa σb σ' : Store} {ss : List AV} {g : List (List α)} [m : Mk σ σa σb σ'] [a : LeS σa σ] [h : RRs σa ss g] : RRs σ' ss g :=
  ⟨h.len, fun k => instRWMk (h := h.row k)⟩
instance instOWMk {σ σa σb σc σ' : Store} {s : AV} {l : List α} [m : Mk σ σa σb σ'] [a : LeS σb σc] [h : OW σc σ s l] : OW σc σ' s l :=
  h.keep fun j o hj _ ho => m.keep j o (.inr (Nat.le_trans a.len hj)) ho
instance instORsMk {σ σa σb σc σ' : Store} {ss : List AV} {g : List (List α)} [m : Mk σ σa σb σ'] [a : LeS σb σc] [h : ORs σc σ ss g] : ORs σc σ' ss g :=
  h.keep fun j o hj _ ho => m.keep j o (.inr (Nat.le_trans a.len hj)) ho
def RetMarkW (σ₀ σ : Store) (s : AV) (r : Int) (l : List α) : AV → Store → Prop := fun r' σ' => r' = I r ∧ OW σ₀ σ' s l ∧ ∀ (j : Nat) (o : Ob), (∀ n, s ≠ .sl j 0 n) → σ[j]? = some o → σ'[j]? = some o
def RetMarkR (σ₀ σ : Store) (ss : List AV) (r : Int) (g : List (List α)) : AV → Store → Prop := fun r' σ' => r' = I r ∧ ORs σ₀ σ' ss g ∧ (∀ (j n : Nat), AV.sl j 0 n ∈ ss → ∃ l : List α, Has σ' j (Row l)) ∧ ∀ (j : Nat) (o : Ob), (∀ n, AV.sl j 0 n ∉ ss) → σ[j]? = some o → σ'[j]? = some o
theorem ORs.has {σ₀ σ : Store} {ss : List AV} {g : List (List α)} (h : ORs σ₀ σ ss g) {j n : Nat} (hj : AV.sl j 0 n ∈ ss) : σ₀.length ≤ j ∧ ∃ l : List α, Has σ j (Row l) := by
  obtain ⟨k, hk, e⟩ := List.getElem_of_mem hj
  have e' : ss.getD k nilS = .sl j 0 n := by simp [List.getD_eq_getElem?_getD, hk, e]
  rcases (h.row k).rep with ⟨_, h1⟩ | ⟨id, h1, h2, h3⟩
  · rw [e'] at h1; cases h1
  · rw [e'] at h1; cases h1; exact ⟨h2, _, h3⟩
theorem ORs.turn {σ₀ σ σ' : Store} {ss : List AV} {g g' : List (List α)} {k : Nat} (h : ORs σ₀ σ ss g) (hl : g'.length = g.length) (hk : k < ss.length) (hw : OW σ₀ σ' (ss.getD k nilS) (g'.getD k [])) (ho : ∀ j, j ≠ k → g'.getD j [] = g.getD j [])
    (hkeep : ∀ (j : Nat) (o : Ob), (∀ n, ss.getD k nilS ≠ .sl j 0 n) → σ[j]? = some o → σ'[j]? = some o) : ORs σ₀ σ' ss g' := by
  refine ⟨by rw [h.len, hl], fun q => ?_, h.apart⟩
  by_cases e : q = k
  · subst e; exact hw
  · rw [ho q e]
    refine (h.row q).keep fun j o hj ⟨n, hn⟩ hoj => hkeep j o (fun m hm => e ?_) hoj
    by_cases hq : q < ss.length
    · refine h.apart q k j n m ?_ ?_
      · rw [← hn]; simp [List.getD_eq_getElem?_getD, hq]
      · rw [← hm]; simp [List.getD_eq_getElem?_getD, hk]
    · rw [List.getD_eq_getElem?_getD, List.getElem?_eq_none (by omega)] at hn; cases hn
end

def cntM (a : Int) : Nat → List Mv
  | 0 => []
  | n + 1 => cntM a n ++ [(a + 2 * n, a + 2 * n + 1)]
def mkG (a : Int) : Gr → Gr
  | [] => []
  | l :: g => cntM a l.length :: mkG (a + 2 * (l.length : Int)) g
def totalG {α : Type} (g : List (List α)) : Nat := (g.map List.length).sum
end Go.Proofs.YthbodgnoadlbcaaGreatDoor.Asl

/- Rows of whole numbers: alike, marked, what was marked held. -/
namespace Go.Proofs.YthbodgnoadlbcaaGreatDoor.Asl
open Go.RowKit Go.Proofs.YthbodgnoadlbcaaGreatDoorW.PrintLast
set_option linter.unusedVariables false
set_option linter.unusedSimpArgs false
attribute [local irreducible] WP WL andThen inBlock noGoto atEnd ACall DA DL PO Hold
set_option maxHeartbeats 4000000
def cntN (a : Nat) : Nat → List Nat
  | 0 => []
  | n + 1 => cntN a n ++ [a + n]
section
variable {α : Type} [Enc α] {E : Env} {ops : Array Oper} {l : List Oper} {Q : Exit → Slots → Store → Prop} {S : Slots} {σ : Store} {d : Option Tmp} {ty : TypeId} {pos : String} {af : Array Edge} {x y : Operand}
theorem OW.id_lt {σ₀ σ : Store} {u : AV} {g : List α} (h : OW σ₀ σ u g) {j n : Nat} (e : u = .sl j 0 n) : σ₀.length ≤ j ∧ j < σ.length ∧ Has σ j (Row g) := by
  rcases h.rep with ⟨_, h1⟩ | ⟨id, h1, h2, h3⟩
  · rw [e] at h1; cases h1
  · rw [e] at h1; cases h1; exact ⟨h2, h3.lt, h3⟩
end
end Go.Proofs.YthbodgnoadlbcaaGreatDoor.Asl
