/- What marking leaves: what is new since two stores may turn. -/
import Derived.Test.YtemhpkfijoodkaaB4
namespace Go.Proofs.Ytemhpkfijoodkaa.Asl
open Go.RowKit
set_option linter.unusedVariables false

/-- The next store: only objects that are of a later time than σa and no later than σb may have turned. -/
class Mk (σ σa σb : outParam Store) (σ' : Store) : Prop where
  keep : ∀ (j : Nat) (o : Ob), (j < σa.length ∨ σb.length ≤ j) → σ[j]? = some o → σ'[j]? = some o
instance instHasMk {σ σa σb σ' : Store} {j : Nat} {o oa : Ob} [m : Mk σ σa σb σ'] [a : Has σa j oa] [h : Has σ j o] : Has σ' j o := ⟨m.keep j o (.inl a.lt) h.get⟩
instance instHasMk2 {σ σa σb σn σ' : Store} {j : Nat} {o : Ob} [m : Mk σ σa σb σ'] [n : New σn j] [k : LeS σb σn] [h : Has σ j o] : Has σ' j o := ⟨m.keep j o (.inr (Nat.le_trans k.len n.le)) h.get⟩
instance instLeMk {σ₀ σ σa σb σ' : Store} [m : Mk σ σa σb σ'] [a : LeS σ₀ σa] [h : LeS σ₀ σ] : LeS σ₀ σ' := ⟨fun j o ho => m.keep j o (.inl (Nat.lt_of_lt_of_le (Has.lt ⟨ho⟩) a.len)) (h.keep j o ho)⟩
end Go.Proofs.Ytemhpkfijoodkaa.Asl
