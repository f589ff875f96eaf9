/- A row's arguments as abstract values: what all kinds need. -/
import Derived.Test.YthbodgnoadlbcaaDoorRows
import Derived.Test.YthbodgnoadlbcaaDoorBB
import Derived.ProofKit
import Derived.OpenShut
import Derived.ChangeOld
import Derived.Deep.DeepHandedRow
namespace Go.Proofs.YthbodgnoadlbcaaDoor.Asl
open Go.RowKit
set_option linter.unusedVariables false
set_option linter.unusedSimpArgs false

section
variable {H : Type} {enc : TypeId × Value → H} {P : Program} {w : World} {sp : Nat → Bool} {held : Bool} {t e : TypeId}
theorem sim_empty (w : World) : Sim w.heap.size (fun _ => none) [] w := by
  refine ⟨?_, ?_, ?_, ?_, Nat.le_refl _⟩
  · intro _ _ h; cases h
  · intro _ _ _ h; simp at h
  · intro _ _ _ _ _ _ h; simp at h
  · intro _ _ h; cases h
theorem calls_ret {f : FuncId} {args : List AV} {vs : List Value} {σ : Store} {ρ : Pl} {b : Bool} (h : ACall P w.heap.size f args σ (fun _ => False) (Ret σ (Bo b))) (hs : Sim w.heap.size ρ σ w) (hv : Rs ρ args vs) :
    Calls P f vs.toArray w fun e w' => e = .returned (.bool b) ∧ Below w.heap.size w w' := by
  refine (h w ρ vs hv hs).mono ?_
  rintro e w' ⟨r, v, σ', ρ', rfl, hR, ⟨rfl, _⟩, _, _, _, _, _, hf⟩
  rw [R_lit hR]
  exact ⟨rfl, hf.os, hf.tape, hf.output, hf.size, fun k hk => hf.block k hk (fun ⟨_, _, h, _⟩ => h)⟩
end
end Go.Proofs.YthbodgnoadlbcaaDoor.Asl
