/- The law FnExactActOk holds for every whole number; no condition. -/
import Derived.Test.YtaajnjflcpdbkaaPFnExactActOkx1
namespace Go.Proofs.Ytaajnjflcpdbkaa.Pure
open Go.RowKit Go.Proofs.Ytaajnjflcpdbkaa.PFnExactActOk Go.Proofs.YtaajnjflcpdbkaaW.PrintWords Go.Proofs.YtaajnjflcpdbkaaW.PrintLast Go.Proofs.YtaajnjflcpdbkaaW.PrintMore
namespace FnExactActOk
theorem implOk_eq (a : Int) : impl_ActOk.f a = some (decide (-4 ≤ a ∧ a ≤ 4)) := by
  unfold impl_ActOk.f
  by_cases h : a ≥ -4 <;> simp [h]
theorem range9 {a : Int} (h : -4 ≤ a ∧ a ≤ 4) : a = -4 ∨ a = -3 ∨ a = -2 ∨ a = -1 ∨ a = 0 ∨ a = 1 ∨ a = 2 ∨ a = 3 ∨ a = 4 := by omega
theorem specOk_eq (a : Int) : spec_ActOk.f a = some (decide (-4 ≤ a ∧ a ≤ 4)) := by
  unfold spec_ActOk.f spec_l6In.f
  by_cases h : a ≥ -4 <;> simp [h]
end FnExactActOk
open FnExactActOk
theorem FnExactActOk : laws_FnExactActOk.Pure := by
  intro a _
  unfold laws_FnExactActOk.f
  rw [specOk_eq, implOk_eq]; simp

end Go.Proofs.Ytaajnjflcpdbkaa.Pure
