/- The law FnExactActName holds for every whole number; no condition. -/
import Derived.Test.YtaajnjflcpdbkaaPFnExactActNamex1
namespace Go.Proofs.Ytaajnjflcpdbkaa.Pure
open Go.RowKit Go.Proofs.Ytaajnjflcpdbkaa.PFnExactActName Go.Proofs.YtaajnjflcpdbkaaW.PrintWords Go.Proofs.YtaajnjflcpdbkaaW.PrintLast Go.Proofs.YtaajnjflcpdbkaaW.PrintMore
namespace FnExactActName
theorem implOk_eq (a : Int) : impl_ActOk.f a = some (decide (-4 ≤ a ∧ a ≤ 4)) := by
  unfold impl_ActOk.f
  by_cases h : a ≥ -4 <;> simp [h]
theorem range9 {a : Int} (h : -4 ≤ a ∧ a ≤ 4) : a = -4 ∨ a = -3 ∨ a = -2 ∨ a = -1 ∨ a = 0 ∨ a = 1 ∨ a = 2 ∨ a = 3 ∨ a = 4 := by omega
theorem specOk_eq (a : Int) : spec_ActOk.f a = some (decide (-4 ≤ a ∧ a ≤ 4)) := by
  unfold spec_ActOk.f spec_l6In.f
  by_cases h : a ≥ -4 <;> simp [h]
end FnExactActName
open FnExactActName
theorem FnExactActName : laws_FnExactActName.Pure := by
  intro a _
  unfold laws_FnExactActName.f impl_ActName.f spec_ActName.f impl_seen.f impl_nameOf.f spec_l1Name.f
  rw [specOk_eq, implOk_eq]
  by_cases h : -4 ≤ a ∧ a ≤ 4
  · by_cases h0 : a = 0
    · simp [h0]
    · simp [h, h0]
  · simp [h]

end Go.Proofs.Ytaajnjflcpdbkaa.Pure
