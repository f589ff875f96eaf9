/- The law FnExactActText holds for every whole number; no condition. -/
import Derived.Test.YtaajnjflcpdbkaaPFnExactActTextx1
namespace Go.Proofs.Ytaajnjflcpdbkaa.Pure
open Go.RowKit Go.Proofs.Ytaajnjflcpdbkaa.PFnExactActText Go.Proofs.YtaajnjflcpdbkaaW.PrintWords Go.Proofs.YtaajnjflcpdbkaaW.PrintLast Go.Proofs.YtaajnjflcpdbkaaW.PrintMore
namespace FnExactActText
theorem implOk_eq (a : Int) : impl_ActOk.f a = some (decide (-4 ≤ a ∧ a ≤ 4)) := by
  unfold impl_ActOk.f
  by_cases h : a ≥ -4 <;> simp [h]
theorem range9 {a : Int} (h : -4 ≤ a ∧ a ≤ 4) : a = -4 ∨ a = -3 ∨ a = -2 ∨ a = -1 ∨ a = 0 ∨ a = 1 ∨ a = 2 ∨ a = 3 ∨ a = 4 := by omega
theorem specOk_eq (a : Int) : spec_ActOk.f a = some (decide (-4 ≤ a ∧ a ≤ 4)) := by
  unfold spec_ActOk.f spec_l6In.f
  by_cases h : a ≥ -4 <;> simp [h]
/-- The texts of both sides. -/
theorem texts {a : Int} (h : -4 ≤ a ∧ a ≤ 4) : ∃ t, impl_ActText.f a = some t ∧ spec_l1Text.f a = some t ∧ t.toList ≠ [] ∧ t.size ≤ 3 := by
  rcases range9 h with rfl | rfl | rfl | rfl | rfl | rfl | rfl | rfl | rfl
  · exact ⟨⟨#[33, 100]⟩, by decide +kernel, by decide +kernel, by decide +kernel, by decide +kernel⟩
  · exact ⟨⟨#[33, 99]⟩, by decide +kernel, by decide +kernel, by decide +kernel, by decide +kernel⟩
  · exact ⟨⟨#[33, 98]⟩, by decide +kernel, by decide +kernel, by decide +kernel, by decide +kernel⟩
  · exact ⟨⟨#[33, 97]⟩, by decide +kernel, by decide +kernel, by decide +kernel, by decide +kernel⟩
  · exact ⟨⟨#[116, 97, 117]⟩, by decide +kernel, by decide +kernel, by decide +kernel, by decide +kernel⟩
  · exact ⟨⟨#[97]⟩, by decide +kernel, by decide +kernel, by decide +kernel, by decide +kernel⟩
  · exact ⟨⟨#[98]⟩, by decide +kernel, by decide +kernel, by decide +kernel, by decide +kernel⟩
  · exact ⟨⟨#[99]⟩, by decide +kernel, by decide +kernel, by decide +kernel, by decide +kernel⟩
  · exact ⟨⟨#[100]⟩, by decide +kernel, by decide +kernel, by decide +kernel, by decide +kernel⟩
theorem implText_off {a : Int} (h : ¬ (-4 ≤ a ∧ a ≤ 4)) : impl_ActText.f a = some ⟨#[]⟩ := by
  unfold impl_ActText.f
  rw [implOk_eq, decide_eq_false h]; rfl
end FnExactActText
open FnExactActText
theorem FnExactActText : laws_FnExactActText.Pure := by
  intro a _
  unfold laws_FnExactActText.f spec_ActText.f
  rw [specOk_eq]
  by_cases h : -4 ≤ a ∧ a ≤ 4
  · obtain ⟨t, e1, e2, _⟩ := texts h
    rw [decide_eq_true h, e1, e2]; simp
  · rw [decide_eq_false h, implText_off h]; simp

end Go.Proofs.Ytaajnjflcpdbkaa.Pure
