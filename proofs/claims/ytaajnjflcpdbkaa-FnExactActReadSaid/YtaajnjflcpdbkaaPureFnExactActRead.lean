/- The law FnExactActRead holds for every text; no condition. -/
import Derived.Test.YtaajnjflcpdbkaaPFnExactActReadx1
namespace Go.Proofs.Ytaajnjflcpdbkaa.Pure
open Go.RowKit Go.Proofs.Ytaajnjflcpdbkaa.PFnExactActRead Go.Proofs.YtaajnjflcpdbkaaW.PrintWords Go.Proofs.YtaajnjflcpdbkaaW.PrintLast Go.Proofs.YtaajnjflcpdbkaaW.PrintMore
namespace FnExactActRead
theorem implOk_eq (a : Int) : impl_ActOk.f a = some (decide (-4 ≤ a ∧ a ≤ 4)) := by
  unfold impl_ActOk.f
  by_cases h : a ≥ -4 <;> simp [h]
theorem range9 {a : Int} (h : -4 ≤ a ∧ a ≤ 4) : a = -4 ∨ a = -3 ∨ a = -2 ∨ a = -1 ∨ a = 0 ∨ a = 1 ∨ a = 2 ∨ a = 3 ∨ a = 4 := by omega
/-- The texts of both sides. -/
theorem texts {a : Int} (h : -4 ≤ a ∧ a ≤ 4) : ∃ t, impl_ActText.f a = some t ∧ spec_l1Text.f a = some t ∧ t.toList ≠ [] ∧ t.size ≤ 3 := by
  rcases range9 h with rfl | rfl | rfl | rfl | rfl | rfl | rfl | rfl | rfl
  · exact ⟨⟨#[33, 100]⟩, by decide +kernel, by decide +kernel, by decide +kernel, by decide +kernel⟩
  · exact ⟨⟨#[33, 99]⟩, by decide +kernel, by decide +kernel, by decide +kernel, by decide +kernel⟩
  · exact ⟨⟨#[33, 98]⟩, by decide +kernel, by decide +kernel, by decide +kernel, by decide +kernel⟩
  · exact ⟨⟨#[33, 97]⟩, by decide +kernel, by decide +kernel, by decide +kernel, by decide +kernel⟩
  · exact ⟨⟨#[116, 97, 117]⟩, by decide +kernel, by decide +kernel, by decide +kernel, by decide +kernel⟩
  · exact ⟨⟨#[97]⟩, by decide +kernel, by decide +kernel, by decide +kernel, by decide +kernel⟩
  · exact ⟨⟨#[98]⟩, by decide +kernel, by decide +kernel, by decide +kernel, by decide +kernel⟩
  · exact ⟨⟨#[99]⟩, by decide +kernel, by decide +kernel, by decide +kernel, by decide +kernel⟩
  · exact ⟨⟨#[100]⟩, by decide +kernel, by decide +kernel, by decide +kernel, by decide +kernel⟩
theorem implText_off {a : Int} (h : ¬ (-4 ≤ a ∧ a ≤ 4)) : impl_ActText.f a = some ⟨#[]⟩ := by
  unfold impl_ActText.f
  rw [implOk_eq, decide_eq_false h]; rfl
theorem reads (s : ByteArray) (d : Nat) : ∀ (k : Nat) (a : Int), -4 ≤ a → a ≤ 5 → 5 - a = d → d < k →
    ∃ r b, impl_ActRead.l0 k s a = some (r, b) ∧ spec_ActRead.l0 k s a = some (r, b) ∧ (b = true → -4 ≤ r ∧ r ≤ 4 ∧ ∃ t, impl_ActText.f r = some t ∧ t.toList = s.toList) := by
  induction d with
  | zero =>
    intro k a h1 h2 hd hk
    obtain ⟨k, rfl⟩ : ∃ m, k = m + 1 := ⟨k - 1, by omega⟩
    refine ⟨0, false, ?_, ?_, fun h => by cases h⟩
    · simp only [impl_ActRead.l0]; rw [if_neg (by omega)]
    · simp only [spec_ActRead.l0]; rw [if_neg (by omega)]
  | succ d ih =>
    intro k a h1 h2 hd hk
    obtain ⟨k, rfl⟩ : ∃ m, k = m + 1 := ⟨k - 1, by omega⟩
    obtain ⟨t, e1, e2, _, _⟩ := texts (a := a) ⟨h1, by omega⟩
    have hw : wrap64 (a + 1) = a + 1 := by unfold wrap64; omega
    by_cases hs : t.toList = s.toList
    · refine ⟨a, true, ?_, ?_, fun _ => ⟨h1, by omega, t, e1, hs⟩⟩
      · simp only [impl_ActRead.l0]; rw [if_pos (by omega), e1]; simp only [Option.bind_some]; rw [if_pos hs]
      · simp only [spec_ActRead.l0]; rw [if_pos (by omega), e2]; simp only [Option.bind_some]; rw [if_pos hs]
    · obtain ⟨r, b, r1, r2, r3⟩ := ih k (a + 1) (by omega) (by omega) (by omega) (by omega)
      refine ⟨r, b, ?_, ?_, r3⟩
      · simp only [impl_ActRead.l0]; rw [if_pos (by omega), e1]; simp only [Option.bind_some]; rw [if_neg hs, hw]; exact r1
      · simp only [spec_ActRead.l0]; rw [if_pos (by omega), e2]; simp only [Option.bind_some]; rw [if_neg hs, hw]; exact r2
theorem read_both (s : ByteArray) : ∃ r b, (∀ k, 10 ≤ k → impl_ActRead.f k s = some (r, b)) ∧ (∀ k, 10 ≤ k → spec_ActRead.f k s = some (r, b)) ∧ (b = true → -4 ≤ r ∧ r ≤ 4 ∧ ∃ t, impl_ActText.f r = some t ∧ t.toList = s.toList) := by
  obtain ⟨r, b, r1, r2, r3⟩ := reads s 9 10 (-4) (by omega) (by omega) (by omega) (by omega)
  exact ⟨r, b, fun k hk => at_rounds (g := fun k => impl_ActRead.f k s) (impl_ActRead.mono s) hk r1, fun k hk => at_rounds (g := fun k => spec_ActRead.f k s) (spec_ActRead.mono s) hk r2, r3⟩
end FnExactActRead
open FnExactActRead
theorem FnExactActRead : laws_FnExactActRead.Pure := by
  intro s _
  refine ⟨10, ?_⟩
  unfold laws_FnExactActRead.f
  obtain ⟨r, b, e1, e2, _⟩ := read_both s
  by_cases h : (s.size : Int) > 1048576
  · rw [if_pos h]
  · rw [if_neg h, e1 10 (by omega), e2 10 (by omega)]; simp

end Go.Proofs.Ytaajnjflcpdbkaa.Pure
