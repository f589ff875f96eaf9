/- Lists of numbers compared and marked; terms marked. -/
import Derived.Test.YtcmkkmlgdkhmiaaT10
namespace Go.Proofs.Ytcmkkmlgdkhmiaa.Asl
open Go.RowKit
set_option linter.unusedVariables false
attribute [local irreducible] WP WL andThen inBlock noGoto atEnd ACall DA DL PO Hold actB inB nodeOk
set_option maxHeartbeats 4000000

theorem ints_at {σ : Store} {i : Nat} {xs : List Int} (h : Has σ i (Ints xs)) {k : Nat} (hk : k < xs.length) : At σ i (0 + k * 1) 1 [I xs[k]] := by
  refine ⟨_, h.get, .inr rfl, ?_, rfl⟩
  rw [cut_cutL, Nat.zero_add, Nat.mul_one]
  unfold cutL
  rw [List.drop_eq_getElem_cons (by simpa using hk)]
  simp

section
variable {base : Nat}
/-- Numbers that count on. -/
def countFrom (a : Int) : Nat → List Int
  | 0 => []
  | n + 1 => countFrom a n ++ [a + n]
theorem countFrom_len (a : Int) (n : Nat) : (countFrom a n).length = n := by induction n <;> simp_all [countFrom]
theorem countFrom_get (a : Int) {n k : Nat} (h : k < n) : (countFrom a n)[k]? = some (a + k) := by
  induction n with
  | zero => omega
  | succ n ih =>
    simp only [countFrom]
    rcases Nat.lt_or_ge k n with h1 | h1
    · rw [List.getElem?_append_left (by rw [countFrom_len]; exact h1)]; exact ih h1
    · obtain rfl : k = n := by omega
      rw [List.getElem?_append_right (by rw [countFrom_len]; omega), countFrom_len]; simp
end
end Go.Proofs.Ytcmkkmlgdkhmiaa.Asl
