/- How long tidied rows are. -/
import Derived.Test.YtemhpkfijoodkaaG22
namespace Go.Proofs.Ytemhpkfijoodkaa.Asl
theorem tidyL_len (l : List Mv) : (tidyL l).length ≤ l.length := by
  rw [← insAll_all]; exact insAll_len (Nat.le_refl _)
theorem getD_len {a : Gr} {b : Nat} (h : ∀ l ∈ a, l.length ≤ b) (k : Nat) : (a.getD k []).length ≤ b := getD_all (p := fun (l : List Mv) => l.length ≤ b) h (by simp) k
end Go.Proofs.Ytemhpkfijoodkaa.Asl
