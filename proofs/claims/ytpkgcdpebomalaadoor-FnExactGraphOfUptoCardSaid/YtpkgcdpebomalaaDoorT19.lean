/- Names exchanged in a term: the table, as the judge says it. -/
import Derived.Test.YtpkgcdpebomalaaDoorT18
namespace Go.Proofs.YtpkgcdpebomalaaDoor.Asl
open Go.RowKit
set_option linter.unusedVariables false
attribute [local irreducible] WP WL andThen inBlock noGoto atEnd ACall DA DL PO Hold actB inB nodeOk
set_option maxHeartbeats 4000000

def tblSw (a b : Nat) : List Nat := ((List.range 4).set a b).set b a
theorem tblSw_len (a b : Nat) : (tblSw a b).length = 4 := by simp [tblSw]
theorem tblSw_get : ∀ a, a < 4 → ∀ b, b < 4 → ∀ k, k < 4 → (((tblSw a b).getD k 0 : Nat) : Int) = swN (k : Int) (a : Int) (b : Int) := by decide
theorem tblSw_any (a : Nat) (ha : a < 4) (b : Nat) (hb : b < 4) (k : Nat) : (tblSw a b).getD k 0 ≤ 3 := by
  by_cases h : k < 4
  · revert a b k; decide
  · rw [List.getD_eq_getElem?_getD, List.getElem?_eq_none (by rw [tblSw_len]; omega)]; decide
theorem tblSw_z {a b : Nat} {z : Int} (ha : a < 4) (hb : b < 4) (h0 : 0 ≤ z) (h1 : z ≤ 3) : (((tblSw a b).getD z.toNat 0 : Nat) : Int) = swN z a b := by
  have := tblSw_get a ha b hb z.toNat (by omega)
  rwa [Int.toNat_of_nonneg h0] at this
theorem tblSw_le : ∀ a, a < 4 → ∀ b, b < 4 → ∀ k, k < 4 → (tblSw a b).getD k 0 ≤ 3 := by decide
theorem has_i3 {σ : Store} {i : Nat} {a c : AV} {m n : Int} (h : Has σ i ⟨.own, 1, [a, I m, c], []⟩) (e : m = n) : Has σ i ⟨.own, 1, [a, I n, c], []⟩ := e ▸ h
section
variable {base : Nat}
end
end Go.Proofs.YtpkgcdpebomalaaDoor.Asl
