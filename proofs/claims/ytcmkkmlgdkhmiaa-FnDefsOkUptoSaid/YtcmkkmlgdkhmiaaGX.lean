/- Lists that are filled, and lists that agree so far. -/
import Derived.Test.YtcmkkmlgdkhmiaaF
import Derived.Test.YtcmkkmlgdkhmiaaG1
namespace Go.Proofs.Ytcmkkmlgdkhmiaa.Asl
open Go.RowKit
set_option linter.unusedVariables false

theorem fill_set {α : Type} {l : List α} {k : Nat} (hk : k < l.length) (d d' : α) : (l.take k ++ List.replicate (l.length - k) d).set k (l.getD k d') = l.take (k + 1) ++ List.replicate (l.length - (k + 1)) d := by
  rw [List.set_append_right _ _ (by simp; omega), List.length_take, Nat.min_eq_left (by omega), Nat.sub_self, List.take_succ_eq_append_getElem hk, List.append_assoc]
  congr 1
  obtain ⟨m, hm⟩ : ∃ m, l.length - k = m + 1 := ⟨l.length - k - 1, by omega⟩
  rw [hm, show l.length - (k + 1) = m by omega, List.replicate_succ, List.set_cons_zero]
  simp [List.getD_eq_getElem?_getD, hk]
theorem take_eq_succ {α : Type} {l r : List α} {k : Nat} {d : α} (h : l.take k = r.take k) (h1 : k < l.length) (h2 : k < r.length) (e : l.getD k d = r.getD k d) : l.take (k + 1) = r.take (k + 1) := by
  rw [List.take_succ_eq_append_getElem h1, List.take_succ_eq_append_getElem h2, h]
  simp [List.getD_eq_getElem?_getD, h1, h2] at e
  rw [e]

theorem getD_set_eq {α : Type} {l : List α} {k : Nat} {x d : α} (h : k < l.length) : (l.set k x).getD k d = x := by simp [List.getD_eq_getElem?_getD, h]
theorem getD_set_ne {α : Type} {l : List α} {j k : Nat} {x d : α} (h : k ≠ j) : (l.set k x).getD j d = l.getD j d := by simp [List.getD_eq_getElem?_getD, List.getElem?_set_ne h]
theorem getD_lt {α : Type} {l : List α} {k : Nat} {d : α} (h : k < l.length) : l.getD k d = l[k] := by simp [List.getD_eq_getElem?_getD, h]
theorem getD_ge {α : Type} {l : List α} {k : Nat} {d : α} (h : l.length ≤ k) : l.getD k d = d := by simp [List.getD_eq_getElem?_getD, h]
theorem getD_all {α : Type} {l : List α} {d : α} {p : α → Prop} (h : ∀ x ∈ l, p x) (hd : p d) (k : Nat) : p (l.getD k d) := by
  rcases Nat.lt_or_ge k l.length with h1 | h1
  · rw [getD_lt h1]; exact h _ (List.getElem_mem _)
  · rw [getD_ge h1]; exact hd
theorem take_succ_getD {α : Type} {l : List α} {k : Nat} {d : α} (h : k < l.length) : l.take (k + 1) = l.take k ++ [l.getD k d] := by
  rw [List.take_succ_eq_append_getElem h, getD_lt h]
end Go.Proofs.Ytcmkkmlgdkhmiaa.Asl
