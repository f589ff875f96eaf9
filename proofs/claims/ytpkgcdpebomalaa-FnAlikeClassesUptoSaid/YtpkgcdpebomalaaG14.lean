/- Does a table tell a likeness? The specification's way. -/
import Derived.Test.YtpkgcdpebomalaaG10
import Derived.Test.YtpkgcdpebomalaaPP
namespace Go.Proofs.Ytpkgcdpebomalaa.Asl
open Go.RowKit Go.Proofs.YtpkgcdpebomalaaW.PrintLast
set_option linter.unusedVariables false
set_option linter.unusedSimpArgs false
attribute [local irreducible] WP WL andThen inBlock noGoto atEnd ACall DA DL PO Hold
set_option maxHeartbeats 4000000
set_option synthInstance.maxHeartbeats 400000
set_option synthInstance.maxSize 10000
/-- A table as large as its graph. -/
structure TabOk (g : Gr) (rel : List (List Bool)) : Prop where
  ok : GOk g
  len : rel.length = g.length
  rows : ∀ r ∈ rel, r.length = g.length
theorem TabOk.row {g : Gr} {rel : List (List Bool)} (h : TabOk g rel) {k : Nat} (hk : k < g.length) : (rel.getD k []).length = g.length := by
  have hk' : k < rel.length := by rw [h.len]; exact hk
  rw [getD_lt hk']; exact h.rows _ (List.getElem_mem _)
def folB (rel : List (List Bool)) (back : Bool) (m k : Mv) : Bool := decide (k.1 = m.1) && (if back = true then (rel.getD k.2.toNat []).getD m.2.toNat false else (rel.getD m.2.toNat []).getD k.2.toNat false)
/-- Each move of a state has its like at another. -/
def folL (g : Gr) (rel : List (List Bool)) (back : Bool) (r s : Nat) : Bool := (rowOf g r).all fun m => (rowOf g s).any (folB rel back m)
theorem relOk_iff {g : Gr} {rel : List (List Bool)} : RelOk g rel ↔ TabOk g rel ∧ ∀ s t, s < g.length → t < g.length → (rel.getD s []).getD t false = true → folL g rel false s t = true ∧ folL g rel true t s = true := by
  constructor
  · intro h
    refine ⟨⟨h.ok, h.len, h.rows⟩, fun s t hs ht e => ⟨?_, ?_⟩⟩
    · unfold folL
      rw [List.all_eq_true]
      intro m hm
      obtain ⟨k, hk, e1, e2⟩ := h.fwd s t hs ht e m hm
      rw [List.any_eq_true]
      exact ⟨k, hk, by simp only [folB, e1, e2, decide_true, Bool.true_and]; rfl⟩
    · unfold folL
      rw [List.all_eq_true]
      intro m hm
      obtain ⟨k, hk, e1, e2⟩ := h.bwd s t hs ht e m hm
      rw [List.any_eq_true]
      exact ⟨k, hk, by simp only [folB, e1, e2, decide_true, Bool.true_and]; rfl⟩
  · rintro ⟨h, hf⟩
    refine ⟨h.ok, h.len, h.rows, fun s t hs ht e m hm => ?_, fun s t hs ht e m hm => ?_⟩
    · have h1 := (hf s t hs ht e).1
      unfold folL at h1
      rw [List.all_eq_true] at h1
      have h2 := h1 m hm
      rw [List.any_eq_true] at h2
      obtain ⟨k, hk, h3⟩ := h2
      simp only [folB, Bool.and_eq_true, decide_eq_true_eq] at h3
      exact ⟨k, hk, h3.1, h3.2⟩
    · have h1 := (hf s t hs ht e).2
      unfold folL at h1
      rw [List.all_eq_true] at h1
      have h2 := h1 m hm
      rw [List.any_eq_true] at h2
      obtain ⟨k, hk, h3⟩ := h2
      simp only [folB, Bool.and_eq_true, decide_eq_true_eq] at h3
      exact ⟨k, hk, h3.1, h3.2⟩
end Go.Proofs.Ytpkgcdpebomalaa.Asl
