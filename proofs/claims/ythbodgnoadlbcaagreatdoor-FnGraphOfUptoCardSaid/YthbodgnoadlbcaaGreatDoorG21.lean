/- Where a number stands in a row; the reference's sort. -/
import Derived.Test.YthbodgnoadlbcaaGreatDoorG3
import Derived.Test.YthbodgnoadlbcaaGreatDoorGG
import Derived.Test.YthbodgnoadlbcaaGreatDoorPP
namespace Go.Proofs.YthbodgnoadlbcaaGreatDoor.Asl
open Go.RowKit Go.Proofs.YthbodgnoadlbcaaGreatDoorW.PrintLast
set_option linter.unusedVariables false
set_option linter.unusedSimpArgs false
attribute [local irreducible] WP WL andThen inBlock noGoto atEnd ACall DA DL PO Hold
set_option maxHeartbeats 4000000
set_option synthInstance.maxHeartbeats 400000
set_option synthInstance.maxSize 10000

/-- Moves put in order, one by one, each once. -/
def insAll (l : List Mv) (k : Nat) : List Mv := (l.take k).foldl (fun out m => insM m out) []
theorem insAll_succ {l : List Mv} {k : Nat} (h : k < l.length) : insAll l (k + 1) = insM (l.getD k (0, 0)) (insAll l k) := by
  unfold insAll
  rw [take_succ_getD h (d := (0, 0)), List.foldl_append]; rfl
theorem insAll_all (l : List Mv) : insAll l l.length = tidyL l := by unfold insAll tidyL; rw [List.take_length]
theorem insAll_srt (l : List Mv) (k : Nat) : Srt (insAll l k) := (foldl_insM (l.take k) [] List.Pairwise.nil).1
/-- Where a move goes: behind all that do not stand behind it. -/
theorem insM_at {m : Mv} {l : List Mv} {k : Nat} (hk : k ≤ l.length) (h1 : k < l.length → mlt m (l.getD k (0, 0)) = true) (h2 : 0 < k → mlt m (l.getD (k - 1) (0, 0)) = false) (hs : Srt l) :
    insM m l = if 0 < k ∧ l.getD (k - 1) (0, 0) = m then l else l.take k ++ m :: l.drop k := by
  split
  · rename_i h
    refine srt_unique (srt_insM hs) hs fun y => ?_
    rw [mem_insM]
    constructor
    · rintro (rfl | h3)
      · rw [← h.2, getD_lt (by omega)]; exact List.getElem_mem _
      · exact h3
    · exact .inr
  · rename_i h
    have hall : (l.take k ++ l.drop k).Pairwise fun a b => mlt a b = true := by rw [List.take_append_drop]; exact hs
    obtain ⟨p1, p2, p3⟩ := List.pairwise_append.mp hall
    have hlow : ∀ a ∈ l.take k, mlt a m = true := by
      intro a ha
      obtain ⟨j, hj, rfl⟩ := List.getElem_of_mem ha
      rw [List.length_take] at hj
      rw [List.getElem_take]
      have hj0 : j < k := by omega
      have hlast : mlt (l.getD (k - 1) (0, 0)) m = true := by
        rcases mlt_tri (l.getD (k - 1) (0, 0)) m with q | q | q
        · exact q
        · exact absurd ⟨by omega, q⟩ h
        · rw [h2 (by omega)] at q; cases q
      rw [getD_lt (by omega)] at hlast
      rcases Nat.lt_or_ge j (k - 1) with q | q
      · exact mlt_trans (List.pairwise_iff_getElem.mp hs j (k - 1) (by omega) (by omega) q) hlast
      · obtain rfl : j = k - 1 := by omega
        exact hlast
    have hhigh : ∀ b ∈ l.drop k, mlt m b = true := by
      intro b hb
      obtain ⟨j, hj, rfl⟩ := List.getElem_of_mem hb
      rw [List.length_drop] at hj
      rw [List.getElem_drop]
      have hk1 := h1 (by omega)
      rw [getD_lt (by omega)] at hk1
      rcases Nat.eq_zero_or_pos j with q | q
      · subst q; exact hk1
      · exact mlt_trans hk1 (List.pairwise_iff_getElem.mp hs k (k + j) (by omega) (by omega) (by omega))
    refine srt_unique (srt_insM hs) (List.pairwise_append.mpr ⟨p1, List.pairwise_cons.mpr ⟨hhigh, p2⟩, fun a ha b hb => ?_⟩) fun y => ?_
    · rcases List.mem_cons.mp hb with rfl | hb
      · exact hlow a ha
      · exact p3 a ha b hb
    · rw [mem_insM, List.mem_append, List.mem_cons]
      conv => lhs; rw [← List.take_append_drop k l, List.mem_append]
      constructor
      · rintro (h | h | h) <;> simp [h]
      · rintro (h | h | h) <;> simp [h]
end Go.Proofs.YthbodgnoadlbcaaGreatDoor.Asl
