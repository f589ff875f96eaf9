/- Where a number stands in a row; the reference's sort. -/
import Derived.Test.YtpkgcdpebomalaaG3
import Derived.Test.YtpkgcdpebomalaaGG
import Derived.Test.YtpkgcdpebomalaaPP
namespace Go.Proofs.Ytpkgcdpebomalaa.Asl
open Go.RowKit Go.Proofs.YtpkgcdpebomalaaW.PrintLast
set_option linter.unusedVariables false
set_option linter.unusedSimpArgs false
attribute [local irreducible] WP WL andThen inBlock noGoto atEnd ACall DA DL PO Hold
set_option maxHeartbeats 4000000
set_option synthInstance.maxHeartbeats 400000
set_option synthInstance.maxSize 10000

theorem idxOf_first {x : Nat} : ∀ {l : List Nat} {k : Nat}, k < l.length → l.getD k 0 = x → (∀ j, j < k → l.getD j 0 ≠ x) → l.idxOf x = k
  | [], k, h, _, _ => by simp at h
  | y :: l, 0, h, e, _ => by simp at e; subst e; simp
  | y :: l, k + 1, h, e, hn => by
    have h0 := hn 0 (by omega)
    simp at h0
    rw [List.idxOf_cons, show (y == x) = false from by simpa using h0, cond_false]
    rw [idxOf_first (l := l) (k := k) (by simpa using h) (by simpa using e) fun j hj => by simpa using hn (j + 1) (by omega)]
/-- Moves put in order, one by one, each once. -/
def insAll (l : List Mv) (k : Nat) : List Mv := (l.take k).foldl (fun out m => insM m out) []
theorem insAll_succ {l : List Mv} {k : Nat} (h : k < l.length) : insAll l (k + 1) = insM (l.getD k (0, 0)) (insAll l k) := by
  unfold insAll
  rw [take_succ_getD h (d := (0, 0)), List.foldl_append]; rfl
theorem insAll_all (l : List Mv) : insAll l l.length = tidyL l := by unfold insAll tidyL; rw [List.take_length]
theorem insAll_srt (l : List Mv) (k : Nat) : Srt (insAll l k) := (foldl_insM (l.take k) [] List.Pairwise.nil).1
/-- Where a move goes: behind all that do not stand behind it. -/
theorem insM_at {m : Mv} {l : List Mv} {k : Nat} (hk : k ≤ l.length) (h1 : k < l.length → mlt m (l.getD k (0, 0)) = true) (h2 : 0 < k → mlt m (l.getD (k - 1) (0, 0)) = false) (hs : Srt l) :
    insM m l = if 0 < k ∧ l.getD (k - 1) (0, 0) = m then l else l.take k ++ m :: l.drop k := by
  split
  · rename_i h
    refine srt_unique (srt_insM hs) hs fun y => ?_
    rw [mem_insM]
    constructor
    · rintro (rfl | h3)
      · rw [← h.2, getD_lt (by omega)]; exact List.getElem_mem _
      · exact h3
    · exact .inr
  · rename_i h
    have hall : (l.take k ++ l.drop k).Pairwise fun a b => mlt a b = true := by rw [List.take_append_drop]; exact hs
    obtain ⟨p1, p2, p3⟩ := List.pairwise_append.mp hall
    have hlow : ∀ a ∈ l.take k, mlt a m = true := by
      intro a ha
      obtain ⟨j, hj, rfl⟩ := List.getElem_of_mem ha
      rw [List.length_take] at hj
      rw [List.getElem_take]
      have hj0 : j < k := by omega
      have hlast : mlt (l.getD (k - 1) (0, 0)) m = true := by
        rcases mlt_tri (l.getD (k - 1) (0, 0)) m with q | q | q
        · exact q
        · exact absurd ⟨by omega, q⟩ h
        · rw [h2 (by omega)] at q; cases q
      rw [getD_lt (by omega)] at hlast
      rcases Nat.lt_or_ge j (k - 1) with q | q
      · exact mlt_trans (List.pairwise_iff_getElem.mp hs j (k - 1) (by omega) (by omega) q) hlast
      · obtain rfl : j = k - 1 := by omega
        exact hlast
    have hhigh : ∀ b ∈ l.drop k, mlt m b = true := by
      intro b hb
      obtain ⟨j, hj, rfl⟩ := List.getElem_of_mem hb
      rw [List.length_drop] at hj
      rw [List.getElem_drop]
      have hk1 := h1 (by omega)
      rw [getD_lt (by omega)] at hk1
      rcases Nat.eq_zero_or_pos j with q | q
      · subst q; exact hk1
      · exact mlt_trans hk1 (List.pairwise_iff_getElem.mp hs k (k + j) (by omega) (by omega) (by omega))
    refine srt_unique (srt_insM hs) (List.pairwise_append.mpr ⟨p1, List.pairwise_cons.mpr ⟨hhigh, p2⟩, fun a ha b hb => ?_⟩) fun y => ?_
    · rcases List.mem_cons.mp hb with rfl | hb
      · exact hlow a ha
      · exact p3 a ha b hb
    · rw [mem_insM, List.mem_append, List.mem_cons]
      conv => lhs; rw [← List.take_append_drop k l, List.mem_append]
      constructor
      · rintro (h | h | h) <;> simp [h]
      · rintro (h | h | h) <;> simp [h]
section
variable {base : Nat}
theorem c_Index (σ : Store) (s : AV) (z : Int) {l : List Nat} [hs : RW σ s l] (hz : 0 ≤ z) (hm : z.toNat ∈ l) : ACall Try.prog base F_slices_Index_int_int [s, I z] σ (fun _ => False) (Ret σ (I ((l.idxOf z.toNat : Nat) : Int))) := by
  have hb := hs.bound
  refine acall2 fun_slices_Index_int_int rfl tmps_slices_Index_int_int rfl fun N B w₀ ρ₀ => ?_
  repeat' (first
    | refine wl_pop rfl (pc_lenRow rfl inferInstance inferInstance) ?_
    | refine wp_seqA ?_
    | refine wp_region_seq ?_
    | refine thru_seq_next ?_
    | refine wp_blockA ?_
    | refine wl_nil ?_
    | refine wl_pop rfl (po_move rfl) ?_
    | refine wl_pop rfl (po_assign rfl) ?_
    | fail)
  refine wc_loop [(0, _), (1, _), (7, _)] (fun k : Nat => [(8, I k)]) (fun k σ' => k ≤ l.length ∧ LeS σ σ' ∧ ∀ j, j < k → l.getD j 0 ≠ z.toNat) (fun k => l.length - k) 0 ⟨Nat.zero_le _, inferInstance, fun j hj => by omega⟩ (by repeat' (first | exact sub_nil | refine sub_cons rfl ?_ | refine sub_int rfl (by first | rfl | omega | (push_cast; omega) | simp) ?_ | refine sub_eq rfl (by assumption) ?_)) ?_
  rintro k σ' ⟨hk, hle, hn⟩
  have := hle.grow
  repeat' (first
    | refine wl_pop rfl (pc_ldNat rfl inferInstance inferInstance (by omega) inferInstance) ?_
    | refine wl_pop rfl (pc_indexRow rfl rfl inferInstance inferInstance inferInstance (by omega)) ?_
    | refine wp_seqA ?_
    | refine wp_region_seq ?_
    | refine thru_seq_next ?_
    | refine thru_seq_ret ?_
    | refine thru_seq ?_
    | refine thru_block_ret ?_
    | refine thru_block_next ?_
    | refine exit_here ?_
    | refine wp_skipA ?_
    | refine wp_retA ?_
    | refine wp_exitA ?_
    | refine wp_blockA ?_
    | refine wl_nil ?_
    | refine wl_pop rfl (po_move rfl) ?_
    | refine wl_pop rfl (po_assign rfl) ?_
    | refine wl_pop rfl (pc_add rfl rfl (by omega) (by omega)) ?_
    | refine wl_pop rfl (po_binOp rfl rfl rfl) ?_
    | refine wp_condP rfl (fun _ => ?_) (fun _ => ?_)
    | refine at_ret (res1 rfl rfl) ?_
    | fail)
  · rename_i hkl he
    refine ret_ inferInstance (congrArg I ?_)
    rw [idxOf_first (k := k) (by omega) (by omega) hn]
  · rename_i hkl he
    refine ⟨k + 1, by omega, ⟨by omega, inferInstance, fun j hj => ?_⟩, (by repeat' (first | exact sub_nil | refine sub_cons rfl ?_ | refine sub_int rfl (by first | rfl | omega | (push_cast; omega) | simp) ?_ | refine sub_eq rfl (by assumption) ?_))⟩
    rcases Nat.lt_or_ge j k with h | h
    · exact hn j h
    · obtain rfl : j = k := by omega
      omega
  · obtain rfl : k = l.length := by omega
    obtain ⟨j, hj, e⟩ := List.getElem_of_mem hm
    exact absurd (by rw [getD_lt hj]; exact e) (hn j hj)
end
end Go.Proofs.Ytpkgcdpebomalaa.Asl
