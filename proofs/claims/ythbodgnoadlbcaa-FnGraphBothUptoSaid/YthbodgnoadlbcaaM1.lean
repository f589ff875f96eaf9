/- The drawn laws' helpers on lists of numbers and on graphs. -/
import Derived.Test.YthbodgnoadlbcaaGG
import Derived.Test.YthbodgnoadlbcaaG2
namespace Go.Proofs.Ythbodgnoadlbcaa.Asl
open Go.RowKit Go.Proofs.YthbodgnoadlbcaaW.PrintLast
set_option linter.unusedVariables false
set_option linter.unusedSimpArgs false
attribute [local irreducible] WP WL andThen inBlock noGoto atEnd ACall DA DL PO Hold
set_option maxHeartbeats 4000000
set_option synthInstance.maxHeartbeats 400000
set_option synthInstance.maxSize 10000
/-- A list of numbers rises. -/
def Rises (l : List Nat) : Prop := ∀ i, i + 1 < l.length → l.getD i 0 < l.getD (i + 1) 0
/-- What is of one class by the first list is so by the second. -/
def Finer (a b : List Nat) : Prop := a.length = b.length ∧ ∀ s t, s < a.length → t < s → a.getD s 0 = a.getD t 0 → b.getD s 0 = b.getD t 0
section
variable {base : Nat}
theorem c_mnFiner (σ : Store) (s s' : AV) {a b : List Nat} [hs : RW σ s a] [hs' : RW σ s' b] : ACall Try.prog base F_laws_mnFiner [s, s'] σ (fun _ => False) (Ret σ (Bo (prB (Finer a b)))) := by
  have hb := hs.bound
  have hb' := hs'.bound
  have := hs.one
  have := hs'.one
  refine acall2 fun_laws_mnFiner rfl tmps_laws_mnFiner rfl fun N B w₀ ρ₀ => ?_
  repeat' (first
    | refine wl_pop rfl (pc_lenRow rfl inferInstance inferInstance) ?_
    | refine wp_seqA ?_
    | refine wp_region_seq ?_
    | refine thru_seq_next ?_
    | refine thru_seq_ret ?_
    | refine wp_skipA ?_
    | refine wp_retA ?_
    | refine wp_blockA ?_
    | refine wl_nil ?_
    | refine wl_pop rfl (po_move rfl) ?_
    | refine wl_pop rfl (po_assign rfl) ?_
    | refine wl_pop rfl (po_binOp rfl rfl rfl) ?_
    | refine wp_condNP rfl (fun _ => ?_) (fun _ => ?_)
    | refine at_ret (res1 rfl rfl) ?_
    | fail)
  · rename_i hl
    exact ret_ inferInstance (congrArg Bo (prB_false (fun h => by have := h.1; omega)).symm)
  rename_i hl
  have hl' : a.length = b.length := by omega
  refine wc_loop [(0, _), (1, _)] (fun k : Nat => [(5, I k)]) (fun k σ' => k ≤ a.length ∧ (∀ s t, s < k → t < s → a.getD s 0 = a.getD t 0 → b.getD s 0 = b.getD t 0) ∧ LeS σ σ') (fun k => a.length - k) 0 ⟨Nat.zero_le _, fun s t h => by omega, inferInstance⟩ (by repeat' (first | exact sub_nil | refine sub_cons rfl ?_ | refine sub_int rfl (by first | rfl | omega | (push_cast; omega) | simp) ?_ | refine sub_eq rfl (by assumption) ?_)) ?_
  rintro k σ' ⟨hk, hno, hg⟩
  have := hg.grow
  repeat' (first
    | refine wl_pop rfl (pc_lenRow rfl inferInstance inferInstance) ?_
    | refine wp_seqA ?_
    | refine wp_region_seq ?_
    | refine thru_seq_next ?_
    | refine thru_seq ?_
    | refine exit_here ?_
    | refine wp_skipA ?_
    | refine wp_retA ?_
    | refine wp_exitA ?_
    | refine wp_blockA ?_
    | refine wl_nil ?_
    | refine wl_pop rfl (po_move rfl) ?_
    | refine wl_pop rfl (po_assign rfl) ?_
    | refine wl_pop rfl (po_binOp rfl rfl rfl) ?_
    | refine wp_condP rfl (fun _ => ?_) (fun _ => ?_)
    | refine at_ret (res1 rfl rfl) ?_
    | fail)
  rotate_left
  · obtain rfl : k = a.length := by omega
    exact ret_ inferInstance (congrArg Bo (prB_true ⟨hl', hno⟩).symm)
  have hk' : k < a.length := by omega
  refine wc_loop [(0, _), (1, _), (5, _)] (fun j : Nat => [(6, I j)]) (fun j σ' => j ≤ k ∧ (∀ t, t < j → a.getD k 0 = a.getD t 0 → b.getD k 0 = b.getD t 0) ∧ LeS σ σ') (fun j => k - j) 0 ⟨Nat.zero_le _, fun t h => by omega, inferInstance⟩ (by repeat' (first | exact sub_nil | refine sub_cons rfl ?_ | refine sub_int rfl (by first | rfl | omega | (push_cast; omega) | simp) ?_ | refine sub_eq rfl (by assumption) ?_)) ?_
  rintro j σ' ⟨hj, hno2, hg⟩
  have := hg.grow
  repeat' (first
    | refine wp_seqA ?_
    | refine wp_region_seq ?_
    | refine thru_seq_next ?_
    | refine thru_seq ?_
    | refine thru_block_next ?_
    | refine exit_here ?_
    | refine wp_skipA ?_
    | refine wp_exitA ?_
    | refine wp_blockA ?_
    | refine wl_nil ?_
    | refine wl_pop rfl (po_move rfl) ?_
    | refine wl_pop rfl (po_assign rfl) ?_
    | refine wl_pop rfl (pc_add rfl rfl (by omega) (by omega)) ?_
    | refine wl_pop rfl (po_binOp rfl rfl rfl) ?_
    | refine wp_condP rfl (fun _ => ?_) (fun _ => ?_)
    | fail)
  rotate_left
  · obtain rfl : j = k := by omega
    refine ⟨j + 1, by omega, ⟨by omega, ?_, inferInstance⟩, (by repeat' (first | exact sub_nil | refine sub_cons rfl ?_ | refine sub_int rfl (by first | rfl | omega | (push_cast; omega) | simp) ?_ | refine sub_eq rfl (by assumption) ?_))⟩
    intro s t h1 h2
    by_cases e : s = j
    · subst e; exact hno2 t h2
    · exact hno s t (by omega) h2
  have hj' : j < k := by omega
  refine wc_drawn [] mixed_ rfl ?_
  all_goals refine da_takeC 0 rfl rfl (by kernel_rfl) (by first | exact po_move rfl | fail) ?_
  all_goals refine da_takeC 1 rfl rfl (by kernel_rfl) (by first | exact po_move rfl | fail) ?_
  all_goals refine da_takeC 2 rfl rfl (by kernel_rfl) (by first | exact pc_indexRow rfl rfl inferInstance inferInstance inferInstance (by omega) | fail) ?_
  all_goals refine da_takeC 3 rfl rfl (by kernel_rfl) (by first | exact pc_ldNat rfl inferInstance inferInstance (by omega) inferInstance | fail) ?_
  all_goals refine da_takeC 4 rfl rfl (by kernel_rfl) (by first | exact po_move rfl | fail) ?_
  all_goals refine da_takeC 5 rfl rfl (by kernel_rfl) (by first | exact po_move rfl | fail) ?_
  all_goals refine da_takeC 6 rfl rfl (by kernel_rfl) (by first | exact pc_indexRow rfl rfl inferInstance inferInstance inferInstance (by omega) | fail) ?_
  all_goals refine da_takeC 7 rfl rfl (by kernel_rfl) (by first | exact pc_ldNat rfl inferInstance inferInstance (by omega) inferInstance | fail) ?_
  all_goals refine da_takeC 8 rfl rfl (by kernel_rfl) (by first | exact po_binOp rfl rfl rfl | fail) ?_
  all_goals refine da_takeC 9 rfl rfl (by kernel_rfl) (by first | exact po_move rfl | fail) ?_
  all_goals (first | refine da_onC 10 rfl rfl rfl rfl rfl (by kernel_rfl) (by first | exact po_move rfl | fail) ?_ | refine da_offC 10 rfl rfl rfl rfl rfl rfl (by kernel_rfl) ?_ | refine da_offU 10 rfl rfl rfl rfl rfl (by kernel_rfl) ?_ | ((first | refine da_caseP (t := 32) rfl (fun _ => ?_) (fun _ => ?_) | refine da_caseNP (t := 32) rfl (fun _ => ?_) (fun _ => ?_) | refine da_caseEq (t := 32) rfl (fun _ => ?_) (fun _ => ?_) | refine da_caseNe (t := 32) rfl (fun _ => ?_) (fun _ => ?_) | refine da_caseNB (t := 32) rfl (fun _ => ?_) (fun _ => ?_) | refine da_case (t := 32) rfl (fun _ => ?_) (fun _ => ?_)) <;> (first | refine da_onC 10 rfl rfl rfl rfl rfl (by kernel_rfl) (by first | exact po_move rfl | fail) ?_ | refine da_offC 10 rfl rfl rfl rfl rfl rfl (by kernel_rfl) ?_ | refine da_offU 10 rfl rfl rfl rfl rfl (by kernel_rfl) ?_)))
  all_goals (first | refine da_onC 11 rfl rfl rfl rfl rfl (by kernel_rfl) (by first | exact po_move rfl | fail) ?_ | refine da_offC 11 rfl rfl rfl rfl rfl rfl (by kernel_rfl) ?_ | refine da_offU 11 rfl rfl rfl rfl rfl (by kernel_rfl) ?_ | ((first | refine da_caseP (t := 32) rfl (fun _ => ?_) (fun _ => ?_) | refine da_caseNP (t := 32) rfl (fun _ => ?_) (fun _ => ?_) | refine da_caseEq (t := 32) rfl (fun _ => ?_) (fun _ => ?_) | refine da_caseNe (t := 32) rfl (fun _ => ?_) (fun _ => ?_) | refine da_caseNB (t := 32) rfl (fun _ => ?_) (fun _ => ?_) | refine da_case (t := 32) rfl (fun _ => ?_) (fun _ => ?_)) <;> (first | refine da_onC 11 rfl rfl rfl rfl rfl (by kernel_rfl) (by first | exact po_move rfl | fail) ?_ | refine da_offC 11 rfl rfl rfl rfl rfl rfl (by kernel_rfl) ?_ | refine da_offU 11 rfl rfl rfl rfl rfl (by kernel_rfl) ?_)))
  all_goals (first | refine da_onC 12 rfl rfl rfl rfl rfl (by kernel_rfl) (by first | exact pc_indexRow rfl rfl inferInstance inferInstance inferInstance (by omega) | fail) ?_ | refine da_offC 12 rfl rfl rfl rfl rfl rfl (by kernel_rfl) ?_ | refine da_offU 12 rfl rfl rfl rfl rfl (by kernel_rfl) ?_ | ((first | refine da_caseP (t := 32) rfl (fun _ => ?_) (fun _ => ?_) | refine da_caseNP (t := 32) rfl (fun _ => ?_) (fun _ => ?_) | refine da_caseEq (t := 32) rfl (fun _ => ?_) (fun _ => ?_) | refine da_caseNe (t := 32) rfl (fun _ => ?_) (fun _ => ?_) | refine da_caseNB (t := 32) rfl (fun _ => ?_) (fun _ => ?_) | refine da_case (t := 32) rfl (fun _ => ?_) (fun _ => ?_)) <;> (first | refine da_onC 12 rfl rfl rfl rfl rfl (by kernel_rfl) (by first | exact pc_indexRow rfl rfl inferInstance inferInstance inferInstance (by omega) | fail) ?_ | refine da_offC 12 rfl rfl rfl rfl rfl rfl (by kernel_rfl) ?_ | refine da_offU 12 rfl rfl rfl rfl rfl (by kernel_rfl) ?_)))
  all_goals (first | refine da_onC 13 rfl rfl rfl rfl rfl (by kernel_rfl) (by first | exact pc_ldNat rfl inferInstance inferInstance (by omega) inferInstance | fail) ?_ | refine da_offC 13 rfl rfl rfl rfl rfl rfl (by kernel_rfl) ?_ | refine da_offU 13 rfl rfl rfl rfl rfl (by kernel_rfl) ?_ | ((first | refine da_caseP (t := 32) rfl (fun _ => ?_) (fun _ => ?_) | refine da_caseNP (t := 32) rfl (fun _ => ?_) (fun _ => ?_) | refine da_caseEq (t := 32) rfl (fun _ => ?_) (fun _ => ?_) | refine da_caseNe (t := 32) rfl (fun _ => ?_) (fun _ => ?_) | refine da_caseNB (t := 32) rfl (fun _ => ?_) (fun _ => ?_) | refine da_case (t := 32) rfl (fun _ => ?_) (fun _ => ?_)) <;> (first | refine da_onC 13 rfl rfl rfl rfl rfl (by kernel_rfl) (by first | exact pc_ldNat rfl inferInstance inferInstance (by omega) inferInstance | fail) ?_ | refine da_offC 13 rfl rfl rfl rfl rfl rfl (by kernel_rfl) ?_ | refine da_offU 13 rfl rfl rfl rfl rfl (by kernel_rfl) ?_)))
  all_goals (first | refine da_onC 14 rfl rfl rfl rfl rfl (by kernel_rfl) (by first | exact po_move rfl | fail) ?_ | refine da_offC 14 rfl rfl rfl rfl rfl rfl (by kernel_rfl) ?_ | refine da_offU 14 rfl rfl rfl rfl rfl (by kernel_rfl) ?_ | ((first | refine da_caseP (t := 32) rfl (fun _ => ?_) (fun _ => ?_) | refine da_caseNP (t := 32) rfl (fun _ => ?_) (fun _ => ?_) | refine da_caseEq (t := 32) rfl (fun _ => ?_) (fun _ => ?_) | refine da_caseNe (t := 32) rfl (fun _ => ?_) (fun _ => ?_) | refine da_caseNB (t := 32) rfl (fun _ => ?_) (fun _ => ?_) | refine da_case (t := 32) rfl (fun _ => ?_) (fun _ => ?_)) <;> (first | refine da_onC 14 rfl rfl rfl rfl rfl (by kernel_rfl) (by first | exact po_move rfl | fail) ?_ | refine da_offC 14 rfl rfl rfl rfl rfl rfl (by kernel_rfl) ?_ | refine da_offU 14 rfl rfl rfl rfl rfl (by kernel_rfl) ?_)))
  all_goals (first | refine da_onC 15 rfl rfl rfl rfl rfl (by kernel_rfl) (by first | exact po_move rfl | fail) ?_ | refine da_offC 15 rfl rfl rfl rfl rfl rfl (by kernel_rfl) ?_ | refine da_offU 15 rfl rfl rfl rfl rfl (by kernel_rfl) ?_ | ((first | refine da_caseP (t := 32) rfl (fun _ => ?_) (fun _ => ?_) | refine da_caseNP (t := 32) rfl (fun _ => ?_) (fun _ => ?_) | refine da_caseEq (t := 32) rfl (fun _ => ?_) (fun _ => ?_) | refine da_caseNe (t := 32) rfl (fun _ => ?_) (fun _ => ?_) | refine da_caseNB (t := 32) rfl (fun _ => ?_) (fun _ => ?_) | refine da_case (t := 32) rfl (fun _ => ?_) (fun _ => ?_)) <;> (first | refine da_onC 15 rfl rfl rfl rfl rfl (by kernel_rfl) (by first | exact po_move rfl | fail) ?_ | refine da_offC 15 rfl rfl rfl rfl rfl rfl (by kernel_rfl) ?_ | refine da_offU 15 rfl rfl rfl rfl rfl (by kernel_rfl) ?_)))
  all_goals (first | refine da_onC 16 rfl rfl rfl rfl rfl (by kernel_rfl) (by first | exact pc_indexRow rfl rfl inferInstance inferInstance inferInstance (by omega) | fail) ?_ | refine da_offC 16 rfl rfl rfl rfl rfl rfl (by kernel_rfl) ?_ | refine da_offU 16 rfl rfl rfl rfl rfl (by kernel_rfl) ?_ | ((first | refine da_caseP (t := 32) rfl (fun _ => ?_) (fun _ => ?_) | refine da_caseNP (t := 32) rfl (fun _ => ?_) (fun _ => ?_) | refine da_caseEq (t := 32) rfl (fun _ => ?_) (fun _ => ?_) | refine da_caseNe (t := 32) rfl (fun _ => ?_) (fun _ => ?_) | refine da_caseNB (t := 32) rfl (fun _ => ?_) (fun _ => ?_) | refine da_case (t := 32) rfl (fun _ => ?_) (fun _ => ?_)) <;> (first | refine da_onC 16 rfl rfl rfl rfl rfl (by kernel_rfl) (by first | exact pc_indexRow rfl rfl inferInstance inferInstance inferInstance (by omega) | fail) ?_ | refine da_offC 16 rfl rfl rfl rfl rfl rfl (by kernel_rfl) ?_ | refine da_offU 16 rfl rfl rfl rfl rfl (by kernel_rfl) ?_)))
  all_goals (first | refine da_onC 17 rfl rfl rfl rfl rfl (by kernel_rfl) (by first | exact pc_ldNat rfl inferInstance inferInstance (by omega) inferInstance | fail) ?_ | refine da_offC 17 rfl rfl rfl rfl rfl rfl (by kernel_rfl) ?_ | refine da_offU 17 rfl rfl rfl rfl rfl (by kernel_rfl) ?_ | ((first | refine da_caseP (t := 32) rfl (fun _ => ?_) (fun _ => ?_) | refine da_caseNP (t := 32) rfl (fun _ => ?_) (fun _ => ?_) | refine da_caseEq (t := 32) rfl (fun _ => ?_) (fun _ => ?_) | refine da_caseNe (t := 32) rfl (fun _ => ?_) (fun _ => ?_) | refine da_caseNB (t := 32) rfl (fun _ => ?_) (fun _ => ?_) | refine da_case (t := 32) rfl (fun _ => ?_) (fun _ => ?_)) <;> (first | refine da_onC 17 rfl rfl rfl rfl rfl (by kernel_rfl) (by first | exact pc_ldNat rfl inferInstance inferInstance (by omega) inferInstance | fail) ?_ | refine da_offC 17 rfl rfl rfl rfl rfl rfl (by kernel_rfl) ?_ | refine da_offU 17 rfl rfl rfl rfl rfl (by kernel_rfl) ?_)))
  all_goals (first | refine da_onC 18 rfl rfl rfl rfl rfl (by kernel_rfl) (by first | exact po_binOp rfl rfl rfl | fail) ?_ | refine da_offC 18 rfl rfl rfl rfl rfl rfl (by kernel_rfl) ?_ | refine da_offU 18 rfl rfl rfl rfl rfl (by kernel_rfl) ?_ | ((first | refine da_caseP (t := 32) rfl (fun _ => ?_) (fun _ => ?_) | refine da_caseNP (t := 32) rfl (fun _ => ?_) (fun _ => ?_) | refine da_caseEq (t := 32) rfl (fun _ => ?_) (fun _ => ?_) | refine da_caseNe (t := 32) rfl (fun _ => ?_) (fun _ => ?_) | refine da_caseNB (t := 32) rfl (fun _ => ?_) (fun _ => ?_) | refine da_case (t := 32) rfl (fun _ => ?_) (fun _ => ?_)) <;> (first | refine da_onC 18 rfl rfl rfl rfl rfl (by kernel_rfl) (by first | exact po_binOp rfl rfl rfl | fail) ?_ | refine da_offC 18 rfl rfl rfl rfl rfl rfl (by kernel_rfl) ?_ | refine da_offU 18 rfl rfl rfl rfl rfl (by kernel_rfl) ?_)))
  all_goals refine da_takeC 19 rfl rfl (by kernel_rfl) (by first | exact po_pick rfl rfl | fail) ?_
  all_goals refine da_done (by kernel_rfl) ?_
  repeat' (first
    | refine wp_seqA ?_
    | refine wp_region_seq ?_
    | refine thru_seq_next ?_
    | refine thru_seq_ret ?_
    | refine thru_block_ret ?_
    | refine thru_block_next ?_
    | refine wp_skipA ?_
    | refine wp_retA ?_
    | refine wl_nil ?_
    | refine wl_pop rfl (po_move rfl) ?_
    | refine wl_pop rfl (po_assign rfl) ?_
    | refine wl_pop rfl (pc_add rfl rfl (by omega) (by omega)) ?_
    | refine wp_condF rfl ?_
    | refine wp_condNP rfl (fun _ => ?_) (fun _ => ?_)
    | refine at_ret (res1 rfl rfl) ?_
    | fail)
  · rename_i q1 q2
    refine ret_ inferInstance (congrArg Bo (prB_false ?_).symm)
    intro h
    have := h.2 k j hk' hj' (by omega)
    omega
  all_goals
    refine ⟨j + 1, by omega, ⟨by omega, ?_, inferInstance⟩, (by repeat' (first | exact sub_nil | refine sub_cons rfl ?_ | refine sub_int rfl (by first | rfl | omega | (push_cast; omega) | simp) ?_ | refine sub_eq rfl (by assumption) ?_))⟩
    intro t ht he
    by_cases e : t = j
    · subst e; omega
    · exact hno2 t (by omega) he
theorem c_mnFinerR (σ : Store) (s s' : AV) {a b : List Nat} (h : Finer a b) [hs : RW σ s a] [hs' : RW σ s' b] : ACall Try.prog base F_laws_mnFiner [s, s'] σ (fun _ => False) (Ret σ (Bo true)) := by
  have := c_mnFiner (base := base) σ s s' (hs := hs) (hs' := hs')
  rwa [prB_true h] at this
end
end Go.Proofs.Ythbodgnoadlbcaa.Asl
