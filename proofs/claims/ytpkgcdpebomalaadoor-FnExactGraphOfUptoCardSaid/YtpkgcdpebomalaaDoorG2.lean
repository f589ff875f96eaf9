/- Graphs counted, copied, compared. -/
import Derived.Test.YtpkgcdpebomalaaDoorGG
namespace Go.Proofs.YtpkgcdpebomalaaDoor.Asl
open Go.RowKit Go.Proofs.YtpkgcdpebomalaaDoorW.PrintLast
set_option linter.unusedVariables false
set_option linter.unusedSimpArgs false
attribute [local irreducible] WP WL andThen inBlock noGoto atEnd ACall DA DL PO Hold
set_option maxHeartbeats 4000000

section
variable {base : Nat}
theorem c_eqMove (σ : Store) (a b a' b' : Int) : ACall Tryd.prog base F_laws_eqMove [.agg [I a, I b], .agg [I a', I b']] σ (fun _ => False) (Ret σ (Bo (eqB ((a, b) : Mv) (a', b')))) := by
  refine acall2 fun_laws_eqMove rfl tmps_laws_eqMove rfl fun N B w₀ ρ₀ => ?_
  repeat' (first
    | refine wp_seqA ?_
    | refine wp_region_seq ?_
    | refine thru_seq_next ?_
    | refine thru_seq_ret ?_
    | refine wp_skipA ?_
    | refine wp_retA ?_
    | refine wl_nil ?_
    | refine wl_pop rfl (po_assign rfl) ?_
    | refine wl_pop rfl (po_binOp rfl rfl rfl) ?_
    | refine wl_pop rfl (po_fieldAddr rfl inferInstance) ?_
    | refine wc_load1 rfl inferInstance (at_has (.inl rfl) rfl rfl) rfl ?_
    | (refine wc_boxA rfl inferInstance rfl ?_; intro _ _ _ _ _)
    | refine wp_condNP rfl (fun _ => ?_) (fun _ => ?_)
    | refine at_ret (res1 rfl rfl) ?_
    | fail)
  all_goals refine ret_ inferInstance (congrArg Bo ?_)
  all_goals simp_all [eqB]
theorem c_eqMoveS (σ : Store) (s s' : AV) {l l' : List Mv} [hs : RW σ s l] [hs' : RW σ s' l'] : ACall Tryd.prog base F_laws_eqMoveS [s, s'] σ (fun _ => False) (Ret σ (Bo (eqB l l'))) := by
  have hb := hs.bound
  have hb' := hs'.bound
  refine acall2 fun_laws_eqMoveS rfl tmps_laws_eqMoveS rfl fun N B w₀ ρ₀ => ?_
  repeat' (first
    | refine wl_pop rfl (pc_lenRow rfl inferInstance inferInstance) ?_
    | refine wp_seqA ?_
    | refine wp_region_seq ?_
    | refine thru_seq_next ?_
    | refine thru_seq_ret ?_
    | refine wp_skipA ?_
    | refine wp_retA ?_
    | refine wp_blockA ?_
    | refine wl_nil ?_
    | refine wl_pop rfl (po_move rfl) ?_
    | refine wl_pop rfl (po_assign rfl) ?_
    | refine wl_pop rfl (po_binOp rfl rfl rfl) ?_
    | refine wp_condNP rfl (fun _ => ?_) (fun _ => ?_)
    | refine at_ret (res1 rfl rfl) ?_
    | fail)
  · refine ret_ inferInstance (congrArg Bo (eqB_ne ?_).symm)
    rintro rfl; simp_all
  rename_i hl
  have hl' : l.length = l'.length := by omega
  refine wc_loop [(0, _), (1, _)] (fun k : Nat => [(5, I k)]) (fun k σ' => k ≤ l.length ∧ l.take k = l'.take k ∧ LeS σ σ') (fun k => l.length - k) 0 ⟨Nat.zero_le _, rfl, inferInstance⟩ (by repeat' (first | exact sub_nil | refine sub_cons rfl ?_ | refine sub_int rfl (by first | rfl | omega | (push_cast; omega) | simp) ?_ | refine sub_eq rfl (by assumption) ?_)) ?_
  rintro k σ' ⟨hk, htk, hg⟩
  have := hg.grow
  repeat' (first
    | refine wl_pop rfl (pc_lenRow rfl inferInstance inferInstance) ?_
    | refine wp_seqA ?_
    | refine wp_region_seq ?_
    | refine thru_seq_next ?_
    | refine thru_seq ?_
    | refine exit_here ?_
    | refine wp_skipA ?_
    | refine wp_retA ?_
    | refine wp_exitA ?_
    | refine wp_blockA ?_
    | refine wl_nil ?_
    | refine wl_pop rfl (po_move rfl) ?_
    | refine wl_pop rfl (po_assign rfl) ?_
    | refine wl_pop rfl (po_binOp rfl rfl rfl) ?_
    | refine wp_condP rfl (fun _ => ?_) (fun _ => ?_)
    | refine at_ret (res1 rfl rfl) ?_
    | fail)
  rotate_left
  · refine ret_ inferInstance (congrArg Bo ?_)
    have : k = l.length := by omega
    subst this
    rw [List.take_length, List.take_of_length_le (by omega)] at htk
    rw [htk, eqB_self]
  have hk' : k < l.length := by omega
  have hk2 : k < l'.length := by omega
  refine wc_drawn [] mixed_ rfl ?_
  all_goals refine da_takeC 0 rfl rfl (by kernel_rfl) (by first | exact po_move rfl | fail) ?_
  all_goals refine da_takeC 1 rfl rfl (by kernel_rfl) (by first | exact po_move rfl | fail) ?_
  all_goals refine da_takeC 2 rfl rfl (by kernel_rfl) (by first | exact pc_indexRow rfl rfl inferInstance inferInstance inferInstance (by omega) | fail) ?_
  all_goals refine da_takeC 3 rfl rfl (by kernel_rfl) (by first | exact pc_ldMv rfl inferInstance inferInstance (by omega) inferInstance | fail) ?_
  all_goals refine da_takeC 4 rfl rfl (by kernel_rfl) (by first | exact po_move rfl | fail) ?_
  all_goals refine da_takeC 5 rfl rfl (by kernel_rfl) (by first | exact po_move rfl | fail) ?_
  all_goals refine da_takeC 6 rfl rfl (by kernel_rfl) (by first | exact pc_indexRow rfl rfl inferInstance inferInstance inferInstance (by omega) | fail) ?_
  all_goals refine da_takeC 7 rfl rfl (by kernel_rfl) (by first | exact pc_ldMv rfl inferInstance inferInstance (by omega) inferInstance | fail) ?_
  all_goals (first | (refine da_one 8 rfl (by kernel_rfl) (fun _ _ _ _ => ?_); (repeat' (first | (refine wc_callR rfl inferInstance rfl (c_eqMove _ _ _ _ _) rfl ?_; intro _ _) | fail)); all_goals (first | refine wl_nil ⟨rfl, (by first | exact LeS.len inferInstance | exact App.len (by assumption)), ?_⟩ | trace_state)))
  all_goals refine da_takeC 9 rfl rfl (by kernel_rfl) (by first | exact po_not rfl | fail) ?_
  all_goals refine da_done (by kernel_rfl) ?_
  repeat' (first
    | refine wp_condNPr rfl (fun _ => ?_) (fun _ => ?_)
    | refine wp_seqA ?_
    | refine wp_region_seq ?_
    | refine thru_seq_next ?_
    | refine thru_seq_ret ?_
    | refine thru_block_ret ?_
    | refine thru_block_next ?_
    | refine wp_skipA ?_
    | refine wp_retA ?_
    | refine wl_nil ?_
    | refine wl_pop rfl (po_move rfl) ?_
    | refine wl_pop rfl (po_assign rfl) ?_
    | refine wl_pop rfl (pc_add rfl rfl (by omega) (by omega)) ?_
    | refine at_ret (res1 rfl rfl) ?_
    | fail)
  · rename_i he
    refine ret_ inferInstance (congrArg Bo (eqB_ne ?_).symm)
    rintro rfl
    simp_all [eqB]
  · rename_i he
    have he' : l.getD k (0, 0) = l'.getD k (0, 0) := by simp only [Bool.not_eq_false', eqB_iff, Bool.not_eq_true', eqB_false, Prod.mk.injEq] at he; exact Prod.ext he.1 he.2
    exact ⟨k + 1, by omega, ⟨hk', take_eq_succ htk hk' hk2 he', inferInstance⟩, (by repeat' (first | exact sub_nil | refine sub_cons rfl ?_ | refine sub_int rfl (by first | rfl | omega | (push_cast; omega) | simp) ?_ | refine sub_eq rfl (by assumption) ?_))⟩
theorem c_eqMoveSS (σ : Store) (s s' : AV) {ss ss' : List AV} {g g' : Gr} [hs : RW σ s ss] [hs' : RW σ s' ss'] [hg : RRs σ ss g] [hg' : RRs σ ss' g'] : ACall Tryd.prog base F_laws_eqMoveSS [s, s'] σ (fun _ => False) (Ret σ (Bo (eqB g g'))) := by
  have hb := hs.bound
  have hb' := hs'.bound
  have h1 := hg.len
  have h2 := hg'.len
  refine acall2 fun_laws_eqMoveSS rfl tmps_laws_eqMoveSS rfl fun N B w₀ ρ₀ => ?_
  repeat' (first
    | refine wl_pop rfl (pc_lenRow rfl inferInstance inferInstance) ?_
    | refine wp_seqA ?_
    | refine wp_region_seq ?_
    | refine thru_seq_next ?_
    | refine thru_seq_ret ?_
    | refine wp_skipA ?_
    | refine wp_retA ?_
    | refine wp_blockA ?_
    | refine wl_nil ?_
    | refine wl_pop rfl (po_move rfl) ?_
    | refine wl_pop rfl (po_assign rfl) ?_
    | refine wl_pop rfl (po_binOp rfl rfl rfl) ?_
    | refine wp_condNP rfl (fun _ => ?_) (fun _ => ?_)
    | refine at_ret (res1 rfl rfl) ?_
    | fail)
  · refine ret_ inferInstance (congrArg Bo (eqB_ne ?_).symm)
    rintro rfl; simp_all
  rename_i hl
  have hl' : g.length = g'.length := by omega
  refine wc_loop [(0, _), (1, _)] (fun k : Nat => [(5, I k)]) (fun k σ' => k ≤ g.length ∧ g.take k = g'.take k ∧ LeS σ σ') (fun k => g.length - k) 0 ⟨Nat.zero_le _, rfl, inferInstance⟩ (by repeat' (first | exact sub_nil | refine sub_cons rfl ?_ | refine sub_int rfl (by first | rfl | omega | (push_cast; omega) | simp) ?_ | refine sub_eq rfl (by assumption) ?_)) ?_
  rintro k σ' ⟨hk, htk, hgr⟩
  have := hgr.grow
  repeat' (first
    | refine wl_pop rfl (pc_lenRow rfl inferInstance inferInstance) ?_
    | refine wp_seqA ?_
    | refine wp_region_seq ?_
    | refine thru_seq_next ?_
    | refine thru_seq ?_
    | refine exit_here ?_
    | refine wp_skipA ?_
    | refine wp_retA ?_
    | refine wp_exitA ?_
    | refine wp_blockA ?_
    | refine wl_nil ?_
    | refine wl_pop rfl (po_move rfl) ?_
    | refine wl_pop rfl (po_assign rfl) ?_
    | refine wl_pop rfl (po_binOp rfl rfl rfl) ?_
    | refine wp_condP rfl (fun _ => ?_) (fun _ => ?_)
    | refine at_ret (res1 rfl rfl) ?_
    | fail)
  rotate_left
  · refine ret_ inferInstance (congrArg Bo ?_)
    have : k = g.length := by omega
    subst this
    rw [List.take_length, List.take_of_length_le (by omega)] at htk
    rw [htk, eqB_self]
  have hk' : k < g.length := by omega
  have hk2 : k < g'.length := by omega
  refine wc_drawn [] mixed_ rfl ?_
  all_goals refine da_takeC 0 rfl rfl (by kernel_rfl) (by first | exact po_move rfl | fail) ?_
  all_goals refine da_takeC 1 rfl rfl (by kernel_rfl) (by first | exact po_move rfl | fail) ?_
  all_goals refine da_takeC 2 rfl rfl (by kernel_rfl) (by first | exact pc_indexRow rfl rfl inferInstance inferInstance inferInstance (by omega) | fail) ?_
  all_goals refine da_takeC 3 rfl rfl (by kernel_rfl) (by first | exact pc_ldAV rfl inferInstance inferInstance (by omega) inferInstance | fail) ?_
  all_goals refine da_takeC 4 rfl rfl (by kernel_rfl) (by first | exact po_move rfl | fail) ?_
  all_goals refine da_takeC 5 rfl rfl (by kernel_rfl) (by first | exact po_move rfl | fail) ?_
  all_goals refine da_takeC 6 rfl rfl (by kernel_rfl) (by first | exact pc_indexRow rfl rfl inferInstance inferInstance inferInstance (by omega) | fail) ?_
  all_goals refine da_takeC 7 rfl rfl (by kernel_rfl) (by first | exact pc_ldAV rfl inferInstance inferInstance (by omega) inferInstance | fail) ?_
  all_goals (first | (refine da_one 8 rfl (by kernel_rfl) (fun _ _ _ _ => ?_); (repeat' (first | (refine wc_callR rfl inferInstance rfl (c_eqMoveS _ _ _) rfl ?_; intro _ _) | fail)); all_goals (first | refine wl_nil ⟨rfl, (by first | exact LeS.len inferInstance | exact App.len (by assumption)), ?_⟩ | trace_state)))
  all_goals refine da_takeC 9 rfl rfl (by kernel_rfl) (by first | exact po_not rfl | fail) ?_
  all_goals refine da_done (by kernel_rfl) ?_
  repeat' (first
    | refine wp_condNPr rfl (fun _ => ?_) (fun _ => ?_)
    | refine wp_seqA ?_
    | refine wp_region_seq ?_
    | refine thru_seq_next ?_
    | refine thru_seq_ret ?_
    | refine thru_block_ret ?_
    | refine thru_block_next ?_
    | refine wp_skipA ?_
    | refine wp_retA ?_
    | refine wl_nil ?_
    | refine wl_pop rfl (po_move rfl) ?_
    | refine wl_pop rfl (po_assign rfl) ?_
    | refine wl_pop rfl (pc_add rfl rfl (by omega) (by omega)) ?_
    | refine at_ret (res1 rfl rfl) ?_
    | fail)
  · rename_i he
    refine ret_ inferInstance (congrArg Bo (eqB_ne ?_).symm)
    rintro rfl
    simp_all [eqB]
  · rename_i he
    have he' : g.getD k [] = g'.getD k [] := by simpa [eqB] using he
    exact ⟨k + 1, by omega, ⟨hk', take_eq_succ htk hk' hk2 he', inferInstance⟩, (by repeat' (first | exact sub_nil | refine sub_cons rfl ?_ | refine sub_int rfl (by first | rfl | omega | (push_cast; omega) | simp) ?_ | refine sub_eq rfl (by assumption) ?_))⟩
theorem c_eqGraph (σ : Store) (s s' : AV) {ss ss' : List AV} {g g' : Gr} [hs : RW σ s ss] [hs' : RW σ s' ss'] [hg : RRs σ ss g] [hg' : RRs σ ss' g'] : ACall Tryd.prog base F_laws_eqGraph [.agg [s], .agg [s']] σ (fun _ => False) (Ret σ (Bo (eqB g g'))) := by
  have := hs.one
  have := hs'.one
  refine acall2 fun_laws_eqGraph rfl tmps_laws_eqGraph rfl fun N B w₀ ρ₀ => ?_
  repeat' (first
    | (refine wc_callR rfl inferInstance rfl (c_eqMoveSS _ _ _) rfl ?_; intro _ _)
    | refine wp_condNPr rfl (fun _ => ?_) (fun _ => ?_)
    | refine wp_seqA ?_
    | refine wp_region_seq ?_
    | refine thru_seq_next ?_
    | refine thru_seq_ret ?_
    | refine wp_skipA ?_
    | refine wp_retA ?_
    | refine wl_nil ?_
    | refine wl_pop rfl (po_assign rfl) ?_
    | refine wl_pop rfl (po_fieldAddr rfl inferInstance) ?_
    | refine wc_load1 rfl inferInstance (at_has (.inl rfl) rfl rfl) rfl ?_
    | refine wl_pop rfl (po_not rfl) ?_
    | (refine wc_boxA rfl inferInstance rfl ?_; intro _ _ _ _ _)
    | refine at_ret (res1 rfl rfl) ?_
    | fail)
  all_goals refine ret_ inferInstance (congrArg Bo ?_)
  all_goals first | exact (eqB_ne (by assumption)).symm | (subst_vars; exact (eqB_self _).symm) | simp_all [eqB_self] | simp_all [eqB]
end
end Go.Proofs.YtpkgcdpebomalaaDoor.Asl
