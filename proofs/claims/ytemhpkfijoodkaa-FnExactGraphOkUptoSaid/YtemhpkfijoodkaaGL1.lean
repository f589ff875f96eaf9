/- The law FnExactGraphOk: a walk. -/
import Derived.Test.YtemhpkfijoodkaaG4
namespace Go.Proofs.Ytemhpkfijoodkaa.Asl
open Go.RowKit Go.Proofs.YtemhpkfijoodkaaW.PrintLast
set_option linter.unusedVariables false
attribute [local irreducible] WP WL andThen inBlock noGoto atEnd ACall DA DL PO Hold
set_option maxHeartbeats 4000000
theorem c_FnExactGraphOk {base : Nat} (σ : Store) (s : AV) {ss : List AV} {g : Gr} [hs : RW σ s ss] [hg : RRs σ ss g] : ACall Try.prog base F_laws_FnExactGraphOk [.agg [s]] σ (fun _ => False) (Ret σ (Bo true)) := by
  have := hs.one
  refine acall1 fun_laws_FnExactGraphOk rfl tmps_laws_FnExactGraphOk rfl fun N B w₀ ρ₀ => ?_
  repeat' (first
    | (refine wc_callI rfl inferInstance rfl (c_szGraph _ _ _) rfl ?_; intro _ _ _)
    | (refine wc_callG rfl inferInstance rfl (c_toGraph _ _) rfl ?_; intro _ _ _ _ _ _ _)
    | (refine wc_callR rfl inferInstance rfl (c_sGraphOk _ _) rfl ?_; intro _ _)
    | (refine wc_callR rfl inferInstance rfl (c_GraphOk _ _) rfl ?_; intro _ _)
    | refine wl_pop rfl (pc_ldNat rfl inferInstance inferInstance (by omega) inferInstance) ?_
    | refine wl_pop rfl (pc_ldInt rfl inferInstance inferInstance (by omega) inferInstance) ?_
    | refine wl_pop rfl (pc_ldBool rfl inferInstance inferInstance (by omega) inferInstance) ?_
    | refine wl_pop rfl (pc_ldAV rfl inferInstance inferInstance (by omega) inferInstance) ?_
    | refine wl_pop rfl (pc_ldMv rfl inferInstance inferInstance (by omega) inferInstance) ?_
    | refine wl_pop rfl (pc_ldMv1 rfl inferInstance inferInstance (by omega) inferInstance) ?_
    | refine wl_pop rfl (pc_ldMv2 rfl inferInstance inferInstance (by omega) inferInstance) ?_
    | refine wl_pop rfl (pc_loNat rfl inferInstance inferInstance (by omega) inferInstance) ?_
    | refine wl_pop rfl (pc_loInt rfl inferInstance inferInstance (by omega) inferInstance) ?_
    | refine wl_pop rfl (pc_loBool rfl inferInstance inferInstance (by omega) inferInstance) ?_
    | refine wl_pop rfl (pc_loAV rfl inferInstance inferInstance (by omega) inferInstance) ?_
    | refine wl_pop rfl (pc_loMv rfl inferInstance inferInstance (by omega) inferInstance) ?_
    | refine wl_pop rfl (pc_loMv1 rfl inferInstance inferInstance (by omega) inferInstance) ?_
    | refine wl_pop rfl (pc_loMv2 rfl inferInstance inferInstance (by omega) inferInstance) ?_
    | refine wl_pop rfl (pc_indexRow rfl rfl inferInstance inferInstance inferInstance (by omega)) ?_
    | refine wl_pop rfl (pc_indexRowZ rfl rfl inferInstance inferInstance inferInstance (by omega) (by omega)) ?_
    | refine wl_pop rfl (pc_lenRow rfl inferInstance inferInstance) ?_
    | refine wc_loadn rfl inferInstance (at_has (cs := [_]) (.inl rfl) rfl rfl) rfl ?_
    | refine at_ret (res_cell rfl rfl inferInstance (at_has (cs := [_]) (.inl rfl) rfl rfl)) ?_
    | refine at_ret (res_cell2 rfl rfl inferInstance (at_has (cs := [_]) (.inl rfl) rfl rfl) rfl) ?_
    | refine wp_seqA ?_
    | refine wp_region_seq ?_
    | refine thru_seq_next ?_
    | refine thru_seq_ret ?_
    | refine thru_seq ?_
    | refine thru_block_ret ?_
    | refine thru_block_next ?_
    | refine exit_here ?_
    | refine exit_past (by decide) ?_
    | refine thru_scope_ret ?_
    | refine thru_scope_next ?_
    | refine thru_scope ?_
    | refine wp_skipA ?_
    | refine wp_retA ?_
    | refine wp_exitA ?_
    | refine wp_blockA ?_
    | refine wp_scopeA ?_
    | refine wl_nil ?_
    | refine wl_pop rfl (po_move rfl) ?_
    | refine wl_pop rfl (po_assign rfl) ?_
    | refine wl_pop rfl (pc_add rfl rfl (by omega) (by omega)) ?_
    | refine wl_pop rfl (pc_sub rfl rfl (by omega) (by omega)) ?_
    | refine wl_pop rfl (po_binOp rfl rfl rfl) ?_
    | refine wl_pop rfl (pc_boolNeSelf rfl rfl inferInstance) ?_
    | refine wl_pop rfl (pc_boolNe rfl rfl inferInstance) ?_
    | refine wl_pop rfl (pc_boolEq rfl rfl inferInstance) ?_
    | refine wl_pop rfl (pc_indexAddr rfl rfl inferInstance inferInstance (by omega)) ?_
    | refine wl_pop rfl (po_fieldAddr rfl inferInstance) ?_
    | refine wc_load1 rfl inferInstance (at_has (.inl rfl) rfl rfl) rfl ?_
    | refine wc_load1 rfl inferInstance inferInstance rfl ?_
    | refine wc_loadn rfl inferInstance (at_has (cs := [_, _]) (.inl rfl) rfl rfl) rfl ?_
    | refine wc_loadn rfl inferInstance (at_has (cs := [_, _, _]) (.inl rfl) rfl rfl) rfl ?_
    | refine wc_loadn rfl inferInstance (at_has (cs := [_, _, _, _]) (.inl rfl) rfl rfl) rfl ?_
    | refine wc_loadn rfl inferInstance inferInstance rfl ?_
    | refine wl_pop rfl (po_not rfl) ?_
    | refine wl_pop rfl (po_neg rfl) ?_
    | refine wl_pop rfl (po_nilCheck rfl) ?_
    | (refine wc_storeA rfl rfl inferInstance inferInstance rfl inferInstance (Nat.le_of_ble_eq_true rfl) (.inr (may_new _)) ?_; intro _ _)
    | (refine wc_store1 rfl rfl inferInstance inferInstance inferInstance (Nat.le_of_ble_eq_true rfl) (.inr (may_new _)) ?_; intro _ _)
    | refine wl_pop rfl (po_extract rfl rfl) ?_
    | refine wl_pop rfl (po_makeFunc rfl rfl) ?_
    | (refine wc_boxA rfl inferInstance rfl ?_; intro _ _ _ _ _)
    | (refine wc_box1 rfl inferInstance rfl ?_; intro _ _ _ _ _)
    | (refine wc_allocA (cs := [_]) inferInstance rfl inferInstance rfl ?_; intro _ _ _ _ _)
    | (refine wc_allocA (cs := [_, _]) inferInstance rfl inferInstance rfl ?_; intro _ _ _ _ _)
    | (refine wc_allocA (cs := [_, _, _]) inferInstance rfl inferInstance rfl ?_; intro _ _ _ _ _)
    | (refine wc_allocA (cs := [_, _, _, _]) inferInstance rfl inferInstance rfl ?_; intro _ _ _ _ _)
    | (refine wc_alloc1 inferInstance rfl inferInstance rfl ?_; intro _ _ _ _ _)
    | (refine wc_makeSlice rfl rfl Un.eq inferInstance rfl (by decide) (by decide) (by omega) (by omega) rfl ?_; intro _ _ _ _ _)
    | refine wl_pop rfl (po_len (ri := 0) rfl Un.eq) ?_
    | refine wl_pop rfl (po_len_nil (ri := 0) rfl Un.eq) ?_
    | refine wl_pop rfl (po_len_str rfl Un.eq) ?_
    | refine wl_pop rfl (po_pick rfl rfl) ?_
    | refine wl_pop rfl (pc_max rfl rfl) ?_
    | refine wl_pop rfl (pc_min rfl rfl) ?_
    | refine wc_guardU rfl rfl rfl rfl ?_
    | refine wc_guardT_true rfl rfl rfl ?_
    | refine wc_guardF_true rfl rfl rfl rfl ?_
    | refine wc_guardT_false rfl rfl rfl ?_
    | refine wc_guardF_false rfl rfl rfl rfl ?_
    | refine wc_guardP_true rfl rfl rfl rfl (fun _ => ?_) (fun _ => ?_)
    | refine wc_guardNP_true rfl rfl rfl rfl (fun _ => ?_) (fun _ => ?_)
    | refine wc_guardEq_true rfl rfl rfl rfl (fun _ => ?_) (fun _ => ?_)
    | refine wc_guardNe_true rfl rfl rfl rfl (fun _ => ?_) (fun _ => ?_)
    | refine wc_guardP_false rfl rfl rfl rfl (fun _ => ?_) (fun _ => ?_)
    | refine wc_guardNP_false rfl rfl rfl rfl (fun _ => ?_) (fun _ => ?_)
    | refine wc_guardEq_false rfl rfl rfl rfl (fun _ => ?_) (fun _ => ?_)
    | refine wc_guardNe_false rfl rfl rfl rfl (fun _ => ?_) (fun _ => ?_)
    | refine wc_guard rfl rfl rfl rfl (fun _ => ?_) (fun _ => ?_)
    | refine wp_condT rfl ?_
    | refine wp_condF rfl ?_
    | refine wp_condP rfl (fun _ => ?_) (fun _ => ?_)
    | refine wp_condNP rfl (fun _ => ?_) (fun _ => ?_)
    | refine wp_condEq rfl (fun _ => ?_) (fun _ => ?_)
    | refine wp_condNe rfl (fun _ => ?_) (fun _ => ?_)
    | refine wp_condA rfl (fun _ => ?_) (fun _ => ?_)
    | refine wl_pop rfl (pc_lenT rfl inferInstance inferInstance) ?_
    | refine at_ret (res1 rfl rfl) ?_
    | refine at_ret (res_cell rfl rfl inferInstance (at_has (cs := [_, _]) (.inl rfl) rfl rfl)) ?_
    | refine at_ret (res_cell rfl rfl inferInstance (at_has (cs := [_, _, _]) (.inl rfl) rfl rfl)) ?_
    | refine at_ret (res_cell rfl rfl inferInstance (at_has (cs := [_, _, _, _]) (.inl rfl) rfl rfl)) ?_
    | refine at_ret (res_cell2 rfl rfl inferInstance (at_has (cs := [_, _]) (.inl rfl) rfl rfl) rfl) ?_
    | refine at_ret (res_cell2 rfl rfl inferInstance (at_has (cs := [_, _, _]) (.inl rfl) rfl rfl) rfl) ?_
    | refine at_ret (res_cell2 rfl rfl inferInstance (at_has (cs := [_, _, _, _]) (.inl rfl) rfl rfl) rfl) ?_
    | refine at_ret (res2 rfl rfl rfl) ?_
    | refine at_ret (res0 rfl) ?_
    | refine at_next (res1 rfl rfl) ?_
    | exact ret_int inferInstance
    | exact ret_ inferInstance rfl
    | exact ret_tm inferInstance inferInstance inferInstance
    | refine wl_pop rfl (pc_indexAddrArr rfl rfl inferInstance inferInstance (by omega)) ?_
    )
  refine wc_drawn [] mixed_ rfl ?_
  all_goals refine da_takeC 0 rfl rfl (by kernel_rfl) (by first | exact pc_ldNat rfl inferInstance inferInstance (by omega) inferInstance | exact pc_ldInt rfl inferInstance inferInstance (by omega) inferInstance | exact pc_ldBool rfl inferInstance inferInstance (by omega) inferInstance | exact pc_ldAV rfl inferInstance inferInstance (by omega) inferInstance | exact pc_ldMv rfl inferInstance inferInstance (by omega) inferInstance | exact pc_ldMv1 rfl inferInstance inferInstance (by omega) inferInstance | exact pc_ldMv2 rfl inferInstance inferInstance (by omega) inferInstance | exact pc_loNat rfl inferInstance inferInstance (by omega) inferInstance | exact pc_loInt rfl inferInstance inferInstance (by omega) inferInstance | exact pc_loBool rfl inferInstance inferInstance (by omega) inferInstance | exact pc_loAV rfl inferInstance inferInstance (by omega) inferInstance | exact pc_loMv rfl inferInstance inferInstance (by omega) inferInstance | exact pc_loMv1 rfl inferInstance inferInstance (by omega) inferInstance | exact pc_loMv2 rfl inferInstance inferInstance (by omega) inferInstance | exact pc_indexRow rfl rfl inferInstance inferInstance inferInstance (by omega) | exact pc_indexRowZ rfl rfl inferInstance inferInstance inferInstance (by omega) (by omega) | exact pc_lenRow rfl inferInstance inferInstance | exact pc_loadnL rfl inferInstance (at_has (cs := [_]) (.inl rfl) rfl rfl) inferInstance | exact po_move rfl | exact po_assign rfl | exact pc_add rfl rfl (by omega) (by omega) | exact pc_sub rfl rfl (by omega) (by omega) | exact po_binOp rfl rfl rfl | exact pc_boolNeSelf rfl rfl inferInstance | exact pc_boolNe rfl rfl inferInstance | exact pc_boolEq rfl rfl inferInstance | exact pc_indexAddr rfl rfl inferInstance inferInstance (by omega) | exact po_fieldAddr rfl inferInstance | exact po_not rfl | exact po_neg rfl | exact po_nilCheck rfl | exact po_extract rfl rfl | exact po_makeFunc rfl rfl | exact po_len (ri := 0) rfl Un.eq | exact po_len_nil (ri := 0) rfl Un.eq | exact po_len_str rfl Un.eq | exact po_pick rfl rfl | exact pc_max rfl rfl | exact pc_min rfl rfl | exact pc_lenT rfl inferInstance inferInstance | exact pc_indexAddrArr rfl rfl inferInstance inferInstance (by omega) | exact pc_load1L rfl inferInstance (at_has (.inl rfl) rfl rfl) inferInstance | exact pc_load1L rfl inferInstance inferInstance inferInstance | exact pc_loadnL rfl inferInstance (at_has (cs := [_, _]) (.inl rfl) rfl rfl) inferInstance | exact pc_loadnL rfl inferInstance (at_has (cs := [_, _, _]) (.inl rfl) rfl rfl) inferInstance | exact pc_loadnL rfl inferInstance inferInstance inferInstance) ?_
  all_goals refine da_takeC 1 rfl rfl (by kernel_rfl) (by first | exact pc_ldNat rfl inferInstance inferInstance (by omega) inferInstance | exact pc_ldInt rfl inferInstance inferInstance (by omega) inferInstance | exact pc_ldBool rfl inferInstance inferInstance (by omega) inferInstance | exact pc_ldAV rfl inferInstance inferInstance (by omega) inferInstance | exact pc_ldMv rfl inferInstance inferInstance (by omega) inferInstance | exact pc_ldMv1 rfl inferInstance inferInstance (by omega) inferInstance | exact pc_ldMv2 rfl inferInstance inferInstance (by omega) inferInstance | exact pc_loNat rfl inferInstance inferInstance (by omega) inferInstance | exact pc_loInt rfl inferInstance inferInstance (by omega) inferInstance | exact pc_loBool rfl inferInstance inferInstance (by omega) inferInstance | exact pc_loAV rfl inferInstance inferInstance (by omega) inferInstance | exact pc_loMv rfl inferInstance inferInstance (by omega) inferInstance | exact pc_loMv1 rfl inferInstance inferInstance (by omega) inferInstance | exact pc_loMv2 rfl inferInstance inferInstance (by omega) inferInstance | exact pc_indexRow rfl rfl inferInstance inferInstance inferInstance (by omega) | exact pc_indexRowZ rfl rfl inferInstance inferInstance inferInstance (by omega) (by omega) | exact pc_lenRow rfl inferInstance inferInstance | exact pc_loadnL rfl inferInstance (at_has (cs := [_]) (.inl rfl) rfl rfl) inferInstance | exact po_move rfl | exact po_assign rfl | exact pc_add rfl rfl (by omega) (by omega) | exact pc_sub rfl rfl (by omega) (by omega) | exact po_binOp rfl rfl rfl | exact pc_boolNeSelf rfl rfl inferInstance | exact pc_boolNe rfl rfl inferInstance | exact pc_boolEq rfl rfl inferInstance | exact pc_indexAddr rfl rfl inferInstance inferInstance (by omega) | exact po_fieldAddr rfl inferInstance | exact po_not rfl | exact po_neg rfl | exact po_nilCheck rfl | exact po_extract rfl rfl | exact po_makeFunc rfl rfl | exact po_len (ri := 0) rfl Un.eq | exact po_len_nil (ri := 0) rfl Un.eq | exact po_len_str rfl Un.eq | exact po_pick rfl rfl | exact pc_max rfl rfl | exact pc_min rfl rfl | exact pc_lenT rfl inferInstance inferInstance | exact pc_indexAddrArr rfl rfl inferInstance inferInstance (by omega) | exact pc_load1L rfl inferInstance (at_has (.inl rfl) rfl rfl) inferInstance | exact pc_load1L rfl inferInstance inferInstance inferInstance | exact pc_loadnL rfl inferInstance (at_has (cs := [_, _]) (.inl rfl) rfl rfl) inferInstance | exact pc_loadnL rfl inferInstance (at_has (cs := [_, _, _]) (.inl rfl) rfl rfl) inferInstance | exact pc_loadnL rfl inferInstance inferInstance inferInstance) ?_
  all_goals (first | (refine da_one 2 rfl (by kernel_rfl) (fun _ _ _ _ => ?_); (repeat' (first | (refine wc_callG rfl inferInstance rfl (c_toGraph _ _) rfl ?_; intro _ _ _ _ _ _ _) | (refine wc_callR rfl inferInstance rfl (c_eqGraph _ _ _) rfl ?_; intro _ _) | refine wl_pop rfl (pc_ldNat rfl inferInstance inferInstance (by omega) inferInstance) ?_ | refine wl_pop rfl (pc_ldInt rfl inferInstance inferInstance (by omega) inferInstance) ?_ | refine wl_pop rfl (pc_ldBool rfl inferInstance inferInstance (by omega) inferInstance) ?_ | refine wl_pop rfl (pc_ldAV rfl inferInstance inferInstance (by omega) inferInstance) ?_ | refine wl_pop rfl (pc_ldMv rfl inferInstance inferInstance (by omega) inferInstance) ?_ | refine wl_pop rfl (pc_ldMv1 rfl inferInstance inferInstance (by omega) inferInstance) ?_ | refine wl_pop rfl (pc_ldMv2 rfl inferInstance inferInstance (by omega) inferInstance) ?_ | refine wl_pop rfl (pc_loNat rfl inferInstance inferInstance (by omega) inferInstance) ?_ | refine wl_pop rfl (pc_loInt rfl inferInstance inferInstance (by omega) inferInstance) ?_ | refine wl_pop rfl (pc_loBool rfl inferInstance inferInstance (by omega) inferInstance) ?_ | refine wl_pop rfl (pc_loAV rfl inferInstance inferInstance (by omega) inferInstance) ?_ | refine wl_pop rfl (pc_loMv rfl inferInstance inferInstance (by omega) inferInstance) ?_ | refine wl_pop rfl (pc_loMv1 rfl inferInstance inferInstance (by omega) inferInstance) ?_ | refine wl_pop rfl (pc_loMv2 rfl inferInstance inferInstance (by omega) inferInstance) ?_ | refine wl_pop rfl (pc_indexRow rfl rfl inferInstance inferInstance inferInstance (by omega)) ?_ | refine wl_pop rfl (pc_indexRowZ rfl rfl inferInstance inferInstance inferInstance (by omega) (by omega)) ?_ | refine wl_pop rfl (pc_lenRow rfl inferInstance inferInstance) ?_ | refine wc_loadn rfl inferInstance (at_has (cs := [_]) (.inl rfl) rfl rfl) rfl ?_ | refine at_ret (res_cell rfl rfl inferInstance (at_has (cs := [_]) (.inl rfl) rfl rfl)) ?_ | refine at_ret (res_cell2 rfl rfl inferInstance (at_has (cs := [_]) (.inl rfl) rfl rfl) rfl) ?_ | refine wp_seqA ?_ | refine wp_region_seq ?_ | refine thru_seq_next ?_ | refine thru_seq_ret ?_ | refine thru_seq ?_ | refine thru_block_ret ?_ | refine thru_block_next ?_ | refine exit_here ?_ | refine exit_past (by decide) ?_ | refine thru_scope_ret ?_ | refine thru_scope_next ?_ | refine thru_scope ?_ | refine wp_skipA ?_ | refine wp_retA ?_ | refine wp_exitA ?_ | refine wp_blockA ?_ | refine wp_scopeA ?_ | refine wl_pop rfl (po_move rfl) ?_ | refine wl_pop rfl (po_assign rfl) ?_ | refine wl_pop rfl (pc_add rfl rfl (by omega) (by omega)) ?_ | refine wl_pop rfl (pc_sub rfl rfl (by omega) (by omega)) ?_ | refine wl_pop rfl (po_binOp rfl rfl rfl) ?_ | refine wl_pop rfl (pc_boolNeSelf rfl rfl inferInstance) ?_ | refine wl_pop rfl (pc_boolNe rfl rfl inferInstance) ?_ | refine wl_pop rfl (pc_boolEq rfl rfl inferInstance) ?_ | refine wl_pop rfl (pc_indexAddr rfl rfl inferInstance inferInstance (by omega)) ?_ | refine wl_pop rfl (po_fieldAddr rfl inferInstance) ?_ | refine wc_load1 rfl inferInstance (at_has (.inl rfl) rfl rfl) rfl ?_ | refine wc_load1 rfl inferInstance inferInstance rfl ?_ | refine wc_loadn rfl inferInstance (at_has (cs := [_, _]) (.inl rfl) rfl rfl) rfl ?_ | refine wc_loadn rfl inferInstance (at_has (cs := [_, _, _]) (.inl rfl) rfl rfl) rfl ?_ | refine wc_loadn rfl inferInstance (at_has (cs := [_, _, _, _]) (.inl rfl) rfl rfl) rfl ?_ | refine wc_loadn rfl inferInstance inferInstance rfl ?_ | refine wl_pop rfl (po_not rfl) ?_ | refine wl_pop rfl (po_neg rfl) ?_ | refine wl_pop rfl (po_nilCheck rfl) ?_ | (refine wc_storeA rfl rfl inferInstance inferInstance rfl inferInstance (Nat.le_of_ble_eq_true rfl) (.inr (may_new _)) ?_; intro _ _) | (refine wc_store1 rfl rfl inferInstance inferInstance inferInstance (Nat.le_of_ble_eq_true rfl) (.inr (may_new _)) ?_; intro _ _) | refine wl_pop rfl (po_extract rfl rfl) ?_ | refine wl_pop rfl (po_makeFunc rfl rfl) ?_ | (refine wc_boxA rfl inferInstance rfl ?_; intro _ _ _ _ _) | (refine wc_box1 rfl inferInstance rfl ?_; intro _ _ _ _ _) | (refine wc_allocA (cs := [_]) inferInstance rfl inferInstance rfl ?_; intro _ _ _ _ _) | (refine wc_allocA (cs := [_, _]) inferInstance rfl inferInstance rfl ?_; intro _ _ _ _ _) | (refine wc_allocA (cs := [_, _, _]) inferInstance rfl inferInstance rfl ?_; intro _ _ _ _ _) | (refine wc_allocA (cs := [_, _, _, _]) inferInstance rfl inferInstance rfl ?_; intro _ _ _ _ _) | (refine wc_alloc1 inferInstance rfl inferInstance rfl ?_; intro _ _ _ _ _) | (refine wc_makeSlice rfl rfl Un.eq inferInstance rfl (by decide) (by decide) (by omega) (by omega) rfl ?_; intro _ _ _ _ _) | refine wl_pop rfl (po_len (ri := 0) rfl Un.eq) ?_ | refine wl_pop rfl (po_len_nil (ri := 0) rfl Un.eq) ?_ | refine wl_pop rfl (po_len_str rfl Un.eq) ?_ | refine wl_pop rfl (po_pick rfl rfl) ?_ | refine wl_pop rfl (pc_max rfl rfl) ?_ | refine wl_pop rfl (pc_min rfl rfl) ?_ | refine wc_guardU rfl rfl rfl rfl ?_ | refine wc_guardT_true rfl rfl rfl ?_ | refine wc_guardF_true rfl rfl rfl rfl ?_ | refine wc_guardT_false rfl rfl rfl ?_ | refine wc_guardF_false rfl rfl rfl rfl ?_ | refine wc_guardP_true rfl rfl rfl rfl (fun _ => ?_) (fun _ => ?_) | refine wc_guardNP_true rfl rfl rfl rfl (fun _ => ?_) (fun _ => ?_) | refine wc_guardEq_true rfl rfl rfl rfl (fun _ => ?_) (fun _ => ?_) | refine wc_guardNe_true rfl rfl rfl rfl (fun _ => ?_) (fun _ => ?_) | refine wc_guardP_false rfl rfl rfl rfl (fun _ => ?_) (fun _ => ?_) | refine wc_guardNP_false rfl rfl rfl rfl (fun _ => ?_) (fun _ => ?_) | refine wc_guardEq_false rfl rfl rfl rfl (fun _ => ?_) (fun _ => ?_) | refine wc_guardNe_false rfl rfl rfl rfl (fun _ => ?_) (fun _ => ?_) | refine wc_guard rfl rfl rfl rfl (fun _ => ?_) (fun _ => ?_) | refine wp_condT rfl ?_ | refine wp_condF rfl ?_ | refine wp_condP rfl (fun _ => ?_) (fun _ => ?_) | refine wp_condNP rfl (fun _ => ?_) (fun _ => ?_) | refine wp_condEq rfl (fun _ => ?_) (fun _ => ?_) | refine wp_condNe rfl (fun _ => ?_) (fun _ => ?_) | refine wp_condA rfl (fun _ => ?_) (fun _ => ?_) | refine wl_pop rfl (pc_lenT rfl inferInstance inferInstance) ?_ | refine at_ret (res1 rfl rfl) ?_ | refine at_ret (res_cell rfl rfl inferInstance (at_has (cs := [_, _]) (.inl rfl) rfl rfl)) ?_ | refine at_ret (res_cell rfl rfl inferInstance (at_has (cs := [_, _, _]) (.inl rfl) rfl rfl)) ?_ | refine at_ret (res_cell rfl rfl inferInstance (at_has (cs := [_, _, _, _]) (.inl rfl) rfl rfl)) ?_ | refine at_ret (res_cell2 rfl rfl inferInstance (at_has (cs := [_, _]) (.inl rfl) rfl rfl) rfl) ?_ | refine at_ret (res_cell2 rfl rfl inferInstance (at_has (cs := [_, _, _]) (.inl rfl) rfl rfl) rfl) ?_ | refine at_ret (res_cell2 rfl rfl inferInstance (at_has (cs := [_, _, _, _]) (.inl rfl) rfl rfl) rfl) ?_ | refine at_ret (res2 rfl rfl rfl) ?_ | refine at_ret (res0 rfl) ?_ | refine at_next (res1 rfl rfl) ?_ | exact ret_int inferInstance | exact ret_ inferInstance rfl | exact ret_tm inferInstance inferInstance inferInstance | refine wl_pop rfl (pc_indexAddrArr rfl rfl inferInstance inferInstance (by omega)) ?_)); all_goals (refine wl_nil ⟨rfl, LeS.len inferInstance, ?_⟩)))
  all_goals (first | (refine da_one 3 rfl (by kernel_rfl) (fun _ _ _ _ => ?_); (repeat' (first | (refine wc_callG rfl inferInstance rfl (c_toGraph _ _) rfl ?_; intro _ _ _ _ _ _ _) | (refine wc_callR rfl inferInstance rfl (c_eqGraph _ _ _) rfl ?_; intro _ _) | refine wl_pop rfl (pc_ldNat rfl inferInstance inferInstance (by omega) inferInstance) ?_ | refine wl_pop rfl (pc_ldInt rfl inferInstance inferInstance (by omega) inferInstance) ?_ | refine wl_pop rfl (pc_ldBool rfl inferInstance inferInstance (by omega) inferInstance) ?_ | refine wl_pop rfl (pc_ldAV rfl inferInstance inferInstance (by omega) inferInstance) ?_ | refine wl_pop rfl (pc_ldMv rfl inferInstance inferInstance (by omega) inferInstance) ?_ | refine wl_pop rfl (pc_ldMv1 rfl inferInstance inferInstance (by omega) inferInstance) ?_ | refine wl_pop rfl (pc_ldMv2 rfl inferInstance inferInstance (by omega) inferInstance) ?_ | refine wl_pop rfl (pc_loNat rfl inferInstance inferInstance (by omega) inferInstance) ?_ | refine wl_pop rfl (pc_loInt rfl inferInstance inferInstance (by omega) inferInstance) ?_ | refine wl_pop rfl (pc_loBool rfl inferInstance inferInstance (by omega) inferInstance) ?_ | refine wl_pop rfl (pc_loAV rfl inferInstance inferInstance (by omega) inferInstance) ?_ | refine wl_pop rfl (pc_loMv rfl inferInstance inferInstance (by omega) inferInstance) ?_ | refine wl_pop rfl (pc_loMv1 rfl inferInstance inferInstance (by omega) inferInstance) ?_ | refine wl_pop rfl (pc_loMv2 rfl inferInstance inferInstance (by omega) inferInstance) ?_ | refine wl_pop rfl (pc_indexRow rfl rfl inferInstance inferInstance inferInstance (by omega)) ?_ | refine wl_pop rfl (pc_indexRowZ rfl rfl inferInstance inferInstance inferInstance (by omega) (by omega)) ?_ | refine wl_pop rfl (pc_lenRow rfl inferInstance inferInstance) ?_ | refine wc_loadn rfl inferInstance (at_has (cs := [_]) (.inl rfl) rfl rfl) rfl ?_ | refine at_ret (res_cell rfl rfl inferInstance (at_has (cs := [_]) (.inl rfl) rfl rfl)) ?_ | refine at_ret (res_cell2 rfl rfl inferInstance (at_has (cs := [_]) (.inl rfl) rfl rfl) rfl) ?_ | refine wp_seqA ?_ | refine wp_region_seq ?_ | refine thru_seq_next ?_ | refine thru_seq_ret ?_ | refine thru_seq ?_ | refine thru_block_ret ?_ | refine thru_block_next ?_ | refine exit_here ?_ | refine exit_past (by decide) ?_ | refine thru_scope_ret ?_ | refine thru_scope_next ?_ | refine thru_scope ?_ | refine wp_skipA ?_ | refine wp_retA ?_ | refine wp_exitA ?_ | refine wp_blockA ?_ | refine wp_scopeA ?_ | refine wl_pop rfl (po_move rfl) ?_ | refine wl_pop rfl (po_assign rfl) ?_ | refine wl_pop rfl (pc_add rfl rfl (by omega) (by omega)) ?_ | refine wl_pop rfl (pc_sub rfl rfl (by omega) (by omega)) ?_ | refine wl_pop rfl (po_binOp rfl rfl rfl) ?_ | refine wl_pop rfl (pc_boolNeSelf rfl rfl inferInstance) ?_ | refine wl_pop rfl (pc_boolNe rfl rfl inferInstance) ?_ | refine wl_pop rfl (pc_boolEq rfl rfl inferInstance) ?_ | refine wl_pop rfl (pc_indexAddr rfl rfl inferInstance inferInstance (by omega)) ?_ | refine wl_pop rfl (po_fieldAddr rfl inferInstance) ?_ | refine wc_load1 rfl inferInstance (at_has (.inl rfl) rfl rfl) rfl ?_ | refine wc_load1 rfl inferInstance inferInstance rfl ?_ | refine wc_loadn rfl inferInstance (at_has (cs := [_, _]) (.inl rfl) rfl rfl) rfl ?_ | refine wc_loadn rfl inferInstance (at_has (cs := [_, _, _]) (.inl rfl) rfl rfl) rfl ?_ | refine wc_loadn rfl inferInstance (at_has (cs := [_, _, _, _]) (.inl rfl) rfl rfl) rfl ?_ | refine wc_loadn rfl inferInstance inferInstance rfl ?_ | refine wl_pop rfl (po_not rfl) ?_ | refine wl_pop rfl (po_neg rfl) ?_ | refine wl_pop rfl (po_nilCheck rfl) ?_ | (refine wc_storeA rfl rfl inferInstance inferInstance rfl inferInstance (Nat.le_of_ble_eq_true rfl) (.inr (may_new _)) ?_; intro _ _) | (refine wc_store1 rfl rfl inferInstance inferInstance inferInstance (Nat.le_of_ble_eq_true rfl) (.inr (may_new _)) ?_; intro _ _) | refine wl_pop rfl (po_extract rfl rfl) ?_ | refine wl_pop rfl (po_makeFunc rfl rfl) ?_ | (refine wc_boxA rfl inferInstance rfl ?_; intro _ _ _ _ _) | (refine wc_box1 rfl inferInstance rfl ?_; intro _ _ _ _ _) | (refine wc_allocA (cs := [_]) inferInstance rfl inferInstance rfl ?_; intro _ _ _ _ _) | (refine wc_allocA (cs := [_, _]) inferInstance rfl inferInstance rfl ?_; intro _ _ _ _ _) | (refine wc_allocA (cs := [_, _, _]) inferInstance rfl inferInstance rfl ?_; intro _ _ _ _ _) | (refine wc_allocA (cs := [_, _, _, _]) inferInstance rfl inferInstance rfl ?_; intro _ _ _ _ _) | (refine wc_alloc1 inferInstance rfl inferInstance rfl ?_; intro _ _ _ _ _) | (refine wc_makeSlice rfl rfl Un.eq inferInstance rfl (by decide) (by decide) (by omega) (by omega) rfl ?_; intro _ _ _ _ _) | refine wl_pop rfl (po_len (ri := 0) rfl Un.eq) ?_ | refine wl_pop rfl (po_len_nil (ri := 0) rfl Un.eq) ?_ | refine wl_pop rfl (po_len_str rfl Un.eq) ?_ | refine wl_pop rfl (po_pick rfl rfl) ?_ | refine wl_pop rfl (pc_max rfl rfl) ?_ | refine wl_pop rfl (pc_min rfl rfl) ?_ | refine wc_guardU rfl rfl rfl rfl ?_ | refine wc_guardT_true rfl rfl rfl ?_ | refine wc_guardF_true rfl rfl rfl rfl ?_ | refine wc_guardT_false rfl rfl rfl ?_ | refine wc_guardF_false rfl rfl rfl rfl ?_ | refine wc_guardP_true rfl rfl rfl rfl (fun _ => ?_) (fun _ => ?_) | refine wc_guardNP_true rfl rfl rfl rfl (fun _ => ?_) (fun _ => ?_) | refine wc_guardEq_true rfl rfl rfl rfl (fun _ => ?_) (fun _ => ?_) | refine wc_guardNe_true rfl rfl rfl rfl (fun _ => ?_) (fun _ => ?_) | refine wc_guardP_false rfl rfl rfl rfl (fun _ => ?_) (fun _ => ?_) | refine wc_guardNP_false rfl rfl rfl rfl (fun _ => ?_) (fun _ => ?_) | refine wc_guardEq_false rfl rfl rfl rfl (fun _ => ?_) (fun _ => ?_) | refine wc_guardNe_false rfl rfl rfl rfl (fun _ => ?_) (fun _ => ?_) | refine wc_guard rfl rfl rfl rfl (fun _ => ?_) (fun _ => ?_) | refine wp_condT rfl ?_ | refine wp_condF rfl ?_ | refine wp_condP rfl (fun _ => ?_) (fun _ => ?_) | refine wp_condNP rfl (fun _ => ?_) (fun _ => ?_) | refine wp_condEq rfl (fun _ => ?_) (fun _ => ?_) | refine wp_condNe rfl (fun _ => ?_) (fun _ => ?_) | refine wp_condA rfl (fun _ => ?_) (fun _ => ?_) | refine wl_pop rfl (pc_lenT rfl inferInstance inferInstance) ?_ | refine at_ret (res1 rfl rfl) ?_ | refine at_ret (res_cell rfl rfl inferInstance (at_has (cs := [_, _]) (.inl rfl) rfl rfl)) ?_ | refine at_ret (res_cell rfl rfl inferInstance (at_has (cs := [_, _, _]) (.inl rfl) rfl rfl)) ?_ | refine at_ret (res_cell rfl rfl inferInstance (at_has (cs := [_, _, _, _]) (.inl rfl) rfl rfl)) ?_ | refine at_ret (res_cell2 rfl rfl inferInstance (at_has (cs := [_, _]) (.inl rfl) rfl rfl) rfl) ?_ | refine at_ret (res_cell2 rfl rfl inferInstance (at_has (cs := [_, _, _]) (.inl rfl) rfl rfl) rfl) ?_ | refine at_ret (res_cell2 rfl rfl inferInstance (at_has (cs := [_, _, _, _]) (.inl rfl) rfl rfl) rfl) ?_ | refine at_ret (res2 rfl rfl rfl) ?_ | refine at_ret (res0 rfl) ?_ | refine at_next (res1 rfl rfl) ?_ | exact ret_int inferInstance | exact ret_ inferInstance rfl | exact ret_tm inferInstance inferInstance inferInstance | refine wl_pop rfl (pc_indexAddrArr rfl rfl inferInstance inferInstance (by omega)) ?_)); all_goals (refine wl_nil ⟨rfl, LeS.len inferInstance, ?_⟩)))
  all_goals refine da_takeC 4 rfl rfl (by kernel_rfl) (by first | exact pc_ldNat rfl inferInstance inferInstance (by omega) inferInstance | exact pc_ldInt rfl inferInstance inferInstance (by omega) inferInstance | exact pc_ldBool rfl inferInstance inferInstance (by omega) inferInstance | exact pc_ldAV rfl inferInstance inferInstance (by omega) inferInstance | exact pc_ldMv rfl inferInstance inferInstance (by omega) inferInstance | exact pc_ldMv1 rfl inferInstance inferInstance (by omega) inferInstance | exact pc_ldMv2 rfl inferInstance inferInstance (by omega) inferInstance | exact pc_loNat rfl inferInstance inferInstance (by omega) inferInstance | exact pc_loInt rfl inferInstance inferInstance (by omega) inferInstance | exact pc_loBool rfl inferInstance inferInstance (by omega) inferInstance | exact pc_loAV rfl inferInstance inferInstance (by omega) inferInstance | exact pc_loMv rfl inferInstance inferInstance (by omega) inferInstance | exact pc_loMv1 rfl inferInstance inferInstance (by omega) inferInstance | exact pc_loMv2 rfl inferInstance inferInstance (by omega) inferInstance | exact pc_indexRow rfl rfl inferInstance inferInstance inferInstance (by omega) | exact pc_indexRowZ rfl rfl inferInstance inferInstance inferInstance (by omega) (by omega) | exact pc_lenRow rfl inferInstance inferInstance | exact pc_loadnL rfl inferInstance (at_has (cs := [_]) (.inl rfl) rfl rfl) inferInstance | exact po_move rfl | exact po_assign rfl | exact pc_add rfl rfl (by omega) (by omega) | exact pc_sub rfl rfl (by omega) (by omega) | exact po_binOp rfl rfl rfl | exact pc_boolNeSelf rfl rfl inferInstance | exact pc_boolNe rfl rfl inferInstance | exact pc_boolEq rfl rfl inferInstance | exact pc_indexAddr rfl rfl inferInstance inferInstance (by omega) | exact po_fieldAddr rfl inferInstance | exact po_not rfl | exact po_neg rfl | exact po_nilCheck rfl | exact po_extract rfl rfl | exact po_makeFunc rfl rfl | exact po_len (ri := 0) rfl Un.eq | exact po_len_nil (ri := 0) rfl Un.eq | exact po_len_str rfl Un.eq | exact po_pick rfl rfl | exact pc_max rfl rfl | exact pc_min rfl rfl | exact pc_lenT rfl inferInstance inferInstance | exact pc_indexAddrArr rfl rfl inferInstance inferInstance (by omega) | exact pc_load1L rfl inferInstance (at_has (.inl rfl) rfl rfl) inferInstance | exact pc_load1L rfl inferInstance inferInstance inferInstance | exact pc_loadnL rfl inferInstance (at_has (cs := [_, _]) (.inl rfl) rfl rfl) inferInstance | exact pc_loadnL rfl inferInstance (at_has (cs := [_, _, _]) (.inl rfl) rfl rfl) inferInstance | exact pc_loadnL rfl inferInstance inferInstance inferInstance) ?_
  all_goals refine da_done (by kernel_rfl) ?_
  rw [eqB_self]
  repeat' (first
    | refine wl_pop rfl (pc_ldNat rfl inferInstance inferInstance (by omega) inferInstance) ?_
    | refine wl_pop rfl (pc_ldInt rfl inferInstance inferInstance (by omega) inferInstance) ?_
    | refine wl_pop rfl (pc_ldBool rfl inferInstance inferInstance (by omega) inferInstance) ?_
    | refine wl_pop rfl (pc_ldAV rfl inferInstance inferInstance (by omega) inferInstance) ?_
    | refine wl_pop rfl (pc_ldMv rfl inferInstance inferInstance (by omega) inferInstance) ?_
    | refine wl_pop rfl (pc_ldMv1 rfl inferInstance inferInstance (by omega) inferInstance) ?_
    | refine wl_pop rfl (pc_ldMv2 rfl inferInstance inferInstance (by omega) inferInstance) ?_
    | refine wl_pop rfl (pc_loNat rfl inferInstance inferInstance (by omega) inferInstance) ?_
    | refine wl_pop rfl (pc_loInt rfl inferInstance inferInstance (by omega) inferInstance) ?_
    | refine wl_pop rfl (pc_loBool rfl inferInstance inferInstance (by omega) inferInstance) ?_
    | refine wl_pop rfl (pc_loAV rfl inferInstance inferInstance (by omega) inferInstance) ?_
    | refine wl_pop rfl (pc_loMv rfl inferInstance inferInstance (by omega) inferInstance) ?_
    | refine wl_pop rfl (pc_loMv1 rfl inferInstance inferInstance (by omega) inferInstance) ?_
    | refine wl_pop rfl (pc_loMv2 rfl inferInstance inferInstance (by omega) inferInstance) ?_
    | refine wl_pop rfl (pc_indexRow rfl rfl inferInstance inferInstance inferInstance (by omega)) ?_
    | refine wl_pop rfl (pc_indexRowZ rfl rfl inferInstance inferInstance inferInstance (by omega) (by omega)) ?_
    | refine wl_pop rfl (pc_lenRow rfl inferInstance inferInstance) ?_
    | refine wc_loadn rfl inferInstance (at_has (cs := [_]) (.inl rfl) rfl rfl) rfl ?_
    | refine at_ret (res_cell rfl rfl inferInstance (at_has (cs := [_]) (.inl rfl) rfl rfl)) ?_
    | refine at_ret (res_cell2 rfl rfl inferInstance (at_has (cs := [_]) (.inl rfl) rfl rfl) rfl) ?_
    | refine wp_seqA ?_
    | refine wp_region_seq ?_
    | refine thru_seq_next ?_
    | refine thru_seq_ret ?_
    | refine thru_seq ?_
    | refine thru_block_ret ?_
    | refine thru_block_next ?_
    | refine exit_here ?_
    | refine exit_past (by decide) ?_
    | refine thru_scope_ret ?_
    | refine thru_scope_next ?_
    | refine thru_scope ?_
    | refine wp_skipA ?_
    | refine wp_retA ?_
    | refine wp_exitA ?_
    | refine wp_blockA ?_
    | refine wp_scopeA ?_
    | refine wl_nil ?_
    | refine wl_pop rfl (po_move rfl) ?_
    | refine wl_pop rfl (po_assign rfl) ?_
    | refine wl_pop rfl (pc_add rfl rfl (by omega) (by omega)) ?_
    | refine wl_pop rfl (pc_sub rfl rfl (by omega) (by omega)) ?_
    | refine wl_pop rfl (po_binOp rfl rfl rfl) ?_
    | refine wl_pop rfl (pc_boolNeSelf rfl rfl inferInstance) ?_
    | refine wl_pop rfl (pc_boolNe rfl rfl inferInstance) ?_
    | refine wl_pop rfl (pc_boolEq rfl rfl inferInstance) ?_
    | refine wl_pop rfl (pc_indexAddr rfl rfl inferInstance inferInstance (by omega)) ?_
    | refine wl_pop rfl (po_fieldAddr rfl inferInstance) ?_
    | refine wc_load1 rfl inferInstance (at_has (.inl rfl) rfl rfl) rfl ?_
    | refine wc_load1 rfl inferInstance inferInstance rfl ?_
    | refine wc_loadn rfl inferInstance (at_has (cs := [_, _]) (.inl rfl) rfl rfl) rfl ?_
    | refine wc_loadn rfl inferInstance (at_has (cs := [_, _, _]) (.inl rfl) rfl rfl) rfl ?_
    | refine wc_loadn rfl inferInstance (at_has (cs := [_, _, _, _]) (.inl rfl) rfl rfl) rfl ?_
    | refine wc_loadn rfl inferInstance inferInstance rfl ?_
    | refine wl_pop rfl (po_not rfl) ?_
    | refine wl_pop rfl (po_neg rfl) ?_
    | refine wl_pop rfl (po_nilCheck rfl) ?_
    | (refine wc_storeA rfl rfl inferInstance inferInstance rfl inferInstance (Nat.le_of_ble_eq_true rfl) (.inr (may_new _)) ?_; intro _ _)
    | (refine wc_store1 rfl rfl inferInstance inferInstance inferInstance (Nat.le_of_ble_eq_true rfl) (.inr (may_new _)) ?_; intro _ _)
    | refine wl_pop rfl (po_extract rfl rfl) ?_
    | refine wl_pop rfl (po_makeFunc rfl rfl) ?_
    | (refine wc_boxA rfl inferInstance rfl ?_; intro _ _ _ _ _)
    | (refine wc_box1 rfl inferInstance rfl ?_; intro _ _ _ _ _)
    | (refine wc_allocA (cs := [_]) inferInstance rfl inferInstance rfl ?_; intro _ _ _ _ _)
    | (refine wc_allocA (cs := [_, _]) inferInstance rfl inferInstance rfl ?_; intro _ _ _ _ _)
    | (refine wc_allocA (cs := [_, _, _]) inferInstance rfl inferInstance rfl ?_; intro _ _ _ _ _)
    | (refine wc_allocA (cs := [_, _, _, _]) inferInstance rfl inferInstance rfl ?_; intro _ _ _ _ _)
    | (refine wc_alloc1 inferInstance rfl inferInstance rfl ?_; intro _ _ _ _ _)
    | (refine wc_makeSlice rfl rfl Un.eq inferInstance rfl (by decide) (by decide) (by omega) (by omega) rfl ?_; intro _ _ _ _ _)
    | refine wl_pop rfl (po_len (ri := 0) rfl Un.eq) ?_
    | refine wl_pop rfl (po_len_nil (ri := 0) rfl Un.eq) ?_
    | refine wl_pop rfl (po_len_str rfl Un.eq) ?_
    | refine wl_pop rfl (po_pick rfl rfl) ?_
    | refine wl_pop rfl (pc_max rfl rfl) ?_
    | refine wl_pop rfl (pc_min rfl rfl) ?_
    | refine wc_guardU rfl rfl rfl rfl ?_
    | refine wc_guardT_true rfl rfl rfl ?_
    | refine wc_guardF_true rfl rfl rfl rfl ?_
    | refine wc_guardT_false rfl rfl rfl ?_
    | refine wc_guardF_false rfl rfl rfl rfl ?_
    | refine wc_guardP_true rfl rfl rfl rfl (fun _ => ?_) (fun _ => ?_)
    | refine wc_guardNP_true rfl rfl rfl rfl (fun _ => ?_) (fun _ => ?_)
    | refine wc_guardEq_true rfl rfl rfl rfl (fun _ => ?_) (fun _ => ?_)
    | refine wc_guardNe_true rfl rfl rfl rfl (fun _ => ?_) (fun _ => ?_)
    | refine wc_guardP_false rfl rfl rfl rfl (fun _ => ?_) (fun _ => ?_)
    | refine wc_guardNP_false rfl rfl rfl rfl (fun _ => ?_) (fun _ => ?_)
    | refine wc_guardEq_false rfl rfl rfl rfl (fun _ => ?_) (fun _ => ?_)
    | refine wc_guardNe_false rfl rfl rfl rfl (fun _ => ?_) (fun _ => ?_)
    | refine wc_guard rfl rfl rfl rfl (fun _ => ?_) (fun _ => ?_)
    | refine wp_condT rfl ?_
    | refine wp_condF rfl ?_
    | refine wp_condP rfl (fun _ => ?_) (fun _ => ?_)
    | refine wp_condNP rfl (fun _ => ?_) (fun _ => ?_)
    | refine wp_condEq rfl (fun _ => ?_) (fun _ => ?_)
    | refine wp_condNe rfl (fun _ => ?_) (fun _ => ?_)
    | refine wp_condA rfl (fun _ => ?_) (fun _ => ?_)
    | refine wl_pop rfl (pc_lenT rfl inferInstance inferInstance) ?_
    | refine at_ret (res1 rfl rfl) ?_
    | refine at_ret (res_cell rfl rfl inferInstance (at_has (cs := [_, _]) (.inl rfl) rfl rfl)) ?_
    | refine at_ret (res_cell rfl rfl inferInstance (at_has (cs := [_, _, _]) (.inl rfl) rfl rfl)) ?_
    | refine at_ret (res_cell rfl rfl inferInstance (at_has (cs := [_, _, _, _]) (.inl rfl) rfl rfl)) ?_
    | refine at_ret (res_cell2 rfl rfl inferInstance (at_has (cs := [_, _]) (.inl rfl) rfl rfl) rfl) ?_
    | refine at_ret (res_cell2 rfl rfl inferInstance (at_has (cs := [_, _, _]) (.inl rfl) rfl rfl) rfl) ?_
    | refine at_ret (res_cell2 rfl rfl inferInstance (at_has (cs := [_, _, _, _]) (.inl rfl) rfl rfl) rfl) ?_
    | refine at_ret (res2 rfl rfl rfl) ?_
    | refine at_ret (res0 rfl) ?_
    | refine at_next (res1 rfl rfl) ?_
    | exact ret_int inferInstance
    | exact ret_ inferInstance rfl
    | exact ret_tm inferInstance inferInstance inferInstance
    | refine wl_pop rfl (pc_indexAddrArr rfl rfl inferInstance inferInstance (by omega)) ?_
    )
end Go.Proofs.Ytemhpkfijoodkaa.Asl
