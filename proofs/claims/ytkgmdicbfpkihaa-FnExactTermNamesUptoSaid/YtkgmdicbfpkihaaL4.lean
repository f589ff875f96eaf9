/- The law FnExactTermNames: a walk. -/
import Derived.Test.YtkgmdicbfpkihaaT15
namespace Go.Proofs.Ytkgmdicbfpkihaa.Asl
open Go.RowKit
set_option linter.unusedVariables false
attribute [local irreducible] WP WL andThen inBlock noGoto atEnd ACall DA DL PO Hold actB inB nodeOk Tm.names
set_option maxHeartbeats 4000000

theorem c_FnExactTermNames {base : Nat} (t : Tm) (hct : Tm.cnts t.ps ≤ 1048576) (σ : Store) (s : AV) [hs : RTs σ s t.ps] : ACall Try.prog base F_laws_FnExactTermNames [.agg [I t.op, I t.n, s]] σ (fun _ => False) (Ret σ (Bo true)) := by
  have := hs.one
  have hnl := names_len t
  refine acall1 fun_laws_FnExactTermNames rfl tmps_laws_FnExactTermNames rfl fun N B w₀ ρ₀ => ?_
  repeat' (first
    | (refine wc_callI rfl inferInstance rfl (c_szTerm t _ _ _) rfl ?_; intro _ _ _)
    | refine wc_holdR 5 ?_
    | refine wp_seqA ?_
    | refine wp_region_seq ?_
    | refine thru_seq_next ?_
    | refine thru_seq_ret ?_
    | refine thru_seq ?_
    | refine thru_block_ret ?_
    | refine thru_block_next ?_
    | refine exit_here ?_
    | refine exit_past (by decide) ?_
    | refine thru_scope_ret ?_
    | refine thru_scope_next ?_
    | refine thru_scope ?_
    | refine wp_skipA ?_
    | refine wp_retA ?_
    | refine wp_exitA ?_
    | refine wp_blockA ?_
    | refine wp_scopeA ?_
    | refine wl_nil ?_
    | refine wl_pop rfl (po_move rfl) ?_
    | refine wl_pop rfl (po_assign rfl) ?_
    | refine wl_pop rfl (pc_add rfl rfl (by omega) (by omega)) ?_
    | refine wl_pop rfl (pc_sub rfl rfl (by omega) (by omega)) ?_
    | refine wl_pop rfl (po_binOp rfl rfl rfl) ?_
    | refine wl_pop rfl (pc_boolNeSelf rfl rfl inferInstance) ?_
    | refine wl_pop rfl (pc_boolNe rfl rfl inferInstance) ?_
    | refine wl_pop rfl (pc_boolEq rfl rfl inferInstance) ?_
    | refine wl_pop rfl (pc_indexAddr rfl rfl inferInstance inferInstance (by omega)) ?_
    | refine wl_pop rfl (po_fieldAddr rfl inferInstance) ?_
    | refine wc_load1 rfl inferInstance (at_has (.inl rfl) rfl rfl) rfl ?_
    | refine wc_load1 rfl inferInstance inferInstance rfl ?_
    | refine wc_loadn rfl inferInstance (at_has (cs := [_, _]) (.inl rfl) rfl rfl) rfl ?_
    | refine wc_loadn rfl inferInstance (at_has (cs := [_, _, _]) (.inl rfl) rfl rfl) rfl ?_
    | refine wc_loadn rfl inferInstance (at_has (cs := [_, _, _, _]) (.inl rfl) rfl rfl) rfl ?_
    | refine wc_loadn rfl inferInstance inferInstance rfl ?_
    | refine wl_pop rfl (po_not rfl) ?_
    | refine wl_pop rfl (po_neg rfl) ?_
    | refine wl_pop rfl (po_nilCheck rfl) ?_
    | (refine wc_storeA rfl rfl inferInstance inferInstance rfl inferInstance (Nat.le_of_ble_eq_true rfl) (.inr (may_new _)) ?_; intro _ _)
    | (refine wc_store1 rfl rfl inferInstance inferInstance inferInstance (Nat.le_of_ble_eq_true rfl) (.inr (may_new _)) ?_; intro _ _)
    | refine wl_pop rfl (po_extract rfl rfl) ?_
    | refine wl_pop rfl (po_makeFunc rfl rfl) ?_
    | (refine wc_boxA rfl inferInstance rfl ?_; intro _ _ _ _ _)
    | (refine wc_box1 rfl inferInstance rfl ?_; intro _ _ _ _ _)
    | (refine wc_allocA (cs := [_]) inferInstance rfl inferInstance rfl ?_; intro _ _ _ _ _)
    | (refine wc_allocA (cs := [_, _]) inferInstance rfl inferInstance rfl ?_; intro _ _ _ _ _)
    | (refine wc_allocA (cs := [_, _, _]) inferInstance rfl inferInstance rfl ?_; intro _ _ _ _ _)
    | (refine wc_allocA (cs := [_, _, _, _]) inferInstance rfl inferInstance rfl ?_; intro _ _ _ _ _)
    | (refine wc_alloc1 inferInstance rfl inferInstance rfl ?_; intro _ _ _ _ _)
    | (refine wc_makeSlice rfl rfl Un.eq inferInstance rfl (by decide) (by decide) (by omega) (by omega) rfl ?_; intro _ _ _ _ _)
    | refine wl_pop rfl (po_len (ri := 0) rfl Un.eq) ?_
    | refine wl_pop rfl (po_len_nil (ri := 0) rfl Un.eq) ?_
    | refine wl_pop rfl (po_len_str rfl Un.eq) ?_
    | refine wl_pop rfl (po_pick rfl rfl) ?_
    | refine wl_pop rfl (pc_max rfl rfl) ?_
    | refine wl_pop rfl (pc_min rfl rfl) ?_
    | refine wc_guardU rfl rfl rfl rfl ?_
    | refine wc_guardT_true rfl rfl rfl ?_
    | refine wc_guardF_true rfl rfl rfl rfl ?_
    | refine wc_guardT_false rfl rfl rfl ?_
    | refine wc_guardF_false rfl rfl rfl rfl ?_
    | refine wc_guardP_true rfl rfl rfl rfl (fun _ => ?_) (fun _ => ?_)
    | refine wc_guardNP_true rfl rfl rfl rfl (fun _ => ?_) (fun _ => ?_)
    | refine wc_guardEq_true rfl rfl rfl rfl (fun _ => ?_) (fun _ => ?_)
    | refine wc_guardNe_true rfl rfl rfl rfl (fun _ => ?_) (fun _ => ?_)
    | refine wc_guardP_false rfl rfl rfl rfl (fun _ => ?_) (fun _ => ?_)
    | refine wc_guardNP_false rfl rfl rfl rfl (fun _ => ?_) (fun _ => ?_)
    | refine wc_guardEq_false rfl rfl rfl rfl (fun _ => ?_) (fun _ => ?_)
    | refine wc_guardNe_false rfl rfl rfl rfl (fun _ => ?_) (fun _ => ?_)
    | refine wc_guard rfl rfl rfl rfl (fun _ => ?_) (fun _ => ?_)
    | refine wp_condT rfl ?_
    | refine wp_condF rfl ?_
    | refine wp_condP rfl (fun _ => ?_) (fun _ => ?_)
    | refine wp_condNP rfl (fun _ => ?_) (fun _ => ?_)
    | refine wp_condEq rfl (fun _ => ?_) (fun _ => ?_)
    | refine wp_condNe rfl (fun _ => ?_) (fun _ => ?_)
    | refine wp_condA rfl (fun _ => ?_) (fun _ => ?_)
    | refine wl_pop rfl (pc_lenT rfl inferInstance inferInstance) ?_
    | refine at_ret (res1 rfl rfl) ?_
    | refine at_ret (res_cell rfl rfl inferInstance (at_has (cs := [_, _]) (.inl rfl) rfl rfl)) ?_
    | refine at_ret (res_cell rfl rfl inferInstance (at_has (cs := [_, _, _]) (.inl rfl) rfl rfl)) ?_
    | refine at_ret (res_cell rfl rfl inferInstance (at_has (cs := [_, _, _, _]) (.inl rfl) rfl rfl)) ?_
    | refine at_ret (res_cell2 rfl rfl inferInstance (at_has (cs := [_, _]) (.inl rfl) rfl rfl) rfl) ?_
    | refine at_ret (res_cell2 rfl rfl inferInstance (at_has (cs := [_, _, _]) (.inl rfl) rfl rfl) rfl) ?_
    | refine at_ret (res_cell2 rfl rfl inferInstance (at_has (cs := [_, _, _, _]) (.inl rfl) rfl rfl) rfl) ?_
    | refine at_ret (res2 rfl rfl rfl) ?_
    | refine at_ret (res0 rfl) ?_
    | refine at_next (res1 rfl rfl) ?_
    | exact ret_int inferInstance
    | exact ret_ inferInstance rfl
    | exact ret_tm inferInstance inferInstance inferInstance
    | refine wl_pop rfl (pc_indexAddrArr rfl rfl inferInstance inferInstance (by omega)) ?_
    )
  rename_i i1 σ1 g1 n1 h1 z σ2 g2 hz
  refine hold_go ?_
  repeat' (first
    | refine wc_holdR 6 ?_
    | (refine wc_callTD rfl inferInstance rfl (c_toTermL hs _) rfl ?_; intro _ _ _ _ _)
    | (refine wc_callInts rfl inferInstance rfl (c_sTermNames t _ _) rfl ?_; intro _ _ _ _ _)
    | refine wp_seqA ?_
    | refine wp_region_seq ?_
    | refine thru_seq_next ?_
    | refine thru_seq_ret ?_
    | refine thru_seq ?_
    | refine thru_block_ret ?_
    | refine thru_block_next ?_
    | refine exit_here ?_
    | refine exit_past (by decide) ?_
    | refine thru_scope_ret ?_
    | refine thru_scope_next ?_
    | refine thru_scope ?_
    | refine wp_skipA ?_
    | refine wp_retA ?_
    | refine wp_exitA ?_
    | refine wp_blockA ?_
    | refine wp_scopeA ?_
    | refine wl_nil ?_
    | refine wl_pop rfl (po_move rfl) ?_
    | refine wl_pop rfl (po_assign rfl) ?_
    | refine wl_pop rfl (pc_add rfl rfl (by omega) (by omega)) ?_
    | refine wl_pop rfl (pc_sub rfl rfl (by omega) (by omega)) ?_
    | refine wl_pop rfl (po_binOp rfl rfl rfl) ?_
    | refine wl_pop rfl (pc_boolNeSelf rfl rfl inferInstance) ?_
    | refine wl_pop rfl (pc_boolNe rfl rfl inferInstance) ?_
    | refine wl_pop rfl (pc_boolEq rfl rfl inferInstance) ?_
    | refine wl_pop rfl (pc_indexAddr rfl rfl inferInstance inferInstance (by omega)) ?_
    | refine wl_pop rfl (po_fieldAddr rfl inferInstance) ?_
    | refine wc_load1 rfl inferInstance (at_has (.inl rfl) rfl rfl) rfl ?_
    | refine wc_load1 rfl inferInstance inferInstance rfl ?_
    | refine wc_loadn rfl inferInstance (at_has (cs := [_, _]) (.inl rfl) rfl rfl) rfl ?_
    | refine wc_loadn rfl inferInstance (at_has (cs := [_, _, _]) (.inl rfl) rfl rfl) rfl ?_
    | refine wc_loadn rfl inferInstance (at_has (cs := [_, _, _, _]) (.inl rfl) rfl rfl) rfl ?_
    | refine wc_loadn rfl inferInstance inferInstance rfl ?_
    | refine wl_pop rfl (po_not rfl) ?_
    | refine wl_pop rfl (po_neg rfl) ?_
    | refine wl_pop rfl (po_nilCheck rfl) ?_
    | (refine wc_storeA rfl rfl inferInstance inferInstance rfl inferInstance (Nat.le_of_ble_eq_true rfl) (.inr (may_new _)) ?_; intro _ _)
    | (refine wc_store1 rfl rfl inferInstance inferInstance inferInstance (Nat.le_of_ble_eq_true rfl) (.inr (may_new _)) ?_; intro _ _)
    | refine wl_pop rfl (po_extract rfl rfl) ?_
    | refine wl_pop rfl (po_makeFunc rfl rfl) ?_
    | (refine wc_boxA rfl inferInstance rfl ?_; intro _ _ _ _ _)
    | (refine wc_box1 rfl inferInstance rfl ?_; intro _ _ _ _ _)
    | (refine wc_allocA (cs := [_]) inferInstance rfl inferInstance rfl ?_; intro _ _ _ _ _)
    | (refine wc_allocA (cs := [_, _]) inferInstance rfl inferInstance rfl ?_; intro _ _ _ _ _)
    | (refine wc_allocA (cs := [_, _, _]) inferInstance rfl inferInstance rfl ?_; intro _ _ _ _ _)
    | (refine wc_allocA (cs := [_, _, _, _]) inferInstance rfl inferInstance rfl ?_; intro _ _ _ _ _)
    | (refine wc_alloc1 inferInstance rfl inferInstance rfl ?_; intro _ _ _ _ _)
    | (refine wc_makeSlice rfl rfl Un.eq inferInstance rfl (by decide) (by decide) (by omega) (by omega) rfl ?_; intro _ _ _ _ _)
    | refine wl_pop rfl (po_len (ri := 0) rfl Un.eq) ?_
    | refine wl_pop rfl (po_len_nil (ri := 0) rfl Un.eq) ?_
    | refine wl_pop rfl (po_len_str rfl Un.eq) ?_
    | refine wl_pop rfl (po_pick rfl rfl) ?_
    | refine wl_pop rfl (pc_max rfl rfl) ?_
    | refine wl_pop rfl (pc_min rfl rfl) ?_
    | refine wc_guardU rfl rfl rfl rfl ?_
    | refine wc_guardT_true rfl rfl rfl ?_
    | refine wc_guardF_true rfl rfl rfl rfl ?_
    | refine wc_guardT_false rfl rfl rfl ?_
    | refine wc_guardF_false rfl rfl rfl rfl ?_
    | refine wc_guardP_true rfl rfl rfl rfl (fun _ => ?_) (fun _ => ?_)
    | refine wc_guardNP_true rfl rfl rfl rfl (fun _ => ?_) (fun _ => ?_)
    | refine wc_guardEq_true rfl rfl rfl rfl (fun _ => ?_) (fun _ => ?_)
    | refine wc_guardNe_true rfl rfl rfl rfl (fun _ => ?_) (fun _ => ?_)
    | refine wc_guardP_false rfl rfl rfl rfl (fun _ => ?_) (fun _ => ?_)
    | refine wc_guardNP_false rfl rfl rfl rfl (fun _ => ?_) (fun _ => ?_)
    | refine wc_guardEq_false rfl rfl rfl rfl (fun _ => ?_) (fun _ => ?_)
    | refine wc_guardNe_false rfl rfl rfl rfl (fun _ => ?_) (fun _ => ?_)
    | refine wc_guard rfl rfl rfl rfl (fun _ => ?_) (fun _ => ?_)
    | refine wp_condT rfl ?_
    | refine wp_condF rfl ?_
    | refine wp_condP rfl (fun _ => ?_) (fun _ => ?_)
    | refine wp_condNP rfl (fun _ => ?_) (fun _ => ?_)
    | refine wp_condEq rfl (fun _ => ?_) (fun _ => ?_)
    | refine wp_condNe rfl (fun _ => ?_) (fun _ => ?_)
    | refine wp_condA rfl (fun _ => ?_) (fun _ => ?_)
    | refine wl_pop rfl (pc_lenT rfl inferInstance inferInstance) ?_
    | refine at_ret (res1 rfl rfl) ?_
    | refine at_ret (res_cell rfl rfl inferInstance (at_has (cs := [_, _]) (.inl rfl) rfl rfl)) ?_
    | refine at_ret (res_cell rfl rfl inferInstance (at_has (cs := [_, _, _]) (.inl rfl) rfl rfl)) ?_
    | refine at_ret (res_cell rfl rfl inferInstance (at_has (cs := [_, _, _, _]) (.inl rfl) rfl rfl)) ?_
    | refine at_ret (res_cell2 rfl rfl inferInstance (at_has (cs := [_, _]) (.inl rfl) rfl rfl) rfl) ?_
    | refine at_ret (res_cell2 rfl rfl inferInstance (at_has (cs := [_, _, _]) (.inl rfl) rfl rfl) rfl) ?_
    | refine at_ret (res_cell2 rfl rfl inferInstance (at_has (cs := [_, _, _, _]) (.inl rfl) rfl rfl) rfl) ?_
    | refine at_ret (res2 rfl rfl rfl) ?_
    | refine at_ret (res0 rfl) ?_
    | refine at_next (res1 rfl rfl) ?_
    | exact ret_int inferInstance
    | exact ret_ inferInstance rfl
    | exact ret_tm inferInstance inferInstance inferInstance
    | refine wl_pop rfl (pc_indexAddrArr rfl rfl inferInstance inferInstance (by omega)) ?_
    )
  rename_i s3 σ3 o3 r3 g3 iw σ4 g4 n4 h4
  refine hold_go ?_
  repeat' (first
    | refine wc_holdR 7 ?_
    | (refine wc_callTD rfl inferInstance rfl (c_toTermL hs _) rfl ?_; intro _ _ _ _ _)
    | refine wp_seqA ?_
    | refine wp_region_seq ?_
    | refine thru_seq_next ?_
    | refine thru_seq_ret ?_
    | refine thru_seq ?_
    | refine thru_block_ret ?_
    | refine thru_block_next ?_
    | refine exit_here ?_
    | refine exit_past (by decide) ?_
    | refine thru_scope_ret ?_
    | refine thru_scope_next ?_
    | refine thru_scope ?_
    | refine wp_skipA ?_
    | refine wp_retA ?_
    | refine wp_exitA ?_
    | refine wp_blockA ?_
    | refine wp_scopeA ?_
    | refine wl_nil ?_
    | refine wl_pop rfl (po_move rfl) ?_
    | refine wl_pop rfl (po_assign rfl) ?_
    | refine wl_pop rfl (pc_add rfl rfl (by omega) (by omega)) ?_
    | refine wl_pop rfl (pc_sub rfl rfl (by omega) (by omega)) ?_
    | refine wl_pop rfl (po_binOp rfl rfl rfl) ?_
    | refine wl_pop rfl (pc_boolNeSelf rfl rfl inferInstance) ?_
    | refine wl_pop rfl (pc_boolNe rfl rfl inferInstance) ?_
    | refine wl_pop rfl (pc_boolEq rfl rfl inferInstance) ?_
    | refine wl_pop rfl (pc_indexAddr rfl rfl inferInstance inferInstance (by omega)) ?_
    | refine wl_pop rfl (po_fieldAddr rfl inferInstance) ?_
    | refine wc_load1 rfl inferInstance (at_has (.inl rfl) rfl rfl) rfl ?_
    | refine wc_load1 rfl inferInstance inferInstance rfl ?_
    | refine wc_loadn rfl inferInstance (at_has (cs := [_, _]) (.inl rfl) rfl rfl) rfl ?_
    | refine wc_loadn rfl inferInstance (at_has (cs := [_, _, _]) (.inl rfl) rfl rfl) rfl ?_
    | refine wc_loadn rfl inferInstance (at_has (cs := [_, _, _, _]) (.inl rfl) rfl rfl) rfl ?_
    | refine wc_loadn rfl inferInstance inferInstance rfl ?_
    | refine wl_pop rfl (po_not rfl) ?_
    | refine wl_pop rfl (po_neg rfl) ?_
    | refine wl_pop rfl (po_nilCheck rfl) ?_
    | (refine wc_storeA rfl rfl inferInstance inferInstance rfl inferInstance (Nat.le_of_ble_eq_true rfl) (.inr (may_new _)) ?_; intro _ _)
    | (refine wc_store1 rfl rfl inferInstance inferInstance inferInstance (Nat.le_of_ble_eq_true rfl) (.inr (may_new _)) ?_; intro _ _)
    | refine wl_pop rfl (po_extract rfl rfl) ?_
    | refine wl_pop rfl (po_makeFunc rfl rfl) ?_
    | (refine wc_boxA rfl inferInstance rfl ?_; intro _ _ _ _ _)
    | (refine wc_box1 rfl inferInstance rfl ?_; intro _ _ _ _ _)
    | (refine wc_allocA (cs := [_]) inferInstance rfl inferInstance rfl ?_; intro _ _ _ _ _)
    | (refine wc_allocA (cs := [_, _]) inferInstance rfl inferInstance rfl ?_; intro _ _ _ _ _)
    | (refine wc_allocA (cs := [_, _, _]) inferInstance rfl inferInstance rfl ?_; intro _ _ _ _ _)
    | (refine wc_allocA (cs := [_, _, _, _]) inferInstance rfl inferInstance rfl ?_; intro _ _ _ _ _)
    | (refine wc_alloc1 inferInstance rfl inferInstance rfl ?_; intro _ _ _ _ _)
    | (refine wc_makeSlice rfl rfl Un.eq inferInstance rfl (by decide) (by decide) (by omega) (by omega) rfl ?_; intro _ _ _ _ _)
    | refine wl_pop rfl (po_len (ri := 0) rfl Un.eq) ?_
    | refine wl_pop rfl (po_len_nil (ri := 0) rfl Un.eq) ?_
    | refine wl_pop rfl (po_len_str rfl Un.eq) ?_
    | refine wl_pop rfl (po_pick rfl rfl) ?_
    | refine wl_pop rfl (pc_max rfl rfl) ?_
    | refine wl_pop rfl (pc_min rfl rfl) ?_
    | refine wc_guardU rfl rfl rfl rfl ?_
    | refine wc_guardT_true rfl rfl rfl ?_
    | refine wc_guardF_true rfl rfl rfl rfl ?_
    | refine wc_guardT_false rfl rfl rfl ?_
    | refine wc_guardF_false rfl rfl rfl rfl ?_
    | refine wc_guardP_true rfl rfl rfl rfl (fun _ => ?_) (fun _ => ?_)
    | refine wc_guardNP_true rfl rfl rfl rfl (fun _ => ?_) (fun _ => ?_)
    | refine wc_guardEq_true rfl rfl rfl rfl (fun _ => ?_) (fun _ => ?_)
    | refine wc_guardNe_true rfl rfl rfl rfl (fun _ => ?_) (fun _ => ?_)
    | refine wc_guardP_false rfl rfl rfl rfl (fun _ => ?_) (fun _ => ?_)
    | refine wc_guardNP_false rfl rfl rfl rfl (fun _ => ?_) (fun _ => ?_)
    | refine wc_guardEq_false rfl rfl rfl rfl (fun _ => ?_) (fun _ => ?_)
    | refine wc_guardNe_false rfl rfl rfl rfl (fun _ => ?_) (fun _ => ?_)
    | refine wc_guard rfl rfl rfl rfl (fun _ => ?_) (fun _ => ?_)
    | refine wp_condT rfl ?_
    | refine wp_condF rfl ?_
    | refine wp_condP rfl (fun _ => ?_) (fun _ => ?_)
    | refine wp_condNP rfl (fun _ => ?_) (fun _ => ?_)
    | refine wp_condEq rfl (fun _ => ?_) (fun _ => ?_)
    | refine wp_condNe rfl (fun _ => ?_) (fun _ => ?_)
    | refine wp_condA rfl (fun _ => ?_) (fun _ => ?_)
    | refine wl_pop rfl (pc_lenT rfl inferInstance inferInstance) ?_
    | refine at_ret (res1 rfl rfl) ?_
    | refine at_ret (res_cell rfl rfl inferInstance (at_has (cs := [_, _]) (.inl rfl) rfl rfl)) ?_
    | refine at_ret (res_cell rfl rfl inferInstance (at_has (cs := [_, _, _]) (.inl rfl) rfl rfl)) ?_
    | refine at_ret (res_cell rfl rfl inferInstance (at_has (cs := [_, _, _, _]) (.inl rfl) rfl rfl)) ?_
    | refine at_ret (res_cell2 rfl rfl inferInstance (at_has (cs := [_, _]) (.inl rfl) rfl rfl) rfl) ?_
    | refine at_ret (res_cell2 rfl rfl inferInstance (at_has (cs := [_, _, _]) (.inl rfl) rfl rfl) rfl) ?_
    | refine at_ret (res_cell2 rfl rfl inferInstance (at_has (cs := [_, _, _, _]) (.inl rfl) rfl rfl) rfl) ?_
    | refine at_ret (res2 rfl rfl rfl) ?_
    | refine at_ret (res0 rfl) ?_
    | refine at_next (res1 rfl rfl) ?_
    | exact ret_int inferInstance
    | exact ret_ inferInstance rfl
    | exact ret_tm inferInstance inferInstance inferInstance
    | refine wl_pop rfl (pc_indexAddrArr rfl rfl inferInstance inferInstance (by omega)) ?_
    )
  rename_i sx σ5 o5 r5 g5 ix σ6 g6 n6 h6 σ7 u7
  have hx0 := r5.rep.lt
  refine hold_go ?_
  repeat' (first
    | refine wc_holdR 10 ?_
    | (refine wc_callInts rfl inferInstance rfl (c_TermNames t _ _) rfl ?_; intro _ _ _ _ _)
    | (refine wc_callR rfl inferInstance rfl (c_eqIntS_self t.names _ _ (by omega) _) rfl ?_; intro _ _)
    | refine wp_seqA ?_
    | refine wp_region_seq ?_
    | refine thru_seq_next ?_
    | refine thru_seq_ret ?_
    | refine thru_seq ?_
    | refine thru_block_ret ?_
    | refine thru_block_next ?_
    | refine exit_here ?_
    | refine exit_past (by decide) ?_
    | refine thru_scope_ret ?_
    | refine thru_scope_next ?_
    | refine thru_scope ?_
    | refine wp_skipA ?_
    | refine wp_retA ?_
    | refine wp_exitA ?_
    | refine wp_blockA ?_
    | refine wp_scopeA ?_
    | refine wl_nil ?_
    | refine wl_pop rfl (po_move rfl) ?_
    | refine wl_pop rfl (po_assign rfl) ?_
    | refine wl_pop rfl (pc_add rfl rfl (by omega) (by omega)) ?_
    | refine wl_pop rfl (pc_sub rfl rfl (by omega) (by omega)) ?_
    | refine wl_pop rfl (po_binOp rfl rfl rfl) ?_
    | refine wl_pop rfl (pc_boolNeSelf rfl rfl inferInstance) ?_
    | refine wl_pop rfl (pc_boolNe rfl rfl inferInstance) ?_
    | refine wl_pop rfl (pc_boolEq rfl rfl inferInstance) ?_
    | refine wl_pop rfl (pc_indexAddr rfl rfl inferInstance inferInstance (by omega)) ?_
    | refine wl_pop rfl (po_fieldAddr rfl inferInstance) ?_
    | refine wc_load1 rfl inferInstance (at_has (.inl rfl) rfl rfl) rfl ?_
    | refine wc_load1 rfl inferInstance inferInstance rfl ?_
    | refine wc_loadn rfl inferInstance (at_has (cs := [_, _]) (.inl rfl) rfl rfl) rfl ?_
    | refine wc_loadn rfl inferInstance (at_has (cs := [_, _, _]) (.inl rfl) rfl rfl) rfl ?_
    | refine wc_loadn rfl inferInstance (at_has (cs := [_, _, _, _]) (.inl rfl) rfl rfl) rfl ?_
    | refine wc_loadn rfl inferInstance inferInstance rfl ?_
    | refine wl_pop rfl (po_not rfl) ?_
    | refine wl_pop rfl (po_neg rfl) ?_
    | refine wl_pop rfl (po_nilCheck rfl) ?_
    | (refine wc_storeA rfl rfl inferInstance inferInstance rfl inferInstance (Nat.le_of_ble_eq_true rfl) (.inr (may_new _)) ?_; intro _ _)
    | (refine wc_store1 rfl rfl inferInstance inferInstance inferInstance (Nat.le_of_ble_eq_true rfl) (.inr (may_new _)) ?_; intro _ _)
    | refine wl_pop rfl (po_extract rfl rfl) ?_
    | refine wl_pop rfl (po_makeFunc rfl rfl) ?_
    | (refine wc_boxA rfl inferInstance rfl ?_; intro _ _ _ _ _)
    | (refine wc_box1 rfl inferInstance rfl ?_; intro _ _ _ _ _)
    | (refine wc_allocA (cs := [_]) inferInstance rfl inferInstance rfl ?_; intro _ _ _ _ _)
    | (refine wc_allocA (cs := [_, _]) inferInstance rfl inferInstance rfl ?_; intro _ _ _ _ _)
    | (refine wc_allocA (cs := [_, _, _]) inferInstance rfl inferInstance rfl ?_; intro _ _ _ _ _)
    | (refine wc_allocA (cs := [_, _, _, _]) inferInstance rfl inferInstance rfl ?_; intro _ _ _ _ _)
    | (refine wc_alloc1 inferInstance rfl inferInstance rfl ?_; intro _ _ _ _ _)
    | (refine wc_makeSlice rfl rfl Un.eq inferInstance rfl (by decide) (by decide) (by omega) (by omega) rfl ?_; intro _ _ _ _ _)
    | refine wl_pop rfl (po_len (ri := 0) rfl Un.eq) ?_
    | refine wl_pop rfl (po_len_nil (ri := 0) rfl Un.eq) ?_
    | refine wl_pop rfl (po_len_str rfl Un.eq) ?_
    | refine wl_pop rfl (po_pick rfl rfl) ?_
    | refine wl_pop rfl (pc_max rfl rfl) ?_
    | refine wl_pop rfl (pc_min rfl rfl) ?_
    | refine wc_guardU rfl rfl rfl rfl ?_
    | refine wc_guardT_true rfl rfl rfl ?_
    | refine wc_guardF_true rfl rfl rfl rfl ?_
    | refine wc_guardT_false rfl rfl rfl ?_
    | refine wc_guardF_false rfl rfl rfl rfl ?_
    | refine wc_guardP_true rfl rfl rfl rfl (fun _ => ?_) (fun _ => ?_)
    | refine wc_guardNP_true rfl rfl rfl rfl (fun _ => ?_) (fun _ => ?_)
    | refine wc_guardEq_true rfl rfl rfl rfl (fun _ => ?_) (fun _ => ?_)
    | refine wc_guardNe_true rfl rfl rfl rfl (fun _ => ?_) (fun _ => ?_)
    | refine wc_guardP_false rfl rfl rfl rfl (fun _ => ?_) (fun _ => ?_)
    | refine wc_guardNP_false rfl rfl rfl rfl (fun _ => ?_) (fun _ => ?_)
    | refine wc_guardEq_false rfl rfl rfl rfl (fun _ => ?_) (fun _ => ?_)
    | refine wc_guardNe_false rfl rfl rfl rfl (fun _ => ?_) (fun _ => ?_)
    | refine wc_guard rfl rfl rfl rfl (fun _ => ?_) (fun _ => ?_)
    | refine wp_condT rfl ?_
    | refine wp_condF rfl ?_
    | refine wp_condP rfl (fun _ => ?_) (fun _ => ?_)
    | refine wp_condNP rfl (fun _ => ?_) (fun _ => ?_)
    | refine wp_condEq rfl (fun _ => ?_) (fun _ => ?_)
    | refine wp_condNe rfl (fun _ => ?_) (fun _ => ?_)
    | refine wp_condA rfl (fun _ => ?_) (fun _ => ?_)
    | refine wl_pop rfl (pc_lenT rfl inferInstance inferInstance) ?_
    | refine at_ret (res1 rfl rfl) ?_
    | refine at_ret (res_cell rfl rfl inferInstance (at_has (cs := [_, _]) (.inl rfl) rfl rfl)) ?_
    | refine at_ret (res_cell rfl rfl inferInstance (at_has (cs := [_, _, _]) (.inl rfl) rfl rfl)) ?_
    | refine at_ret (res_cell rfl rfl inferInstance (at_has (cs := [_, _, _, _]) (.inl rfl) rfl rfl)) ?_
    | refine at_ret (res_cell2 rfl rfl inferInstance (at_has (cs := [_, _]) (.inl rfl) rfl rfl) rfl) ?_
    | refine at_ret (res_cell2 rfl rfl inferInstance (at_has (cs := [_, _, _]) (.inl rfl) rfl rfl) rfl) ?_
    | refine at_ret (res_cell2 rfl rfl inferInstance (at_has (cs := [_, _, _, _]) (.inl rfl) rfl rfl) rfl) ?_
    | refine at_ret (res2 rfl rfl rfl) ?_
    | refine at_ret (res0 rfl) ?_
    | refine at_next (res1 rfl rfl) ?_
    | exact ret_int inferInstance
    | exact ret_ inferInstance rfl
    | exact ret_tm inferInstance inferInstance inferInstance
    | refine wl_pop rfl (pc_indexAddrArr rfl rfl inferInstance inferInstance (by omega)) ?_
    )
  rename_i ig σ8 g8 n8 h8 σ9 g9
  refine hold_go ?_
  refine wc_drawn [] mixed_ rfl ?_
  refine da_takeC 0 rfl rfl (by kernel_rfl) (by first | exact po_move rfl | exact po_assign rfl | exact pc_add rfl rfl (by omega) (by omega) | exact pc_sub rfl rfl (by omega) (by omega) | exact po_binOp rfl rfl rfl | exact pc_boolNeSelf rfl rfl inferInstance | exact pc_boolNe rfl rfl inferInstance | exact pc_boolEq rfl rfl inferInstance | exact pc_indexAddr rfl rfl inferInstance inferInstance (by omega) | exact po_fieldAddr rfl inferInstance | exact po_not rfl | exact po_neg rfl | exact po_nilCheck rfl | exact po_extract rfl rfl | exact po_makeFunc rfl rfl | exact po_len (ri := 0) rfl Un.eq | exact po_len_nil (ri := 0) rfl Un.eq | exact po_len_str rfl Un.eq | exact po_pick rfl rfl | exact pc_max rfl rfl | exact pc_min rfl rfl | exact pc_lenT rfl inferInstance inferInstance | exact pc_indexAddrArr rfl rfl inferInstance inferInstance (by omega) | exact pc_load1L rfl inferInstance (at_has (.inl rfl) rfl rfl) inferInstance | exact pc_load1L rfl inferInstance inferInstance inferInstance | exact pc_loadnL rfl inferInstance (at_has (cs := [_, _]) (.inl rfl) rfl rfl) inferInstance | exact pc_loadnL rfl inferInstance (at_has (cs := [_, _, _]) (.inl rfl) rfl rfl) inferInstance | exact pc_loadnL rfl inferInstance inferInstance inferInstance) ?_
  refine da_takeC 1 rfl rfl (by kernel_rfl) (by first | exact po_move rfl | exact po_assign rfl | exact pc_add rfl rfl (by omega) (by omega) | exact pc_sub rfl rfl (by omega) (by omega) | exact po_binOp rfl rfl rfl | exact pc_boolNeSelf rfl rfl inferInstance | exact pc_boolNe rfl rfl inferInstance | exact pc_boolEq rfl rfl inferInstance | exact pc_indexAddr rfl rfl inferInstance inferInstance (by omega) | exact po_fieldAddr rfl inferInstance | exact po_not rfl | exact po_neg rfl | exact po_nilCheck rfl | exact po_extract rfl rfl | exact po_makeFunc rfl rfl | exact po_len (ri := 0) rfl Un.eq | exact po_len_nil (ri := 0) rfl Un.eq | exact po_len_str rfl Un.eq | exact po_pick rfl rfl | exact pc_max rfl rfl | exact pc_min rfl rfl | exact pc_lenT rfl inferInstance inferInstance | exact pc_indexAddrArr rfl rfl inferInstance inferInstance (by omega) | exact pc_load1L rfl inferInstance (at_has (.inl rfl) rfl rfl) inferInstance | exact pc_load1L rfl inferInstance inferInstance inferInstance | exact pc_loadnL rfl inferInstance (at_has (cs := [_, _]) (.inl rfl) rfl rfl) inferInstance | exact pc_loadnL rfl inferInstance (at_has (cs := [_, _, _]) (.inl rfl) rfl rfl) inferInstance | exact pc_loadnL rfl inferInstance inferInstance inferInstance) ?_
  refine da_callT 2 rfl (by kernel_rfl) rfl inferInstance rfl (c_toTerm t _ _) rfl ?_
  intro s10 σ10 o10 r10 g10
  refine da_callR 3 rfl (by kernel_rfl) rfl inferInstance rfl (c_eqTerm_self t _ _ _) rfl ?_
  intro σ11 g11
  refine da_takeC 4 rfl rfl (by kernel_rfl) (by first | exact po_move rfl | exact po_assign rfl | exact pc_add rfl rfl (by omega) (by omega) | exact pc_sub rfl rfl (by omega) (by omega) | exact po_binOp rfl rfl rfl | exact pc_boolNeSelf rfl rfl inferInstance | exact pc_boolNe rfl rfl inferInstance | exact pc_boolEq rfl rfl inferInstance | exact pc_indexAddr rfl rfl inferInstance inferInstance (by omega) | exact po_fieldAddr rfl inferInstance | exact po_not rfl | exact po_neg rfl | exact po_nilCheck rfl | exact po_extract rfl rfl | exact po_makeFunc rfl rfl | exact po_len (ri := 0) rfl Un.eq | exact po_len_nil (ri := 0) rfl Un.eq | exact po_len_str rfl Un.eq | exact po_pick rfl rfl | exact pc_max rfl rfl | exact pc_min rfl rfl | exact pc_lenT rfl inferInstance inferInstance | exact pc_indexAddrArr rfl rfl inferInstance inferInstance (by omega) | exact pc_load1L rfl inferInstance (at_has (.inl rfl) rfl rfl) inferInstance | exact pc_load1L rfl inferInstance inferInstance inferInstance | exact pc_loadnL rfl inferInstance (at_has (cs := [_, _]) (.inl rfl) rfl rfl) inferInstance | exact pc_loadnL rfl inferInstance (at_has (cs := [_, _, _]) (.inl rfl) rfl rfl) inferInstance | exact pc_loadnL rfl inferInstance inferInstance inferInstance) ?_
  refine da_done (by kernel_rfl) ?_
  repeat' (first
    | refine wp_seqA ?_
    | refine wp_region_seq ?_
    | refine thru_seq_next ?_
    | refine thru_seq_ret ?_
    | refine thru_seq ?_
    | refine thru_block_ret ?_
    | refine thru_block_next ?_
    | refine exit_here ?_
    | refine exit_past (by decide) ?_
    | refine thru_scope_ret ?_
    | refine thru_scope_next ?_
    | refine thru_scope ?_
    | refine wp_skipA ?_
    | refine wp_retA ?_
    | refine wp_exitA ?_
    | refine wp_blockA ?_
    | refine wp_scopeA ?_
    | refine wl_nil ?_
    | refine wl_pop rfl (po_move rfl) ?_
    | refine wl_pop rfl (po_assign rfl) ?_
    | refine wl_pop rfl (pc_add rfl rfl (by omega) (by omega)) ?_
    | refine wl_pop rfl (pc_sub rfl rfl (by omega) (by omega)) ?_
    | refine wl_pop rfl (po_binOp rfl rfl rfl) ?_
    | refine wl_pop rfl (pc_boolNeSelf rfl rfl inferInstance) ?_
    | refine wl_pop rfl (pc_boolNe rfl rfl inferInstance) ?_
    | refine wl_pop rfl (pc_boolEq rfl rfl inferInstance) ?_
    | refine wl_pop rfl (pc_indexAddr rfl rfl inferInstance inferInstance (by omega)) ?_
    | refine wl_pop rfl (po_fieldAddr rfl inferInstance) ?_
    | refine wc_load1 rfl inferInstance (at_has (.inl rfl) rfl rfl) rfl ?_
    | refine wc_load1 rfl inferInstance inferInstance rfl ?_
    | refine wc_loadn rfl inferInstance (at_has (cs := [_, _]) (.inl rfl) rfl rfl) rfl ?_
    | refine wc_loadn rfl inferInstance (at_has (cs := [_, _, _]) (.inl rfl) rfl rfl) rfl ?_
    | refine wc_loadn rfl inferInstance (at_has (cs := [_, _, _, _]) (.inl rfl) rfl rfl) rfl ?_
    | refine wc_loadn rfl inferInstance inferInstance rfl ?_
    | refine wl_pop rfl (po_not rfl) ?_
    | refine wl_pop rfl (po_neg rfl) ?_
    | refine wl_pop rfl (po_nilCheck rfl) ?_
    | (refine wc_storeA rfl rfl inferInstance inferInstance rfl inferInstance (Nat.le_of_ble_eq_true rfl) (.inr (may_new _)) ?_; intro _ _)
    | (refine wc_store1 rfl rfl inferInstance inferInstance inferInstance (Nat.le_of_ble_eq_true rfl) (.inr (may_new _)) ?_; intro _ _)
    | refine wl_pop rfl (po_extract rfl rfl) ?_
    | refine wl_pop rfl (po_makeFunc rfl rfl) ?_
    | (refine wc_boxA rfl inferInstance rfl ?_; intro _ _ _ _ _)
    | (refine wc_box1 rfl inferInstance rfl ?_; intro _ _ _ _ _)
    | (refine wc_allocA (cs := [_]) inferInstance rfl inferInstance rfl ?_; intro _ _ _ _ _)
    | (refine wc_allocA (cs := [_, _]) inferInstance rfl inferInstance rfl ?_; intro _ _ _ _ _)
    | (refine wc_allocA (cs := [_, _, _]) inferInstance rfl inferInstance rfl ?_; intro _ _ _ _ _)
    | (refine wc_allocA (cs := [_, _, _, _]) inferInstance rfl inferInstance rfl ?_; intro _ _ _ _ _)
    | (refine wc_alloc1 inferInstance rfl inferInstance rfl ?_; intro _ _ _ _ _)
    | (refine wc_makeSlice rfl rfl Un.eq inferInstance rfl (by decide) (by decide) (by omega) (by omega) rfl ?_; intro _ _ _ _ _)
    | refine wl_pop rfl (po_len (ri := 0) rfl Un.eq) ?_
    | refine wl_pop rfl (po_len_nil (ri := 0) rfl Un.eq) ?_
    | refine wl_pop rfl (po_len_str rfl Un.eq) ?_
    | refine wl_pop rfl (po_pick rfl rfl) ?_
    | refine wl_pop rfl (pc_max rfl rfl) ?_
    | refine wl_pop rfl (pc_min rfl rfl) ?_
    | refine wc_guardU rfl rfl rfl rfl ?_
    | refine wc_guardT_true rfl rfl rfl ?_
    | refine wc_guardF_true rfl rfl rfl rfl ?_
    | refine wc_guardT_false rfl rfl rfl ?_
    | refine wc_guardF_false rfl rfl rfl rfl ?_
    | refine wc_guardP_true rfl rfl rfl rfl (fun _ => ?_) (fun _ => ?_)
    | refine wc_guardNP_true rfl rfl rfl rfl (fun _ => ?_) (fun _ => ?_)
    | refine wc_guardEq_true rfl rfl rfl rfl (fun _ => ?_) (fun _ => ?_)
    | refine wc_guardNe_true rfl rfl rfl rfl (fun _ => ?_) (fun _ => ?_)
    | refine wc_guardP_false rfl rfl rfl rfl (fun _ => ?_) (fun _ => ?_)
    | refine wc_guardNP_false rfl rfl rfl rfl (fun _ => ?_) (fun _ => ?_)
    | refine wc_guardEq_false rfl rfl rfl rfl (fun _ => ?_) (fun _ => ?_)
    | refine wc_guardNe_false rfl rfl rfl rfl (fun _ => ?_) (fun _ => ?_)
    | refine wc_guard rfl rfl rfl rfl (fun _ => ?_) (fun _ => ?_)
    | refine wp_condT rfl ?_
    | refine wp_condF rfl ?_
    | refine wp_condP rfl (fun _ => ?_) (fun _ => ?_)
    | refine wp_condNP rfl (fun _ => ?_) (fun _ => ?_)
    | refine wp_condEq rfl (fun _ => ?_) (fun _ => ?_)
    | refine wp_condNe rfl (fun _ => ?_) (fun _ => ?_)
    | refine wp_condA rfl (fun _ => ?_) (fun _ => ?_)
    | refine wl_pop rfl (pc_lenT rfl inferInstance inferInstance) ?_
    | refine at_ret (res1 rfl rfl) ?_
    | refine at_ret (res_cell rfl rfl inferInstance (at_has (cs := [_, _]) (.inl rfl) rfl rfl)) ?_
    | refine at_ret (res_cell rfl rfl inferInstance (at_has (cs := [_, _, _]) (.inl rfl) rfl rfl)) ?_
    | refine at_ret (res_cell rfl rfl inferInstance (at_has (cs := [_, _, _, _]) (.inl rfl) rfl rfl)) ?_
    | refine at_ret (res_cell2 rfl rfl inferInstance (at_has (cs := [_, _]) (.inl rfl) rfl rfl) rfl) ?_
    | refine at_ret (res_cell2 rfl rfl inferInstance (at_has (cs := [_, _, _]) (.inl rfl) rfl rfl) rfl) ?_
    | refine at_ret (res_cell2 rfl rfl inferInstance (at_has (cs := [_, _, _, _]) (.inl rfl) rfl rfl) rfl) ?_
    | refine at_ret (res2 rfl rfl rfl) ?_
    | refine at_ret (res0 rfl) ?_
    | refine at_next (res1 rfl rfl) ?_
    | exact ret_int inferInstance
    | exact ret_ inferInstance rfl
    | exact ret_tm inferInstance inferInstance inferInstance
    | refine wl_pop rfl (pc_indexAddrArr rfl rfl inferInstance inferInstance (by omega)) ?_
    )
  have hown : ∀ i, ((σ4.length ≤ i ∧ i < σ5.length) ∧ ∃ l, Has σ11 i ⟨.own, 3, l, []⟩) → ∃ l, Has σ11 i ⟨.own, 3, l, []⟩ := fun i hi => hi.2
  have hrep := (hx0.mono (fun i o _ ho => (inferInstance : LeS σ5 σ11).keep i o ho) (fun _ h => h)).own
  have hle4 : σ.length ≤ σ4.length := (inferInstance : LeS σ σ4).len
  refine wc_callMk σ4 σ5 rfl inferInstance rfl (c_markTerm t _ sx 1 σ11 hown hrep (by omega) (by omega)) (fun j hj => hj.1) hown (fun i hi => .inr (Nat.le_trans hle4 hi.1.1)) rfl ?_
  intro σ12 m12 _
  repeat' (first
    | (refine wc_callR rfl inferInstance rfl (c_eqIntS_self t.names _ _ (by omega) _) rfl ?_; intro _ _)
    | refine wc_holdR 16 ?_
    | refine wp_seqA ?_
    | refine wp_region_seq ?_
    | refine thru_seq_next ?_
    | refine thru_seq_ret ?_
    | refine thru_seq ?_
    | refine thru_block_ret ?_
    | refine thru_block_next ?_
    | refine exit_here ?_
    | refine exit_past (by decide) ?_
    | refine thru_scope_ret ?_
    | refine thru_scope_next ?_
    | refine thru_scope ?_
    | refine wp_skipA ?_
    | refine wp_retA ?_
    | refine wp_exitA ?_
    | refine wp_blockA ?_
    | refine wp_scopeA ?_
    | refine wl_nil ?_
    | refine wl_pop rfl (po_move rfl) ?_
    | refine wl_pop rfl (po_assign rfl) ?_
    | refine wl_pop rfl (pc_add rfl rfl (by omega) (by omega)) ?_
    | refine wl_pop rfl (pc_sub rfl rfl (by omega) (by omega)) ?_
    | refine wl_pop rfl (po_binOp rfl rfl rfl) ?_
    | refine wl_pop rfl (pc_boolNeSelf rfl rfl inferInstance) ?_
    | refine wl_pop rfl (pc_boolNe rfl rfl inferInstance) ?_
    | refine wl_pop rfl (pc_boolEq rfl rfl inferInstance) ?_
    | refine wl_pop rfl (pc_indexAddr rfl rfl inferInstance inferInstance (by omega)) ?_
    | refine wl_pop rfl (po_fieldAddr rfl inferInstance) ?_
    | refine wc_load1 rfl inferInstance (at_has (.inl rfl) rfl rfl) rfl ?_
    | refine wc_load1 rfl inferInstance inferInstance rfl ?_
    | refine wc_loadn rfl inferInstance (at_has (cs := [_, _]) (.inl rfl) rfl rfl) rfl ?_
    | refine wc_loadn rfl inferInstance (at_has (cs := [_, _, _]) (.inl rfl) rfl rfl) rfl ?_
    | refine wc_loadn rfl inferInstance (at_has (cs := [_, _, _, _]) (.inl rfl) rfl rfl) rfl ?_
    | refine wc_loadn rfl inferInstance inferInstance rfl ?_
    | refine wl_pop rfl (po_not rfl) ?_
    | refine wl_pop rfl (po_neg rfl) ?_
    | refine wl_pop rfl (po_nilCheck rfl) ?_
    | (refine wc_storeA rfl rfl inferInstance inferInstance rfl inferInstance (Nat.le_of_ble_eq_true rfl) (.inr (may_new _)) ?_; intro _ _)
    | (refine wc_store1 rfl rfl inferInstance inferInstance inferInstance (Nat.le_of_ble_eq_true rfl) (.inr (may_new _)) ?_; intro _ _)
    | refine wl_pop rfl (po_extract rfl rfl) ?_
    | refine wl_pop rfl (po_makeFunc rfl rfl) ?_
    | (refine wc_boxA rfl inferInstance rfl ?_; intro _ _ _ _ _)
    | (refine wc_box1 rfl inferInstance rfl ?_; intro _ _ _ _ _)
    | (refine wc_allocA (cs := [_]) inferInstance rfl inferInstance rfl ?_; intro _ _ _ _ _)
    | (refine wc_allocA (cs := [_, _]) inferInstance rfl inferInstance rfl ?_; intro _ _ _ _ _)
    | (refine wc_allocA (cs := [_, _, _]) inferInstance rfl inferInstance rfl ?_; intro _ _ _ _ _)
    | (refine wc_allocA (cs := [_, _, _, _]) inferInstance rfl inferInstance rfl ?_; intro _ _ _ _ _)
    | (refine wc_alloc1 inferInstance rfl inferInstance rfl ?_; intro _ _ _ _ _)
    | (refine wc_makeSlice rfl rfl Un.eq inferInstance rfl (by decide) (by decide) (by omega) (by omega) rfl ?_; intro _ _ _ _ _)
    | refine wl_pop rfl (po_len (ri := 0) rfl Un.eq) ?_
    | refine wl_pop rfl (po_len_nil (ri := 0) rfl Un.eq) ?_
    | refine wl_pop rfl (po_len_str rfl Un.eq) ?_
    | refine wl_pop rfl (po_pick rfl rfl) ?_
    | refine wl_pop rfl (pc_max rfl rfl) ?_
    | refine wl_pop rfl (pc_min rfl rfl) ?_
    | refine wc_guardU rfl rfl rfl rfl ?_
    | refine wc_guardT_true rfl rfl rfl ?_
    | refine wc_guardF_true rfl rfl rfl rfl ?_
    | refine wc_guardT_false rfl rfl rfl ?_
    | refine wc_guardF_false rfl rfl rfl rfl ?_
    | refine wc_guardP_true rfl rfl rfl rfl (fun _ => ?_) (fun _ => ?_)
    | refine wc_guardNP_true rfl rfl rfl rfl (fun _ => ?_) (fun _ => ?_)
    | refine wc_guardEq_true rfl rfl rfl rfl (fun _ => ?_) (fun _ => ?_)
    | refine wc_guardNe_true rfl rfl rfl rfl (fun _ => ?_) (fun _ => ?_)
    | refine wc_guardP_false rfl rfl rfl rfl (fun _ => ?_) (fun _ => ?_)
    | refine wc_guardNP_false rfl rfl rfl rfl (fun _ => ?_) (fun _ => ?_)
    | refine wc_guardEq_false rfl rfl rfl rfl (fun _ => ?_) (fun _ => ?_)
    | refine wc_guardNe_false rfl rfl rfl rfl (fun _ => ?_) (fun _ => ?_)
    | refine wc_guard rfl rfl rfl rfl (fun _ => ?_) (fun _ => ?_)
    | refine wp_condT rfl ?_
    | refine wp_condF rfl ?_
    | refine wp_condP rfl (fun _ => ?_) (fun _ => ?_)
    | refine wp_condNP rfl (fun _ => ?_) (fun _ => ?_)
    | refine wp_condEq rfl (fun _ => ?_) (fun _ => ?_)
    | refine wp_condNe rfl (fun _ => ?_) (fun _ => ?_)
    | refine wp_condA rfl (fun _ => ?_) (fun _ => ?_)
    | refine wl_pop rfl (pc_lenT rfl inferInstance inferInstance) ?_
    | refine at_ret (res1 rfl rfl) ?_
    | refine at_ret (res_cell rfl rfl inferInstance (at_has (cs := [_, _]) (.inl rfl) rfl rfl)) ?_
    | refine at_ret (res_cell rfl rfl inferInstance (at_has (cs := [_, _, _]) (.inl rfl) rfl rfl)) ?_
    | refine at_ret (res_cell rfl rfl inferInstance (at_has (cs := [_, _, _, _]) (.inl rfl) rfl rfl)) ?_
    | refine at_ret (res_cell2 rfl rfl inferInstance (at_has (cs := [_, _]) (.inl rfl) rfl rfl) rfl) ?_
    | refine at_ret (res_cell2 rfl rfl inferInstance (at_has (cs := [_, _, _]) (.inl rfl) rfl rfl) rfl) ?_
    | refine at_ret (res_cell2 rfl rfl inferInstance (at_has (cs := [_, _, _, _]) (.inl rfl) rfl rfl) rfl) ?_
    | refine at_ret (res2 rfl rfl rfl) ?_
    | refine at_ret (res0 rfl) ?_
    | refine at_next (res1 rfl rfl) ?_
    | exact ret_int inferInstance
    | exact ret_ inferInstance rfl
    | exact ret_tm inferInstance inferInstance inferInstance
    | refine wl_pop rfl (pc_indexAddrArr rfl rfl inferInstance inferInstance (by omega)) ?_
    )
  rename_i σ13 g13
  refine hold_go ?_
  repeat' (first
    | (refine wc_callU rfl inferInstance rfl (c_markIntS t.names ig 1 (by omega) (by omega) (by omega) _) inferInstance (.inr (may_new _)) rfl ?_; intro _ _ _ _)
    | (refine wc_callR rfl inferInstance rfl (c_heldIntS t.names.length ig 1 (by omega) (by omega) (by omega) _) rfl ?_; intro _ _)
    | (refine wc_callTD rfl inferInstance rfl (c_toTermL hs _) rfl ?_; intro _ _ _ _ _)
    | (refine wc_callInts rfl inferInstance rfl (c_TermNames t _ _) rfl ?_; intro _ _ _ _ _)
    | (refine wc_callR rfl inferInstance rfl (c_eqIntS_self t.names _ _ (by omega) _) rfl ?_; intro _ _)
    | refine wp_seqA ?_
    | refine wp_region_seq ?_
    | refine thru_seq_next ?_
    | refine thru_seq_ret ?_
    | refine thru_seq ?_
    | refine thru_block_ret ?_
    | refine thru_block_next ?_
    | refine exit_here ?_
    | refine exit_past (by decide) ?_
    | refine thru_scope_ret ?_
    | refine thru_scope_next ?_
    | refine thru_scope ?_
    | refine wp_skipA ?_
    | refine wp_retA ?_
    | refine wp_exitA ?_
    | refine wp_blockA ?_
    | refine wp_scopeA ?_
    | refine wl_nil ?_
    | refine wl_pop rfl (po_move rfl) ?_
    | refine wl_pop rfl (po_assign rfl) ?_
    | refine wl_pop rfl (pc_add rfl rfl (by omega) (by omega)) ?_
    | refine wl_pop rfl (pc_sub rfl rfl (by omega) (by omega)) ?_
    | refine wl_pop rfl (po_binOp rfl rfl rfl) ?_
    | refine wl_pop rfl (pc_boolNeSelf rfl rfl inferInstance) ?_
    | refine wl_pop rfl (pc_boolNe rfl rfl inferInstance) ?_
    | refine wl_pop rfl (pc_boolEq rfl rfl inferInstance) ?_
    | refine wl_pop rfl (pc_indexAddr rfl rfl inferInstance inferInstance (by omega)) ?_
    | refine wl_pop rfl (po_fieldAddr rfl inferInstance) ?_
    | refine wc_load1 rfl inferInstance (at_has (.inl rfl) rfl rfl) rfl ?_
    | refine wc_load1 rfl inferInstance inferInstance rfl ?_
    | refine wc_loadn rfl inferInstance (at_has (cs := [_, _]) (.inl rfl) rfl rfl) rfl ?_
    | refine wc_loadn rfl inferInstance (at_has (cs := [_, _, _]) (.inl rfl) rfl rfl) rfl ?_
    | refine wc_loadn rfl inferInstance (at_has (cs := [_, _, _, _]) (.inl rfl) rfl rfl) rfl ?_
    | refine wc_loadn rfl inferInstance inferInstance rfl ?_
    | refine wl_pop rfl (po_not rfl) ?_
    | refine wl_pop rfl (po_neg rfl) ?_
    | refine wl_pop rfl (po_nilCheck rfl) ?_
    | (refine wc_storeA rfl rfl inferInstance inferInstance rfl inferInstance (Nat.le_of_ble_eq_true rfl) (.inr (may_new _)) ?_; intro _ _)
    | (refine wc_store1 rfl rfl inferInstance inferInstance inferInstance (Nat.le_of_ble_eq_true rfl) (.inr (may_new _)) ?_; intro _ _)
    | refine wl_pop rfl (po_extract rfl rfl) ?_
    | refine wl_pop rfl (po_makeFunc rfl rfl) ?_
    | (refine wc_boxA rfl inferInstance rfl ?_; intro _ _ _ _ _)
    | (refine wc_box1 rfl inferInstance rfl ?_; intro _ _ _ _ _)
    | (refine wc_allocA (cs := [_]) inferInstance rfl inferInstance rfl ?_; intro _ _ _ _ _)
    | (refine wc_allocA (cs := [_, _]) inferInstance rfl inferInstance rfl ?_; intro _ _ _ _ _)
    | (refine wc_allocA (cs := [_, _, _]) inferInstance rfl inferInstance rfl ?_; intro _ _ _ _ _)
    | (refine wc_allocA (cs := [_, _, _, _]) inferInstance rfl inferInstance rfl ?_; intro _ _ _ _ _)
    | (refine wc_alloc1 inferInstance rfl inferInstance rfl ?_; intro _ _ _ _ _)
    | (refine wc_makeSlice rfl rfl Un.eq inferInstance rfl (by decide) (by decide) (by omega) (by omega) rfl ?_; intro _ _ _ _ _)
    | refine wl_pop rfl (po_len (ri := 0) rfl Un.eq) ?_
    | refine wl_pop rfl (po_len_nil (ri := 0) rfl Un.eq) ?_
    | refine wl_pop rfl (po_len_str rfl Un.eq) ?_
    | refine wl_pop rfl (po_pick rfl rfl) ?_
    | refine wl_pop rfl (pc_max rfl rfl) ?_
    | refine wl_pop rfl (pc_min rfl rfl) ?_
    | refine wc_guardU rfl rfl rfl rfl ?_
    | refine wc_guardT_true rfl rfl rfl ?_
    | refine wc_guardF_true rfl rfl rfl rfl ?_
    | refine wc_guardT_false rfl rfl rfl ?_
    | refine wc_guardF_false rfl rfl rfl rfl ?_
    | refine wc_guardP_true rfl rfl rfl rfl (fun _ => ?_) (fun _ => ?_)
    | refine wc_guardNP_true rfl rfl rfl rfl (fun _ => ?_) (fun _ => ?_)
    | refine wc_guardEq_true rfl rfl rfl rfl (fun _ => ?_) (fun _ => ?_)
    | refine wc_guardNe_true rfl rfl rfl rfl (fun _ => ?_) (fun _ => ?_)
    | refine wc_guardP_false rfl rfl rfl rfl (fun _ => ?_) (fun _ => ?_)
    | refine wc_guardNP_false rfl rfl rfl rfl (fun _ => ?_) (fun _ => ?_)
    | refine wc_guardEq_false rfl rfl rfl rfl (fun _ => ?_) (fun _ => ?_)
    | refine wc_guardNe_false rfl rfl rfl rfl (fun _ => ?_) (fun _ => ?_)
    | refine wc_guard rfl rfl rfl rfl (fun _ => ?_) (fun _ => ?_)
    | refine wp_condT rfl ?_
    | refine wp_condF rfl ?_
    | refine wp_condP rfl (fun _ => ?_) (fun _ => ?_)
    | refine wp_condNP rfl (fun _ => ?_) (fun _ => ?_)
    | refine wp_condEq rfl (fun _ => ?_) (fun _ => ?_)
    | refine wp_condNe rfl (fun _ => ?_) (fun _ => ?_)
    | refine wp_condA rfl (fun _ => ?_) (fun _ => ?_)
    | refine wl_pop rfl (pc_lenT rfl inferInstance inferInstance) ?_
    | refine at_ret (res1 rfl rfl) ?_
    | refine at_ret (res_cell rfl rfl inferInstance (at_has (cs := [_, _]) (.inl rfl) rfl rfl)) ?_
    | refine at_ret (res_cell rfl rfl inferInstance (at_has (cs := [_, _, _]) (.inl rfl) rfl rfl)) ?_
    | refine at_ret (res_cell rfl rfl inferInstance (at_has (cs := [_, _, _, _]) (.inl rfl) rfl rfl)) ?_
    | refine at_ret (res_cell2 rfl rfl inferInstance (at_has (cs := [_, _]) (.inl rfl) rfl rfl) rfl) ?_
    | refine at_ret (res_cell2 rfl rfl inferInstance (at_has (cs := [_, _, _]) (.inl rfl) rfl rfl) rfl) ?_
    | refine at_ret (res_cell2 rfl rfl inferInstance (at_has (cs := [_, _, _, _]) (.inl rfl) rfl rfl) rfl) ?_
    | refine at_ret (res2 rfl rfl rfl) ?_
    | refine at_ret (res0 rfl) ?_
    | refine at_next (res1 rfl rfl) ?_
    | exact ret_int inferInstance
    | exact ret_ inferInstance rfl
    | exact ret_tm inferInstance inferInstance inferInstance
    | refine wl_pop rfl (pc_indexAddrArr rfl rfl inferInstance inferInstance (by omega)) ?_
    )
  all_goals (exfalso; omega)
end Go.Proofs.Ytkgmdicbfpkihaa.Asl
