/- The law FnExactGraphLoops: a walk. -/
import Derived.Test.YtemhpkfijoodkaaG12
import Derived.Test.YtemhpkfijoodkaaG13
import Derived.Test.YtemhpkfijoodkaaP2
import Derived.Test.YtemhpkfijoodkaaB7
namespace Go.Proofs.Ytemhpkfijoodkaa.Asl
open Go.RowKit Go.Proofs.YtemhpkfijoodkaaW.PrintLast
set_option linter.unusedVariables false
set_option linter.unusedSimpArgs false
attribute [local irreducible] WP WL andThen inBlock noGoto atEnd ACall DA DL PO Hold
set_option maxHeartbeats 4000000
set_option synthInstance.maxHeartbeats 400000
set_option synthInstance.maxSize 10000
theorem total_small3 {g : Gr} (h : g.length ≤ 1048576 ∧ ∀ l ∈ g, l.length ≤ 1048576) : totalG g ≤ 1099511627776 := by
  have := totalG_bound h.2
  have := Nat.mul_le_mul_right 1048576 h.1
  omega
theorem c_FnExactGraphLoops {base : Nat} (σ : Store) (s : AV) {ss : List AV} {a : Gr} (ha : a.length ≤ 1048576 ∧ ∀ l ∈ a, l.length ≤ 1048576) [hs : RW σ s ss] [hg : RRs σ ss a] :
    ACall Try.prog base F_laws_FnExactGraphLoops [.agg [s]] σ (fun _ => False) (Ret σ (Bo true)) := by
  have := hs.one
  have hta := total_small3 ha
  generalize hL : (optB (GOk a) (loopStates a)).getD [] = L
  refine acall1 fun_laws_FnExactGraphLoops rfl tmps_laws_FnExactGraphLoops rfl fun N B w₀ ρ₀ => ?_
  repeat' (first
    | (refine wc_callI rfl inferInstance rfl (c_szGraph _ _ _) rfl ?_; intro _ _ _)
    | refine wc_holdR 5 ?_
    | refine wl_pop rfl (pc_ldNat rfl inferInstance inferInstance (by omega) inferInstance) ?_
    | refine wl_pop rfl (pc_ldInt rfl inferInstance inferInstance (by omega) inferInstance) ?_
    | refine wl_pop rfl (pc_ldBool rfl inferInstance inferInstance (by omega) inferInstance) ?_
    | refine wl_pop rfl (pc_ldAV rfl inferInstance inferInstance (by omega) inferInstance) ?_
    | refine wl_pop rfl (pc_ldMv rfl inferInstance inferInstance (by omega) inferInstance) ?_
    | refine wl_pop rfl (pc_ldMv1 rfl inferInstance inferInstance (by omega) inferInstance) ?_
    | refine wl_pop rfl (pc_ldMv2 rfl inferInstance inferInstance (by omega) inferInstance) ?_
    | refine wl_pop rfl (pc_loNat rfl inferInstance inferInstance (by omega) inferInstance) ?_
    | refine wl_pop rfl (pc_loInt rfl inferInstance inferInstance (by omega) inferInstance) ?_
    | refine wl_pop rfl (pc_loBool rfl inferInstance inferInstance (by omega) inferInstance) ?_
    | refine wl_pop rfl (pc_loAV rfl inferInstance inferInstance (by omega) inferInstance) ?_
    | refine wl_pop rfl (pc_loMv rfl inferInstance inferInstance (by omega) inferInstance) ?_
    | refine wl_pop rfl (pc_loMv1 rfl inferInstance inferInstance (by omega) inferInstance) ?_
    | refine wl_pop rfl (pc_loMv2 rfl inferInstance inferInstance (by omega) inferInstance) ?_
    | refine wc_loadn rfl inferInstance (at_has (cs := [_]) (.inl rfl) rfl rfl) rfl ?_
    | refine at_ret (res_cell rfl rfl inferInstance (at_has (cs := [_]) (.inl rfl) rfl rfl)) ?_
    | refine at_ret (res_cell2 rfl rfl inferInstance (at_has (cs := [_]) (.inl rfl) rfl rfl) rfl) ?_
    | refine wl_pop rfl (pc_eqMv rfl rfl inferInstance) ?_
    | refine wl_pop rfl (pc_neMv rfl rfl inferInstance) ?_
    | refine wp_condPr rfl (fun _ => ?_) (fun _ => ?_)
    | refine wp_condNPr rfl (fun _ => ?_) (fun _ => ?_)
    | refine wc_guardPr_true rfl rfl rfl rfl (fun _ => ?_) (fun _ => ?_)
    | refine wc_guardNPr_true rfl rfl rfl rfl (fun _ => ?_) (fun _ => ?_)
    | refine wc_guardPr_false rfl rfl rfl rfl (fun _ => ?_) (fun _ => ?_)
    | refine wc_guardNPr_false rfl rfl rfl rfl (fun _ => ?_) (fun _ => ?_)
    | refine wp_seqA ?_
    | refine wp_region_seq ?_
    | refine thru_seq_next ?_
    | refine thru_seq_ret ?_
    | refine thru_seq ?_
    | refine thru_block_ret ?_
    | refine thru_block_next ?_
    | refine exit_here ?_
    | refine exit_past (by decide) ?_
    | refine thru_scope_ret ?_
    | refine thru_scope_next ?_
    | refine thru_scope ?_
    | refine wp_skipA ?_
    | refine wp_retA ?_
    | refine wp_exitA ?_
    | refine wp_blockA ?_
    | refine wp_scopeA ?_
    | refine wl_nil ?_
    | refine wl_pop rfl (po_move rfl) ?_
    | refine wl_pop rfl (po_assign rfl) ?_
    | refine wl_pop rfl (pc_add rfl rfl (by omega) (by omega)) ?_
    | refine wl_pop rfl (pc_sub rfl rfl (by omega) (by omega)) ?_
    | refine wl_pop rfl (po_binOp rfl rfl rfl) ?_
    | refine wl_pop rfl (pc_boolNeSelf rfl rfl inferInstance) ?_
    | refine wl_pop rfl (pc_boolNe rfl rfl inferInstance) ?_
    | refine wl_pop rfl (pc_boolEq rfl rfl inferInstance) ?_
    | refine wc_load1 rfl inferInstance (at_has (.inl rfl) rfl rfl) rfl ?_
    | refine wc_load1 rfl inferInstance inferInstance rfl ?_
    | refine wc_loadn rfl inferInstance (at_has (cs := [_, _]) (.inl rfl) rfl rfl) rfl ?_
    | refine wc_loadn rfl inferInstance (at_has (cs := [_, _, _]) (.inl rfl) rfl rfl) rfl ?_
    | refine wc_loadn rfl inferInstance (at_has (cs := [_, _, _, _]) (.inl rfl) rfl rfl) rfl ?_
    | refine wc_loadn rfl inferInstance inferInstance rfl ?_
    | refine wl_pop rfl (po_not rfl) ?_
    | refine wl_pop rfl (po_neg rfl) ?_
    | (refine wc_storeA rfl rfl inferInstance inferInstance rfl inferInstance (Nat.le_of_ble_eq_true rfl) (.inr (may_new _)) ?_; intro _ _)
    | (refine wc_store1 rfl rfl inferInstance inferInstance inferInstance (Nat.le_of_ble_eq_true rfl) (.inr (may_new _)) ?_; intro _ _)
    | (refine wc_boxA rfl inferInstance rfl ?_; intro _ _ _ _ _)
    | (refine wc_box1 rfl inferInstance rfl ?_; intro _ _ _ _ _)
    | (refine wc_allocA (cs := [_]) inferInstance rfl inferInstance rfl ?_; intro _ _ _ _ _)
    | (refine wc_allocA (cs := [_, _]) inferInstance rfl inferInstance rfl ?_; intro _ _ _ _ _)
    | (refine wc_allocA (cs := [_, _, _]) inferInstance rfl inferInstance rfl ?_; intro _ _ _ _ _)
    | (refine wc_allocA (cs := [_, _, _, _]) inferInstance rfl inferInstance rfl ?_; intro _ _ _ _ _)
    | (refine wc_alloc1 inferInstance rfl inferInstance rfl ?_; intro _ _ _ _ _)
    | refine wl_pop rfl (po_pick rfl rfl) ?_
    | refine wc_guardU rfl rfl rfl rfl ?_
    | refine wc_guardT_true rfl rfl rfl ?_
    | refine wc_guardF_true rfl rfl rfl rfl ?_
    | refine wc_guardT_false rfl rfl rfl ?_
    | refine wc_guardF_false rfl rfl rfl rfl ?_
    | refine wc_guardP_true rfl rfl rfl rfl (fun _ => ?_) (fun _ => ?_)
    | refine wc_guardNP_true rfl rfl rfl rfl (fun _ => ?_) (fun _ => ?_)
    | refine wc_guardEq_true rfl rfl rfl rfl (fun _ => ?_) (fun _ => ?_)
    | refine wc_guardNe_true rfl rfl rfl rfl (fun _ => ?_) (fun _ => ?_)
    | refine wc_guardP_false rfl rfl rfl rfl (fun _ => ?_) (fun _ => ?_)
    | refine wc_guardNP_false rfl rfl rfl rfl (fun _ => ?_) (fun _ => ?_)
    | refine wc_guardEq_false rfl rfl rfl rfl (fun _ => ?_) (fun _ => ?_)
    | refine wc_guardNe_false rfl rfl rfl rfl (fun _ => ?_) (fun _ => ?_)
    | refine wc_guard rfl rfl rfl rfl (fun _ => ?_) (fun _ => ?_)
    | refine wp_condT rfl ?_
    | refine wp_condF rfl ?_
    | refine wp_condP rfl (fun _ => ?_) (fun _ => ?_)
    | refine wp_condNP rfl (fun _ => ?_) (fun _ => ?_)
    | refine wp_condEq rfl (fun _ => ?_) (fun _ => ?_)
    | refine wp_condNe rfl (fun _ => ?_) (fun _ => ?_)
    | refine wp_condA rfl (fun _ => ?_) (fun _ => ?_)
    | refine at_ret (res1 rfl rfl) ?_
    | refine at_ret (res_cell rfl rfl inferInstance (at_has (cs := [_, _]) (.inl rfl) rfl rfl)) ?_
    | refine at_ret (res_cell rfl rfl inferInstance (at_has (cs := [_, _, _]) (.inl rfl) rfl rfl)) ?_
    | refine at_ret (res_cell rfl rfl inferInstance (at_has (cs := [_, _, _, _]) (.inl rfl) rfl rfl)) ?_
    | refine at_ret (res_cell2 rfl rfl inferInstance (at_has (cs := [_, _]) (.inl rfl) rfl rfl) rfl) ?_
    | refine at_ret (res_cell2 rfl rfl inferInstance (at_has (cs := [_, _, _]) (.inl rfl) rfl rfl) rfl) ?_
    | refine at_ret (res_cell2 rfl rfl inferInstance (at_has (cs := [_, _, _, _]) (.inl rfl) rfl rfl) rfl) ?_
    | refine at_ret (res2 rfl rfl rfl) ?_
    | refine at_ret (res0 rfl) ?_
    | refine at_next (res1 rfl rfl) ?_
    | exact ret_int inferInstance
    | exact ret_ inferInstance rfl
    | exact ret_tm inferInstance inferInstance inferInstance
    | fail)
  rename_i i1 σ1 g1 n1 h1 z1 σ4 g4 hz1
  refine hold_go ?_
  repeat' (first
    | (refine wc_callG rfl inferInstance rfl (c_toGraph _ _) rfl ?_; intro _ _ _ _ _ _ _)
    | (refine wc_callOW rfl inferInstance rfl (hL ▸ c_sGraphLoops _ _) rfl ?_; intro _ _ _ _ _)
    | refine wc_holdR 6 ?_
    | refine wl_pop rfl (pc_ldNat rfl inferInstance inferInstance (by omega) inferInstance) ?_
    | refine wl_pop rfl (pc_ldInt rfl inferInstance inferInstance (by omega) inferInstance) ?_
    | refine wl_pop rfl (pc_ldBool rfl inferInstance inferInstance (by omega) inferInstance) ?_
    | refine wl_pop rfl (pc_ldAV rfl inferInstance inferInstance (by omega) inferInstance) ?_
    | refine wl_pop rfl (pc_ldMv rfl inferInstance inferInstance (by omega) inferInstance) ?_
    | refine wl_pop rfl (pc_ldMv1 rfl inferInstance inferInstance (by omega) inferInstance) ?_
    | refine wl_pop rfl (pc_ldMv2 rfl inferInstance inferInstance (by omega) inferInstance) ?_
    | refine wl_pop rfl (pc_loNat rfl inferInstance inferInstance (by omega) inferInstance) ?_
    | refine wl_pop rfl (pc_loInt rfl inferInstance inferInstance (by omega) inferInstance) ?_
    | refine wl_pop rfl (pc_loBool rfl inferInstance inferInstance (by omega) inferInstance) ?_
    | refine wl_pop rfl (pc_loAV rfl inferInstance inferInstance (by omega) inferInstance) ?_
    | refine wl_pop rfl (pc_loMv rfl inferInstance inferInstance (by omega) inferInstance) ?_
    | refine wl_pop rfl (pc_loMv1 rfl inferInstance inferInstance (by omega) inferInstance) ?_
    | refine wl_pop rfl (pc_loMv2 rfl inferInstance inferInstance (by omega) inferInstance) ?_
    | refine wc_loadn rfl inferInstance (at_has (cs := [_]) (.inl rfl) rfl rfl) rfl ?_
    | refine at_ret (res_cell rfl rfl inferInstance (at_has (cs := [_]) (.inl rfl) rfl rfl)) ?_
    | refine at_ret (res_cell2 rfl rfl inferInstance (at_has (cs := [_]) (.inl rfl) rfl rfl) rfl) ?_
    | refine wl_pop rfl (pc_eqMv rfl rfl inferInstance) ?_
    | refine wl_pop rfl (pc_neMv rfl rfl inferInstance) ?_
    | refine wp_condPr rfl (fun _ => ?_) (fun _ => ?_)
    | refine wp_condNPr rfl (fun _ => ?_) (fun _ => ?_)
    | refine wc_guardPr_true rfl rfl rfl rfl (fun _ => ?_) (fun _ => ?_)
    | refine wc_guardNPr_true rfl rfl rfl rfl (fun _ => ?_) (fun _ => ?_)
    | refine wc_guardPr_false rfl rfl rfl rfl (fun _ => ?_) (fun _ => ?_)
    | refine wc_guardNPr_false rfl rfl rfl rfl (fun _ => ?_) (fun _ => ?_)
    | refine wp_seqA ?_
    | refine wp_region_seq ?_
    | refine thru_seq_next ?_
    | refine thru_seq_ret ?_
    | refine thru_seq ?_
    | refine thru_block_ret ?_
    | refine thru_block_next ?_
    | refine exit_here ?_
    | refine exit_past (by decide) ?_
    | refine thru_scope_ret ?_
    | refine thru_scope_next ?_
    | refine thru_scope ?_
    | refine wp_skipA ?_
    | refine wp_retA ?_
    | refine wp_exitA ?_
    | refine wp_blockA ?_
    | refine wp_scopeA ?_
    | refine wl_nil ?_
    | refine wl_pop rfl (po_move rfl) ?_
    | refine wl_pop rfl (po_assign rfl) ?_
    | refine wl_pop rfl (pc_add rfl rfl (by omega) (by omega)) ?_
    | refine wl_pop rfl (pc_sub rfl rfl (by omega) (by omega)) ?_
    | refine wl_pop rfl (po_binOp rfl rfl rfl) ?_
    | refine wl_pop rfl (pc_boolNeSelf rfl rfl inferInstance) ?_
    | refine wl_pop rfl (pc_boolNe rfl rfl inferInstance) ?_
    | refine wl_pop rfl (pc_boolEq rfl rfl inferInstance) ?_
    | refine wc_load1 rfl inferInstance (at_has (.inl rfl) rfl rfl) rfl ?_
    | refine wc_load1 rfl inferInstance inferInstance rfl ?_
    | refine wc_loadn rfl inferInstance (at_has (cs := [_, _]) (.inl rfl) rfl rfl) rfl ?_
    | refine wc_loadn rfl inferInstance (at_has (cs := [_, _, _]) (.inl rfl) rfl rfl) rfl ?_
    | refine wc_loadn rfl inferInstance (at_has (cs := [_, _, _, _]) (.inl rfl) rfl rfl) rfl ?_
    | refine wc_loadn rfl inferInstance inferInstance rfl ?_
    | refine wl_pop rfl (po_not rfl) ?_
    | refine wl_pop rfl (po_neg rfl) ?_
    | (refine wc_storeA rfl rfl inferInstance inferInstance rfl inferInstance (Nat.le_of_ble_eq_true rfl) (.inr (may_new _)) ?_; intro _ _)
    | (refine wc_store1 rfl rfl inferInstance inferInstance inferInstance (Nat.le_of_ble_eq_true rfl) (.inr (may_new _)) ?_; intro _ _)
    | (refine wc_boxA rfl inferInstance rfl ?_; intro _ _ _ _ _)
    | (refine wc_box1 rfl inferInstance rfl ?_; intro _ _ _ _ _)
    | (refine wc_allocA (cs := [_]) inferInstance rfl inferInstance rfl ?_; intro _ _ _ _ _)
    | (refine wc_allocA (cs := [_, _]) inferInstance rfl inferInstance rfl ?_; intro _ _ _ _ _)
    | (refine wc_allocA (cs := [_, _, _]) inferInstance rfl inferInstance rfl ?_; intro _ _ _ _ _)
    | (refine wc_allocA (cs := [_, _, _, _]) inferInstance rfl inferInstance rfl ?_; intro _ _ _ _ _)
    | (refine wc_alloc1 inferInstance rfl inferInstance rfl ?_; intro _ _ _ _ _)
    | refine wl_pop rfl (po_pick rfl rfl) ?_
    | refine wc_guardU rfl rfl rfl rfl ?_
    | refine wc_guardT_true rfl rfl rfl ?_
    | refine wc_guardF_true rfl rfl rfl rfl ?_
    | refine wc_guardT_false rfl rfl rfl ?_
    | refine wc_guardF_false rfl rfl rfl rfl ?_
    | refine wc_guardP_true rfl rfl rfl rfl (fun _ => ?_) (fun _ => ?_)
    | refine wc_guardNP_true rfl rfl rfl rfl (fun _ => ?_) (fun _ => ?_)
    | refine wc_guardEq_true rfl rfl rfl rfl (fun _ => ?_) (fun _ => ?_)
    | refine wc_guardNe_true rfl rfl rfl rfl (fun _ => ?_) (fun _ => ?_)
    | refine wc_guardP_false rfl rfl rfl rfl (fun _ => ?_) (fun _ => ?_)
    | refine wc_guardNP_false rfl rfl rfl rfl (fun _ => ?_) (fun _ => ?_)
    | refine wc_guardEq_false rfl rfl rfl rfl (fun _ => ?_) (fun _ => ?_)
    | refine wc_guardNe_false rfl rfl rfl rfl (fun _ => ?_) (fun _ => ?_)
    | refine wc_guard rfl rfl rfl rfl (fun _ => ?_) (fun _ => ?_)
    | refine wp_condT rfl ?_
    | refine wp_condF rfl ?_
    | refine wp_condP rfl (fun _ => ?_) (fun _ => ?_)
    | refine wp_condNP rfl (fun _ => ?_) (fun _ => ?_)
    | refine wp_condEq rfl (fun _ => ?_) (fun _ => ?_)
    | refine wp_condNe rfl (fun _ => ?_) (fun _ => ?_)
    | refine wp_condA rfl (fun _ => ?_) (fun _ => ?_)
    | refine at_ret (res1 rfl rfl) ?_
    | refine at_ret (res_cell rfl rfl inferInstance (at_has (cs := [_, _]) (.inl rfl) rfl rfl)) ?_
    | refine at_ret (res_cell rfl rfl inferInstance (at_has (cs := [_, _, _]) (.inl rfl) rfl rfl)) ?_
    | refine at_ret (res_cell rfl rfl inferInstance (at_has (cs := [_, _, _, _]) (.inl rfl) rfl rfl)) ?_
    | refine at_ret (res_cell2 rfl rfl inferInstance (at_has (cs := [_, _]) (.inl rfl) rfl rfl) rfl) ?_
    | refine at_ret (res_cell2 rfl rfl inferInstance (at_has (cs := [_, _, _]) (.inl rfl) rfl rfl) rfl) ?_
    | refine at_ret (res_cell2 rfl rfl inferInstance (at_has (cs := [_, _, _, _]) (.inl rfl) rfl rfl) rfl) ?_
    | refine at_ret (res2 rfl rfl rfl) ?_
    | refine at_ret (res0 rfl) ?_
    | refine at_next (res1 rfl rfl) ?_
    | exact ret_int inferInstance
    | exact ret_ inferInstance rfl
    | exact ret_tm inferInstance inferInstance inferInstance
    | fail)
  rename_i y0 ys0 σ4a yo0 yw0 yr0 yg0 w σ5 wo ww wg
  refine hold_go ?_
  repeat' (first
    | (refine wc_callG rfl inferInstance rfl (c_toGraph _ _) rfl ?_; intro _ _ _ _ _ _ _)
    | (refine wc_callOW rfl inferInstance rfl (hL ▸ c_GraphLoops _ _) rfl ?_; intro _ _ _ _ _)
    | (refine wc_callR rfl inferInstance rfl (c_eqIntS _ _ _) rfl ?_; intro _ _)
    | refine wc_holdR 10 ?_
    | refine wl_pop rfl (pc_ldNat rfl inferInstance inferInstance (by omega) inferInstance) ?_
    | refine wl_pop rfl (pc_ldInt rfl inferInstance inferInstance (by omega) inferInstance) ?_
    | refine wl_pop rfl (pc_ldBool rfl inferInstance inferInstance (by omega) inferInstance) ?_
    | refine wl_pop rfl (pc_ldAV rfl inferInstance inferInstance (by omega) inferInstance) ?_
    | refine wl_pop rfl (pc_ldMv rfl inferInstance inferInstance (by omega) inferInstance) ?_
    | refine wl_pop rfl (pc_ldMv1 rfl inferInstance inferInstance (by omega) inferInstance) ?_
    | refine wl_pop rfl (pc_ldMv2 rfl inferInstance inferInstance (by omega) inferInstance) ?_
    | refine wl_pop rfl (pc_loNat rfl inferInstance inferInstance (by omega) inferInstance) ?_
    | refine wl_pop rfl (pc_loInt rfl inferInstance inferInstance (by omega) inferInstance) ?_
    | refine wl_pop rfl (pc_loBool rfl inferInstance inferInstance (by omega) inferInstance) ?_
    | refine wl_pop rfl (pc_loAV rfl inferInstance inferInstance (by omega) inferInstance) ?_
    | refine wl_pop rfl (pc_loMv rfl inferInstance inferInstance (by omega) inferInstance) ?_
    | refine wl_pop rfl (pc_loMv1 rfl inferInstance inferInstance (by omega) inferInstance) ?_
    | refine wl_pop rfl (pc_loMv2 rfl inferInstance inferInstance (by omega) inferInstance) ?_
    | refine wc_loadn rfl inferInstance (at_has (cs := [_]) (.inl rfl) rfl rfl) rfl ?_
    | refine at_ret (res_cell rfl rfl inferInstance (at_has (cs := [_]) (.inl rfl) rfl rfl)) ?_
    | refine at_ret (res_cell2 rfl rfl inferInstance (at_has (cs := [_]) (.inl rfl) rfl rfl) rfl) ?_
    | refine wl_pop rfl (pc_eqMv rfl rfl inferInstance) ?_
    | refine wl_pop rfl (pc_neMv rfl rfl inferInstance) ?_
    | refine wp_condPr rfl (fun _ => ?_) (fun _ => ?_)
    | refine wp_condNPr rfl (fun _ => ?_) (fun _ => ?_)
    | refine wc_guardPr_true rfl rfl rfl rfl (fun _ => ?_) (fun _ => ?_)
    | refine wc_guardNPr_true rfl rfl rfl rfl (fun _ => ?_) (fun _ => ?_)
    | refine wc_guardPr_false rfl rfl rfl rfl (fun _ => ?_) (fun _ => ?_)
    | refine wc_guardNPr_false rfl rfl rfl rfl (fun _ => ?_) (fun _ => ?_)
    | refine wp_seqA ?_
    | refine wp_region_seq ?_
    | refine thru_seq_next ?_
    | refine thru_seq_ret ?_
    | refine thru_seq ?_
    | refine thru_block_ret ?_
    | refine thru_block_next ?_
    | refine exit_here ?_
    | refine exit_past (by decide) ?_
    | refine thru_scope_ret ?_
    | refine thru_scope_next ?_
    | refine thru_scope ?_
    | refine wp_skipA ?_
    | refine wp_retA ?_
    | refine wp_exitA ?_
    | refine wp_blockA ?_
    | refine wp_scopeA ?_
    | refine wl_nil ?_
    | refine wl_pop rfl (po_move rfl) ?_
    | refine wl_pop rfl (po_assign rfl) ?_
    | refine wl_pop rfl (pc_add rfl rfl (by omega) (by omega)) ?_
    | refine wl_pop rfl (pc_sub rfl rfl (by omega) (by omega)) ?_
    | refine wl_pop rfl (po_binOp rfl rfl rfl) ?_
    | refine wl_pop rfl (pc_boolNeSelf rfl rfl inferInstance) ?_
    | refine wl_pop rfl (pc_boolNe rfl rfl inferInstance) ?_
    | refine wl_pop rfl (pc_boolEq rfl rfl inferInstance) ?_
    | refine wc_load1 rfl inferInstance (at_has (.inl rfl) rfl rfl) rfl ?_
    | refine wc_load1 rfl inferInstance inferInstance rfl ?_
    | refine wc_loadn rfl inferInstance (at_has (cs := [_, _]) (.inl rfl) rfl rfl) rfl ?_
    | refine wc_loadn rfl inferInstance (at_has (cs := [_, _, _]) (.inl rfl) rfl rfl) rfl ?_
    | refine wc_loadn rfl inferInstance (at_has (cs := [_, _, _, _]) (.inl rfl) rfl rfl) rfl ?_
    | refine wc_loadn rfl inferInstance inferInstance rfl ?_
    | refine wl_pop rfl (po_not rfl) ?_
    | refine wl_pop rfl (po_neg rfl) ?_
    | (refine wc_storeA rfl rfl inferInstance inferInstance rfl inferInstance (Nat.le_of_ble_eq_true rfl) (.inr (may_new _)) ?_; intro _ _)
    | (refine wc_store1 rfl rfl inferInstance inferInstance inferInstance (Nat.le_of_ble_eq_true rfl) (.inr (may_new _)) ?_; intro _ _)
    | (refine wc_boxA rfl inferInstance rfl ?_; intro _ _ _ _ _)
    | (refine wc_box1 rfl inferInstance rfl ?_; intro _ _ _ _ _)
    | (refine wc_allocA (cs := [_]) inferInstance rfl inferInstance rfl ?_; intro _ _ _ _ _)
    | (refine wc_allocA (cs := [_, _]) inferInstance rfl inferInstance rfl ?_; intro _ _ _ _ _)
    | (refine wc_allocA (cs := [_, _, _]) inferInstance rfl inferInstance rfl ?_; intro _ _ _ _ _)
    | (refine wc_allocA (cs := [_, _, _, _]) inferInstance rfl inferInstance rfl ?_; intro _ _ _ _ _)
    | (refine wc_alloc1 inferInstance rfl inferInstance rfl ?_; intro _ _ _ _ _)
    | refine wl_pop rfl (po_pick rfl rfl) ?_
    | refine wc_guardU rfl rfl rfl rfl ?_
    | refine wc_guardT_true rfl rfl rfl ?_
    | refine wc_guardF_true rfl rfl rfl rfl ?_
    | refine wc_guardT_false rfl rfl rfl ?_
    | refine wc_guardF_false rfl rfl rfl rfl ?_
    | refine wc_guardP_true rfl rfl rfl rfl (fun _ => ?_) (fun _ => ?_)
    | refine wc_guardNP_true rfl rfl rfl rfl (fun _ => ?_) (fun _ => ?_)
    | refine wc_guardEq_true rfl rfl rfl rfl (fun _ => ?_) (fun _ => ?_)
    | refine wc_guardNe_true rfl rfl rfl rfl (fun _ => ?_) (fun _ => ?_)
    | refine wc_guardP_false rfl rfl rfl rfl (fun _ => ?_) (fun _ => ?_)
    | refine wc_guardNP_false rfl rfl rfl rfl (fun _ => ?_) (fun _ => ?_)
    | refine wc_guardEq_false rfl rfl rfl rfl (fun _ => ?_) (fun _ => ?_)
    | refine wc_guardNe_false rfl rfl rfl rfl (fun _ => ?_) (fun _ => ?_)
    | refine wc_guard rfl rfl rfl rfl (fun _ => ?_) (fun _ => ?_)
    | refine wp_condT rfl ?_
    | refine wp_condF rfl ?_
    | refine wp_condP rfl (fun _ => ?_) (fun _ => ?_)
    | refine wp_condNP rfl (fun _ => ?_) (fun _ => ?_)
    | refine wp_condEq rfl (fun _ => ?_) (fun _ => ?_)
    | refine wp_condNe rfl (fun _ => ?_) (fun _ => ?_)
    | refine wp_condA rfl (fun _ => ?_) (fun _ => ?_)
    | refine at_ret (res1 rfl rfl) ?_
    | refine at_ret (res_cell rfl rfl inferInstance (at_has (cs := [_, _]) (.inl rfl) rfl rfl)) ?_
    | refine at_ret (res_cell rfl rfl inferInstance (at_has (cs := [_, _, _]) (.inl rfl) rfl rfl)) ?_
    | refine at_ret (res_cell rfl rfl inferInstance (at_has (cs := [_, _, _, _]) (.inl rfl) rfl rfl)) ?_
    | refine at_ret (res_cell2 rfl rfl inferInstance (at_has (cs := [_, _]) (.inl rfl) rfl rfl) rfl) ?_
    | refine at_ret (res_cell2 rfl rfl inferInstance (at_has (cs := [_, _, _]) (.inl rfl) rfl rfl) rfl) ?_
    | refine at_ret (res_cell2 rfl rfl inferInstance (at_has (cs := [_, _, _, _]) (.inl rfl) rfl rfl) rfl) ?_
    | refine at_ret (res2 rfl rfl rfl) ?_
    | refine at_ret (res0 rfl) ?_
    | refine at_next (res1 rfl rfl) ?_
    | exact ret_int inferInstance
    | exact ret_ inferInstance rfl
    | exact ret_tm inferInstance inferInstance inferInstance
    | fail)
  all_goals try exact absurd rfl (by assumption)
  rename_i x0 xs0 σ6 xo0 xw0 xr0 xg0 i0 σ7 g7 n0 h0 σ8 up8 v σ9 vo vw vg σ10 g10 _
  refine hold_go ?_
  refine wc_drawn [] mixed_ rfl ?_
  all_goals refine da_takeC 0 rfl rfl (by kernel_rfl) (by first | exact pc_loadnL rfl inferInstance (at_has (cs := [_]) (.inl rfl) rfl rfl) inferInstance | exact pc_ldNat rfl inferInstance inferInstance (by omega) inferInstance | exact pc_ldInt rfl inferInstance inferInstance (by omega) inferInstance | exact pc_ldBool rfl inferInstance inferInstance (by omega) inferInstance | exact pc_ldAV rfl inferInstance inferInstance (by omega) inferInstance | exact pc_ldMv rfl inferInstance inferInstance (by omega) inferInstance | exact pc_ldMv1 rfl inferInstance inferInstance (by omega) inferInstance | exact pc_ldMv2 rfl inferInstance inferInstance (by omega) inferInstance | exact pc_loNat rfl inferInstance inferInstance (by omega) inferInstance | exact pc_loInt rfl inferInstance inferInstance (by omega) inferInstance | exact pc_loBool rfl inferInstance inferInstance (by omega) inferInstance | exact pc_loAV rfl inferInstance inferInstance (by omega) inferInstance | exact pc_loMv rfl inferInstance inferInstance (by omega) inferInstance | exact pc_loMv1 rfl inferInstance inferInstance (by omega) inferInstance | exact pc_loMv2 rfl inferInstance inferInstance (by omega) inferInstance | exact pc_load1L rfl inferInstance (at_has (.inl rfl) rfl rfl) inferInstance | exact pc_load1L rfl inferInstance inferInstance inferInstance | exact pc_loadnL rfl inferInstance (at_has (cs := [_, _]) (.inl rfl) rfl rfl) inferInstance | exact pc_loadnL rfl inferInstance (at_has (cs := [_, _, _]) (.inl rfl) rfl rfl) inferInstance | exact pc_loadnL rfl inferInstance inferInstance inferInstance) ?_
  all_goals refine da_takeC 1 rfl rfl (by kernel_rfl) (by first | exact pc_loadnL rfl inferInstance (at_has (cs := [_]) (.inl rfl) rfl rfl) inferInstance | exact pc_ldNat rfl inferInstance inferInstance (by omega) inferInstance | exact pc_ldInt rfl inferInstance inferInstance (by omega) inferInstance | exact pc_ldBool rfl inferInstance inferInstance (by omega) inferInstance | exact pc_ldAV rfl inferInstance inferInstance (by omega) inferInstance | exact pc_ldMv rfl inferInstance inferInstance (by omega) inferInstance | exact pc_ldMv1 rfl inferInstance inferInstance (by omega) inferInstance | exact pc_ldMv2 rfl inferInstance inferInstance (by omega) inferInstance | exact pc_loNat rfl inferInstance inferInstance (by omega) inferInstance | exact pc_loInt rfl inferInstance inferInstance (by omega) inferInstance | exact pc_loBool rfl inferInstance inferInstance (by omega) inferInstance | exact pc_loAV rfl inferInstance inferInstance (by omega) inferInstance | exact pc_loMv rfl inferInstance inferInstance (by omega) inferInstance | exact pc_loMv1 rfl inferInstance inferInstance (by omega) inferInstance | exact pc_loMv2 rfl inferInstance inferInstance (by omega) inferInstance | exact pc_load1L rfl inferInstance (at_has (.inl rfl) rfl rfl) inferInstance | exact pc_load1L rfl inferInstance inferInstance inferInstance | exact pc_loadnL rfl inferInstance (at_has (cs := [_, _]) (.inl rfl) rfl rfl) inferInstance | exact pc_loadnL rfl inferInstance (at_has (cs := [_, _, _]) (.inl rfl) rfl rfl) inferInstance | exact pc_loadnL rfl inferInstance inferInstance inferInstance) ?_
  all_goals (first | (refine da_one 2 rfl (by kernel_rfl) (fun _ _ _ _ => ?_); (repeat' (first | (refine wc_callG rfl inferInstance rfl (c_toGraph _ _) rfl ?_; intro _ _ _ _ _ _ _) | (refine wc_callR rfl inferInstance rfl (c_eqGraph _ _ _) rfl ?_; intro _ _) | fail)); all_goals (first | refine wl_nil ⟨rfl, (by first | exact LeS.len inferInstance | exact App.len (by assumption)), ?_⟩ | trace_state)))
  all_goals (first | (refine da_one 3 rfl (by kernel_rfl) (fun _ _ _ _ => ?_); (repeat' (first | (refine wc_callG rfl inferInstance rfl (c_toGraph _ _) rfl ?_; intro _ _ _ _ _ _ _) | (refine wc_callR rfl inferInstance rfl (c_eqGraph _ _ _) rfl ?_; intro _ _) | fail)); all_goals (first | refine wl_nil ⟨rfl, (by first | exact LeS.len inferInstance | exact App.len (by assumption)), ?_⟩ | trace_state)))
  all_goals refine da_takeC 4 rfl rfl (by kernel_rfl) (by first | exact po_not rfl | exact po_neg rfl) ?_
  all_goals refine da_done (by kernel_rfl) ?_
  repeat' (first
    | refine wl_pop rfl (pc_ldNat rfl inferInstance inferInstance (by omega) inferInstance) ?_
    | refine wl_pop rfl (pc_ldInt rfl inferInstance inferInstance (by omega) inferInstance) ?_
    | refine wl_pop rfl (pc_ldBool rfl inferInstance inferInstance (by omega) inferInstance) ?_
    | refine wl_pop rfl (pc_ldAV rfl inferInstance inferInstance (by omega) inferInstance) ?_
    | refine wl_pop rfl (pc_ldMv rfl inferInstance inferInstance (by omega) inferInstance) ?_
    | refine wl_pop rfl (pc_ldMv1 rfl inferInstance inferInstance (by omega) inferInstance) ?_
    | refine wl_pop rfl (pc_ldMv2 rfl inferInstance inferInstance (by omega) inferInstance) ?_
    | refine wl_pop rfl (pc_loNat rfl inferInstance inferInstance (by omega) inferInstance) ?_
    | refine wl_pop rfl (pc_loInt rfl inferInstance inferInstance (by omega) inferInstance) ?_
    | refine wl_pop rfl (pc_loBool rfl inferInstance inferInstance (by omega) inferInstance) ?_
    | refine wl_pop rfl (pc_loAV rfl inferInstance inferInstance (by omega) inferInstance) ?_
    | refine wl_pop rfl (pc_loMv rfl inferInstance inferInstance (by omega) inferInstance) ?_
    | refine wl_pop rfl (pc_loMv1 rfl inferInstance inferInstance (by omega) inferInstance) ?_
    | refine wl_pop rfl (pc_loMv2 rfl inferInstance inferInstance (by omega) inferInstance) ?_
    | refine wc_loadn rfl inferInstance (at_has (cs := [_]) (.inl rfl) rfl rfl) rfl ?_
    | refine at_ret (res_cell rfl rfl inferInstance (at_has (cs := [_]) (.inl rfl) rfl rfl)) ?_
    | refine at_ret (res_cell2 rfl rfl inferInstance (at_has (cs := [_]) (.inl rfl) rfl rfl) rfl) ?_
    | refine wl_pop rfl (pc_eqMv rfl rfl inferInstance) ?_
    | refine wl_pop rfl (pc_neMv rfl rfl inferInstance) ?_
    | refine wp_condPr rfl (fun _ => ?_) (fun _ => ?_)
    | refine wp_condNPr rfl (fun _ => ?_) (fun _ => ?_)
    | refine wc_guardPr_true rfl rfl rfl rfl (fun _ => ?_) (fun _ => ?_)
    | refine wc_guardNPr_true rfl rfl rfl rfl (fun _ => ?_) (fun _ => ?_)
    | refine wc_guardPr_false rfl rfl rfl rfl (fun _ => ?_) (fun _ => ?_)
    | refine wc_guardNPr_false rfl rfl rfl rfl (fun _ => ?_) (fun _ => ?_)
    | refine wp_seqA ?_
    | refine wp_region_seq ?_
    | refine thru_seq_next ?_
    | refine thru_seq_ret ?_
    | refine thru_seq ?_
    | refine thru_block_ret ?_
    | refine thru_block_next ?_
    | refine exit_here ?_
    | refine exit_past (by decide) ?_
    | refine thru_scope_ret ?_
    | refine thru_scope_next ?_
    | refine thru_scope ?_
    | refine wp_skipA ?_
    | refine wp_retA ?_
    | refine wp_exitA ?_
    | refine wp_blockA ?_
    | refine wp_scopeA ?_
    | refine wl_nil ?_
    | refine wl_pop rfl (po_move rfl) ?_
    | refine wl_pop rfl (po_assign rfl) ?_
    | refine wl_pop rfl (pc_add rfl rfl (by omega) (by omega)) ?_
    | refine wl_pop rfl (pc_sub rfl rfl (by omega) (by omega)) ?_
    | refine wl_pop rfl (po_binOp rfl rfl rfl) ?_
    | refine wl_pop rfl (pc_boolNeSelf rfl rfl inferInstance) ?_
    | refine wl_pop rfl (pc_boolNe rfl rfl inferInstance) ?_
    | refine wl_pop rfl (pc_boolEq rfl rfl inferInstance) ?_
    | refine wc_load1 rfl inferInstance (at_has (.inl rfl) rfl rfl) rfl ?_
    | refine wc_load1 rfl inferInstance inferInstance rfl ?_
    | refine wc_loadn rfl inferInstance (at_has (cs := [_, _]) (.inl rfl) rfl rfl) rfl ?_
    | refine wc_loadn rfl inferInstance (at_has (cs := [_, _, _]) (.inl rfl) rfl rfl) rfl ?_
    | refine wc_loadn rfl inferInstance (at_has (cs := [_, _, _, _]) (.inl rfl) rfl rfl) rfl ?_
    | refine wc_loadn rfl inferInstance inferInstance rfl ?_
    | refine wl_pop rfl (po_not rfl) ?_
    | refine wl_pop rfl (po_neg rfl) ?_
    | (refine wc_storeA rfl rfl inferInstance inferInstance rfl inferInstance (Nat.le_of_ble_eq_true rfl) (.inr (may_new _)) ?_; intro _ _)
    | (refine wc_store1 rfl rfl inferInstance inferInstance inferInstance (Nat.le_of_ble_eq_true rfl) (.inr (may_new _)) ?_; intro _ _)
    | (refine wc_boxA rfl inferInstance rfl ?_; intro _ _ _ _ _)
    | (refine wc_box1 rfl inferInstance rfl ?_; intro _ _ _ _ _)
    | (refine wc_allocA (cs := [_]) inferInstance rfl inferInstance rfl ?_; intro _ _ _ _ _)
    | (refine wc_allocA (cs := [_, _]) inferInstance rfl inferInstance rfl ?_; intro _ _ _ _ _)
    | (refine wc_allocA (cs := [_, _, _]) inferInstance rfl inferInstance rfl ?_; intro _ _ _ _ _)
    | (refine wc_allocA (cs := [_, _, _, _]) inferInstance rfl inferInstance rfl ?_; intro _ _ _ _ _)
    | (refine wc_alloc1 inferInstance rfl inferInstance rfl ?_; intro _ _ _ _ _)
    | refine wl_pop rfl (po_pick rfl rfl) ?_
    | refine wc_guardU rfl rfl rfl rfl ?_
    | refine wc_guardT_true rfl rfl rfl ?_
    | refine wc_guardF_true rfl rfl rfl rfl ?_
    | refine wc_guardT_false rfl rfl rfl ?_
    | refine wc_guardF_false rfl rfl rfl rfl ?_
    | refine wc_guardP_true rfl rfl rfl rfl (fun _ => ?_) (fun _ => ?_)
    | refine wc_guardNP_true rfl rfl rfl rfl (fun _ => ?_) (fun _ => ?_)
    | refine wc_guardEq_true rfl rfl rfl rfl (fun _ => ?_) (fun _ => ?_)
    | refine wc_guardNe_true rfl rfl rfl rfl (fun _ => ?_) (fun _ => ?_)
    | refine wc_guardP_false rfl rfl rfl rfl (fun _ => ?_) (fun _ => ?_)
    | refine wc_guardNP_false rfl rfl rfl rfl (fun _ => ?_) (fun _ => ?_)
    | refine wc_guardEq_false rfl rfl rfl rfl (fun _ => ?_) (fun _ => ?_)
    | refine wc_guardNe_false rfl rfl rfl rfl (fun _ => ?_) (fun _ => ?_)
    | refine wc_guard rfl rfl rfl rfl (fun _ => ?_) (fun _ => ?_)
    | refine wp_condT rfl ?_
    | refine wp_condF rfl ?_
    | refine wp_condP rfl (fun _ => ?_) (fun _ => ?_)
    | refine wp_condNP rfl (fun _ => ?_) (fun _ => ?_)
    | refine wp_condEq rfl (fun _ => ?_) (fun _ => ?_)
    | refine wp_condNe rfl (fun _ => ?_) (fun _ => ?_)
    | refine wp_condA rfl (fun _ => ?_) (fun _ => ?_)
    | refine at_ret (res1 rfl rfl) ?_
    | refine at_ret (res_cell rfl rfl inferInstance (at_has (cs := [_, _]) (.inl rfl) rfl rfl)) ?_
    | refine at_ret (res_cell rfl rfl inferInstance (at_has (cs := [_, _, _]) (.inl rfl) rfl rfl)) ?_
    | refine at_ret (res_cell rfl rfl inferInstance (at_has (cs := [_, _, _, _]) (.inl rfl) rfl rfl)) ?_
    | refine at_ret (res_cell2 rfl rfl inferInstance (at_has (cs := [_, _]) (.inl rfl) rfl rfl) rfl) ?_
    | refine at_ret (res_cell2 rfl rfl inferInstance (at_has (cs := [_, _, _]) (.inl rfl) rfl rfl) rfl) ?_
    | refine at_ret (res_cell2 rfl rfl inferInstance (at_has (cs := [_, _, _, _]) (.inl rfl) rfl rfl) rfl) ?_
    | refine at_ret (res2 rfl rfl rfl) ?_
    | refine at_ret (res0 rfl) ?_
    | refine at_next (res1 rfl rfl) ?_
    | exact ret_int inferInstance
    | exact ret_ inferInstance rfl
    | exact ret_tm inferInstance inferInstance inferInstance
    | fail)
  all_goals try exact absurd rfl (by assumption)
  refine wc_callMkR σ5 σ6 rfl inferInstance rfl (by infer_instance : ORs σ5 _ xs0 a) xr0 (c_markGraph _ x0 1 (by infer_instance : ORs σ5 _ xs0 a) (by omega) (by omega)) (may_ge σ5) rfl ?_
  intro σ16 m16 _
  have l16 : LeS σ5 σ16 := inferInstance
  have := l16.grow
  repeat' (first
    | (refine wc_callR rfl inferInstance rfl (c_eqIntS _ _ _) rfl ?_; intro _ _)
    | refine wl_pop rfl (pc_ldNat rfl inferInstance inferInstance (by omega) inferInstance) ?_
    | refine wl_pop rfl (pc_ldInt rfl inferInstance inferInstance (by omega) inferInstance) ?_
    | refine wl_pop rfl (pc_ldBool rfl inferInstance inferInstance (by omega) inferInstance) ?_
    | refine wl_pop rfl (pc_ldAV rfl inferInstance inferInstance (by omega) inferInstance) ?_
    | refine wl_pop rfl (pc_ldMv rfl inferInstance inferInstance (by omega) inferInstance) ?_
    | refine wl_pop rfl (pc_ldMv1 rfl inferInstance inferInstance (by omega) inferInstance) ?_
    | refine wl_pop rfl (pc_ldMv2 rfl inferInstance inferInstance (by omega) inferInstance) ?_
    | refine wl_pop rfl (pc_loNat rfl inferInstance inferInstance (by omega) inferInstance) ?_
    | refine wl_pop rfl (pc_loInt rfl inferInstance inferInstance (by omega) inferInstance) ?_
    | refine wl_pop rfl (pc_loBool rfl inferInstance inferInstance (by omega) inferInstance) ?_
    | refine wl_pop rfl (pc_loAV rfl inferInstance inferInstance (by omega) inferInstance) ?_
    | refine wl_pop rfl (pc_loMv rfl inferInstance inferInstance (by omega) inferInstance) ?_
    | refine wl_pop rfl (pc_loMv1 rfl inferInstance inferInstance (by omega) inferInstance) ?_
    | refine wl_pop rfl (pc_loMv2 rfl inferInstance inferInstance (by omega) inferInstance) ?_
    | refine wc_loadn rfl inferInstance (at_has (cs := [_]) (.inl rfl) rfl rfl) rfl ?_
    | refine at_ret (res_cell rfl rfl inferInstance (at_has (cs := [_]) (.inl rfl) rfl rfl)) ?_
    | refine at_ret (res_cell2 rfl rfl inferInstance (at_has (cs := [_]) (.inl rfl) rfl rfl) rfl) ?_
    | refine wl_pop rfl (pc_eqMv rfl rfl inferInstance) ?_
    | refine wl_pop rfl (pc_neMv rfl rfl inferInstance) ?_
    | refine wp_condPr rfl (fun _ => ?_) (fun _ => ?_)
    | refine wp_condNPr rfl (fun _ => ?_) (fun _ => ?_)
    | refine wc_guardPr_true rfl rfl rfl rfl (fun _ => ?_) (fun _ => ?_)
    | refine wc_guardNPr_true rfl rfl rfl rfl (fun _ => ?_) (fun _ => ?_)
    | refine wc_guardPr_false rfl rfl rfl rfl (fun _ => ?_) (fun _ => ?_)
    | refine wc_guardNPr_false rfl rfl rfl rfl (fun _ => ?_) (fun _ => ?_)
    | refine wp_seqA ?_
    | refine wp_region_seq ?_
    | refine thru_seq_next ?_
    | refine thru_seq_ret ?_
    | refine thru_seq ?_
    | refine thru_block_ret ?_
    | refine thru_block_next ?_
    | refine exit_here ?_
    | refine exit_past (by decide) ?_
    | refine thru_scope_ret ?_
    | refine thru_scope_next ?_
    | refine thru_scope ?_
    | refine wp_skipA ?_
    | refine wp_retA ?_
    | refine wp_exitA ?_
    | refine wp_blockA ?_
    | refine wp_scopeA ?_
    | refine wl_nil ?_
    | refine wl_pop rfl (po_move rfl) ?_
    | refine wl_pop rfl (po_assign rfl) ?_
    | refine wl_pop rfl (pc_add rfl rfl (by omega) (by omega)) ?_
    | refine wl_pop rfl (pc_sub rfl rfl (by omega) (by omega)) ?_
    | refine wl_pop rfl (po_binOp rfl rfl rfl) ?_
    | refine wl_pop rfl (pc_boolNeSelf rfl rfl inferInstance) ?_
    | refine wl_pop rfl (pc_boolNe rfl rfl inferInstance) ?_
    | refine wl_pop rfl (pc_boolEq rfl rfl inferInstance) ?_
    | refine wc_load1 rfl inferInstance (at_has (.inl rfl) rfl rfl) rfl ?_
    | refine wc_load1 rfl inferInstance inferInstance rfl ?_
    | refine wc_loadn rfl inferInstance (at_has (cs := [_, _]) (.inl rfl) rfl rfl) rfl ?_
    | refine wc_loadn rfl inferInstance (at_has (cs := [_, _, _]) (.inl rfl) rfl rfl) rfl ?_
    | refine wc_loadn rfl inferInstance (at_has (cs := [_, _, _, _]) (.inl rfl) rfl rfl) rfl ?_
    | refine wc_loadn rfl inferInstance inferInstance rfl ?_
    | refine wl_pop rfl (po_not rfl) ?_
    | refine wl_pop rfl (po_neg rfl) ?_
    | (refine wc_storeA rfl rfl inferInstance inferInstance rfl inferInstance (Nat.le_of_ble_eq_true rfl) (.inr (may_new _)) ?_; intro _ _)
    | (refine wc_store1 rfl rfl inferInstance inferInstance inferInstance (Nat.le_of_ble_eq_true rfl) (.inr (may_new _)) ?_; intro _ _)
    | (refine wc_boxA rfl inferInstance rfl ?_; intro _ _ _ _ _)
    | (refine wc_box1 rfl inferInstance rfl ?_; intro _ _ _ _ _)
    | (refine wc_allocA (cs := [_]) inferInstance rfl inferInstance rfl ?_; intro _ _ _ _ _)
    | (refine wc_allocA (cs := [_, _]) inferInstance rfl inferInstance rfl ?_; intro _ _ _ _ _)
    | (refine wc_allocA (cs := [_, _, _]) inferInstance rfl inferInstance rfl ?_; intro _ _ _ _ _)
    | (refine wc_allocA (cs := [_, _, _, _]) inferInstance rfl inferInstance rfl ?_; intro _ _ _ _ _)
    | (refine wc_alloc1 inferInstance rfl inferInstance rfl ?_; intro _ _ _ _ _)
    | refine wl_pop rfl (po_pick rfl rfl) ?_
    | refine wc_guardU rfl rfl rfl rfl ?_
    | refine wc_guardT_true rfl rfl rfl ?_
    | refine wc_guardF_true rfl rfl rfl rfl ?_
    | refine wc_guardT_false rfl rfl rfl ?_
    | refine wc_guardF_false rfl rfl rfl rfl ?_
    | refine wc_guardP_true rfl rfl rfl rfl (fun _ => ?_) (fun _ => ?_)
    | refine wc_guardNP_true rfl rfl rfl rfl (fun _ => ?_) (fun _ => ?_)
    | refine wc_guardEq_true rfl rfl rfl rfl (fun _ => ?_) (fun _ => ?_)
    | refine wc_guardNe_true rfl rfl rfl rfl (fun _ => ?_) (fun _ => ?_)
    | refine wc_guardP_false rfl rfl rfl rfl (fun _ => ?_) (fun _ => ?_)
    | refine wc_guardNP_false rfl rfl rfl rfl (fun _ => ?_) (fun _ => ?_)
    | refine wc_guardEq_false rfl rfl rfl rfl (fun _ => ?_) (fun _ => ?_)
    | refine wc_guardNe_false rfl rfl rfl rfl (fun _ => ?_) (fun _ => ?_)
    | refine wc_guard rfl rfl rfl rfl (fun _ => ?_) (fun _ => ?_)
    | refine wp_condT rfl ?_
    | refine wp_condF rfl ?_
    | refine wp_condP rfl (fun _ => ?_) (fun _ => ?_)
    | refine wp_condNP rfl (fun _ => ?_) (fun _ => ?_)
    | refine wp_condEq rfl (fun _ => ?_) (fun _ => ?_)
    | refine wp_condNe rfl (fun _ => ?_) (fun _ => ?_)
    | refine wp_condA rfl (fun _ => ?_) (fun _ => ?_)
    | refine at_ret (res1 rfl rfl) ?_
    | refine at_ret (res_cell rfl rfl inferInstance (at_has (cs := [_, _]) (.inl rfl) rfl rfl)) ?_
    | refine at_ret (res_cell rfl rfl inferInstance (at_has (cs := [_, _, _]) (.inl rfl) rfl rfl)) ?_
    | refine at_ret (res_cell rfl rfl inferInstance (at_has (cs := [_, _, _, _]) (.inl rfl) rfl rfl)) ?_
    | refine at_ret (res_cell2 rfl rfl inferInstance (at_has (cs := [_, _]) (.inl rfl) rfl rfl) rfl) ?_
    | refine at_ret (res_cell2 rfl rfl inferInstance (at_has (cs := [_, _, _]) (.inl rfl) rfl rfl) rfl) ?_
    | refine at_ret (res_cell2 rfl rfl inferInstance (at_has (cs := [_, _, _, _]) (.inl rfl) rfl rfl) rfl) ?_
    | refine at_ret (res2 rfl rfl rfl) ?_
    | refine at_ret (res0 rfl) ?_
    | refine at_next (res1 rfl rfl) ?_
    | exact ret_int inferInstance
    | exact ret_ inferInstance rfl
    | exact ret_tm inferInstance inferInstance inferInstance
    | fail)
  all_goals try exact absurd rfl (by assumption)
  rename_i σ17 g17 _
  have hvb := vw.bound
  refine wc_callMkW σ8 σ9 rfl inferInstance rfl (by infer_instance : OW σ8 _ v L) vw (c_markIntS _ v 1 (by infer_instance : OW σ8 _ v L) (by omega)) (may_ge σ8) rfl ?_
  intro σ18 m18 wv
  have l18 : LeS σ5 σ18 := inferInstance
  have := l18.grow
  have := wv.one
  clear m16 m18 l16
  repeat' (first
    | (refine wc_callR rfl inferInstance rfl (c_heldIntS _ v 1 (n := L.length) (by omega)) rfl ?_; intro _ _)
    | (refine wc_callG rfl inferInstance rfl (c_toGraph _ _) rfl ?_; intro _ _ _ _ _ _ _)
    | (refine wc_callOW rfl inferInstance rfl (hL ▸ c_GraphLoops _ _) rfl ?_; intro _ _ _ _ _)
    | (refine wc_callR rfl inferInstance rfl (c_eqIntS _ _ _) rfl ?_; intro _ _)
    | refine wl_pop rfl (pc_ldNat rfl inferInstance inferInstance (by omega) inferInstance) ?_
    | refine wl_pop rfl (pc_ldInt rfl inferInstance inferInstance (by omega) inferInstance) ?_
    | refine wl_pop rfl (pc_ldBool rfl inferInstance inferInstance (by omega) inferInstance) ?_
    | refine wl_pop rfl (pc_ldAV rfl inferInstance inferInstance (by omega) inferInstance) ?_
    | refine wl_pop rfl (pc_ldMv rfl inferInstance inferInstance (by omega) inferInstance) ?_
    | refine wl_pop rfl (pc_ldMv1 rfl inferInstance inferInstance (by omega) inferInstance) ?_
    | refine wl_pop rfl (pc_ldMv2 rfl inferInstance inferInstance (by omega) inferInstance) ?_
    | refine wl_pop rfl (pc_loNat rfl inferInstance inferInstance (by omega) inferInstance) ?_
    | refine wl_pop rfl (pc_loInt rfl inferInstance inferInstance (by omega) inferInstance) ?_
    | refine wl_pop rfl (pc_loBool rfl inferInstance inferInstance (by omega) inferInstance) ?_
    | refine wl_pop rfl (pc_loAV rfl inferInstance inferInstance (by omega) inferInstance) ?_
    | refine wl_pop rfl (pc_loMv rfl inferInstance inferInstance (by omega) inferInstance) ?_
    | refine wl_pop rfl (pc_loMv1 rfl inferInstance inferInstance (by omega) inferInstance) ?_
    | refine wl_pop rfl (pc_loMv2 rfl inferInstance inferInstance (by omega) inferInstance) ?_
    | refine wc_loadn rfl inferInstance (at_has (cs := [_]) (.inl rfl) rfl rfl) rfl ?_
    | refine at_ret (res_cell rfl rfl inferInstance (at_has (cs := [_]) (.inl rfl) rfl rfl)) ?_
    | refine at_ret (res_cell2 rfl rfl inferInstance (at_has (cs := [_]) (.inl rfl) rfl rfl) rfl) ?_
    | refine wl_pop rfl (pc_eqMv rfl rfl inferInstance) ?_
    | refine wl_pop rfl (pc_neMv rfl rfl inferInstance) ?_
    | refine wp_condPr rfl (fun _ => ?_) (fun _ => ?_)
    | refine wp_condNPr rfl (fun _ => ?_) (fun _ => ?_)
    | refine wc_guardPr_true rfl rfl rfl rfl (fun _ => ?_) (fun _ => ?_)
    | refine wc_guardNPr_true rfl rfl rfl rfl (fun _ => ?_) (fun _ => ?_)
    | refine wc_guardPr_false rfl rfl rfl rfl (fun _ => ?_) (fun _ => ?_)
    | refine wc_guardNPr_false rfl rfl rfl rfl (fun _ => ?_) (fun _ => ?_)
    | refine wp_seqA ?_
    | refine wp_region_seq ?_
    | refine thru_seq_next ?_
    | refine thru_seq_ret ?_
    | refine thru_seq ?_
    | refine thru_block_ret ?_
    | refine thru_block_next ?_
    | refine exit_here ?_
    | refine exit_past (by decide) ?_
    | refine thru_scope_ret ?_
    | refine thru_scope_next ?_
    | refine thru_scope ?_
    | refine wp_skipA ?_
    | refine wp_retA ?_
    | refine wp_exitA ?_
    | refine wp_blockA ?_
    | refine wp_scopeA ?_
    | refine wl_nil ?_
    | refine wl_pop rfl (po_move rfl) ?_
    | refine wl_pop rfl (po_assign rfl) ?_
    | refine wl_pop rfl (pc_add rfl rfl (by omega) (by omega)) ?_
    | refine wl_pop rfl (pc_sub rfl rfl (by omega) (by omega)) ?_
    | refine wl_pop rfl (po_binOp rfl rfl rfl) ?_
    | refine wl_pop rfl (pc_boolNeSelf rfl rfl inferInstance) ?_
    | refine wl_pop rfl (pc_boolNe rfl rfl inferInstance) ?_
    | refine wl_pop rfl (pc_boolEq rfl rfl inferInstance) ?_
    | refine wc_load1 rfl inferInstance (at_has (.inl rfl) rfl rfl) rfl ?_
    | refine wc_load1 rfl inferInstance inferInstance rfl ?_
    | refine wc_loadn rfl inferInstance (at_has (cs := [_, _]) (.inl rfl) rfl rfl) rfl ?_
    | refine wc_loadn rfl inferInstance (at_has (cs := [_, _, _]) (.inl rfl) rfl rfl) rfl ?_
    | refine wc_loadn rfl inferInstance (at_has (cs := [_, _, _, _]) (.inl rfl) rfl rfl) rfl ?_
    | refine wc_loadn rfl inferInstance inferInstance rfl ?_
    | refine wl_pop rfl (po_not rfl) ?_
    | refine wl_pop rfl (po_neg rfl) ?_
    | (refine wc_storeA rfl rfl inferInstance inferInstance rfl inferInstance (Nat.le_of_ble_eq_true rfl) (.inr (may_new _)) ?_; intro _ _)
    | (refine wc_store1 rfl rfl inferInstance inferInstance inferInstance (Nat.le_of_ble_eq_true rfl) (.inr (may_new _)) ?_; intro _ _)
    | (refine wc_boxA rfl inferInstance rfl ?_; intro _ _ _ _ _)
    | (refine wc_box1 rfl inferInstance rfl ?_; intro _ _ _ _ _)
    | (refine wc_allocA (cs := [_]) inferInstance rfl inferInstance rfl ?_; intro _ _ _ _ _)
    | (refine wc_allocA (cs := [_, _]) inferInstance rfl inferInstance rfl ?_; intro _ _ _ _ _)
    | (refine wc_allocA (cs := [_, _, _]) inferInstance rfl inferInstance rfl ?_; intro _ _ _ _ _)
    | (refine wc_allocA (cs := [_, _, _, _]) inferInstance rfl inferInstance rfl ?_; intro _ _ _ _ _)
    | (refine wc_alloc1 inferInstance rfl inferInstance rfl ?_; intro _ _ _ _ _)
    | refine wl_pop rfl (po_pick rfl rfl) ?_
    | refine wc_guardU rfl rfl rfl rfl ?_
    | refine wc_guardT_true rfl rfl rfl ?_
    | refine wc_guardF_true rfl rfl rfl rfl ?_
    | refine wc_guardT_false rfl rfl rfl ?_
    | refine wc_guardF_false rfl rfl rfl rfl ?_
    | refine wc_guardP_true rfl rfl rfl rfl (fun _ => ?_) (fun _ => ?_)
    | refine wc_guardNP_true rfl rfl rfl rfl (fun _ => ?_) (fun _ => ?_)
    | refine wc_guardEq_true rfl rfl rfl rfl (fun _ => ?_) (fun _ => ?_)
    | refine wc_guardNe_true rfl rfl rfl rfl (fun _ => ?_) (fun _ => ?_)
    | refine wc_guardP_false rfl rfl rfl rfl (fun _ => ?_) (fun _ => ?_)
    | refine wc_guardNP_false rfl rfl rfl rfl (fun _ => ?_) (fun _ => ?_)
    | refine wc_guardEq_false rfl rfl rfl rfl (fun _ => ?_) (fun _ => ?_)
    | refine wc_guardNe_false rfl rfl rfl rfl (fun _ => ?_) (fun _ => ?_)
    | refine wc_guard rfl rfl rfl rfl (fun _ => ?_) (fun _ => ?_)
    | refine wp_condT rfl ?_
    | refine wp_condF rfl ?_
    | refine wp_condP rfl (fun _ => ?_) (fun _ => ?_)
    | refine wp_condNP rfl (fun _ => ?_) (fun _ => ?_)
    | refine wp_condEq rfl (fun _ => ?_) (fun _ => ?_)
    | refine wp_condNe rfl (fun _ => ?_) (fun _ => ?_)
    | refine wp_condA rfl (fun _ => ?_) (fun _ => ?_)
    | refine at_ret (res1 rfl rfl) ?_
    | refine at_ret (res_cell rfl rfl inferInstance (at_has (cs := [_, _]) (.inl rfl) rfl rfl)) ?_
    | refine at_ret (res_cell rfl rfl inferInstance (at_has (cs := [_, _, _]) (.inl rfl) rfl rfl)) ?_
    | refine at_ret (res_cell rfl rfl inferInstance (at_has (cs := [_, _, _, _]) (.inl rfl) rfl rfl)) ?_
    | refine at_ret (res_cell2 rfl rfl inferInstance (at_has (cs := [_, _]) (.inl rfl) rfl rfl) rfl) ?_
    | refine at_ret (res_cell2 rfl rfl inferInstance (at_has (cs := [_, _, _]) (.inl rfl) rfl rfl) rfl) ?_
    | refine at_ret (res_cell2 rfl rfl inferInstance (at_has (cs := [_, _, _, _]) (.inl rfl) rfl rfl) rfl) ?_
    | refine at_ret (res2 rfl rfl rfl) ?_
    | refine at_ret (res0 rfl) ?_
    | refine at_next (res1 rfl rfl) ?_
    | exact ret_int inferInstance
    | exact ret_ inferInstance rfl
    | exact ret_tm inferInstance inferInstance inferInstance
    | fail)
  all_goals first | exact absurd rfl (by assumption) | exact ret_ inferInstance rfl | (exfalso; omega)
end Go.Proofs.Ytemhpkfijoodkaa.Asl
