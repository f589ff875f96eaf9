/- Tables of truths: sized, copied, alike. -/
import Derived.Test.YtemhpkfijoodkaaGA
import Derived.Test.YtemhpkfijoodkaaGX
namespace Go.Proofs.Ytemhpkfijoodkaa.Asl
open Go.RowKit Go.Proofs.YtemhpkfijoodkaaW.PrintLast
set_option linter.unusedVariables false
set_option linter.unusedSimpArgs false
attribute [local irreducible] WP WL andThen inBlock noGoto atEnd ACall DA DL PO Hold
set_option maxHeartbeats 4000000
section
variable {base : Nat}
theorem c_szBoolS (σ : Store) (s : AV) (left : Int) {l : List Bool} [hs : RW σ s l] : ACall Try.prog base F_laws_szBoolS [s, I left] σ (fun _ => False) (RetInt σ) := by
  have hb := hs.bound
  refine acall2 fun_laws_szBoolS rfl tmps_laws_szBoolS rfl fun N B w₀ ρ₀ => ?_
  repeat' (first
    | refine wl_pop rfl (pc_lenRow rfl inferInstance inferInstance) ?_
    | refine at_ret (res_cell rfl rfl inferInstance (at_has (cs := [_]) (.inl rfl) rfl rfl)) ?_
    | refine at_ret (res_cell2 rfl rfl inferInstance (at_has (cs := [_]) (.inl rfl) rfl rfl) rfl) ?_
    | refine wl_pop rfl (pc_eqMv rfl rfl inferInstance) ?_
    | refine wl_pop rfl (pc_neMv rfl rfl inferInstance) ?_
    | refine wp_condPr rfl (fun _ => ?_) (fun _ => ?_)
    | refine wp_condNPr rfl (fun _ => ?_) (fun _ => ?_)
    | refine wp_seqA ?_
    | refine wp_region_seq ?_
    | refine thru_seq_next ?_
    | refine thru_seq_ret ?_
    | refine thru_seq ?_
    | refine thru_block_ret ?_
    | refine thru_block_next ?_
    | refine exit_here ?_
    | refine exit_past (by decide) ?_
    | refine thru_scope_ret ?_
    | refine thru_scope_next ?_
    | refine thru_scope ?_
    | refine wp_skipA ?_
    | refine wp_retA ?_
    | refine wp_exitA ?_
    | refine wp_blockA ?_
    | refine wp_scopeA ?_
    | refine wl_nil ?_
    | refine wl_pop rfl (po_move rfl) ?_
    | refine wl_pop rfl (po_assign rfl) ?_
    | refine wl_pop rfl (pc_add rfl rfl (by omega) (by omega)) ?_
    | refine wl_pop rfl (pc_sub rfl rfl (by omega) (by omega)) ?_
    | refine wl_pop rfl (po_binOp rfl rfl rfl) ?_
    | refine wl_pop rfl (pc_boolNeSelf rfl rfl inferInstance) ?_
    | refine wl_pop rfl (pc_boolNe rfl rfl inferInstance) ?_
    | refine wl_pop rfl (pc_boolEq rfl rfl inferInstance) ?_
    | refine wl_pop rfl (po_len (ri := 0) rfl Un.eq) ?_
    | refine wl_pop rfl (po_len_nil (ri := 0) rfl Un.eq) ?_
    | refine wl_pop rfl (po_len_str rfl Un.eq) ?_
    | refine wp_condT rfl ?_
    | refine wp_condF rfl ?_
    | refine wp_condP rfl (fun _ => ?_) (fun _ => ?_)
    | refine wp_condNP rfl (fun _ => ?_) (fun _ => ?_)
    | refine wp_condEq rfl (fun _ => ?_) (fun _ => ?_)
    | refine wp_condNe rfl (fun _ => ?_) (fun _ => ?_)
    | refine wp_condA rfl (fun _ => ?_) (fun _ => ?_)
    | refine wl_pop rfl (pc_lenT rfl inferInstance inferInstance) ?_
    | refine at_ret (res1 rfl rfl) ?_
    | refine at_ret (res_cell rfl rfl inferInstance (at_has (cs := [_, _]) (.inl rfl) rfl rfl)) ?_
    | refine at_ret (res_cell rfl rfl inferInstance (at_has (cs := [_, _, _]) (.inl rfl) rfl rfl)) ?_
    | refine at_ret (res_cell rfl rfl inferInstance (at_has (cs := [_, _, _, _]) (.inl rfl) rfl rfl)) ?_
    | refine at_ret (res_cell2 rfl rfl inferInstance (at_has (cs := [_, _]) (.inl rfl) rfl rfl) rfl) ?_
    | refine at_ret (res_cell2 rfl rfl inferInstance (at_has (cs := [_, _, _]) (.inl rfl) rfl rfl) rfl) ?_
    | refine at_ret (res_cell2 rfl rfl inferInstance (at_has (cs := [_, _, _, _]) (.inl rfl) rfl rfl) rfl) ?_
    | refine at_ret (res2 rfl rfl rfl) ?_
    | refine at_ret (res0 rfl) ?_
    | refine at_next (res1 rfl rfl) ?_
    | exact ret_int inferInstance
    | exact ret_ inferInstance rfl
    | exact ret_tm inferInstance inferInstance inferInstance
    | fail)
theorem c_szBoolSS (σ : Store) (s : AV) (left : Int) {ss : List AV} {g : List (List Bool)} [hs : RW σ s ss] [hg : RRs σ ss g] : ACall Try.prog base F_laws_szBoolSS [s, I left] σ (fun _ => False) (RetInt σ) := by
  have hb := hs.bound
  refine acall2 fun_laws_szBoolSS rfl tmps_laws_szBoolSS rfl fun N B w₀ ρ₀ => ?_
  repeat' (first
    | refine wl_pop rfl (pc_ldNat rfl inferInstance inferInstance (by omega) inferInstance) ?_
    | refine wl_pop rfl (pc_ldInt rfl inferInstance inferInstance (by omega) inferInstance) ?_
    | refine wl_pop rfl (pc_ldBool rfl inferInstance inferInstance (by omega) inferInstance) ?_
    | refine wl_pop rfl (pc_ldAV rfl inferInstance inferInstance (by omega) inferInstance) ?_
    | refine wl_pop rfl (pc_ldMv rfl inferInstance inferInstance (by omega) inferInstance) ?_
    | refine wl_pop rfl (pc_ldMv1 rfl inferInstance inferInstance (by omega) inferInstance) ?_
    | refine wl_pop rfl (pc_ldMv2 rfl inferInstance inferInstance (by omega) inferInstance) ?_
    | refine wl_pop rfl (pc_loNat rfl inferInstance inferInstance (by omega) inferInstance) ?_
    | refine wl_pop rfl (pc_loInt rfl inferInstance inferInstance (by omega) inferInstance) ?_
    | refine wl_pop rfl (pc_loBool rfl inferInstance inferInstance (by omega) inferInstance) ?_
    | refine wl_pop rfl (pc_loAV rfl inferInstance inferInstance (by omega) inferInstance) ?_
    | refine wl_pop rfl (pc_loMv rfl inferInstance inferInstance (by omega) inferInstance) ?_
    | refine wl_pop rfl (pc_loMv1 rfl inferInstance inferInstance (by omega) inferInstance) ?_
    | refine wl_pop rfl (pc_loMv2 rfl inferInstance inferInstance (by omega) inferInstance) ?_
    | refine wl_pop rfl (pc_indexRow rfl rfl inferInstance inferInstance inferInstance (by omega)) ?_
    | refine wl_pop rfl (pc_indexRowZ rfl rfl inferInstance inferInstance inferInstance (by omega) (by omega)) ?_
    | refine wl_pop rfl (pc_lenRow rfl inferInstance inferInstance) ?_
    | refine wc_loadn rfl inferInstance (at_has (cs := [_]) (.inl rfl) rfl rfl) rfl ?_
    | refine at_ret (res_cell rfl rfl inferInstance (at_has (cs := [_]) (.inl rfl) rfl rfl)) ?_
    | refine at_ret (res_cell2 rfl rfl inferInstance (at_has (cs := [_]) (.inl rfl) rfl rfl) rfl) ?_
    | refine wl_pop rfl (pc_eqMv rfl rfl inferInstance) ?_
    | refine wl_pop rfl (pc_neMv rfl rfl inferInstance) ?_
    | refine wp_condPr rfl (fun _ => ?_) (fun _ => ?_)
    | refine wp_condNPr rfl (fun _ => ?_) (fun _ => ?_)
    | refine wp_seqA ?_
    | refine wp_region_seq ?_
    | refine thru_seq_next ?_
    | refine thru_seq_ret ?_
    | refine thru_seq ?_
    | refine thru_block_ret ?_
    | refine thru_block_next ?_
    | refine exit_here ?_
    | refine exit_past (by decide) ?_
    | refine thru_scope_ret ?_
    | refine thru_scope_next ?_
    | refine thru_scope ?_
    | refine wp_skipA ?_
    | refine wp_retA ?_
    | refine wp_exitA ?_
    | refine wp_blockA ?_
    | refine wp_scopeA ?_
    | refine wl_nil ?_
    | refine wl_pop rfl (po_move rfl) ?_
    | refine wl_pop rfl (po_assign rfl) ?_
    | refine wl_pop rfl (pc_add rfl rfl (by omega) (by omega)) ?_
    | refine wl_pop rfl (pc_sub rfl rfl (by omega) (by omega)) ?_
    | refine wl_pop rfl (po_binOp rfl rfl rfl) ?_
    | refine wl_pop rfl (pc_boolNeSelf rfl rfl inferInstance) ?_
    | refine wl_pop rfl (pc_boolNe rfl rfl inferInstance) ?_
    | refine wl_pop rfl (pc_boolEq rfl rfl inferInstance) ?_
    | refine wl_pop rfl (pc_indexAddr rfl rfl inferInstance inferInstance (by omega)) ?_
    | refine wc_load1 rfl inferInstance (at_has (.inl rfl) rfl rfl) rfl ?_
    | refine wc_load1 rfl inferInstance inferInstance rfl ?_
    | refine wc_loadn rfl inferInstance (at_has (cs := [_, _]) (.inl rfl) rfl rfl) rfl ?_
    | refine wc_loadn rfl inferInstance (at_has (cs := [_, _, _]) (.inl rfl) rfl rfl) rfl ?_
    | refine wc_loadn rfl inferInstance (at_has (cs := [_, _, _, _]) (.inl rfl) rfl rfl) rfl ?_
    | refine wc_loadn rfl inferInstance inferInstance rfl ?_
    | refine wl_pop rfl (po_len (ri := 0) rfl Un.eq) ?_
    | refine wl_pop rfl (po_len_nil (ri := 0) rfl Un.eq) ?_
    | refine wl_pop rfl (po_len_str rfl Un.eq) ?_
    | refine wp_condT rfl ?_
    | refine wp_condF rfl ?_
    | refine wp_condP rfl (fun _ => ?_) (fun _ => ?_)
    | refine wp_condNP rfl (fun _ => ?_) (fun _ => ?_)
    | refine wp_condEq rfl (fun _ => ?_) (fun _ => ?_)
    | refine wp_condNe rfl (fun _ => ?_) (fun _ => ?_)
    | refine wp_condA rfl (fun _ => ?_) (fun _ => ?_)
    | refine wl_pop rfl (pc_lenT rfl inferInstance inferInstance) ?_
    | refine at_ret (res1 rfl rfl) ?_
    | refine at_ret (res_cell rfl rfl inferInstance (at_has (cs := [_, _]) (.inl rfl) rfl rfl)) ?_
    | refine at_ret (res_cell rfl rfl inferInstance (at_has (cs := [_, _, _]) (.inl rfl) rfl rfl)) ?_
    | refine at_ret (res_cell rfl rfl inferInstance (at_has (cs := [_, _, _, _]) (.inl rfl) rfl rfl)) ?_
    | refine at_ret (res_cell2 rfl rfl inferInstance (at_has (cs := [_, _]) (.inl rfl) rfl rfl) rfl) ?_
    | refine at_ret (res_cell2 rfl rfl inferInstance (at_has (cs := [_, _, _]) (.inl rfl) rfl rfl) rfl) ?_
    | refine at_ret (res_cell2 rfl rfl inferInstance (at_has (cs := [_, _, _, _]) (.inl rfl) rfl rfl) rfl) ?_
    | refine at_ret (res2 rfl rfl rfl) ?_
    | refine at_ret (res0 rfl) ?_
    | refine at_next (res1 rfl rfl) ?_
    | exact ret_int inferInstance
    | exact ret_ inferInstance rfl
    | exact ret_tm inferInstance inferInstance inferInstance
    | refine wl_pop rfl (pc_indexAddrArr rfl rfl inferInstance inferInstance (by omega)) ?_
    | fail)
  refine wc_loop [(0, _)] (fun x : Nat × Int => [(1, I x.2), (5, I x.1)]) (fun x σ' => x.1 ≤ ss.length ∧ LeS σ σ') (fun x => ss.length - x.1) (0, _) ⟨Nat.zero_le _, inferInstance⟩ (by repeat' (first | exact sub_nil | refine sub_cons rfl ?_ | refine sub_int rfl (by first | rfl | omega | (push_cast; omega) | simp) ?_ | refine sub_eq rfl (by assumption) ?_)) ?_
  rintro ⟨k, left⟩ σ' ⟨hk, hg⟩
  dsimp only at hk ⊢
  have := hg.grow
  repeat' (first
    | (refine wc_callI rfl inferInstance rfl (c_szBoolS _ _ _) rfl ?_; intro _ _ _)
    | refine wl_pop rfl (pc_ldNat rfl inferInstance inferInstance (by omega) inferInstance) ?_
    | refine wl_pop rfl (pc_ldInt rfl inferInstance inferInstance (by omega) inferInstance) ?_
    | refine wl_pop rfl (pc_ldBool rfl inferInstance inferInstance (by omega) inferInstance) ?_
    | refine wl_pop rfl (pc_ldAV rfl inferInstance inferInstance (by omega) inferInstance) ?_
    | refine wl_pop rfl (pc_ldMv rfl inferInstance inferInstance (by omega) inferInstance) ?_
    | refine wl_pop rfl (pc_ldMv1 rfl inferInstance inferInstance (by omega) inferInstance) ?_
    | refine wl_pop rfl (pc_ldMv2 rfl inferInstance inferInstance (by omega) inferInstance) ?_
    | refine wl_pop rfl (pc_loNat rfl inferInstance inferInstance (by omega) inferInstance) ?_
    | refine wl_pop rfl (pc_loInt rfl inferInstance inferInstance (by omega) inferInstance) ?_
    | refine wl_pop rfl (pc_loBool rfl inferInstance inferInstance (by omega) inferInstance) ?_
    | refine wl_pop rfl (pc_loAV rfl inferInstance inferInstance (by omega) inferInstance) ?_
    | refine wl_pop rfl (pc_loMv rfl inferInstance inferInstance (by omega) inferInstance) ?_
    | refine wl_pop rfl (pc_loMv1 rfl inferInstance inferInstance (by omega) inferInstance) ?_
    | refine wl_pop rfl (pc_loMv2 rfl inferInstance inferInstance (by omega) inferInstance) ?_
    | refine wl_pop rfl (pc_indexRow rfl rfl inferInstance inferInstance inferInstance (by omega)) ?_
    | refine wl_pop rfl (pc_indexRowZ rfl rfl inferInstance inferInstance inferInstance (by omega) (by omega)) ?_
    | refine wl_pop rfl (pc_lenRow rfl inferInstance inferInstance) ?_
    | refine wc_loadn rfl inferInstance (at_has (cs := [_]) (.inl rfl) rfl rfl) rfl ?_
    | refine at_ret (res_cell rfl rfl inferInstance (at_has (cs := [_]) (.inl rfl) rfl rfl)) ?_
    | refine at_ret (res_cell2 rfl rfl inferInstance (at_has (cs := [_]) (.inl rfl) rfl rfl) rfl) ?_
    | refine wl_pop rfl (pc_eqMv rfl rfl inferInstance) ?_
    | refine wl_pop rfl (pc_neMv rfl rfl inferInstance) ?_
    | refine wp_condPr rfl (fun _ => ?_) (fun _ => ?_)
    | refine wp_condNPr rfl (fun _ => ?_) (fun _ => ?_)
    | refine wp_seqA ?_
    | refine wp_region_seq ?_
    | refine thru_seq_next ?_
    | refine thru_seq_ret ?_
    | refine thru_seq ?_
    | refine thru_block_ret ?_
    | refine thru_block_next ?_
    | refine exit_here ?_
    | refine exit_past (by decide) ?_
    | refine thru_scope_ret ?_
    | refine thru_scope_next ?_
    | refine thru_scope ?_
    | refine wp_skipA ?_
    | refine wp_retA ?_
    | refine wp_exitA ?_
    | refine wp_blockA ?_
    | refine wp_scopeA ?_
    | refine wl_nil ?_
    | refine wl_pop rfl (po_move rfl) ?_
    | refine wl_pop rfl (po_assign rfl) ?_
    | refine wl_pop rfl (pc_add rfl rfl (by omega) (by omega)) ?_
    | refine wl_pop rfl (pc_sub rfl rfl (by omega) (by omega)) ?_
    | refine wl_pop rfl (po_binOp rfl rfl rfl) ?_
    | refine wl_pop rfl (pc_boolNeSelf rfl rfl inferInstance) ?_
    | refine wl_pop rfl (pc_boolNe rfl rfl inferInstance) ?_
    | refine wl_pop rfl (pc_boolEq rfl rfl inferInstance) ?_
    | refine wl_pop rfl (pc_indexAddr rfl rfl inferInstance inferInstance (by omega)) ?_
    | refine wc_load1 rfl inferInstance (at_has (.inl rfl) rfl rfl) rfl ?_
    | refine wc_load1 rfl inferInstance inferInstance rfl ?_
    | refine wc_loadn rfl inferInstance (at_has (cs := [_, _]) (.inl rfl) rfl rfl) rfl ?_
    | refine wc_loadn rfl inferInstance (at_has (cs := [_, _, _]) (.inl rfl) rfl rfl) rfl ?_
    | refine wc_loadn rfl inferInstance (at_has (cs := [_, _, _, _]) (.inl rfl) rfl rfl) rfl ?_
    | refine wc_loadn rfl inferInstance inferInstance rfl ?_
    | refine wl_pop rfl (po_len (ri := 0) rfl Un.eq) ?_
    | refine wl_pop rfl (po_len_nil (ri := 0) rfl Un.eq) ?_
    | refine wl_pop rfl (po_len_str rfl Un.eq) ?_
    | refine wp_condT rfl ?_
    | refine wp_condF rfl ?_
    | refine wp_condP rfl (fun _ => ?_) (fun _ => ?_)
    | refine wp_condNP rfl (fun _ => ?_) (fun _ => ?_)
    | refine wp_condEq rfl (fun _ => ?_) (fun _ => ?_)
    | refine wp_condNe rfl (fun _ => ?_) (fun _ => ?_)
    | refine wp_condA rfl (fun _ => ?_) (fun _ => ?_)
    | refine wl_pop rfl (pc_lenT rfl inferInstance inferInstance) ?_
    | refine at_ret (res1 rfl rfl) ?_
    | refine at_ret (res_cell rfl rfl inferInstance (at_has (cs := [_, _]) (.inl rfl) rfl rfl)) ?_
    | refine at_ret (res_cell rfl rfl inferInstance (at_has (cs := [_, _, _]) (.inl rfl) rfl rfl)) ?_
    | refine at_ret (res_cell rfl rfl inferInstance (at_has (cs := [_, _, _, _]) (.inl rfl) rfl rfl)) ?_
    | refine at_ret (res_cell2 rfl rfl inferInstance (at_has (cs := [_, _]) (.inl rfl) rfl rfl) rfl) ?_
    | refine at_ret (res_cell2 rfl rfl inferInstance (at_has (cs := [_, _, _]) (.inl rfl) rfl rfl) rfl) ?_
    | refine at_ret (res_cell2 rfl rfl inferInstance (at_has (cs := [_, _, _, _]) (.inl rfl) rfl rfl) rfl) ?_
    | refine at_ret (res2 rfl rfl rfl) ?_
    | refine at_ret (res0 rfl) ?_
    | refine at_next (res1 rfl rfl) ?_
    | exact ret_int inferInstance
    | exact ret_ inferInstance rfl
    | exact ret_tm inferInstance inferInstance inferInstance
    | refine wl_pop rfl (pc_indexAddrArr rfl rfl inferInstance inferInstance (by omega)) ?_
    | fail)
  exact ⟨(k + 1, _), by dsimp only; omega, ⟨by dsimp only; omega, inferInstance⟩, (by repeat' (first | exact sub_nil | refine sub_cons rfl ?_ | refine sub_int rfl (by first | rfl | omega | (push_cast; omega) | simp) ?_ | refine sub_eq rfl (by assumption) ?_))⟩
theorem c_toBoolS (σ : Store) (s : AV) {l : List Bool} [hs : RW σ s l] : ACall Try.prog base F_laws_toBoolS [s] σ (fun _ => False) (RetOW σ l) := by
  have hb := hs.bound
  have := hs.one
  refine acall1 fun_laws_toBoolS rfl tmps_laws_toBoolS rfl fun N B w₀ ρ₀ => ?_
  repeat' (first
    | (refine wc_makeRow (α := Bool) rfl rfl inferInstance inferInstance rfl rfl (by decide) (by omega) (by omega) rfl ?_; intro _ _ _ _ _)
    | refine wl_pop rfl (pc_ldNat rfl inferInstance inferInstance (by omega) inferInstance) ?_
    | refine wl_pop rfl (pc_ldInt rfl inferInstance inferInstance (by omega) inferInstance) ?_
    | refine wl_pop rfl (pc_ldBool rfl inferInstance inferInstance (by omega) inferInstance) ?_
    | refine wl_pop rfl (pc_ldAV rfl inferInstance inferInstance (by omega) inferInstance) ?_
    | refine wl_pop rfl (pc_ldMv rfl inferInstance inferInstance (by omega) inferInstance) ?_
    | refine wl_pop rfl (pc_ldMv1 rfl inferInstance inferInstance (by omega) inferInstance) ?_
    | refine wl_pop rfl (pc_ldMv2 rfl inferInstance inferInstance (by omega) inferInstance) ?_
    | refine wl_pop rfl (pc_loNat rfl inferInstance inferInstance (by omega) inferInstance) ?_
    | refine wl_pop rfl (pc_loInt rfl inferInstance inferInstance (by omega) inferInstance) ?_
    | refine wl_pop rfl (pc_loBool rfl inferInstance inferInstance (by omega) inferInstance) ?_
    | refine wl_pop rfl (pc_loAV rfl inferInstance inferInstance (by omega) inferInstance) ?_
    | refine wl_pop rfl (pc_loMv rfl inferInstance inferInstance (by omega) inferInstance) ?_
    | refine wl_pop rfl (pc_loMv1 rfl inferInstance inferInstance (by omega) inferInstance) ?_
    | refine wl_pop rfl (pc_loMv2 rfl inferInstance inferInstance (by omega) inferInstance) ?_
    | refine wl_pop rfl (pc_indexRow rfl rfl inferInstance inferInstance inferInstance (by omega)) ?_
    | refine wl_pop rfl (pc_indexRowZ rfl rfl inferInstance inferInstance inferInstance (by omega) (by omega)) ?_
    | refine wl_pop rfl (pc_lenRow rfl inferInstance inferInstance) ?_
    | refine wc_loadn rfl inferInstance (at_has (cs := [_]) (.inl rfl) rfl rfl) rfl ?_
    | refine at_ret (res_cell rfl rfl inferInstance (at_has (cs := [_]) (.inl rfl) rfl rfl)) ?_
    | refine at_ret (res_cell2 rfl rfl inferInstance (at_has (cs := [_]) (.inl rfl) rfl rfl) rfl) ?_
    | refine wl_pop rfl (pc_eqMv rfl rfl inferInstance) ?_
    | refine wl_pop rfl (pc_neMv rfl rfl inferInstance) ?_
    | refine wp_condPr rfl (fun _ => ?_) (fun _ => ?_)
    | refine wp_condNPr rfl (fun _ => ?_) (fun _ => ?_)
    | refine wp_seqA ?_
    | refine wp_region_seq ?_
    | refine thru_seq_next ?_
    | refine thru_seq_ret ?_
    | refine thru_seq ?_
    | refine thru_block_ret ?_
    | refine thru_block_next ?_
    | refine exit_here ?_
    | refine exit_past (by decide) ?_
    | refine thru_scope_ret ?_
    | refine thru_scope_next ?_
    | refine thru_scope ?_
    | refine wp_skipA ?_
    | refine wp_retA ?_
    | refine wp_exitA ?_
    | refine wp_blockA ?_
    | refine wp_scopeA ?_
    | refine wl_nil ?_
    | refine wl_pop rfl (po_move rfl) ?_
    | refine wl_pop rfl (po_assign rfl) ?_
    | refine wl_pop rfl (pc_add rfl rfl (by omega) (by omega)) ?_
    | refine wl_pop rfl (pc_sub rfl rfl (by omega) (by omega)) ?_
    | refine wl_pop rfl (po_binOp rfl rfl rfl) ?_
    | refine wl_pop rfl (pc_boolNeSelf rfl rfl inferInstance) ?_
    | refine wl_pop rfl (pc_boolNe rfl rfl inferInstance) ?_
    | refine wl_pop rfl (pc_boolEq rfl rfl inferInstance) ?_
    | refine wl_pop rfl (pc_indexAddr rfl rfl inferInstance inferInstance (by omega)) ?_
    | refine wc_load1 rfl inferInstance (at_has (.inl rfl) rfl rfl) rfl ?_
    | refine wc_load1 rfl inferInstance inferInstance rfl ?_
    | refine wc_loadn rfl inferInstance (at_has (cs := [_, _]) (.inl rfl) rfl rfl) rfl ?_
    | refine wc_loadn rfl inferInstance (at_has (cs := [_, _, _]) (.inl rfl) rfl rfl) rfl ?_
    | refine wc_loadn rfl inferInstance (at_has (cs := [_, _, _, _]) (.inl rfl) rfl rfl) rfl ?_
    | refine wc_loadn rfl inferInstance inferInstance rfl ?_
    | (refine wc_storeA rfl rfl inferInstance inferInstance rfl inferInstance (Nat.le_of_ble_eq_true rfl) (.inr (may_new _)) ?_; intro _ _)
    | (refine wc_store1 rfl rfl inferInstance inferInstance inferInstance (Nat.le_of_ble_eq_true rfl) (.inr (may_new _)) ?_; intro _ _)
    | (refine wc_makeSlice rfl rfl Un.eq inferInstance rfl (by decide) (by decide) (by omega) (by omega) rfl ?_; intro _ _ _ _ _)
    | refine wl_pop rfl (po_len (ri := 0) rfl Un.eq) ?_
    | refine wl_pop rfl (po_len_nil (ri := 0) rfl Un.eq) ?_
    | refine wl_pop rfl (po_len_str rfl Un.eq) ?_
    | refine wp_condT rfl ?_
    | refine wp_condF rfl ?_
    | refine wp_condP rfl (fun _ => ?_) (fun _ => ?_)
    | refine wp_condNP rfl (fun _ => ?_) (fun _ => ?_)
    | refine wp_condEq rfl (fun _ => ?_) (fun _ => ?_)
    | refine wp_condNe rfl (fun _ => ?_) (fun _ => ?_)
    | refine wp_condA rfl (fun _ => ?_) (fun _ => ?_)
    | refine wl_pop rfl (pc_lenT rfl inferInstance inferInstance) ?_
    | refine at_ret (res1 rfl rfl) ?_
    | refine at_ret (res_cell rfl rfl inferInstance (at_has (cs := [_, _]) (.inl rfl) rfl rfl)) ?_
    | refine at_ret (res_cell rfl rfl inferInstance (at_has (cs := [_, _, _]) (.inl rfl) rfl rfl)) ?_
    | refine at_ret (res_cell rfl rfl inferInstance (at_has (cs := [_, _, _, _]) (.inl rfl) rfl rfl)) ?_
    | refine at_ret (res_cell2 rfl rfl inferInstance (at_has (cs := [_, _]) (.inl rfl) rfl rfl) rfl) ?_
    | refine at_ret (res_cell2 rfl rfl inferInstance (at_has (cs := [_, _, _]) (.inl rfl) rfl rfl) rfl) ?_
    | refine at_ret (res_cell2 rfl rfl inferInstance (at_has (cs := [_, _, _, _]) (.inl rfl) rfl rfl) rfl) ?_
    | refine at_ret (res2 rfl rfl rfl) ?_
    | refine at_ret (res0 rfl) ?_
    | refine at_next (res1 rfl rfl) ?_
    | exact ret_int inferInstance
    | exact ret_ inferInstance rfl
    | exact ret_tm inferInstance inferInstance inferInstance
    | refine wl_pop rfl (pc_indexAddrArr rfl rfl inferInstance inferInstance (by omega)) ?_
    | fail)
  rename_i i σ₁ g1 n1 h1
  refine wc_loop [(0, _), (3, _)] (fun k : Nat => [(4, I k)]) (fun k σ' => k ≤ l.length ∧ LeS σ σ' ∧ Has σ' i (Row (l.take k ++ List.replicate (l.length - k) false))) (fun k => l.length - k) 0 ⟨Nat.zero_le _, inferInstance, h1⟩ (by repeat' (first | exact sub_nil | refine sub_cons rfl ?_ | refine sub_int rfl (by first | rfl | omega | (push_cast; omega) | simp) ?_ | refine sub_eq rfl (by assumption) ?_)) ?_
  rintro k σ' ⟨hk, hg, hi⟩
  have := hg.grow
  repeat' (first
    | (refine wc_stBool rfl rfl inferInstance inferInstance (by simp; omega) (.inr (may_new _)) ?_; intro _ _)
    | refine wl_pop rfl (pc_ldNat rfl inferInstance inferInstance (by omega) inferInstance) ?_
    | refine wl_pop rfl (pc_ldInt rfl inferInstance inferInstance (by omega) inferInstance) ?_
    | refine wl_pop rfl (pc_ldBool rfl inferInstance inferInstance (by omega) inferInstance) ?_
    | refine wl_pop rfl (pc_ldAV rfl inferInstance inferInstance (by omega) inferInstance) ?_
    | refine wl_pop rfl (pc_ldMv rfl inferInstance inferInstance (by omega) inferInstance) ?_
    | refine wl_pop rfl (pc_ldMv1 rfl inferInstance inferInstance (by omega) inferInstance) ?_
    | refine wl_pop rfl (pc_ldMv2 rfl inferInstance inferInstance (by omega) inferInstance) ?_
    | refine wl_pop rfl (pc_loNat rfl inferInstance inferInstance (by omega) inferInstance) ?_
    | refine wl_pop rfl (pc_loInt rfl inferInstance inferInstance (by omega) inferInstance) ?_
    | refine wl_pop rfl (pc_loBool rfl inferInstance inferInstance (by omega) inferInstance) ?_
    | refine wl_pop rfl (pc_loAV rfl inferInstance inferInstance (by omega) inferInstance) ?_
    | refine wl_pop rfl (pc_loMv rfl inferInstance inferInstance (by omega) inferInstance) ?_
    | refine wl_pop rfl (pc_loMv1 rfl inferInstance inferInstance (by omega) inferInstance) ?_
    | refine wl_pop rfl (pc_loMv2 rfl inferInstance inferInstance (by omega) inferInstance) ?_
    | refine wl_pop rfl (pc_indexRow rfl rfl inferInstance inferInstance inferInstance (by omega)) ?_
    | refine wl_pop rfl (pc_indexRowZ rfl rfl inferInstance inferInstance inferInstance (by omega) (by omega)) ?_
    | refine wl_pop rfl (pc_lenRow rfl inferInstance inferInstance) ?_
    | refine wc_loadn rfl inferInstance (at_has (cs := [_]) (.inl rfl) rfl rfl) rfl ?_
    | refine at_ret (res_cell rfl rfl inferInstance (at_has (cs := [_]) (.inl rfl) rfl rfl)) ?_
    | refine at_ret (res_cell2 rfl rfl inferInstance (at_has (cs := [_]) (.inl rfl) rfl rfl) rfl) ?_
    | refine wl_pop rfl (pc_eqMv rfl rfl inferInstance) ?_
    | refine wl_pop rfl (pc_neMv rfl rfl inferInstance) ?_
    | refine wp_condPr rfl (fun _ => ?_) (fun _ => ?_)
    | refine wp_condNPr rfl (fun _ => ?_) (fun _ => ?_)
    | refine wp_seqA ?_
    | refine wp_region_seq ?_
    | refine thru_seq_next ?_
    | refine thru_seq_ret ?_
    | refine thru_seq ?_
    | refine thru_block_ret ?_
    | refine thru_block_next ?_
    | refine exit_here ?_
    | refine exit_past (by decide) ?_
    | refine thru_scope_ret ?_
    | refine thru_scope_next ?_
    | refine thru_scope ?_
    | refine wp_skipA ?_
    | refine wp_retA ?_
    | refine wp_exitA ?_
    | refine wp_blockA ?_
    | refine wp_scopeA ?_
    | refine wl_nil ?_
    | refine wl_pop rfl (po_move rfl) ?_
    | refine wl_pop rfl (po_assign rfl) ?_
    | refine wl_pop rfl (pc_add rfl rfl (by omega) (by omega)) ?_
    | refine wl_pop rfl (pc_sub rfl rfl (by omega) (by omega)) ?_
    | refine wl_pop rfl (po_binOp rfl rfl rfl) ?_
    | refine wl_pop rfl (pc_boolNeSelf rfl rfl inferInstance) ?_
    | refine wl_pop rfl (pc_boolNe rfl rfl inferInstance) ?_
    | refine wl_pop rfl (pc_boolEq rfl rfl inferInstance) ?_
    | refine wl_pop rfl (pc_indexAddr rfl rfl inferInstance inferInstance (by omega)) ?_
    | refine wc_load1 rfl inferInstance (at_has (.inl rfl) rfl rfl) rfl ?_
    | refine wc_load1 rfl inferInstance inferInstance rfl ?_
    | refine wc_loadn rfl inferInstance (at_has (cs := [_, _]) (.inl rfl) rfl rfl) rfl ?_
    | refine wc_loadn rfl inferInstance (at_has (cs := [_, _, _]) (.inl rfl) rfl rfl) rfl ?_
    | refine wc_loadn rfl inferInstance (at_has (cs := [_, _, _, _]) (.inl rfl) rfl rfl) rfl ?_
    | refine wc_loadn rfl inferInstance inferInstance rfl ?_
    | (refine wc_storeA rfl rfl inferInstance inferInstance rfl inferInstance (Nat.le_of_ble_eq_true rfl) (.inr (may_new _)) ?_; intro _ _)
    | (refine wc_store1 rfl rfl inferInstance inferInstance inferInstance (Nat.le_of_ble_eq_true rfl) (.inr (may_new _)) ?_; intro _ _)
    | (refine wc_makeSlice rfl rfl Un.eq inferInstance rfl (by decide) (by decide) (by omega) (by omega) rfl ?_; intro _ _ _ _ _)
    | refine wl_pop rfl (po_len (ri := 0) rfl Un.eq) ?_
    | refine wl_pop rfl (po_len_nil (ri := 0) rfl Un.eq) ?_
    | refine wl_pop rfl (po_len_str rfl Un.eq) ?_
    | refine wp_condT rfl ?_
    | refine wp_condF rfl ?_
    | refine wp_condP rfl (fun _ => ?_) (fun _ => ?_)
    | refine wp_condNP rfl (fun _ => ?_) (fun _ => ?_)
    | refine wp_condEq rfl (fun _ => ?_) (fun _ => ?_)
    | refine wp_condNe rfl (fun _ => ?_) (fun _ => ?_)
    | refine wp_condA rfl (fun _ => ?_) (fun _ => ?_)
    | refine wl_pop rfl (pc_lenT rfl inferInstance inferInstance) ?_
    | refine at_ret (res1 rfl rfl) ?_
    | refine at_ret (res_cell rfl rfl inferInstance (at_has (cs := [_, _]) (.inl rfl) rfl rfl)) ?_
    | refine at_ret (res_cell rfl rfl inferInstance (at_has (cs := [_, _, _]) (.inl rfl) rfl rfl)) ?_
    | refine at_ret (res_cell rfl rfl inferInstance (at_has (cs := [_, _, _, _]) (.inl rfl) rfl rfl)) ?_
    | refine at_ret (res_cell2 rfl rfl inferInstance (at_has (cs := [_, _]) (.inl rfl) rfl rfl) rfl) ?_
    | refine at_ret (res_cell2 rfl rfl inferInstance (at_has (cs := [_, _, _]) (.inl rfl) rfl rfl) rfl) ?_
    | refine at_ret (res_cell2 rfl rfl inferInstance (at_has (cs := [_, _, _, _]) (.inl rfl) rfl rfl) rfl) ?_
    | refine at_ret (res2 rfl rfl rfl) ?_
    | refine at_ret (res0 rfl) ?_
    | refine at_next (res1 rfl rfl) ?_
    | exact ret_int inferInstance
    | exact ret_ inferInstance rfl
    | exact ret_tm inferInstance inferInstance inferInstance
    | refine wl_pop rfl (pc_indexAddrArr rfl rfl inferInstance inferInstance (by omega)) ?_
    | fail)
  · rename_i hk' σ4 u4
    have hk' : k < l.length := by omega
    have hh : Has σ4 i _ := instHasUpd (g := u4)
    rw [fill_set hk'] at hh
    exact ⟨k + 1, by omega, ⟨hk', inferInstance, hh⟩, (by repeat' (first | exact sub_nil | refine sub_cons rfl ?_ | refine sub_int rfl (by first | rfl | omega | (push_cast; omega) | simp) ?_ | refine sub_eq rfl (by assumption) ?_))⟩
  · obtain rfl : k = l.length := by omega
    simp only [List.take_length, Nat.sub_self, List.replicate_zero, List.append_nil] at hi
    exact ret_ow (ow_of_has hi (may_new σ) rfl hb) instLeRefl inferInstance rfl
theorem c_toBoolSS (σ : Store) (s : AV) {ss : List AV} {g : List (List Bool)} [hs : RW σ s ss] [hg : RRs σ ss g] : ACall Try.prog base F_laws_toBoolSS [s] σ (fun _ => False) (RetORs σ g) := by
  have hb := hs.bound
  have := hs.one
  have hl := hg.len
  refine acall1 fun_laws_toBoolSS rfl tmps_laws_toBoolSS rfl fun N B w₀ ρ₀ => ?_
  repeat' (first
    | (refine wc_makeRow (α := AV) rfl rfl inferInstance inferInstance rfl rfl (by decide) (by omega) (by omega) rfl ?_; intro _ _ _ _ _)
    | refine wl_pop rfl (pc_ldNat rfl inferInstance inferInstance (by omega) inferInstance) ?_
    | refine wl_pop rfl (pc_ldInt rfl inferInstance inferInstance (by omega) inferInstance) ?_
    | refine wl_pop rfl (pc_ldBool rfl inferInstance inferInstance (by omega) inferInstance) ?_
    | refine wl_pop rfl (pc_ldAV rfl inferInstance inferInstance (by omega) inferInstance) ?_
    | refine wl_pop rfl (pc_ldMv rfl inferInstance inferInstance (by omega) inferInstance) ?_
    | refine wl_pop rfl (pc_ldMv1 rfl inferInstance inferInstance (by omega) inferInstance) ?_
    | refine wl_pop rfl (pc_ldMv2 rfl inferInstance inferInstance (by omega) inferInstance) ?_
    | refine wl_pop rfl (pc_loNat rfl inferInstance inferInstance (by omega) inferInstance) ?_
    | refine wl_pop rfl (pc_loInt rfl inferInstance inferInstance (by omega) inferInstance) ?_
    | refine wl_pop rfl (pc_loBool rfl inferInstance inferInstance (by omega) inferInstance) ?_
    | refine wl_pop rfl (pc_loAV rfl inferInstance inferInstance (by omega) inferInstance) ?_
    | refine wl_pop rfl (pc_loMv rfl inferInstance inferInstance (by omega) inferInstance) ?_
    | refine wl_pop rfl (pc_loMv1 rfl inferInstance inferInstance (by omega) inferInstance) ?_
    | refine wl_pop rfl (pc_loMv2 rfl inferInstance inferInstance (by omega) inferInstance) ?_
    | refine wl_pop rfl (pc_indexRow rfl rfl inferInstance inferInstance inferInstance (by omega)) ?_
    | refine wl_pop rfl (pc_indexRowZ rfl rfl inferInstance inferInstance inferInstance (by omega) (by omega)) ?_
    | refine wl_pop rfl (pc_lenRow rfl inferInstance inferInstance) ?_
    | refine wc_loadn rfl inferInstance (at_has (cs := [_]) (.inl rfl) rfl rfl) rfl ?_
    | refine at_ret (res_cell rfl rfl inferInstance (at_has (cs := [_]) (.inl rfl) rfl rfl)) ?_
    | refine at_ret (res_cell2 rfl rfl inferInstance (at_has (cs := [_]) (.inl rfl) rfl rfl) rfl) ?_
    | refine wl_pop rfl (pc_eqMv rfl rfl inferInstance) ?_
    | refine wl_pop rfl (pc_neMv rfl rfl inferInstance) ?_
    | refine wp_condPr rfl (fun _ => ?_) (fun _ => ?_)
    | refine wp_condNPr rfl (fun _ => ?_) (fun _ => ?_)
    | refine wp_seqA ?_
    | refine wp_region_seq ?_
    | refine thru_seq_next ?_
    | refine thru_seq_ret ?_
    | refine thru_seq ?_
    | refine thru_block_ret ?_
    | refine thru_block_next ?_
    | refine exit_here ?_
    | refine exit_past (by decide) ?_
    | refine thru_scope_ret ?_
    | refine thru_scope_next ?_
    | refine thru_scope ?_
    | refine wp_skipA ?_
    | refine wp_retA ?_
    | refine wp_exitA ?_
    | refine wp_blockA ?_
    | refine wp_scopeA ?_
    | refine wl_nil ?_
    | refine wl_pop rfl (po_move rfl) ?_
    | refine wl_pop rfl (po_assign rfl) ?_
    | refine wl_pop rfl (pc_add rfl rfl (by omega) (by omega)) ?_
    | refine wl_pop rfl (pc_sub rfl rfl (by omega) (by omega)) ?_
    | refine wl_pop rfl (po_binOp rfl rfl rfl) ?_
    | refine wl_pop rfl (pc_boolNeSelf rfl rfl inferInstance) ?_
    | refine wl_pop rfl (pc_boolNe rfl rfl inferInstance) ?_
    | refine wl_pop rfl (pc_boolEq rfl rfl inferInstance) ?_
    | refine wl_pop rfl (pc_indexAddr rfl rfl inferInstance inferInstance (by omega)) ?_
    | refine wc_load1 rfl inferInstance (at_has (.inl rfl) rfl rfl) rfl ?_
    | refine wc_load1 rfl inferInstance inferInstance rfl ?_
    | refine wc_loadn rfl inferInstance (at_has (cs := [_, _]) (.inl rfl) rfl rfl) rfl ?_
    | refine wc_loadn rfl inferInstance (at_has (cs := [_, _, _]) (.inl rfl) rfl rfl) rfl ?_
    | refine wc_loadn rfl inferInstance (at_has (cs := [_, _, _, _]) (.inl rfl) rfl rfl) rfl ?_
    | refine wc_loadn rfl inferInstance inferInstance rfl ?_
    | (refine wc_storeA rfl rfl inferInstance inferInstance rfl inferInstance (Nat.le_of_ble_eq_true rfl) (.inr (may_new _)) ?_; intro _ _)
    | (refine wc_store1 rfl rfl inferInstance inferInstance inferInstance (Nat.le_of_ble_eq_true rfl) (.inr (may_new _)) ?_; intro _ _)
    | (refine wc_makeSlice rfl rfl Un.eq inferInstance rfl (by decide) (by decide) (by omega) (by omega) rfl ?_; intro _ _ _ _ _)
    | refine wl_pop rfl (po_len (ri := 0) rfl Un.eq) ?_
    | refine wl_pop rfl (po_len_nil (ri := 0) rfl Un.eq) ?_
    | refine wl_pop rfl (po_len_str rfl Un.eq) ?_
    | refine wp_condT rfl ?_
    | refine wp_condF rfl ?_
    | refine wp_condP rfl (fun _ => ?_) (fun _ => ?_)
    | refine wp_condNP rfl (fun _ => ?_) (fun _ => ?_)
    | refine wp_condEq rfl (fun _ => ?_) (fun _ => ?_)
    | refine wp_condNe rfl (fun _ => ?_) (fun _ => ?_)
    | refine wp_condA rfl (fun _ => ?_) (fun _ => ?_)
    | refine wl_pop rfl (pc_lenT rfl inferInstance inferInstance) ?_
    | refine at_ret (res1 rfl rfl) ?_
    | refine at_ret (res_cell rfl rfl inferInstance (at_has (cs := [_, _]) (.inl rfl) rfl rfl)) ?_
    | refine at_ret (res_cell rfl rfl inferInstance (at_has (cs := [_, _, _]) (.inl rfl) rfl rfl)) ?_
    | refine at_ret (res_cell rfl rfl inferInstance (at_has (cs := [_, _, _, _]) (.inl rfl) rfl rfl)) ?_
    | refine at_ret (res_cell2 rfl rfl inferInstance (at_has (cs := [_, _]) (.inl rfl) rfl rfl) rfl) ?_
    | refine at_ret (res_cell2 rfl rfl inferInstance (at_has (cs := [_, _, _]) (.inl rfl) rfl rfl) rfl) ?_
    | refine at_ret (res_cell2 rfl rfl inferInstance (at_has (cs := [_, _, _, _]) (.inl rfl) rfl rfl) rfl) ?_
    | refine at_ret (res2 rfl rfl rfl) ?_
    | refine at_ret (res0 rfl) ?_
    | refine at_next (res1 rfl rfl) ?_
    | exact ret_int inferInstance
    | exact ret_ inferInstance rfl
    | exact ret_tm inferInstance inferInstance inferInstance
    | refine wl_pop rfl (pc_indexAddrArr rfl rfl inferInstance inferInstance (by omega)) ?_
    | fail)
  rename_i i σ₁ g1 n1 h1
  have e1 := h1.lt
  have e2 := n1.le
  refine wc_loop [(0, _), (3, _)] (fun k : Nat => [(4, I k)]) (fun k σ' => k ≤ ss.length ∧ LeS σ σ' ∧ σ₁.length ≤ σ'.length ∧ ∃ us, us.length = k ∧ Has σ' i (Row (us ++ List.replicate (ss.length - k) nilS)) ∧ ORs σ₁ σ' us (g.take k)) (fun k => ss.length - k) 0 ⟨Nat.zero_le _, inferInstance, Nat.le_refl _, [], rfl, h1, ORs.nil _ _⟩ (by repeat' (first | exact sub_nil | refine sub_cons rfl ?_ | refine sub_int rfl (by first | rfl | omega | (push_cast; omega) | simp) ?_ | refine sub_eq rfl (by assumption) ?_)) ?_
  rintro k σ' ⟨hk, hle, hlen, us, hus, hi, hor⟩
  have := hle.grow
  repeat' (first
    | (refine wc_call rfl inferInstance rfl (c_toBoolS _ _) rfl ?_; rintro u σ3 ⟨ou, g3⟩; have := ou.one)
    | (refine wc_stAV rfl rfl inferInstance inferInstance (by simp; omega) (.inr (may_new _)) ?_; intro _ _)
    | refine wl_pop rfl (pc_ldNat rfl inferInstance inferInstance (by omega) inferInstance) ?_
    | refine wl_pop rfl (pc_ldInt rfl inferInstance inferInstance (by omega) inferInstance) ?_
    | refine wl_pop rfl (pc_ldBool rfl inferInstance inferInstance (by omega) inferInstance) ?_
    | refine wl_pop rfl (pc_ldAV rfl inferInstance inferInstance (by omega) inferInstance) ?_
    | refine wl_pop rfl (pc_ldMv rfl inferInstance inferInstance (by omega) inferInstance) ?_
    | refine wl_pop rfl (pc_ldMv1 rfl inferInstance inferInstance (by omega) inferInstance) ?_
    | refine wl_pop rfl (pc_ldMv2 rfl inferInstance inferInstance (by omega) inferInstance) ?_
    | refine wl_pop rfl (pc_loNat rfl inferInstance inferInstance (by omega) inferInstance) ?_
    | refine wl_pop rfl (pc_loInt rfl inferInstance inferInstance (by omega) inferInstance) ?_
    | refine wl_pop rfl (pc_loBool rfl inferInstance inferInstance (by omega) inferInstance) ?_
    | refine wl_pop rfl (pc_loAV rfl inferInstance inferInstance (by omega) inferInstance) ?_
    | refine wl_pop rfl (pc_loMv rfl inferInstance inferInstance (by omega) inferInstance) ?_
    | refine wl_pop rfl (pc_loMv1 rfl inferInstance inferInstance (by omega) inferInstance) ?_
    | refine wl_pop rfl (pc_loMv2 rfl inferInstance inferInstance (by omega) inferInstance) ?_
    | refine wl_pop rfl (pc_indexRow rfl rfl inferInstance inferInstance inferInstance (by omega)) ?_
    | refine wl_pop rfl (pc_indexRowZ rfl rfl inferInstance inferInstance inferInstance (by omega) (by omega)) ?_
    | refine wl_pop rfl (pc_lenRow rfl inferInstance inferInstance) ?_
    | refine wc_loadn rfl inferInstance (at_has (cs := [_]) (.inl rfl) rfl rfl) rfl ?_
    | refine at_ret (res_cell rfl rfl inferInstance (at_has (cs := [_]) (.inl rfl) rfl rfl)) ?_
    | refine at_ret (res_cell2 rfl rfl inferInstance (at_has (cs := [_]) (.inl rfl) rfl rfl) rfl) ?_
    | refine wl_pop rfl (pc_eqMv rfl rfl inferInstance) ?_
    | refine wl_pop rfl (pc_neMv rfl rfl inferInstance) ?_
    | refine wp_condPr rfl (fun _ => ?_) (fun _ => ?_)
    | refine wp_condNPr rfl (fun _ => ?_) (fun _ => ?_)
    | refine wp_seqA ?_
    | refine wp_region_seq ?_
    | refine thru_seq_next ?_
    | refine thru_seq_ret ?_
    | refine thru_seq ?_
    | refine thru_block_ret ?_
    | refine thru_block_next ?_
    | refine exit_here ?_
    | refine exit_past (by decide) ?_
    | refine thru_scope_ret ?_
    | refine thru_scope_next ?_
    | refine thru_scope ?_
    | refine wp_skipA ?_
    | refine wp_retA ?_
    | refine wp_exitA ?_
    | refine wp_blockA ?_
    | refine wp_scopeA ?_
    | refine wl_nil ?_
    | refine wl_pop rfl (po_move rfl) ?_
    | refine wl_pop rfl (po_assign rfl) ?_
    | refine wl_pop rfl (pc_add rfl rfl (by omega) (by omega)) ?_
    | refine wl_pop rfl (pc_sub rfl rfl (by omega) (by omega)) ?_
    | refine wl_pop rfl (po_binOp rfl rfl rfl) ?_
    | refine wl_pop rfl (pc_boolNeSelf rfl rfl inferInstance) ?_
    | refine wl_pop rfl (pc_boolNe rfl rfl inferInstance) ?_
    | refine wl_pop rfl (pc_boolEq rfl rfl inferInstance) ?_
    | refine wl_pop rfl (pc_indexAddr rfl rfl inferInstance inferInstance (by omega)) ?_
    | refine wc_load1 rfl inferInstance (at_has (.inl rfl) rfl rfl) rfl ?_
    | refine wc_load1 rfl inferInstance inferInstance rfl ?_
    | refine wc_loadn rfl inferInstance (at_has (cs := [_, _]) (.inl rfl) rfl rfl) rfl ?_
    | refine wc_loadn rfl inferInstance (at_has (cs := [_, _, _]) (.inl rfl) rfl rfl) rfl ?_
    | refine wc_loadn rfl inferInstance (at_has (cs := [_, _, _, _]) (.inl rfl) rfl rfl) rfl ?_
    | refine wc_loadn rfl inferInstance inferInstance rfl ?_
    | (refine wc_storeA rfl rfl inferInstance inferInstance rfl inferInstance (Nat.le_of_ble_eq_true rfl) (.inr (may_new _)) ?_; intro _ _)
    | (refine wc_store1 rfl rfl inferInstance inferInstance inferInstance (Nat.le_of_ble_eq_true rfl) (.inr (may_new _)) ?_; intro _ _)
    | (refine wc_makeSlice rfl rfl Un.eq inferInstance rfl (by decide) (by decide) (by omega) (by omega) rfl ?_; intro _ _ _ _ _)
    | refine wl_pop rfl (po_len (ri := 0) rfl Un.eq) ?_
    | refine wl_pop rfl (po_len_nil (ri := 0) rfl Un.eq) ?_
    | refine wl_pop rfl (po_len_str rfl Un.eq) ?_
    | refine wp_condT rfl ?_
    | refine wp_condF rfl ?_
    | refine wp_condP rfl (fun _ => ?_) (fun _ => ?_)
    | refine wp_condNP rfl (fun _ => ?_) (fun _ => ?_)
    | refine wp_condEq rfl (fun _ => ?_) (fun _ => ?_)
    | refine wp_condNe rfl (fun _ => ?_) (fun _ => ?_)
    | refine wp_condA rfl (fun _ => ?_) (fun _ => ?_)
    | refine wl_pop rfl (pc_lenT rfl inferInstance inferInstance) ?_
    | refine at_ret (res1 rfl rfl) ?_
    | refine at_ret (res_cell rfl rfl inferInstance (at_has (cs := [_, _]) (.inl rfl) rfl rfl)) ?_
    | refine at_ret (res_cell rfl rfl inferInstance (at_has (cs := [_, _, _]) (.inl rfl) rfl rfl)) ?_
    | refine at_ret (res_cell rfl rfl inferInstance (at_has (cs := [_, _, _, _]) (.inl rfl) rfl rfl)) ?_
    | refine at_ret (res_cell2 rfl rfl inferInstance (at_has (cs := [_, _]) (.inl rfl) rfl rfl) rfl) ?_
    | refine at_ret (res_cell2 rfl rfl inferInstance (at_has (cs := [_, _, _]) (.inl rfl) rfl rfl) rfl) ?_
    | refine at_ret (res_cell2 rfl rfl inferInstance (at_has (cs := [_, _, _, _]) (.inl rfl) rfl rfl) rfl) ?_
    | refine at_ret (res2 rfl rfl rfl) ?_
    | refine at_ret (res0 rfl) ?_
    | refine at_next (res1 rfl rfl) ?_
    | exact ret_int inferInstance
    | exact ret_ inferInstance rfl
    | exact ret_tm inferInstance inferInstance inferInstance
    | refine wl_pop rfl (pc_indexAddrArr rfl rfl inferInstance inferInstance (by omega)) ?_
    | fail)
  · rename_i hk' σ4 u4
    have hk' : k < ss.length := by omega
    have hh : Has σ4 i _ := instHasUpd (g := u4)
    have e3 : (us ++ List.replicate (ss.length - k) nilS).set k u = (us ++ [u]) ++ List.replicate (ss.length - (k + 1)) nilS := by
      obtain ⟨m, hm⟩ : ∃ m, ss.length - k = m + 1 := ⟨ss.length - k - 1, by omega⟩
      rw [List.set_append_right _ _ (by omega), hus, Nat.sub_self, hm, show ss.length - (k + 1) = m by omega, List.replicate_succ, List.set_cons_zero]
      simp
    rw [e3] at hh
    have e4 : g.take (k + 1) = g.take k ++ [g.getD k []] := by
      rw [List.take_succ_eq_append_getElem (by omega)]
      simp [List.getD_eq_getElem?_getD, show k < g.length by omega]
    refine ⟨k + 1, by omega, ⟨hk', inferInstance, ?_, us ++ [u], by simp [hus], hh, ?_⟩, (by repeat' (first | exact sub_nil | refine sub_cons rfl ?_ | refine sub_int rfl (by first | rfl | omega | (push_cast; omega) | simp) ?_ | refine sub_eq rfl (by assumption) ?_))⟩
    · have := u4.lt; have := g3.len; have h5 : σ4.length = σ3.length := by rw [u4.eq]; simp
      omega
    · rw [e4]
      have e6 : Has σ₁ i _ := h1
      have hor4 : ORs σ₁ σ4 us (g.take k) := inferInstance
      exact hor.snoc hor4 hlen inferInstance
  · obtain rfl : k = ss.length := by omega
    rw [Nat.sub_self, List.replicate_zero, List.append_nil] at hi
    refine ⟨us, ow_of_has hi (may_new σ) (by omega) hb, ?_, inferInstance⟩
    rw [List.take_of_length_le (by omega)] at hor
    exact hor.down (by omega)
theorem c_eqBoolS (σ : Store) (s s' : AV) {l l' : List Bool} [hs : RW σ s l] [hs' : RW σ s' l'] : ACall Try.prog base F_laws_eqBoolS [s, s'] σ (fun _ => False) (Ret σ (Bo (eqB l l'))) := by
  have hb := hs.bound
  have hb' := hs'.bound
  refine acall2 fun_laws_eqBoolS rfl tmps_laws_eqBoolS rfl fun N B w₀ ρ₀ => ?_
  repeat' (first
    | refine wl_pop rfl (pc_ldNat rfl inferInstance inferInstance (by omega) inferInstance) ?_
    | refine wl_pop rfl (pc_ldInt rfl inferInstance inferInstance (by omega) inferInstance) ?_
    | refine wl_pop rfl (pc_ldBool rfl inferInstance inferInstance (by omega) inferInstance) ?_
    | refine wl_pop rfl (pc_ldAV rfl inferInstance inferInstance (by omega) inferInstance) ?_
    | refine wl_pop rfl (pc_ldMv rfl inferInstance inferInstance (by omega) inferInstance) ?_
    | refine wl_pop rfl (pc_ldMv1 rfl inferInstance inferInstance (by omega) inferInstance) ?_
    | refine wl_pop rfl (pc_ldMv2 rfl inferInstance inferInstance (by omega) inferInstance) ?_
    | refine wl_pop rfl (pc_loNat rfl inferInstance inferInstance (by omega) inferInstance) ?_
    | refine wl_pop rfl (pc_loInt rfl inferInstance inferInstance (by omega) inferInstance) ?_
    | refine wl_pop rfl (pc_loBool rfl inferInstance inferInstance (by omega) inferInstance) ?_
    | refine wl_pop rfl (pc_loAV rfl inferInstance inferInstance (by omega) inferInstance) ?_
    | refine wl_pop rfl (pc_loMv rfl inferInstance inferInstance (by omega) inferInstance) ?_
    | refine wl_pop rfl (pc_loMv1 rfl inferInstance inferInstance (by omega) inferInstance) ?_
    | refine wl_pop rfl (pc_loMv2 rfl inferInstance inferInstance (by omega) inferInstance) ?_
    | refine wl_pop rfl (pc_indexRow rfl rfl inferInstance inferInstance inferInstance (by omega)) ?_
    | refine wl_pop rfl (pc_indexRowZ rfl rfl inferInstance inferInstance inferInstance (by omega) (by omega)) ?_
    | refine wl_pop rfl (pc_lenRow rfl inferInstance inferInstance) ?_
    | refine wc_loadn rfl inferInstance (at_has (cs := [_]) (.inl rfl) rfl rfl) rfl ?_
    | refine at_ret (res_cell rfl rfl inferInstance (at_has (cs := [_]) (.inl rfl) rfl rfl)) ?_
    | refine at_ret (res_cell2 rfl rfl inferInstance (at_has (cs := [_]) (.inl rfl) rfl rfl) rfl) ?_
    | refine wl_pop rfl (pc_eqMv rfl rfl inferInstance) ?_
    | refine wl_pop rfl (pc_neMv rfl rfl inferInstance) ?_
    | refine wp_condPr rfl (fun _ => ?_) (fun _ => ?_)
    | refine wp_condNPr rfl (fun _ => ?_) (fun _ => ?_)
    | refine wp_seqA ?_
    | refine wp_region_seq ?_
    | refine thru_seq_next ?_
    | refine thru_seq_ret ?_
    | refine thru_seq ?_
    | refine thru_block_ret ?_
    | refine thru_block_next ?_
    | refine exit_here ?_
    | refine exit_past (by decide) ?_
    | refine thru_scope_ret ?_
    | refine thru_scope_next ?_
    | refine thru_scope ?_
    | refine wp_skipA ?_
    | refine wp_retA ?_
    | refine wp_exitA ?_
    | refine wp_blockA ?_
    | refine wp_scopeA ?_
    | refine wl_nil ?_
    | refine wl_pop rfl (po_move rfl) ?_
    | refine wl_pop rfl (po_assign rfl) ?_
    | refine wl_pop rfl (pc_add rfl rfl (by omega) (by omega)) ?_
    | refine wl_pop rfl (pc_sub rfl rfl (by omega) (by omega)) ?_
    | refine wl_pop rfl (po_binOp rfl rfl rfl) ?_
    | refine wl_pop rfl (pc_boolNeSelf rfl rfl inferInstance) ?_
    | refine wl_pop rfl (pc_boolNe rfl rfl inferInstance) ?_
    | refine wl_pop rfl (pc_boolEq rfl rfl inferInstance) ?_
    | refine wl_pop rfl (pc_indexAddr rfl rfl inferInstance inferInstance (by omega)) ?_
    | refine wc_load1 rfl inferInstance (at_has (.inl rfl) rfl rfl) rfl ?_
    | refine wc_load1 rfl inferInstance inferInstance rfl ?_
    | refine wc_loadn rfl inferInstance (at_has (cs := [_, _]) (.inl rfl) rfl rfl) rfl ?_
    | refine wc_loadn rfl inferInstance (at_has (cs := [_, _, _]) (.inl rfl) rfl rfl) rfl ?_
    | refine wc_loadn rfl inferInstance (at_has (cs := [_, _, _, _]) (.inl rfl) rfl rfl) rfl ?_
    | refine wc_loadn rfl inferInstance inferInstance rfl ?_
    | refine wl_pop rfl (po_len (ri := 0) rfl Un.eq) ?_
    | refine wl_pop rfl (po_len_nil (ri := 0) rfl Un.eq) ?_
    | refine wl_pop rfl (po_len_str rfl Un.eq) ?_
    | refine wp_condT rfl ?_
    | refine wp_condF rfl ?_
    | refine wp_condP rfl (fun _ => ?_) (fun _ => ?_)
    | refine wp_condNP rfl (fun _ => ?_) (fun _ => ?_)
    | refine wp_condEq rfl (fun _ => ?_) (fun _ => ?_)
    | refine wp_condNe rfl (fun _ => ?_) (fun _ => ?_)
    | refine wp_condA rfl (fun _ => ?_) (fun _ => ?_)
    | refine wl_pop rfl (pc_lenT rfl inferInstance inferInstance) ?_
    | refine at_ret (res1 rfl rfl) ?_
    | refine at_ret (res_cell rfl rfl inferInstance (at_has (cs := [_, _]) (.inl rfl) rfl rfl)) ?_
    | refine at_ret (res_cell rfl rfl inferInstance (at_has (cs := [_, _, _]) (.inl rfl) rfl rfl)) ?_
    | refine at_ret (res_cell rfl rfl inferInstance (at_has (cs := [_, _, _, _]) (.inl rfl) rfl rfl)) ?_
    | refine at_ret (res_cell2 rfl rfl inferInstance (at_has (cs := [_, _]) (.inl rfl) rfl rfl) rfl) ?_
    | refine at_ret (res_cell2 rfl rfl inferInstance (at_has (cs := [_, _, _]) (.inl rfl) rfl rfl) rfl) ?_
    | refine at_ret (res_cell2 rfl rfl inferInstance (at_has (cs := [_, _, _, _]) (.inl rfl) rfl rfl) rfl) ?_
    | refine at_ret (res2 rfl rfl rfl) ?_
    | refine at_ret (res0 rfl) ?_
    | refine at_next (res1 rfl rfl) ?_
    | exact ret_int inferInstance
    | exact ret_ inferInstance rfl
    | exact ret_tm inferInstance inferInstance inferInstance
    | refine wl_pop rfl (pc_indexAddrArr rfl rfl inferInstance inferInstance (by omega)) ?_
    | fail)
  · refine ret_ inferInstance (congrArg Bo (eqB_ne ?_).symm)
    rintro rfl; simp_all
  rename_i hl
  have hl' : l.length = l'.length := by omega
  refine wc_loop [(0, _), (1, _)] (fun k : Nat => [(5, I k)]) (fun k σ' => k ≤ l.length ∧ l.take k = l'.take k ∧ LeS σ σ') (fun k => l.length - k) 0 ⟨Nat.zero_le _, rfl, inferInstance⟩ (by repeat' (first | exact sub_nil | refine sub_cons rfl ?_ | refine sub_int rfl (by first | rfl | omega | (push_cast; omega) | simp) ?_ | refine sub_eq rfl (by assumption) ?_)) ?_
  rintro k σ' ⟨hk, htk, hg⟩
  have := hg.grow
  repeat' (first
    | refine wl_pop rfl (pc_ldNat rfl inferInstance inferInstance (by omega) inferInstance) ?_
    | refine wl_pop rfl (pc_ldInt rfl inferInstance inferInstance (by omega) inferInstance) ?_
    | refine wl_pop rfl (pc_ldBool rfl inferInstance inferInstance (by omega) inferInstance) ?_
    | refine wl_pop rfl (pc_ldAV rfl inferInstance inferInstance (by omega) inferInstance) ?_
    | refine wl_pop rfl (pc_ldMv rfl inferInstance inferInstance (by omega) inferInstance) ?_
    | refine wl_pop rfl (pc_ldMv1 rfl inferInstance inferInstance (by omega) inferInstance) ?_
    | refine wl_pop rfl (pc_ldMv2 rfl inferInstance inferInstance (by omega) inferInstance) ?_
    | refine wl_pop rfl (pc_loNat rfl inferInstance inferInstance (by omega) inferInstance) ?_
    | refine wl_pop rfl (pc_loInt rfl inferInstance inferInstance (by omega) inferInstance) ?_
    | refine wl_pop rfl (pc_loBool rfl inferInstance inferInstance (by omega) inferInstance) ?_
    | refine wl_pop rfl (pc_loAV rfl inferInstance inferInstance (by omega) inferInstance) ?_
    | refine wl_pop rfl (pc_loMv rfl inferInstance inferInstance (by omega) inferInstance) ?_
    | refine wl_pop rfl (pc_loMv1 rfl inferInstance inferInstance (by omega) inferInstance) ?_
    | refine wl_pop rfl (pc_loMv2 rfl inferInstance inferInstance (by omega) inferInstance) ?_
    | refine wl_pop rfl (pc_indexRow rfl rfl inferInstance inferInstance inferInstance (by omega)) ?_
    | refine wl_pop rfl (pc_indexRowZ rfl rfl inferInstance inferInstance inferInstance (by omega) (by omega)) ?_
    | refine wl_pop rfl (pc_lenRow rfl inferInstance inferInstance) ?_
    | refine wc_loadn rfl inferInstance (at_has (cs := [_]) (.inl rfl) rfl rfl) rfl ?_
    | refine at_ret (res_cell rfl rfl inferInstance (at_has (cs := [_]) (.inl rfl) rfl rfl)) ?_
    | refine at_ret (res_cell2 rfl rfl inferInstance (at_has (cs := [_]) (.inl rfl) rfl rfl) rfl) ?_
    | refine wl_pop rfl (pc_eqMv rfl rfl inferInstance) ?_
    | refine wl_pop rfl (pc_neMv rfl rfl inferInstance) ?_
    | refine wp_condPr rfl (fun _ => ?_) (fun _ => ?_)
    | refine wp_condNPr rfl (fun _ => ?_) (fun _ => ?_)
    | refine wp_seqA ?_
    | refine wp_region_seq ?_
    | refine thru_seq_next ?_
    | refine thru_seq_ret ?_
    | refine thru_seq ?_
    | refine thru_block_ret ?_
    | refine thru_block_next ?_
    | refine exit_here ?_
    | refine exit_past (by decide) ?_
    | refine thru_scope_ret ?_
    | refine thru_scope_next ?_
    | refine thru_scope ?_
    | refine wp_skipA ?_
    | refine wp_retA ?_
    | refine wp_exitA ?_
    | refine wp_blockA ?_
    | refine wp_scopeA ?_
    | refine wl_nil ?_
    | refine wl_pop rfl (po_move rfl) ?_
    | refine wl_pop rfl (po_assign rfl) ?_
    | refine wl_pop rfl (pc_add rfl rfl (by omega) (by omega)) ?_
    | refine wl_pop rfl (pc_sub rfl rfl (by omega) (by omega)) ?_
    | refine wl_pop rfl (po_binOp rfl rfl rfl) ?_
    | refine wl_pop rfl (pc_boolNeSelf rfl rfl inferInstance) ?_
    | refine wl_pop rfl (pc_boolNe rfl rfl inferInstance) ?_
    | refine wl_pop rfl (pc_boolEq rfl rfl inferInstance) ?_
    | refine wl_pop rfl (pc_indexAddr rfl rfl inferInstance inferInstance (by omega)) ?_
    | refine wc_load1 rfl inferInstance (at_has (.inl rfl) rfl rfl) rfl ?_
    | refine wc_load1 rfl inferInstance inferInstance rfl ?_
    | refine wc_loadn rfl inferInstance (at_has (cs := [_, _]) (.inl rfl) rfl rfl) rfl ?_
    | refine wc_loadn rfl inferInstance (at_has (cs := [_, _, _]) (.inl rfl) rfl rfl) rfl ?_
    | refine wc_loadn rfl inferInstance (at_has (cs := [_, _, _, _]) (.inl rfl) rfl rfl) rfl ?_
    | refine wc_loadn rfl inferInstance inferInstance rfl ?_
    | refine wl_pop rfl (po_len (ri := 0) rfl Un.eq) ?_
    | refine wl_pop rfl (po_len_nil (ri := 0) rfl Un.eq) ?_
    | refine wl_pop rfl (po_len_str rfl Un.eq) ?_
    | refine wp_condT rfl ?_
    | refine wp_condF rfl ?_
    | refine wp_condP rfl (fun _ => ?_) (fun _ => ?_)
    | refine wp_condNP rfl (fun _ => ?_) (fun _ => ?_)
    | refine wp_condEq rfl (fun _ => ?_) (fun _ => ?_)
    | refine wp_condNe rfl (fun _ => ?_) (fun _ => ?_)
    | refine wp_condA rfl (fun _ => ?_) (fun _ => ?_)
    | refine wl_pop rfl (pc_lenT rfl inferInstance inferInstance) ?_
    | refine at_ret (res1 rfl rfl) ?_
    | refine at_ret (res_cell rfl rfl inferInstance (at_has (cs := [_, _]) (.inl rfl) rfl rfl)) ?_
    | refine at_ret (res_cell rfl rfl inferInstance (at_has (cs := [_, _, _]) (.inl rfl) rfl rfl)) ?_
    | refine at_ret (res_cell rfl rfl inferInstance (at_has (cs := [_, _, _, _]) (.inl rfl) rfl rfl)) ?_
    | refine at_ret (res_cell2 rfl rfl inferInstance (at_has (cs := [_, _]) (.inl rfl) rfl rfl) rfl) ?_
    | refine at_ret (res_cell2 rfl rfl inferInstance (at_has (cs := [_, _, _]) (.inl rfl) rfl rfl) rfl) ?_
    | refine at_ret (res_cell2 rfl rfl inferInstance (at_has (cs := [_, _, _, _]) (.inl rfl) rfl rfl) rfl) ?_
    | refine at_ret (res2 rfl rfl rfl) ?_
    | refine at_ret (res0 rfl) ?_
    | refine at_next (res1 rfl rfl) ?_
    | exact ret_int inferInstance
    | exact ret_ inferInstance rfl
    | exact ret_tm inferInstance inferInstance inferInstance
    | refine wl_pop rfl (pc_indexAddrArr rfl rfl inferInstance inferInstance (by omega)) ?_
    | fail)
  rotate_left
  · refine ret_ inferInstance (congrArg Bo ?_)
    have : k = l.length := by omega
    subst this
    rw [List.take_length, List.take_of_length_le (by omega)] at htk
    rw [htk, eqB_self]
  have hk' : k < l.length := by omega
  have hk2 : k < l'.length := by omega
  refine wc_drawn [] mixed_ rfl ?_
  all_goals refine da_takeC 0 rfl rfl (by kernel_rfl) (by first | exact po_move rfl) ?_
  all_goals refine da_takeC 1 rfl rfl (by kernel_rfl) (by first | exact po_move rfl) ?_
  all_goals refine da_takeC 2 rfl rfl (by kernel_rfl) (by first | exact pc_indexRow rfl rfl inferInstance inferInstance inferInstance (by omega) | exact pc_indexRowZ rfl rfl inferInstance inferInstance inferInstance (by omega) (by omega) | exact pc_indexAddr rfl rfl inferInstance inferInstance (by omega) | exact pc_indexAddrArr rfl rfl inferInstance inferInstance (by omega)) ?_
  all_goals refine da_takeC 3 rfl rfl (by kernel_rfl) (by first | exact pc_loadnL rfl inferInstance (at_has (cs := [_]) (.inl rfl) rfl rfl) inferInstance | exact pc_ldNat rfl inferInstance inferInstance (by omega) inferInstance | exact pc_ldInt rfl inferInstance inferInstance (by omega) inferInstance | exact pc_ldBool rfl inferInstance inferInstance (by omega) inferInstance | exact pc_ldAV rfl inferInstance inferInstance (by omega) inferInstance | exact pc_ldMv rfl inferInstance inferInstance (by omega) inferInstance | exact pc_ldMv1 rfl inferInstance inferInstance (by omega) inferInstance | exact pc_ldMv2 rfl inferInstance inferInstance (by omega) inferInstance | exact pc_loNat rfl inferInstance inferInstance (by omega) inferInstance | exact pc_loInt rfl inferInstance inferInstance (by omega) inferInstance | exact pc_loBool rfl inferInstance inferInstance (by omega) inferInstance | exact pc_loAV rfl inferInstance inferInstance (by omega) inferInstance | exact pc_loMv rfl inferInstance inferInstance (by omega) inferInstance | exact pc_loMv1 rfl inferInstance inferInstance (by omega) inferInstance | exact pc_loMv2 rfl inferInstance inferInstance (by omega) inferInstance | exact pc_load1L rfl inferInstance (at_has (.inl rfl) rfl rfl) inferInstance | exact pc_load1L rfl inferInstance inferInstance inferInstance | exact pc_loadnL rfl inferInstance (at_has (cs := [_, _]) (.inl rfl) rfl rfl) inferInstance | exact pc_loadnL rfl inferInstance (at_has (cs := [_, _, _]) (.inl rfl) rfl rfl) inferInstance | exact pc_loadnL rfl inferInstance inferInstance inferInstance) ?_
  all_goals refine da_takeC 4 rfl rfl (by kernel_rfl) (by first | exact po_move rfl) ?_
  all_goals refine da_takeC 5 rfl rfl (by kernel_rfl) (by first | exact po_move rfl) ?_
  all_goals refine da_takeC 6 rfl rfl (by kernel_rfl) (by first | exact pc_indexRow rfl rfl inferInstance inferInstance inferInstance (by omega) | exact pc_indexRowZ rfl rfl inferInstance inferInstance inferInstance (by omega) (by omega) | exact pc_indexAddr rfl rfl inferInstance inferInstance (by omega) | exact pc_indexAddrArr rfl rfl inferInstance inferInstance (by omega)) ?_
  all_goals refine da_takeC 7 rfl rfl (by kernel_rfl) (by first | exact pc_loadnL rfl inferInstance (at_has (cs := [_]) (.inl rfl) rfl rfl) inferInstance | exact pc_ldNat rfl inferInstance inferInstance (by omega) inferInstance | exact pc_ldInt rfl inferInstance inferInstance (by omega) inferInstance | exact pc_ldBool rfl inferInstance inferInstance (by omega) inferInstance | exact pc_ldAV rfl inferInstance inferInstance (by omega) inferInstance | exact pc_ldMv rfl inferInstance inferInstance (by omega) inferInstance | exact pc_ldMv1 rfl inferInstance inferInstance (by omega) inferInstance | exact pc_ldMv2 rfl inferInstance inferInstance (by omega) inferInstance | exact pc_loNat rfl inferInstance inferInstance (by omega) inferInstance | exact pc_loInt rfl inferInstance inferInstance (by omega) inferInstance | exact pc_loBool rfl inferInstance inferInstance (by omega) inferInstance | exact pc_loAV rfl inferInstance inferInstance (by omega) inferInstance | exact pc_loMv rfl inferInstance inferInstance (by omega) inferInstance | exact pc_loMv1 rfl inferInstance inferInstance (by omega) inferInstance | exact pc_loMv2 rfl inferInstance inferInstance (by omega) inferInstance | exact pc_load1L rfl inferInstance (at_has (.inl rfl) rfl rfl) inferInstance | exact pc_load1L rfl inferInstance inferInstance inferInstance | exact pc_loadnL rfl inferInstance (at_has (cs := [_, _]) (.inl rfl) rfl rfl) inferInstance | exact pc_loadnL rfl inferInstance (at_has (cs := [_, _, _]) (.inl rfl) rfl rfl) inferInstance | exact pc_loadnL rfl inferInstance inferInstance inferInstance) ?_
  all_goals refine da_takeC 8 rfl rfl (by kernel_rfl) (by first | exact pc_eqMv rfl rfl inferInstance | exact pc_neMv rfl rfl inferInstance | exact pc_add rfl rfl (by omega) (by omega) | exact pc_sub rfl rfl (by omega) (by omega) | exact po_binOp rfl rfl rfl | exact pc_boolNeSelf rfl rfl inferInstance | exact pc_boolNe rfl rfl inferInstance | exact pc_boolEq rfl rfl inferInstance) ?_
  all_goals refine da_done (by kernel_rfl) ?_
  repeat' (first
    | refine wl_pop rfl (pc_ldNat rfl inferInstance inferInstance (by omega) inferInstance) ?_
    | refine wl_pop rfl (pc_ldInt rfl inferInstance inferInstance (by omega) inferInstance) ?_
    | refine wl_pop rfl (pc_ldBool rfl inferInstance inferInstance (by omega) inferInstance) ?_
    | refine wl_pop rfl (pc_ldAV rfl inferInstance inferInstance (by omega) inferInstance) ?_
    | refine wl_pop rfl (pc_ldMv rfl inferInstance inferInstance (by omega) inferInstance) ?_
    | refine wl_pop rfl (pc_ldMv1 rfl inferInstance inferInstance (by omega) inferInstance) ?_
    | refine wl_pop rfl (pc_ldMv2 rfl inferInstance inferInstance (by omega) inferInstance) ?_
    | refine wl_pop rfl (pc_loNat rfl inferInstance inferInstance (by omega) inferInstance) ?_
    | refine wl_pop rfl (pc_loInt rfl inferInstance inferInstance (by omega) inferInstance) ?_
    | refine wl_pop rfl (pc_loBool rfl inferInstance inferInstance (by omega) inferInstance) ?_
    | refine wl_pop rfl (pc_loAV rfl inferInstance inferInstance (by omega) inferInstance) ?_
    | refine wl_pop rfl (pc_loMv rfl inferInstance inferInstance (by omega) inferInstance) ?_
    | refine wl_pop rfl (pc_loMv1 rfl inferInstance inferInstance (by omega) inferInstance) ?_
    | refine wl_pop rfl (pc_loMv2 rfl inferInstance inferInstance (by omega) inferInstance) ?_
    | refine wl_pop rfl (pc_indexRow rfl rfl inferInstance inferInstance inferInstance (by omega)) ?_
    | refine wl_pop rfl (pc_indexRowZ rfl rfl inferInstance inferInstance inferInstance (by omega) (by omega)) ?_
    | refine wl_pop rfl (pc_lenRow rfl inferInstance inferInstance) ?_
    | refine wc_loadn rfl inferInstance (at_has (cs := [_]) (.inl rfl) rfl rfl) rfl ?_
    | refine at_ret (res_cell rfl rfl inferInstance (at_has (cs := [_]) (.inl rfl) rfl rfl)) ?_
    | refine at_ret (res_cell2 rfl rfl inferInstance (at_has (cs := [_]) (.inl rfl) rfl rfl) rfl) ?_
    | refine wl_pop rfl (pc_eqMv rfl rfl inferInstance) ?_
    | refine wl_pop rfl (pc_neMv rfl rfl inferInstance) ?_
    | refine wp_condPr rfl (fun _ => ?_) (fun _ => ?_)
    | refine wp_condNPr rfl (fun _ => ?_) (fun _ => ?_)
    | refine wp_seqA ?_
    | refine wp_region_seq ?_
    | refine thru_seq_next ?_
    | refine thru_seq_ret ?_
    | refine thru_seq ?_
    | refine thru_block_ret ?_
    | refine thru_block_next ?_
    | refine exit_here ?_
    | refine exit_past (by decide) ?_
    | refine thru_scope_ret ?_
    | refine thru_scope_next ?_
    | refine thru_scope ?_
    | refine wp_skipA ?_
    | refine wp_retA ?_
    | refine wp_exitA ?_
    | refine wp_blockA ?_
    | refine wp_scopeA ?_
    | refine wl_nil ?_
    | refine wl_pop rfl (po_move rfl) ?_
    | refine wl_pop rfl (po_assign rfl) ?_
    | refine wl_pop rfl (pc_add rfl rfl (by omega) (by omega)) ?_
    | refine wl_pop rfl (pc_sub rfl rfl (by omega) (by omega)) ?_
    | refine wl_pop rfl (po_binOp rfl rfl rfl) ?_
    | refine wl_pop rfl (pc_boolNeSelf rfl rfl inferInstance) ?_
    | refine wl_pop rfl (pc_boolNe rfl rfl inferInstance) ?_
    | refine wl_pop rfl (pc_boolEq rfl rfl inferInstance) ?_
    | refine wl_pop rfl (pc_indexAddr rfl rfl inferInstance inferInstance (by omega)) ?_
    | refine wc_load1 rfl inferInstance (at_has (.inl rfl) rfl rfl) rfl ?_
    | refine wc_load1 rfl inferInstance inferInstance rfl ?_
    | refine wc_loadn rfl inferInstance (at_has (cs := [_, _]) (.inl rfl) rfl rfl) rfl ?_
    | refine wc_loadn rfl inferInstance (at_has (cs := [_, _, _]) (.inl rfl) rfl rfl) rfl ?_
    | refine wc_loadn rfl inferInstance (at_has (cs := [_, _, _, _]) (.inl rfl) rfl rfl) rfl ?_
    | refine wc_loadn rfl inferInstance inferInstance rfl ?_
    | refine wl_pop rfl (po_len (ri := 0) rfl Un.eq) ?_
    | refine wl_pop rfl (po_len_nil (ri := 0) rfl Un.eq) ?_
    | refine wl_pop rfl (po_len_str rfl Un.eq) ?_
    | refine wp_condT rfl ?_
    | refine wp_condF rfl ?_
    | refine wp_condP rfl (fun _ => ?_) (fun _ => ?_)
    | refine wp_condNP rfl (fun _ => ?_) (fun _ => ?_)
    | refine wp_condEq rfl (fun _ => ?_) (fun _ => ?_)
    | refine wp_condNe rfl (fun _ => ?_) (fun _ => ?_)
    | refine wp_condA rfl (fun _ => ?_) (fun _ => ?_)
    | refine wl_pop rfl (pc_lenT rfl inferInstance inferInstance) ?_
    | refine at_ret (res1 rfl rfl) ?_
    | refine at_ret (res_cell rfl rfl inferInstance (at_has (cs := [_, _]) (.inl rfl) rfl rfl)) ?_
    | refine at_ret (res_cell rfl rfl inferInstance (at_has (cs := [_, _, _]) (.inl rfl) rfl rfl)) ?_
    | refine at_ret (res_cell rfl rfl inferInstance (at_has (cs := [_, _, _, _]) (.inl rfl) rfl rfl)) ?_
    | refine at_ret (res_cell2 rfl rfl inferInstance (at_has (cs := [_, _]) (.inl rfl) rfl rfl) rfl) ?_
    | refine at_ret (res_cell2 rfl rfl inferInstance (at_has (cs := [_, _, _]) (.inl rfl) rfl rfl) rfl) ?_
    | refine at_ret (res_cell2 rfl rfl inferInstance (at_has (cs := [_, _, _, _]) (.inl rfl) rfl rfl) rfl) ?_
    | refine at_ret (res2 rfl rfl rfl) ?_
    | refine at_ret (res0 rfl) ?_
    | refine at_next (res1 rfl rfl) ?_
    | exact ret_int inferInstance
    | exact ret_ inferInstance rfl
    | exact ret_tm inferInstance inferInstance inferInstance
    | refine wl_pop rfl (pc_indexAddrArr rfl rfl inferInstance inferInstance (by omega)) ?_
    | fail)
  · rename_i he
    refine ret_ inferInstance (congrArg Bo (eqB_ne ?_).symm)
    rintro rfl
    simp_all
  · rename_i he
    have he' : l.getD k false = l'.getD k false := by simpa using he
    exact ⟨k + 1, by omega, ⟨hk', take_eq_succ htk hk' hk2 he', inferInstance⟩, (by repeat' (first | exact sub_nil | refine sub_cons rfl ?_ | refine sub_int rfl (by first | rfl | omega | (push_cast; omega) | simp) ?_ | refine sub_eq rfl (by assumption) ?_))⟩
theorem c_eqBoolSS (σ : Store) (s s' : AV) {ss ss' : List AV} {g g' : List (List Bool)} [hs : RW σ s ss] [hs' : RW σ s' ss'] [hg : RRs σ ss g] [hg' : RRs σ ss' g'] : ACall Try.prog base F_laws_eqBoolSS [s, s'] σ (fun _ => False) (Ret σ (Bo (eqB g g'))) := by
  have hb := hs.bound
  have hb' := hs'.bound
  have h1 := hg.len
  have h2 := hg'.len
  refine acall2 fun_laws_eqBoolSS rfl tmps_laws_eqBoolSS rfl fun N B w₀ ρ₀ => ?_
  repeat' (first
    | refine wl_pop rfl (pc_ldNat rfl inferInstance inferInstance (by omega) inferInstance) ?_
    | refine wl_pop rfl (pc_ldInt rfl inferInstance inferInstance (by omega) inferInstance) ?_
    | refine wl_pop rfl (pc_ldBool rfl inferInstance inferInstance (by omega) inferInstance) ?_
    | refine wl_pop rfl (pc_ldAV rfl inferInstance inferInstance (by omega) inferInstance) ?_
    | refine wl_pop rfl (pc_ldMv rfl inferInstance inferInstance (by omega) inferInstance) ?_
    | refine wl_pop rfl (pc_ldMv1 rfl inferInstance inferInstance (by omega) inferInstance) ?_
    | refine wl_pop rfl (pc_ldMv2 rfl inferInstance inferInstance (by omega) inferInstance) ?_
    | refine wl_pop rfl (pc_loNat rfl inferInstance inferInstance (by omega) inferInstance) ?_
    | refine wl_pop rfl (pc_loInt rfl inferInstance inferInstance (by omega) inferInstance) ?_
    | refine wl_pop rfl (pc_loBool rfl inferInstance inferInstance (by omega) inferInstance) ?_
    | refine wl_pop rfl (pc_loAV rfl inferInstance inferInstance (by omega) inferInstance) ?_
    | refine wl_pop rfl (pc_loMv rfl inferInstance inferInstance (by omega) inferInstance) ?_
    | refine wl_pop rfl (pc_loMv1 rfl inferInstance inferInstance (by omega) inferInstance) ?_
    | refine wl_pop rfl (pc_loMv2 rfl inferInstance inferInstance (by omega) inferInstance) ?_
    | refine wl_pop rfl (pc_indexRow rfl rfl inferInstance inferInstance inferInstance (by omega)) ?_
    | refine wl_pop rfl (pc_indexRowZ rfl rfl inferInstance inferInstance inferInstance (by omega) (by omega)) ?_
    | refine wl_pop rfl (pc_lenRow rfl inferInstance inferInstance) ?_
    | refine wc_loadn rfl inferInstance (at_has (cs := [_]) (.inl rfl) rfl rfl) rfl ?_
    | refine at_ret (res_cell rfl rfl inferInstance (at_has (cs := [_]) (.inl rfl) rfl rfl)) ?_
    | refine at_ret (res_cell2 rfl rfl inferInstance (at_has (cs := [_]) (.inl rfl) rfl rfl) rfl) ?_
    | refine wl_pop rfl (pc_eqMv rfl rfl inferInstance) ?_
    | refine wl_pop rfl (pc_neMv rfl rfl inferInstance) ?_
    | refine wp_condPr rfl (fun _ => ?_) (fun _ => ?_)
    | refine wp_condNPr rfl (fun _ => ?_) (fun _ => ?_)
    | refine wp_seqA ?_
    | refine wp_region_seq ?_
    | refine thru_seq_next ?_
    | refine thru_seq_ret ?_
    | refine thru_seq ?_
    | refine thru_block_ret ?_
    | refine thru_block_next ?_
    | refine exit_here ?_
    | refine exit_past (by decide) ?_
    | refine thru_scope_ret ?_
    | refine thru_scope_next ?_
    | refine thru_scope ?_
    | refine wp_skipA ?_
    | refine wp_retA ?_
    | refine wp_exitA ?_
    | refine wp_blockA ?_
    | refine wp_scopeA ?_
    | refine wl_nil ?_
    | refine wl_pop rfl (po_move rfl) ?_
    | refine wl_pop rfl (po_assign rfl) ?_
    | refine wl_pop rfl (pc_add rfl rfl (by omega) (by omega)) ?_
    | refine wl_pop rfl (pc_sub rfl rfl (by omega) (by omega)) ?_
    | refine wl_pop rfl (po_binOp rfl rfl rfl) ?_
    | refine wl_pop rfl (pc_boolNeSelf rfl rfl inferInstance) ?_
    | refine wl_pop rfl (pc_boolNe rfl rfl inferInstance) ?_
    | refine wl_pop rfl (pc_boolEq rfl rfl inferInstance) ?_
    | refine wl_pop rfl (pc_indexAddr rfl rfl inferInstance inferInstance (by omega)) ?_
    | refine wc_load1 rfl inferInstance (at_has (.inl rfl) rfl rfl) rfl ?_
    | refine wc_load1 rfl inferInstance inferInstance rfl ?_
    | refine wc_loadn rfl inferInstance (at_has (cs := [_, _]) (.inl rfl) rfl rfl) rfl ?_
    | refine wc_loadn rfl inferInstance (at_has (cs := [_, _, _]) (.inl rfl) rfl rfl) rfl ?_
    | refine wc_loadn rfl inferInstance (at_has (cs := [_, _, _, _]) (.inl rfl) rfl rfl) rfl ?_
    | refine wc_loadn rfl inferInstance inferInstance rfl ?_
    | refine wl_pop rfl (po_not rfl) ?_
    | refine wl_pop rfl (po_neg rfl) ?_
    | refine wl_pop rfl (po_len (ri := 0) rfl Un.eq) ?_
    | refine wl_pop rfl (po_len_nil (ri := 0) rfl Un.eq) ?_
    | refine wl_pop rfl (po_len_str rfl Un.eq) ?_
    | refine wp_condT rfl ?_
    | refine wp_condF rfl ?_
    | refine wp_condP rfl (fun _ => ?_) (fun _ => ?_)
    | refine wp_condNP rfl (fun _ => ?_) (fun _ => ?_)
    | refine wp_condEq rfl (fun _ => ?_) (fun _ => ?_)
    | refine wp_condNe rfl (fun _ => ?_) (fun _ => ?_)
    | refine wp_condA rfl (fun _ => ?_) (fun _ => ?_)
    | refine wl_pop rfl (pc_lenT rfl inferInstance inferInstance) ?_
    | refine at_ret (res1 rfl rfl) ?_
    | refine at_ret (res_cell rfl rfl inferInstance (at_has (cs := [_, _]) (.inl rfl) rfl rfl)) ?_
    | refine at_ret (res_cell rfl rfl inferInstance (at_has (cs := [_, _, _]) (.inl rfl) rfl rfl)) ?_
    | refine at_ret (res_cell rfl rfl inferInstance (at_has (cs := [_, _, _, _]) (.inl rfl) rfl rfl)) ?_
    | refine at_ret (res_cell2 rfl rfl inferInstance (at_has (cs := [_, _]) (.inl rfl) rfl rfl) rfl) ?_
    | refine at_ret (res_cell2 rfl rfl inferInstance (at_has (cs := [_, _, _]) (.inl rfl) rfl rfl) rfl) ?_
    | refine at_ret (res_cell2 rfl rfl inferInstance (at_has (cs := [_, _, _, _]) (.inl rfl) rfl rfl) rfl) ?_
    | refine at_ret (res2 rfl rfl rfl) ?_
    | refine at_ret (res0 rfl) ?_
    | refine at_next (res1 rfl rfl) ?_
    | exact ret_int inferInstance
    | exact ret_ inferInstance rfl
    | exact ret_tm inferInstance inferInstance inferInstance
    | refine wl_pop rfl (pc_indexAddrArr rfl rfl inferInstance inferInstance (by omega)) ?_
    | fail)
  · refine ret_ inferInstance (congrArg Bo (eqB_ne ?_).symm)
    rintro rfl; simp_all
  rename_i hl
  have hl' : g.length = g'.length := by omega
  refine wc_loop [(0, _), (1, _)] (fun k : Nat => [(5, I k)]) (fun k σ' => k ≤ g.length ∧ g.take k = g'.take k ∧ LeS σ σ') (fun k => g.length - k) 0 ⟨Nat.zero_le _, rfl, inferInstance⟩ (by repeat' (first | exact sub_nil | refine sub_cons rfl ?_ | refine sub_int rfl (by first | rfl | omega | (push_cast; omega) | simp) ?_ | refine sub_eq rfl (by assumption) ?_)) ?_
  rintro k σ' ⟨hk, htk, hgr⟩
  have := hgr.grow
  repeat' (first
    | refine wl_pop rfl (pc_ldNat rfl inferInstance inferInstance (by omega) inferInstance) ?_
    | refine wl_pop rfl (pc_ldInt rfl inferInstance inferInstance (by omega) inferInstance) ?_
    | refine wl_pop rfl (pc_ldBool rfl inferInstance inferInstance (by omega) inferInstance) ?_
    | refine wl_pop rfl (pc_ldAV rfl inferInstance inferInstance (by omega) inferInstance) ?_
    | refine wl_pop rfl (pc_ldMv rfl inferInstance inferInstance (by omega) inferInstance) ?_
    | refine wl_pop rfl (pc_ldMv1 rfl inferInstance inferInstance (by omega) inferInstance) ?_
    | refine wl_pop rfl (pc_ldMv2 rfl inferInstance inferInstance (by omega) inferInstance) ?_
    | refine wl_pop rfl (pc_loNat rfl inferInstance inferInstance (by omega) inferInstance) ?_
    | refine wl_pop rfl (pc_loInt rfl inferInstance inferInstance (by omega) inferInstance) ?_
    | refine wl_pop rfl (pc_loBool rfl inferInstance inferInstance (by omega) inferInstance) ?_
    | refine wl_pop rfl (pc_loAV rfl inferInstance inferInstance (by omega) inferInstance) ?_
    | refine wl_pop rfl (pc_loMv rfl inferInstance inferInstance (by omega) inferInstance) ?_
    | refine wl_pop rfl (pc_loMv1 rfl inferInstance inferInstance (by omega) inferInstance) ?_
    | refine wl_pop rfl (pc_loMv2 rfl inferInstance inferInstance (by omega) inferInstance) ?_
    | refine wl_pop rfl (pc_indexRow rfl rfl inferInstance inferInstance inferInstance (by omega)) ?_
    | refine wl_pop rfl (pc_indexRowZ rfl rfl inferInstance inferInstance inferInstance (by omega) (by omega)) ?_
    | refine wl_pop rfl (pc_lenRow rfl inferInstance inferInstance) ?_
    | refine wc_loadn rfl inferInstance (at_has (cs := [_]) (.inl rfl) rfl rfl) rfl ?_
    | refine at_ret (res_cell rfl rfl inferInstance (at_has (cs := [_]) (.inl rfl) rfl rfl)) ?_
    | refine at_ret (res_cell2 rfl rfl inferInstance (at_has (cs := [_]) (.inl rfl) rfl rfl) rfl) ?_
    | refine wl_pop rfl (pc_eqMv rfl rfl inferInstance) ?_
    | refine wl_pop rfl (pc_neMv rfl rfl inferInstance) ?_
    | refine wp_condPr rfl (fun _ => ?_) (fun _ => ?_)
    | refine wp_condNPr rfl (fun _ => ?_) (fun _ => ?_)
    | refine wp_seqA ?_
    | refine wp_region_seq ?_
    | refine thru_seq_next ?_
    | refine thru_seq_ret ?_
    | refine thru_seq ?_
    | refine thru_block_ret ?_
    | refine thru_block_next ?_
    | refine exit_here ?_
    | refine exit_past (by decide) ?_
    | refine thru_scope_ret ?_
    | refine thru_scope_next ?_
    | refine thru_scope ?_
    | refine wp_skipA ?_
    | refine wp_retA ?_
    | refine wp_exitA ?_
    | refine wp_blockA ?_
    | refine wp_scopeA ?_
    | refine wl_nil ?_
    | refine wl_pop rfl (po_move rfl) ?_
    | refine wl_pop rfl (po_assign rfl) ?_
    | refine wl_pop rfl (pc_add rfl rfl (by omega) (by omega)) ?_
    | refine wl_pop rfl (pc_sub rfl rfl (by omega) (by omega)) ?_
    | refine wl_pop rfl (po_binOp rfl rfl rfl) ?_
    | refine wl_pop rfl (pc_boolNeSelf rfl rfl inferInstance) ?_
    | refine wl_pop rfl (pc_boolNe rfl rfl inferInstance) ?_
    | refine wl_pop rfl (pc_boolEq rfl rfl inferInstance) ?_
    | refine wl_pop rfl (pc_indexAddr rfl rfl inferInstance inferInstance (by omega)) ?_
    | refine wc_load1 rfl inferInstance (at_has (.inl rfl) rfl rfl) rfl ?_
    | refine wc_load1 rfl inferInstance inferInstance rfl ?_
    | refine wc_loadn rfl inferInstance (at_has (cs := [_, _]) (.inl rfl) rfl rfl) rfl ?_
    | refine wc_loadn rfl inferInstance (at_has (cs := [_, _, _]) (.inl rfl) rfl rfl) rfl ?_
    | refine wc_loadn rfl inferInstance (at_has (cs := [_, _, _, _]) (.inl rfl) rfl rfl) rfl ?_
    | refine wc_loadn rfl inferInstance inferInstance rfl ?_
    | refine wl_pop rfl (po_not rfl) ?_
    | refine wl_pop rfl (po_neg rfl) ?_
    | refine wl_pop rfl (po_len (ri := 0) rfl Un.eq) ?_
    | refine wl_pop rfl (po_len_nil (ri := 0) rfl Un.eq) ?_
    | refine wl_pop rfl (po_len_str rfl Un.eq) ?_
    | refine wp_condT rfl ?_
    | refine wp_condF rfl ?_
    | refine wp_condP rfl (fun _ => ?_) (fun _ => ?_)
    | refine wp_condNP rfl (fun _ => ?_) (fun _ => ?_)
    | refine wp_condEq rfl (fun _ => ?_) (fun _ => ?_)
    | refine wp_condNe rfl (fun _ => ?_) (fun _ => ?_)
    | refine wp_condA rfl (fun _ => ?_) (fun _ => ?_)
    | refine wl_pop rfl (pc_lenT rfl inferInstance inferInstance) ?_
    | refine at_ret (res1 rfl rfl) ?_
    | refine at_ret (res_cell rfl rfl inferInstance (at_has (cs := [_, _]) (.inl rfl) rfl rfl)) ?_
    | refine at_ret (res_cell rfl rfl inferInstance (at_has (cs := [_, _, _]) (.inl rfl) rfl rfl)) ?_
    | refine at_ret (res_cell rfl rfl inferInstance (at_has (cs := [_, _, _, _]) (.inl rfl) rfl rfl)) ?_
    | refine at_ret (res_cell2 rfl rfl inferInstance (at_has (cs := [_, _]) (.inl rfl) rfl rfl) rfl) ?_
    | refine at_ret (res_cell2 rfl rfl inferInstance (at_has (cs := [_, _, _]) (.inl rfl) rfl rfl) rfl) ?_
    | refine at_ret (res_cell2 rfl rfl inferInstance (at_has (cs := [_, _, _, _]) (.inl rfl) rfl rfl) rfl) ?_
    | refine at_ret (res2 rfl rfl rfl) ?_
    | refine at_ret (res0 rfl) ?_
    | refine at_next (res1 rfl rfl) ?_
    | exact ret_int inferInstance
    | exact ret_ inferInstance rfl
    | exact ret_tm inferInstance inferInstance inferInstance
    | refine wl_pop rfl (pc_indexAddrArr rfl rfl inferInstance inferInstance (by omega)) ?_
    | fail)
  rotate_left
  · refine ret_ inferInstance (congrArg Bo ?_)
    have : k = g.length := by omega
    subst this
    rw [List.take_length, List.take_of_length_le (by omega)] at htk
    rw [htk, eqB_self]
  have hk' : k < g.length := by omega
  have hk2 : k < g'.length := by omega
  refine wc_drawn [] mixed_ rfl ?_
  all_goals refine da_takeC 0 rfl rfl (by kernel_rfl) (by first | exact po_move rfl) ?_
  all_goals refine da_takeC 1 rfl rfl (by kernel_rfl) (by first | exact po_move rfl) ?_
  all_goals refine da_takeC 2 rfl rfl (by kernel_rfl) (by first | exact pc_indexRow rfl rfl inferInstance inferInstance inferInstance (by omega) | exact pc_indexRowZ rfl rfl inferInstance inferInstance inferInstance (by omega) (by omega) | exact pc_indexAddr rfl rfl inferInstance inferInstance (by omega) | exact pc_indexAddrArr rfl rfl inferInstance inferInstance (by omega)) ?_
  all_goals refine da_takeC 3 rfl rfl (by kernel_rfl) (by first | exact pc_loadnL rfl inferInstance (at_has (cs := [_]) (.inl rfl) rfl rfl) inferInstance | exact pc_ldNat rfl inferInstance inferInstance (by omega) inferInstance | exact pc_ldInt rfl inferInstance inferInstance (by omega) inferInstance | exact pc_ldBool rfl inferInstance inferInstance (by omega) inferInstance | exact pc_ldAV rfl inferInstance inferInstance (by omega) inferInstance | exact pc_ldMv rfl inferInstance inferInstance (by omega) inferInstance | exact pc_ldMv1 rfl inferInstance inferInstance (by omega) inferInstance | exact pc_ldMv2 rfl inferInstance inferInstance (by omega) inferInstance | exact pc_loNat rfl inferInstance inferInstance (by omega) inferInstance | exact pc_loInt rfl inferInstance inferInstance (by omega) inferInstance | exact pc_loBool rfl inferInstance inferInstance (by omega) inferInstance | exact pc_loAV rfl inferInstance inferInstance (by omega) inferInstance | exact pc_loMv rfl inferInstance inferInstance (by omega) inferInstance | exact pc_loMv1 rfl inferInstance inferInstance (by omega) inferInstance | exact pc_loMv2 rfl inferInstance inferInstance (by omega) inferInstance | exact pc_load1L rfl inferInstance (at_has (.inl rfl) rfl rfl) inferInstance | exact pc_load1L rfl inferInstance inferInstance inferInstance | exact pc_loadnL rfl inferInstance (at_has (cs := [_, _]) (.inl rfl) rfl rfl) inferInstance | exact pc_loadnL rfl inferInstance (at_has (cs := [_, _, _]) (.inl rfl) rfl rfl) inferInstance | exact pc_loadnL rfl inferInstance inferInstance inferInstance) ?_
  all_goals refine da_takeC 4 rfl rfl (by kernel_rfl) (by first | exact po_move rfl) ?_
  all_goals refine da_takeC 5 rfl rfl (by kernel_rfl) (by first | exact po_move rfl) ?_
  all_goals refine da_takeC 6 rfl rfl (by kernel_rfl) (by first | exact pc_indexRow rfl rfl inferInstance inferInstance inferInstance (by omega) | exact pc_indexRowZ rfl rfl inferInstance inferInstance inferInstance (by omega) (by omega) | exact pc_indexAddr rfl rfl inferInstance inferInstance (by omega) | exact pc_indexAddrArr rfl rfl inferInstance inferInstance (by omega)) ?_
  all_goals refine da_takeC 7 rfl rfl (by kernel_rfl) (by first | exact pc_loadnL rfl inferInstance (at_has (cs := [_]) (.inl rfl) rfl rfl) inferInstance | exact pc_ldNat rfl inferInstance inferInstance (by omega) inferInstance | exact pc_ldInt rfl inferInstance inferInstance (by omega) inferInstance | exact pc_ldBool rfl inferInstance inferInstance (by omega) inferInstance | exact pc_ldAV rfl inferInstance inferInstance (by omega) inferInstance | exact pc_ldMv rfl inferInstance inferInstance (by omega) inferInstance | exact pc_ldMv1 rfl inferInstance inferInstance (by omega) inferInstance | exact pc_ldMv2 rfl inferInstance inferInstance (by omega) inferInstance | exact pc_loNat rfl inferInstance inferInstance (by omega) inferInstance | exact pc_loInt rfl inferInstance inferInstance (by omega) inferInstance | exact pc_loBool rfl inferInstance inferInstance (by omega) inferInstance | exact pc_loAV rfl inferInstance inferInstance (by omega) inferInstance | exact pc_loMv rfl inferInstance inferInstance (by omega) inferInstance | exact pc_loMv1 rfl inferInstance inferInstance (by omega) inferInstance | exact pc_loMv2 rfl inferInstance inferInstance (by omega) inferInstance | exact pc_load1L rfl inferInstance (at_has (.inl rfl) rfl rfl) inferInstance | exact pc_load1L rfl inferInstance inferInstance inferInstance | exact pc_loadnL rfl inferInstance (at_has (cs := [_, _]) (.inl rfl) rfl rfl) inferInstance | exact pc_loadnL rfl inferInstance (at_has (cs := [_, _, _]) (.inl rfl) rfl rfl) inferInstance | exact pc_loadnL rfl inferInstance inferInstance inferInstance) ?_
  all_goals (first | (refine da_one 8 rfl (by kernel_rfl) (fun _ _ _ _ => ?_); (repeat' (first | (refine wc_callR rfl inferInstance rfl (c_eqBoolS _ _ _) rfl ?_; intro _ _) | fail)); all_goals (first | refine wl_nil ⟨rfl, (by first | exact LeS.len inferInstance | exact App.len (by assumption)), ?_⟩ | trace_state)))
  all_goals refine da_takeC 9 rfl rfl (by kernel_rfl) (by first | exact po_not rfl | exact po_neg rfl) ?_
  all_goals refine da_done (by kernel_rfl) ?_
  repeat' (first
    | refine wl_pop rfl (pc_ldNat rfl inferInstance inferInstance (by omega) inferInstance) ?_
    | refine wl_pop rfl (pc_ldInt rfl inferInstance inferInstance (by omega) inferInstance) ?_
    | refine wl_pop rfl (pc_ldBool rfl inferInstance inferInstance (by omega) inferInstance) ?_
    | refine wl_pop rfl (pc_ldAV rfl inferInstance inferInstance (by omega) inferInstance) ?_
    | refine wl_pop rfl (pc_ldMv rfl inferInstance inferInstance (by omega) inferInstance) ?_
    | refine wl_pop rfl (pc_ldMv1 rfl inferInstance inferInstance (by omega) inferInstance) ?_
    | refine wl_pop rfl (pc_ldMv2 rfl inferInstance inferInstance (by omega) inferInstance) ?_
    | refine wl_pop rfl (pc_loNat rfl inferInstance inferInstance (by omega) inferInstance) ?_
    | refine wl_pop rfl (pc_loInt rfl inferInstance inferInstance (by omega) inferInstance) ?_
    | refine wl_pop rfl (pc_loBool rfl inferInstance inferInstance (by omega) inferInstance) ?_
    | refine wl_pop rfl (pc_loAV rfl inferInstance inferInstance (by omega) inferInstance) ?_
    | refine wl_pop rfl (pc_loMv rfl inferInstance inferInstance (by omega) inferInstance) ?_
    | refine wl_pop rfl (pc_loMv1 rfl inferInstance inferInstance (by omega) inferInstance) ?_
    | refine wl_pop rfl (pc_loMv2 rfl inferInstance inferInstance (by omega) inferInstance) ?_
    | refine wl_pop rfl (pc_indexRow rfl rfl inferInstance inferInstance inferInstance (by omega)) ?_
    | refine wl_pop rfl (pc_indexRowZ rfl rfl inferInstance inferInstance inferInstance (by omega) (by omega)) ?_
    | refine wl_pop rfl (pc_lenRow rfl inferInstance inferInstance) ?_
    | refine wc_loadn rfl inferInstance (at_has (cs := [_]) (.inl rfl) rfl rfl) rfl ?_
    | refine at_ret (res_cell rfl rfl inferInstance (at_has (cs := [_]) (.inl rfl) rfl rfl)) ?_
    | refine at_ret (res_cell2 rfl rfl inferInstance (at_has (cs := [_]) (.inl rfl) rfl rfl) rfl) ?_
    | refine wl_pop rfl (pc_eqMv rfl rfl inferInstance) ?_
    | refine wl_pop rfl (pc_neMv rfl rfl inferInstance) ?_
    | refine wp_condPr rfl (fun _ => ?_) (fun _ => ?_)
    | refine wp_condNPr rfl (fun _ => ?_) (fun _ => ?_)
    | refine wp_seqA ?_
    | refine wp_region_seq ?_
    | refine thru_seq_next ?_
    | refine thru_seq_ret ?_
    | refine thru_seq ?_
    | refine thru_block_ret ?_
    | refine thru_block_next ?_
    | refine exit_here ?_
    | refine exit_past (by decide) ?_
    | refine thru_scope_ret ?_
    | refine thru_scope_next ?_
    | refine thru_scope ?_
    | refine wp_skipA ?_
    | refine wp_retA ?_
    | refine wp_exitA ?_
    | refine wp_blockA ?_
    | refine wp_scopeA ?_
    | refine wl_nil ?_
    | refine wl_pop rfl (po_move rfl) ?_
    | refine wl_pop rfl (po_assign rfl) ?_
    | refine wl_pop rfl (pc_add rfl rfl (by omega) (by omega)) ?_
    | refine wl_pop rfl (pc_sub rfl rfl (by omega) (by omega)) ?_
    | refine wl_pop rfl (po_binOp rfl rfl rfl) ?_
    | refine wl_pop rfl (pc_boolNeSelf rfl rfl inferInstance) ?_
    | refine wl_pop rfl (pc_boolNe rfl rfl inferInstance) ?_
    | refine wl_pop rfl (pc_boolEq rfl rfl inferInstance) ?_
    | refine wl_pop rfl (pc_indexAddr rfl rfl inferInstance inferInstance (by omega)) ?_
    | refine wc_load1 rfl inferInstance (at_has (.inl rfl) rfl rfl) rfl ?_
    | refine wc_load1 rfl inferInstance inferInstance rfl ?_
    | refine wc_loadn rfl inferInstance (at_has (cs := [_, _]) (.inl rfl) rfl rfl) rfl ?_
    | refine wc_loadn rfl inferInstance (at_has (cs := [_, _, _]) (.inl rfl) rfl rfl) rfl ?_
    | refine wc_loadn rfl inferInstance (at_has (cs := [_, _, _, _]) (.inl rfl) rfl rfl) rfl ?_
    | refine wc_loadn rfl inferInstance inferInstance rfl ?_
    | refine wl_pop rfl (po_not rfl) ?_
    | refine wl_pop rfl (po_neg rfl) ?_
    | refine wl_pop rfl (po_len (ri := 0) rfl Un.eq) ?_
    | refine wl_pop rfl (po_len_nil (ri := 0) rfl Un.eq) ?_
    | refine wl_pop rfl (po_len_str rfl Un.eq) ?_
    | refine wp_condT rfl ?_
    | refine wp_condF rfl ?_
    | refine wp_condP rfl (fun _ => ?_) (fun _ => ?_)
    | refine wp_condNP rfl (fun _ => ?_) (fun _ => ?_)
    | refine wp_condEq rfl (fun _ => ?_) (fun _ => ?_)
    | refine wp_condNe rfl (fun _ => ?_) (fun _ => ?_)
    | refine wp_condA rfl (fun _ => ?_) (fun _ => ?_)
    | refine wl_pop rfl (pc_lenT rfl inferInstance inferInstance) ?_
    | refine at_ret (res1 rfl rfl) ?_
    | refine at_ret (res_cell rfl rfl inferInstance (at_has (cs := [_, _]) (.inl rfl) rfl rfl)) ?_
    | refine at_ret (res_cell rfl rfl inferInstance (at_has (cs := [_, _, _]) (.inl rfl) rfl rfl)) ?_
    | refine at_ret (res_cell rfl rfl inferInstance (at_has (cs := [_, _, _, _]) (.inl rfl) rfl rfl)) ?_
    | refine at_ret (res_cell2 rfl rfl inferInstance (at_has (cs := [_, _]) (.inl rfl) rfl rfl) rfl) ?_
    | refine at_ret (res_cell2 rfl rfl inferInstance (at_has (cs := [_, _, _]) (.inl rfl) rfl rfl) rfl) ?_
    | refine at_ret (res_cell2 rfl rfl inferInstance (at_has (cs := [_, _, _, _]) (.inl rfl) rfl rfl) rfl) ?_
    | refine at_ret (res2 rfl rfl rfl) ?_
    | refine at_ret (res0 rfl) ?_
    | refine at_next (res1 rfl rfl) ?_
    | exact ret_int inferInstance
    | exact ret_ inferInstance rfl
    | exact ret_tm inferInstance inferInstance inferInstance
    | refine wl_pop rfl (pc_indexAddrArr rfl rfl inferInstance inferInstance (by omega)) ?_
    | fail)
  · rename_i he
    refine ret_ inferInstance (congrArg Bo (eqB_ne ?_).symm)
    rintro rfl
    simp_all [eqB]
  · rename_i he
    have he' : g.getD k [] = g'.getD k [] := by simpa [eqB] using he
    exact ⟨k + 1, by omega, ⟨hk', take_eq_succ htk hk' hk2 he', inferInstance⟩, (by repeat' (first | exact sub_nil | refine sub_cons rfl ?_ | refine sub_int rfl (by first | rfl | omega | (push_cast; omega) | simp) ?_ | refine sub_eq rfl (by assumption) ?_))⟩
end
end Go.Proofs.Ytemhpkfijoodkaa.Asl
