/- Does a row hold a move of a kind? -/
import Derived.Test.YtemhpkfijoodkaaG4
import Derived.Test.YtemhpkfijoodkaaGA
namespace Go.Proofs.Ytemhpkfijoodkaa.Asl
open Go.RowKit Go.Proofs.YtemhpkfijoodkaaW.PrintLast
set_option linter.unusedVariables false
set_option linter.unusedSimpArgs false
attribute [local irreducible] WP WL andThen inBlock noGoto atEnd ACall DA DL PO Hold
set_option maxHeartbeats 4000000
section
variable {base : Nat}
theorem c_IndexFunc {ps : List Mv} {f : FuncId} {caps : List AV} (J : Store → Prop) (hJ : ∀ σ σ', Grow σ σ' → J σ → J σ') (p : Mv → Bool) [Callable Try.prog f]
    (h : ∀ m ∈ ps, ∀ (σ : Store), J σ → ACall Try.prog base f ([.agg [I m.1, I m.2]] ++ caps) σ (fun _ => False) (Ret σ (Bo (p m))))
    (σ : Store) (s : AV) [hs : RW σ s ps] (j0 : J σ) : ACall Try.prog base F_slices_IndexFunc_impl_Move_impl_Move [s, .fn f caps] σ (fun _ => False) (fun r σ' => (∃ z, r = I z ∧ decide (z ≥ 0) = ps.any p) ∧ Grow σ σ') := by
  have hb := hs.bound
  refine acall2 fun_slices_IndexFunc_impl_Move_impl_Move rfl tmps_slices_IndexFunc_impl_Move_impl_Move rfl fun N B w₀ ρ₀ => ?_
  repeat' (first
    | refine wl_pop rfl (pc_ldNat rfl inferInstance inferInstance (by omega) inferInstance) ?_
    | refine wl_pop rfl (pc_ldInt rfl inferInstance inferInstance (by omega) inferInstance) ?_
    | refine wl_pop rfl (pc_ldBool rfl inferInstance inferInstance (by omega) inferInstance) ?_
    | refine wl_pop rfl (pc_ldAV rfl inferInstance inferInstance (by omega) inferInstance) ?_
    | refine wl_pop rfl (pc_ldMv rfl inferInstance inferInstance (by omega) inferInstance) ?_
    | refine wl_pop rfl (pc_ldMv1 rfl inferInstance inferInstance (by omega) inferInstance) ?_
    | refine wl_pop rfl (pc_ldMv2 rfl inferInstance inferInstance (by omega) inferInstance) ?_
    | refine wl_pop rfl (pc_loNat rfl inferInstance inferInstance (by omega) inferInstance) ?_
    | refine wl_pop rfl (pc_loInt rfl inferInstance inferInstance (by omega) inferInstance) ?_
    | refine wl_pop rfl (pc_loBool rfl inferInstance inferInstance (by omega) inferInstance) ?_
    | refine wl_pop rfl (pc_loAV rfl inferInstance inferInstance (by omega) inferInstance) ?_
    | refine wl_pop rfl (pc_loMv rfl inferInstance inferInstance (by omega) inferInstance) ?_
    | refine wl_pop rfl (pc_loMv1 rfl inferInstance inferInstance (by omega) inferInstance) ?_
    | refine wl_pop rfl (pc_loMv2 rfl inferInstance inferInstance (by omega) inferInstance) ?_
    | refine wl_pop rfl (pc_indexRow rfl rfl inferInstance inferInstance inferInstance (by omega)) ?_
    | refine wl_pop rfl (pc_indexRowZ rfl rfl inferInstance inferInstance inferInstance (by omega) (by omega)) ?_
    | refine wl_pop rfl (pc_lenRow rfl inferInstance inferInstance) ?_
    | refine wc_loadn rfl inferInstance (at_has (cs := [_]) (.inl rfl) rfl rfl) rfl ?_
    | refine at_ret (res_cell rfl rfl inferInstance (at_has (cs := [_]) (.inl rfl) rfl rfl)) ?_
    | refine at_ret (res_cell2 rfl rfl inferInstance (at_has (cs := [_]) (.inl rfl) rfl rfl) rfl) ?_
    | refine wl_pop rfl (pc_eqMv rfl rfl inferInstance) ?_
    | refine wl_pop rfl (pc_neMv rfl rfl inferInstance) ?_
    | refine wp_condPr rfl (fun _ => ?_) (fun _ => ?_)
    | refine wp_condNPr rfl (fun _ => ?_) (fun _ => ?_)
    | refine wp_seqA ?_
    | refine wp_region_seq ?_
    | refine thru_seq_next ?_
    | refine thru_seq_ret ?_
    | refine thru_seq ?_
    | refine thru_block_ret ?_
    | refine thru_block_next ?_
    | refine exit_here ?_
    | refine exit_past (by decide) ?_
    | refine thru_scope_ret ?_
    | refine thru_scope_next ?_
    | refine thru_scope ?_
    | refine wp_skipA ?_
    | refine wp_retA ?_
    | refine wp_exitA ?_
    | refine wp_blockA ?_
    | refine wp_scopeA ?_
    | refine wl_nil ?_
    | refine wl_pop rfl (po_move rfl) ?_
    | refine wl_pop rfl (po_assign rfl) ?_
    | refine wl_pop rfl (pc_add rfl rfl (by omega) (by omega)) ?_
    | refine wl_pop rfl (pc_sub rfl rfl (by omega) (by omega)) ?_
    | refine wl_pop rfl (po_binOp rfl rfl rfl) ?_
    | refine wl_pop rfl (pc_boolNeSelf rfl rfl inferInstance) ?_
    | refine wl_pop rfl (pc_boolNe rfl rfl inferInstance) ?_
    | refine wl_pop rfl (pc_boolEq rfl rfl inferInstance) ?_
    | refine wl_pop rfl (pc_indexAddr rfl rfl inferInstance inferInstance (by omega)) ?_
    | refine wc_load1 rfl inferInstance (at_has (.inl rfl) rfl rfl) rfl ?_
    | refine wc_load1 rfl inferInstance inferInstance rfl ?_
    | refine wc_loadn rfl inferInstance (at_has (cs := [_, _]) (.inl rfl) rfl rfl) rfl ?_
    | refine wc_loadn rfl inferInstance (at_has (cs := [_, _, _]) (.inl rfl) rfl rfl) rfl ?_
    | refine wc_loadn rfl inferInstance (at_has (cs := [_, _, _, _]) (.inl rfl) rfl rfl) rfl ?_
    | refine wc_loadn rfl inferInstance inferInstance rfl ?_
    | refine wl_pop rfl (po_len (ri := 0) rfl Un.eq) ?_
    | refine wl_pop rfl (po_len_nil (ri := 0) rfl Un.eq) ?_
    | refine wl_pop rfl (po_len_str rfl Un.eq) ?_
    | refine wp_condT rfl ?_
    | refine wp_condF rfl ?_
    | refine wp_condP rfl (fun _ => ?_) (fun _ => ?_)
    | refine wp_condNP rfl (fun _ => ?_) (fun _ => ?_)
    | refine wp_condEq rfl (fun _ => ?_) (fun _ => ?_)
    | refine wp_condNe rfl (fun _ => ?_) (fun _ => ?_)
    | refine wp_condA rfl (fun _ => ?_) (fun _ => ?_)
    | refine wl_pop rfl (pc_lenT rfl inferInstance inferInstance) ?_
    | refine at_ret (res1 rfl rfl) ?_
    | refine at_ret (res_cell rfl rfl inferInstance (at_has (cs := [_, _]) (.inl rfl) rfl rfl)) ?_
    | refine at_ret (res_cell rfl rfl inferInstance (at_has (cs := [_, _, _]) (.inl rfl) rfl rfl)) ?_
    | refine at_ret (res_cell rfl rfl inferInstance (at_has (cs := [_, _, _, _]) (.inl rfl) rfl rfl)) ?_
    | refine at_ret (res_cell2 rfl rfl inferInstance (at_has (cs := [_, _]) (.inl rfl) rfl rfl) rfl) ?_
    | refine at_ret (res_cell2 rfl rfl inferInstance (at_has (cs := [_, _, _]) (.inl rfl) rfl rfl) rfl) ?_
    | refine at_ret (res_cell2 rfl rfl inferInstance (at_has (cs := [_, _, _, _]) (.inl rfl) rfl rfl) rfl) ?_
    | refine at_ret (res2 rfl rfl rfl) ?_
    | refine at_ret (res0 rfl) ?_
    | refine at_next (res1 rfl rfl) ?_
    | exact ret_int inferInstance
    | exact ret_ inferInstance rfl
    | exact ret_tm inferInstance inferInstance inferInstance
    | refine wl_pop rfl (pc_indexAddrArr rfl rfl inferInstance inferInstance (by omega)) ?_
    | fail)
  refine wc_loop [(0, _), (1, _), (7, _)] (fun k : Nat => [(8, I k)]) (fun k σ' => k ≤ ps.length ∧ (ps.take k).any p = false ∧ Grow σ σ') (fun k => ps.length - k) 0 ⟨Nat.zero_le _, rfl, LeS.grow inferInstance⟩ (by repeat' (first | exact sub_nil | refine sub_cons rfl ?_ | refine sub_int rfl (by first | rfl | omega | (push_cast; omega) | simp) ?_ | refine sub_eq rfl (by assumption) ?_)) ?_
  rintro k σ' ⟨hk, hf, hg⟩
  repeat' (first
    | refine wl_pop rfl (pc_ldNat rfl inferInstance inferInstance (by omega) inferInstance) ?_
    | refine wl_pop rfl (pc_ldInt rfl inferInstance inferInstance (by omega) inferInstance) ?_
    | refine wl_pop rfl (pc_ldBool rfl inferInstance inferInstance (by omega) inferInstance) ?_
    | refine wl_pop rfl (pc_ldAV rfl inferInstance inferInstance (by omega) inferInstance) ?_
    | refine wl_pop rfl (pc_ldMv rfl inferInstance inferInstance (by omega) inferInstance) ?_
    | refine wl_pop rfl (pc_ldMv1 rfl inferInstance inferInstance (by omega) inferInstance) ?_
    | refine wl_pop rfl (pc_ldMv2 rfl inferInstance inferInstance (by omega) inferInstance) ?_
    | refine wl_pop rfl (pc_loNat rfl inferInstance inferInstance (by omega) inferInstance) ?_
    | refine wl_pop rfl (pc_loInt rfl inferInstance inferInstance (by omega) inferInstance) ?_
    | refine wl_pop rfl (pc_loBool rfl inferInstance inferInstance (by omega) inferInstance) ?_
    | refine wl_pop rfl (pc_loAV rfl inferInstance inferInstance (by omega) inferInstance) ?_
    | refine wl_pop rfl (pc_loMv rfl inferInstance inferInstance (by omega) inferInstance) ?_
    | refine wl_pop rfl (pc_loMv1 rfl inferInstance inferInstance (by omega) inferInstance) ?_
    | refine wl_pop rfl (pc_loMv2 rfl inferInstance inferInstance (by omega) inferInstance) ?_
    | refine wl_pop rfl (pc_indexRow rfl rfl inferInstance inferInstance inferInstance (by omega)) ?_
    | refine wl_pop rfl (pc_indexRowZ rfl rfl inferInstance inferInstance inferInstance (by omega) (by omega)) ?_
    | refine wl_pop rfl (pc_lenRow rfl inferInstance inferInstance) ?_
    | refine wc_loadn rfl inferInstance (at_has (cs := [_]) (.inl rfl) rfl rfl) rfl ?_
    | refine at_ret (res_cell rfl rfl inferInstance (at_has (cs := [_]) (.inl rfl) rfl rfl)) ?_
    | refine at_ret (res_cell2 rfl rfl inferInstance (at_has (cs := [_]) (.inl rfl) rfl rfl) rfl) ?_
    | refine wl_pop rfl (pc_eqMv rfl rfl inferInstance) ?_
    | refine wl_pop rfl (pc_neMv rfl rfl inferInstance) ?_
    | refine wp_condPr rfl (fun _ => ?_) (fun _ => ?_)
    | refine wp_condNPr rfl (fun _ => ?_) (fun _ => ?_)
    | refine wp_seqA ?_
    | refine wp_region_seq ?_
    | refine thru_seq_next ?_
    | refine thru_seq_ret ?_
    | refine thru_seq ?_
    | refine thru_block_ret ?_
    | refine thru_block_next ?_
    | refine exit_here ?_
    | refine exit_past (by decide) ?_
    | refine thru_scope_ret ?_
    | refine thru_scope_next ?_
    | refine thru_scope ?_
    | refine wp_skipA ?_
    | refine wp_retA ?_
    | refine wp_exitA ?_
    | refine wp_blockA ?_
    | refine wp_scopeA ?_
    | refine wl_nil ?_
    | refine wl_pop rfl (po_move rfl) ?_
    | refine wl_pop rfl (po_assign rfl) ?_
    | refine wl_pop rfl (pc_add rfl rfl (by omega) (by omega)) ?_
    | refine wl_pop rfl (pc_sub rfl rfl (by omega) (by omega)) ?_
    | refine wl_pop rfl (po_binOp rfl rfl rfl) ?_
    | refine wl_pop rfl (pc_boolNeSelf rfl rfl inferInstance) ?_
    | refine wl_pop rfl (pc_boolNe rfl rfl inferInstance) ?_
    | refine wl_pop rfl (pc_boolEq rfl rfl inferInstance) ?_
    | refine wl_pop rfl (pc_indexAddr rfl rfl inferInstance inferInstance (by omega)) ?_
    | refine wc_load1 rfl inferInstance (at_has (.inl rfl) rfl rfl) rfl ?_
    | refine wc_load1 rfl inferInstance inferInstance rfl ?_
    | refine wc_loadn rfl inferInstance (at_has (cs := [_, _]) (.inl rfl) rfl rfl) rfl ?_
    | refine wc_loadn rfl inferInstance (at_has (cs := [_, _, _]) (.inl rfl) rfl rfl) rfl ?_
    | refine wc_loadn rfl inferInstance (at_has (cs := [_, _, _, _]) (.inl rfl) rfl rfl) rfl ?_
    | refine wc_loadn rfl inferInstance inferInstance rfl ?_
    | refine wl_pop rfl (po_len (ri := 0) rfl Un.eq) ?_
    | refine wl_pop rfl (po_len_nil (ri := 0) rfl Un.eq) ?_
    | refine wl_pop rfl (po_len_str rfl Un.eq) ?_
    | refine wp_condT rfl ?_
    | refine wp_condF rfl ?_
    | refine wp_condP rfl (fun _ => ?_) (fun _ => ?_)
    | refine wp_condNP rfl (fun _ => ?_) (fun _ => ?_)
    | refine wp_condEq rfl (fun _ => ?_) (fun _ => ?_)
    | refine wp_condNe rfl (fun _ => ?_) (fun _ => ?_)
    | refine wp_condA rfl (fun _ => ?_) (fun _ => ?_)
    | refine wl_pop rfl (pc_lenT rfl inferInstance inferInstance) ?_
    | refine at_ret (res1 rfl rfl) ?_
    | refine at_ret (res_cell rfl rfl inferInstance (at_has (cs := [_, _]) (.inl rfl) rfl rfl)) ?_
    | refine at_ret (res_cell rfl rfl inferInstance (at_has (cs := [_, _, _]) (.inl rfl) rfl rfl)) ?_
    | refine at_ret (res_cell rfl rfl inferInstance (at_has (cs := [_, _, _, _]) (.inl rfl) rfl rfl)) ?_
    | refine at_ret (res_cell2 rfl rfl inferInstance (at_has (cs := [_, _]) (.inl rfl) rfl rfl) rfl) ?_
    | refine at_ret (res_cell2 rfl rfl inferInstance (at_has (cs := [_, _, _]) (.inl rfl) rfl rfl) rfl) ?_
    | refine at_ret (res_cell2 rfl rfl inferInstance (at_has (cs := [_, _, _, _]) (.inl rfl) rfl rfl) rfl) ?_
    | refine at_ret (res2 rfl rfl rfl) ?_
    | refine at_ret (res0 rfl) ?_
    | refine at_next (res1 rfl rfl) ?_
    | exact ret_int inferInstance
    | exact ret_ inferInstance rfl
    | exact ret_tm inferInstance inferInstance inferInstance
    | refine wl_pop rfl (pc_indexAddrArr rfl rfl inferInstance inferInstance (by omega)) ?_
    | fail)
  rotate_left
  · obtain rfl : k = ps.length := by omega
    rw [List.take_length] at hf
    exact ⟨⟨_, rfl, by rw [hf]; rfl⟩, hg⟩
  have hk' : k < ps.length := by omega
  have hmem : ps.getD k (0, 0) ∈ ps := by rw [getD_lt hk']; exact List.getElem_mem _
  repeat' (first
    | (refine wc_callR rfl inferInstance rfl (h _ hmem _ (hJ _ _ inferInstance j0)) rfl ?_; intro _ _)
    | refine wl_pop rfl (pc_ldNat rfl inferInstance inferInstance (by omega) inferInstance) ?_
    | refine wl_pop rfl (pc_ldInt rfl inferInstance inferInstance (by omega) inferInstance) ?_
    | refine wl_pop rfl (pc_ldBool rfl inferInstance inferInstance (by omega) inferInstance) ?_
    | refine wl_pop rfl (pc_ldAV rfl inferInstance inferInstance (by omega) inferInstance) ?_
    | refine wl_pop rfl (pc_ldMv rfl inferInstance inferInstance (by omega) inferInstance) ?_
    | refine wl_pop rfl (pc_ldMv1 rfl inferInstance inferInstance (by omega) inferInstance) ?_
    | refine wl_pop rfl (pc_ldMv2 rfl inferInstance inferInstance (by omega) inferInstance) ?_
    | refine wl_pop rfl (pc_loNat rfl inferInstance inferInstance (by omega) inferInstance) ?_
    | refine wl_pop rfl (pc_loInt rfl inferInstance inferInstance (by omega) inferInstance) ?_
    | refine wl_pop rfl (pc_loBool rfl inferInstance inferInstance (by omega) inferInstance) ?_
    | refine wl_pop rfl (pc_loAV rfl inferInstance inferInstance (by omega) inferInstance) ?_
    | refine wl_pop rfl (pc_loMv rfl inferInstance inferInstance (by omega) inferInstance) ?_
    | refine wl_pop rfl (pc_loMv1 rfl inferInstance inferInstance (by omega) inferInstance) ?_
    | refine wl_pop rfl (pc_loMv2 rfl inferInstance inferInstance (by omega) inferInstance) ?_
    | refine wl_pop rfl (pc_indexRow rfl rfl inferInstance inferInstance inferInstance (by omega)) ?_
    | refine wl_pop rfl (pc_indexRowZ rfl rfl inferInstance inferInstance inferInstance (by omega) (by omega)) ?_
    | refine wl_pop rfl (pc_lenRow rfl inferInstance inferInstance) ?_
    | refine wc_loadn rfl inferInstance (at_has (cs := [_]) (.inl rfl) rfl rfl) rfl ?_
    | refine at_ret (res_cell rfl rfl inferInstance (at_has (cs := [_]) (.inl rfl) rfl rfl)) ?_
    | refine at_ret (res_cell2 rfl rfl inferInstance (at_has (cs := [_]) (.inl rfl) rfl rfl) rfl) ?_
    | refine wl_pop rfl (pc_eqMv rfl rfl inferInstance) ?_
    | refine wl_pop rfl (pc_neMv rfl rfl inferInstance) ?_
    | refine wp_condPr rfl (fun _ => ?_) (fun _ => ?_)
    | refine wp_condNPr rfl (fun _ => ?_) (fun _ => ?_)
    | refine wp_seqA ?_
    | refine wp_region_seq ?_
    | refine thru_seq_next ?_
    | refine thru_seq_ret ?_
    | refine thru_seq ?_
    | refine thru_block_ret ?_
    | refine thru_block_next ?_
    | refine exit_here ?_
    | refine exit_past (by decide) ?_
    | refine thru_scope_ret ?_
    | refine thru_scope_next ?_
    | refine thru_scope ?_
    | refine wp_skipA ?_
    | refine wp_retA ?_
    | refine wp_exitA ?_
    | refine wp_blockA ?_
    | refine wp_scopeA ?_
    | refine wl_nil ?_
    | refine wl_pop rfl (po_move rfl) ?_
    | refine wl_pop rfl (po_assign rfl) ?_
    | refine wl_pop rfl (pc_add rfl rfl (by omega) (by omega)) ?_
    | refine wl_pop rfl (pc_sub rfl rfl (by omega) (by omega)) ?_
    | refine wl_pop rfl (po_binOp rfl rfl rfl) ?_
    | refine wl_pop rfl (pc_boolNeSelf rfl rfl inferInstance) ?_
    | refine wl_pop rfl (pc_boolNe rfl rfl inferInstance) ?_
    | refine wl_pop rfl (pc_boolEq rfl rfl inferInstance) ?_
    | refine wl_pop rfl (pc_indexAddr rfl rfl inferInstance inferInstance (by omega)) ?_
    | refine wc_load1 rfl inferInstance (at_has (.inl rfl) rfl rfl) rfl ?_
    | refine wc_load1 rfl inferInstance inferInstance rfl ?_
    | refine wc_loadn rfl inferInstance (at_has (cs := [_, _]) (.inl rfl) rfl rfl) rfl ?_
    | refine wc_loadn rfl inferInstance (at_has (cs := [_, _, _]) (.inl rfl) rfl rfl) rfl ?_
    | refine wc_loadn rfl inferInstance (at_has (cs := [_, _, _, _]) (.inl rfl) rfl rfl) rfl ?_
    | refine wc_loadn rfl inferInstance inferInstance rfl ?_
    | refine wl_pop rfl (po_len (ri := 0) rfl Un.eq) ?_
    | refine wl_pop rfl (po_len_nil (ri := 0) rfl Un.eq) ?_
    | refine wl_pop rfl (po_len_str rfl Un.eq) ?_
    | refine wp_condT rfl ?_
    | refine wp_condF rfl ?_
    | refine wp_condP rfl (fun _ => ?_) (fun _ => ?_)
    | refine wp_condNP rfl (fun _ => ?_) (fun _ => ?_)
    | refine wp_condEq rfl (fun _ => ?_) (fun _ => ?_)
    | refine wp_condNe rfl (fun _ => ?_) (fun _ => ?_)
    | refine wp_condA rfl (fun _ => ?_) (fun _ => ?_)
    | refine wl_pop rfl (pc_lenT rfl inferInstance inferInstance) ?_
    | refine at_ret (res1 rfl rfl) ?_
    | refine at_ret (res_cell rfl rfl inferInstance (at_has (cs := [_, _]) (.inl rfl) rfl rfl)) ?_
    | refine at_ret (res_cell rfl rfl inferInstance (at_has (cs := [_, _, _]) (.inl rfl) rfl rfl)) ?_
    | refine at_ret (res_cell rfl rfl inferInstance (at_has (cs := [_, _, _, _]) (.inl rfl) rfl rfl)) ?_
    | refine at_ret (res_cell2 rfl rfl inferInstance (at_has (cs := [_, _]) (.inl rfl) rfl rfl) rfl) ?_
    | refine at_ret (res_cell2 rfl rfl inferInstance (at_has (cs := [_, _, _]) (.inl rfl) rfl rfl) rfl) ?_
    | refine at_ret (res_cell2 rfl rfl inferInstance (at_has (cs := [_, _, _, _]) (.inl rfl) rfl rfl) rfl) ?_
    | refine at_ret (res2 rfl rfl rfl) ?_
    | refine at_ret (res0 rfl) ?_
    | refine at_next (res1 rfl rfl) ?_
    | exact ret_int inferInstance
    | exact ret_ inferInstance rfl
    | exact ret_tm inferInstance inferInstance inferInstance
    | refine wl_pop rfl (pc_indexAddrArr rfl rfl inferInstance inferInstance (by omega)) ?_
    | fail)
  · rename_i h1
    refine ⟨⟨_, rfl, ?_⟩, LeS.grow inferInstance⟩
    rw [List.any_eq_true.mpr ⟨_, hmem, h1⟩]; simp
  · rename_i h1
    refine ⟨k + 1, by omega, ⟨hk', ?_, LeS.grow inferInstance⟩, (by repeat' (first | exact sub_nil | refine sub_cons rfl ?_ | refine sub_int rfl (by first | rfl | omega | (push_cast; omega) | simp) ?_ | refine sub_eq rfl (by assumption) ?_))⟩
    rw [take_succ_getD hk' (d := (0, 0)), List.any_append, hf]; simp only [List.any_cons, List.any_nil, h1, Bool.or_self]
theorem c_ContainsFunc {ps : List Mv} {f : FuncId} {caps : List AV} (J : Store → Prop) (hJ : ∀ σ σ', Grow σ σ' → J σ → J σ') (p : Mv → Bool) [Callable Try.prog f]
    (h : ∀ m ∈ ps, ∀ (σ : Store), J σ → ACall Try.prog base f ([.agg [I m.1, I m.2]] ++ caps) σ (fun _ => False) (Ret σ (Bo (p m))))
    (σ : Store) (s : AV) [hs : RW σ s ps] (j0 : J σ) : ACall Try.prog base F_slices_ContainsFunc_impl_Move_impl_Move [s, .fn f caps] σ (fun _ => False) (Ret σ (Bo (ps.any p))) := by
  refine acall2 fun_slices_ContainsFunc_impl_Move_impl_Move rfl tmps_slices_ContainsFunc_impl_Move_impl_Move rfl fun N B w₀ ρ₀ => ?_
  repeat' (first
    | (refine wc_call rfl inferInstance rfl (c_IndexFunc J hJ p h _ _ j0) rfl ?_; rintro _ σ' ⟨⟨z, rfl, hz⟩, hg⟩)
    | refine at_ret (res_cell rfl rfl inferInstance (at_has (cs := [_]) (.inl rfl) rfl rfl)) ?_
    | refine at_ret (res_cell2 rfl rfl inferInstance (at_has (cs := [_]) (.inl rfl) rfl rfl) rfl) ?_
    | refine wl_pop rfl (pc_eqMv rfl rfl inferInstance) ?_
    | refine wl_pop rfl (pc_neMv rfl rfl inferInstance) ?_
    | refine wp_condPr rfl (fun _ => ?_) (fun _ => ?_)
    | refine wp_condNPr rfl (fun _ => ?_) (fun _ => ?_)
    | refine wp_seqA ?_
    | refine wp_region_seq ?_
    | refine thru_seq_next ?_
    | refine thru_seq_ret ?_
    | refine thru_seq ?_
    | refine thru_block_ret ?_
    | refine thru_block_next ?_
    | refine exit_here ?_
    | refine exit_past (by decide) ?_
    | refine thru_scope_ret ?_
    | refine thru_scope_next ?_
    | refine thru_scope ?_
    | refine wp_skipA ?_
    | refine wp_retA ?_
    | refine wp_exitA ?_
    | refine wp_blockA ?_
    | refine wp_scopeA ?_
    | refine wl_nil ?_
    | refine wl_pop rfl (po_move rfl) ?_
    | refine wl_pop rfl (po_assign rfl) ?_
    | refine wl_pop rfl (pc_add rfl rfl (by omega) (by omega)) ?_
    | refine wl_pop rfl (pc_sub rfl rfl (by omega) (by omega)) ?_
    | refine wl_pop rfl (po_binOp rfl rfl rfl) ?_
    | refine wl_pop rfl (pc_boolNeSelf rfl rfl inferInstance) ?_
    | refine wl_pop rfl (pc_boolNe rfl rfl inferInstance) ?_
    | refine wl_pop rfl (pc_boolEq rfl rfl inferInstance) ?_
    | refine wp_condT rfl ?_
    | refine wp_condF rfl ?_
    | refine wp_condP rfl (fun _ => ?_) (fun _ => ?_)
    | refine wp_condNP rfl (fun _ => ?_) (fun _ => ?_)
    | refine wp_condEq rfl (fun _ => ?_) (fun _ => ?_)
    | refine wp_condNe rfl (fun _ => ?_) (fun _ => ?_)
    | refine wp_condA rfl (fun _ => ?_) (fun _ => ?_)
    | refine at_ret (res1 rfl rfl) ?_
    | refine at_ret (res_cell rfl rfl inferInstance (at_has (cs := [_, _]) (.inl rfl) rfl rfl)) ?_
    | refine at_ret (res_cell rfl rfl inferInstance (at_has (cs := [_, _, _]) (.inl rfl) rfl rfl)) ?_
    | refine at_ret (res_cell rfl rfl inferInstance (at_has (cs := [_, _, _, _]) (.inl rfl) rfl rfl)) ?_
    | refine at_ret (res_cell2 rfl rfl inferInstance (at_has (cs := [_, _]) (.inl rfl) rfl rfl) rfl) ?_
    | refine at_ret (res_cell2 rfl rfl inferInstance (at_has (cs := [_, _, _]) (.inl rfl) rfl rfl) rfl) ?_
    | refine at_ret (res_cell2 rfl rfl inferInstance (at_has (cs := [_, _, _, _]) (.inl rfl) rfl rfl) rfl) ?_
    | refine at_ret (res2 rfl rfl rfl) ?_
    | refine at_ret (res0 rfl) ?_
    | refine at_next (res1 rfl rfl) ?_
    | exact ret_int inferInstance
    | exact ret_ inferInstance rfl
    | exact ret_tm inferInstance inferInstance inferInstance
    | fail)
  exact ret_ inferInstance (congrArg Bo hz)
end
end Go.Proofs.Ytemhpkfijoodkaa.Asl
