/- Which graphs are ones: the reference's answer. -/
import Derived.Test.YthbodgnoadlbcaaGreatDoorG3
namespace Go.Proofs.YthbodgnoadlbcaaGreatDoor.Asl
open Go.RowKit Go.Proofs.YthbodgnoadlbcaaGreatDoorW.PrintLast
set_option linter.unusedVariables false
attribute [local irreducible] WP WL andThen inBlock noGoto atEnd ACall DA DL PO Hold
set_option maxHeartbeats 4000000
section
variable {base : Nat}
theorem c_sGraphOk (σ : Store) (s : AV) {ss : List AV} {g : Gr} [hs : RW σ s ss] [hg : RRs σ ss g] : ACall Tryz.prog base F_spec_GraphOk [.agg [s]] σ (fun _ => False) (Ret σ (Bo (prB (GOk g)))) := by
  have hb := hs.bound
  have := hs.one
  have hl := hg.len
  refine acall1 fun_spec_GraphOk rfl tmps_spec_GraphOk rfl fun N B w₀ ρ₀ => ?_
  repeat' (first
    | (refine wc_callR rfl inI rfl (cg_l6In _ _ _ _) rfl ?_; intro _ _)
    | refine wl_pop rfl (pc_lenRow rfl inI inI) ?_
    | refine wp_seqA ?_
    | refine wp_region_seq ?_
    | refine thru_seq_next ?_
    | refine thru_seq_ret ?_
    | refine wp_skipA ?_
    | refine wp_retA ?_
    | refine wp_blockA ?_
    | refine wl_nil ?_
    | refine wl_pop rfl (po_assign rfl) ?_
    | refine wl_pop rfl (po_fieldAddr rfl inI) ?_
    | refine wc_load1 rfl inI (at_has (.inl rfl) rfl rfl) rfl ?_
    | refine wl_pop rfl (po_not rfl) ?_
    | (refine wc_boxA rfl inI rfl ?_; intro _ _ _ _ _)
    | refine wp_condNP rfl (fun _ => ?_) (fun _ => ?_)
    | refine at_ret (res1 rfl rfl) ?_
    | fail)
  · exact ret_ inI (congrArg Bo (prB_false fun (h : GOk g) => by have := h.most; have := h.pos; omega).symm)
  rename_i i σ₁ g1 n1 h1 σ₂ g2 hn
  have hn' : 1 ≤ g.length ∧ g.length ≤ 60 := by omega
  refine wc_loop [(1, _)] (fun k : Nat => [(3, I k)]) (fun k σ' => k ≤ g.length ∧ GTo g k ∧ LeS σ₁ σ') (fun k => g.length - k) 0 ⟨Nat.zero_le _, fun _ h => by omega, inI⟩ (by repeat' (first | exact sub_nil | refine sub_cons rfl ?_ | refine sub_int rfl (by first | rfl | omega | (push_cast; omega) | simp) ?_ | refine sub_eq rfl (by assumption) ?_)) ?_
  rintro k σ' ⟨hk, hto, hle⟩
  have := hle.grow
  repeat' (first
    | refine wl_pop rfl (pc_lenRow rfl inI inI) ?_
    | refine wp_seqA ?_
    | refine wp_region_seq ?_
    | refine thru_seq_next ?_
    | refine thru_seq ?_
    | refine exit_here ?_
    | refine wp_skipA ?_
    | refine wp_retA ?_
    | refine wp_exitA ?_
    | refine wp_blockA ?_
    | refine wl_nil ?_
    | refine wl_pop rfl (po_move rfl) ?_
    | refine wl_pop rfl (po_assign rfl) ?_
    | refine wl_pop rfl (po_binOp rfl rfl rfl) ?_
    | refine wl_pop rfl (po_fieldAddr rfl inI) ?_
    | refine wc_load1 rfl inI (at_has (.inl rfl) rfl rfl) rfl ?_
    | refine wp_condP rfl (fun _ => ?_) (fun _ => ?_)
    | refine at_ret (res1 rfl rfl) ?_
    | fail)
  rotate_left
  · obtain rfl : k = g.length := by omega
    exact ret_ inI (congrArg Bo (prB_true (gok_iff.mpr ⟨by omega, hto⟩)).symm)
  have hk' : k < g.length := by omega
  have hbk := (inI : RW σ' (ss.getD k nilS) (g.getD k [])).bound
  refine wc_loop [(1, _), (3, _)] (fun q : Nat => [(4, I q)]) (fun q σ'' => q ≤ (g.getD k []).length ∧ RowTo g.length (g.getD k []) q ∧ LeS σ₁ σ'') (fun q => (g.getD k []).length - q) 0 ⟨Nat.zero_le _, fun _ h => by omega, inI⟩ (by repeat' (first | exact sub_nil | refine sub_cons rfl ?_ | refine sub_int rfl (by first | rfl | omega | (push_cast; omega) | simp) ?_ | refine sub_eq rfl (by assumption) ?_)) ?_
  rintro q σ'' ⟨hq, hqto, hle2⟩
  have := hle2.grow
  repeat' (first
    | refine wl_pop rfl (pc_ldAV rfl inI inI (by omega) inI) ?_
    | refine wl_pop rfl (pc_ldMv rfl inI inI (by omega) inI) ?_
    | refine wl_pop rfl (pc_indexRow rfl rfl inI inI inI (by omega)) ?_
    | refine wl_pop rfl (pc_lenRow rfl inI inI) ?_
    | refine wp_seqA ?_
    | refine wp_region_seq ?_
    | refine thru_seq_next ?_
    | refine thru_seq ?_
    | refine thru_block_next ?_
    | refine exit_here ?_
    | refine wp_skipA ?_
    | refine wp_exitA ?_
    | refine wp_blockA ?_
    | refine wl_nil ?_
    | refine wl_pop rfl (po_move rfl) ?_
    | refine wl_pop rfl (po_assign rfl) ?_
    | refine wl_pop rfl (pc_add rfl rfl (by omega) (by omega)) ?_
    | refine wl_pop rfl (po_binOp rfl rfl rfl) ?_
    | refine wl_pop rfl (po_fieldAddr rfl inI) ?_
    | refine wc_load1 rfl inI (at_has (.inl rfl) rfl rfl) rfl ?_
    | (refine wc_storeA rfl rfl inI inI rfl inI (Nat.le_of_ble_eq_true rfl) (.inr (may_new _)) ?_; intro _ _)
    | (refine wc_allocA (cs := [_, _]) inI rfl inI rfl ?_; intro _ _ _ _ _)
    | refine wp_condP rfl (fun _ => ?_) (fun _ => ?_)
    | fail)
  rotate_left
  · obtain rfl : q = (g.getD k []).length := by omega
    exact ⟨k + 1, by omega, ⟨hk', gTo_succ hto hqto, inI⟩, (by repeat' (first | exact sub_nil | refine sub_cons rfl ?_ | refine sub_int rfl (by first | rfl | omega | (push_cast; omega) | simp) ?_ | refine sub_eq rfl (by assumption) ?_))⟩
  have hq' : q < (g.getD k []).length := by omega
  refine wc_drawn [] mixed_ rfl ?_
  all_goals refine da_takeC 0 rfl rfl (by kernel_rfl) (by first | exact po_fieldAddr rfl inI | fail) ?_
  all_goals refine da_takeC 1 rfl rfl (by kernel_rfl) (by first | exact pc_load1L rfl inI (at_has (.inl rfl) rfl rfl) inI | fail) ?_
  all_goals (first | (refine da_one 2 rfl (by kernel_rfl) (fun _ _ _ _ => ?_); (repeat' (first | (refine wc_callR rfl inI rfl (cg_sActOk _ _) rfl ?_; intro _ _) | fail)); all_goals (first | refine wl_nil ⟨rfl, (by first | exact LeS.len inI | exact App.len (by assumption)), ?_⟩ | trace_state)))
  all_goals refine da_takeC 3 rfl rfl (by kernel_rfl) (by first | exact po_not rfl | fail) ?_
  all_goals refine da_takeC 4 rfl rfl (by kernel_rfl) (by first | exact po_move rfl | fail) ?_
  all_goals (first | refine da_onC 5 rfl rfl rfl rfl rfl (by kernel_rfl) (by first | exact po_fieldAddr rfl inI | fail) ?_ | refine da_offC 5 rfl rfl rfl rfl rfl rfl (by kernel_rfl) ?_ | refine da_offU 5 rfl rfl rfl rfl rfl (by kernel_rfl) ?_ | ((first | refine da_caseP (t := 40) rfl (fun _ => ?_) (fun _ => ?_) | refine da_caseNP (t := 40) rfl (fun _ => ?_) (fun _ => ?_) | refine da_caseEq (t := 40) rfl (fun _ => ?_) (fun _ => ?_) | refine da_caseNe (t := 40) rfl (fun _ => ?_) (fun _ => ?_) | refine da_caseNB (t := 40) rfl (fun _ => ?_) (fun _ => ?_) | refine da_case (t := 40) rfl (fun _ => ?_) (fun _ => ?_)) <;> (first | refine da_onC 5 rfl rfl rfl rfl rfl (by kernel_rfl) (by first | exact po_fieldAddr rfl inI | fail) ?_ | refine da_offC 5 rfl rfl rfl rfl rfl rfl (by kernel_rfl) ?_ | refine da_offU 5 rfl rfl rfl rfl rfl (by kernel_rfl) ?_)))
  all_goals (first | refine da_onC 6 rfl rfl rfl rfl rfl (by kernel_rfl) (by first | exact pc_load1L rfl inI (at_has (.inl rfl) rfl rfl) inI | fail) ?_ | refine da_offC 6 rfl rfl rfl rfl rfl rfl (by kernel_rfl) ?_ | refine da_offU 6 rfl rfl rfl rfl rfl (by kernel_rfl) ?_ | ((first | refine da_caseP (t := 40) rfl (fun _ => ?_) (fun _ => ?_) | refine da_caseNP (t := 40) rfl (fun _ => ?_) (fun _ => ?_) | refine da_caseEq (t := 40) rfl (fun _ => ?_) (fun _ => ?_) | refine da_caseNe (t := 40) rfl (fun _ => ?_) (fun _ => ?_) | refine da_caseNB (t := 40) rfl (fun _ => ?_) (fun _ => ?_) | refine da_case (t := 40) rfl (fun _ => ?_) (fun _ => ?_)) <;> (first | refine da_onC 6 rfl rfl rfl rfl rfl (by kernel_rfl) (by first | exact pc_load1L rfl inI (at_has (.inl rfl) rfl rfl) inI | fail) ?_ | refine da_offC 6 rfl rfl rfl rfl rfl rfl (by kernel_rfl) ?_ | refine da_offU 6 rfl rfl rfl rfl rfl (by kernel_rfl) ?_)))
  all_goals (first | refine da_onC 7 rfl rfl rfl rfl rfl (by kernel_rfl) (by first | exact po_fieldAddr rfl inI | fail) ?_ | refine da_offC 7 rfl rfl rfl rfl rfl rfl (by kernel_rfl) ?_ | refine da_offU 7 rfl rfl rfl rfl rfl (by kernel_rfl) ?_ | ((first | refine da_caseP (t := 40) rfl (fun _ => ?_) (fun _ => ?_) | refine da_caseNP (t := 40) rfl (fun _ => ?_) (fun _ => ?_) | refine da_caseEq (t := 40) rfl (fun _ => ?_) (fun _ => ?_) | refine da_caseNe (t := 40) rfl (fun _ => ?_) (fun _ => ?_) | refine da_caseNB (t := 40) rfl (fun _ => ?_) (fun _ => ?_) | refine da_case (t := 40) rfl (fun _ => ?_) (fun _ => ?_)) <;> (first | refine da_onC 7 rfl rfl rfl rfl rfl (by kernel_rfl) (by first | exact po_fieldAddr rfl inI | fail) ?_ | refine da_offC 7 rfl rfl rfl rfl rfl rfl (by kernel_rfl) ?_ | refine da_offU 7 rfl rfl rfl rfl rfl (by kernel_rfl) ?_)))
  all_goals (first | refine da_onC 8 rfl rfl rfl rfl rfl (by kernel_rfl) (by first | exact pc_load1L rfl inI (at_has (.inl rfl) rfl rfl) inI | fail) ?_ | refine da_offC 8 rfl rfl rfl rfl rfl rfl (by kernel_rfl) ?_ | refine da_offU 8 rfl rfl rfl rfl rfl (by kernel_rfl) ?_ | ((first | refine da_caseP (t := 40) rfl (fun _ => ?_) (fun _ => ?_) | refine da_caseNP (t := 40) rfl (fun _ => ?_) (fun _ => ?_) | refine da_caseEq (t := 40) rfl (fun _ => ?_) (fun _ => ?_) | refine da_caseNe (t := 40) rfl (fun _ => ?_) (fun _ => ?_) | refine da_caseNB (t := 40) rfl (fun _ => ?_) (fun _ => ?_) | refine da_case (t := 40) rfl (fun _ => ?_) (fun _ => ?_)) <;> (first | refine da_onC 8 rfl rfl rfl rfl rfl (by kernel_rfl) (by first | exact pc_load1L rfl inI (at_has (.inl rfl) rfl rfl) inI | fail) ?_ | refine da_offC 8 rfl rfl rfl rfl rfl rfl (by kernel_rfl) ?_ | refine da_offU 8 rfl rfl rfl rfl rfl (by kernel_rfl) ?_)))
  all_goals (first | refine da_onC 9 rfl rfl rfl rfl rfl (by kernel_rfl) (by first | exact pc_lenRow rfl inI inI | fail) ?_ | refine da_offC 9 rfl rfl rfl rfl rfl rfl (by kernel_rfl) ?_ | refine da_offU 9 rfl rfl rfl rfl rfl (by kernel_rfl) ?_ | ((first | refine da_caseP (t := 40) rfl (fun _ => ?_) (fun _ => ?_) | refine da_caseNP (t := 40) rfl (fun _ => ?_) (fun _ => ?_) | refine da_caseEq (t := 40) rfl (fun _ => ?_) (fun _ => ?_) | refine da_caseNe (t := 40) rfl (fun _ => ?_) (fun _ => ?_) | refine da_caseNB (t := 40) rfl (fun _ => ?_) (fun _ => ?_) | refine da_case (t := 40) rfl (fun _ => ?_) (fun _ => ?_)) <;> (first | refine da_onC 9 rfl rfl rfl rfl rfl (by kernel_rfl) (by first | exact pc_lenRow rfl inI inI | fail) ?_ | refine da_offC 9 rfl rfl rfl rfl rfl rfl (by kernel_rfl) ?_ | refine da_offU 9 rfl rfl rfl rfl rfl (by kernel_rfl) ?_)))
  all_goals (first | refine da_onC 10 rfl rfl rfl rfl rfl (by kernel_rfl) (by first | exact pc_sub rfl rfl (by omega) (by omega) | fail) ?_ | refine da_offC 10 rfl rfl rfl rfl rfl rfl (by kernel_rfl) ?_ | refine da_offU 10 rfl rfl rfl rfl rfl (by kernel_rfl) ?_ | ((first | refine da_caseP (t := 40) rfl (fun _ => ?_) (fun _ => ?_) | refine da_caseNP (t := 40) rfl (fun _ => ?_) (fun _ => ?_) | refine da_caseEq (t := 40) rfl (fun _ => ?_) (fun _ => ?_) | refine da_caseNe (t := 40) rfl (fun _ => ?_) (fun _ => ?_) | refine da_caseNB (t := 40) rfl (fun _ => ?_) (fun _ => ?_) | refine da_case (t := 40) rfl (fun _ => ?_) (fun _ => ?_)) <;> (first | refine da_onC 10 rfl rfl rfl rfl rfl (by kernel_rfl) (by first | exact pc_sub rfl rfl (by omega) (by omega) | fail) ?_ | refine da_offC 10 rfl rfl rfl rfl rfl rfl (by kernel_rfl) ?_ | refine da_offU 10 rfl rfl rfl rfl rfl (by kernel_rfl) ?_)))
  all_goals (first | refine da_offC 11 rfl rfl rfl rfl rfl rfl (by kernel_rfl) ?_ | refine da_offU 11 rfl rfl rfl rfl rfl (by kernel_rfl) ?_ | (refine da_one 11 rfl (by kernel_rfl) (fun _ _ _ _ => ?_); (repeat' (first | (refine wc_callR rfl inI rfl (cg_l6In _ _ _ _) rfl ?_; intro _ _) | refine wc_guardT_false rfl rfl rfl ?_ | fail)); all_goals (first | refine wl_nil ⟨rfl, (by first | exact LeS.len inI | exact App.len (by assumption)), ?_⟩ | trace_state)) | ((first | refine da_caseP (t := 40) rfl (fun _ => ?_) (fun _ => ?_) | refine da_caseNP (t := 40) rfl (fun _ => ?_) (fun _ => ?_) | refine da_caseEq (t := 40) rfl (fun _ => ?_) (fun _ => ?_) | refine da_caseNe (t := 40) rfl (fun _ => ?_) (fun _ => ?_) | refine da_caseNB (t := 40) rfl (fun _ => ?_) (fun _ => ?_) | refine da_case (t := 40) rfl (fun _ => ?_) (fun _ => ?_)) <;> (first | refine da_offC 11 rfl rfl rfl rfl rfl rfl (by kernel_rfl) ?_ | refine da_offU 11 rfl rfl rfl rfl rfl (by kernel_rfl) ?_ | (refine da_one 11 rfl (by kernel_rfl) (fun _ _ _ _ => ?_); (repeat' (first | (refine wc_callR rfl inI rfl (cg_l6In _ _ _ _) rfl ?_; intro _ _) | refine wc_guardT_false rfl rfl rfl ?_ | fail)); all_goals (first | refine wl_nil ⟨rfl, (by first | exact LeS.len inI | exact App.len (by assumption)), ?_⟩ | trace_state)))))
  all_goals (first | refine da_onC 12 rfl rfl rfl rfl rfl (by kernel_rfl) (by first | exact po_not rfl | fail) ?_ | refine da_offC 12 rfl rfl rfl rfl rfl rfl (by kernel_rfl) ?_ | refine da_offU 12 rfl rfl rfl rfl rfl (by kernel_rfl) ?_ | ((first | refine da_caseP (t := 40) rfl (fun _ => ?_) (fun _ => ?_) | refine da_caseNP (t := 40) rfl (fun _ => ?_) (fun _ => ?_) | refine da_caseEq (t := 40) rfl (fun _ => ?_) (fun _ => ?_) | refine da_caseNe (t := 40) rfl (fun _ => ?_) (fun _ => ?_) | refine da_caseNB (t := 40) rfl (fun _ => ?_) (fun _ => ?_) | refine da_case (t := 40) rfl (fun _ => ?_) (fun _ => ?_)) <;> (first | refine da_onC 12 rfl rfl rfl rfl rfl (by kernel_rfl) (by first | exact po_not rfl | fail) ?_ | refine da_offC 12 rfl rfl rfl rfl rfl rfl (by kernel_rfl) ?_ | refine da_offU 12 rfl rfl rfl rfl rfl (by kernel_rfl) ?_)))
  all_goals refine da_takeC 13 rfl rfl (by kernel_rfl) (by first | exact po_pick rfl rfl | fail) ?_
  all_goals refine da_takeC 14 rfl rfl (by kernel_rfl) (by first | exact po_move rfl | fail) ?_
  all_goals (first | refine da_onC 15 rfl rfl rfl rfl rfl (by kernel_rfl) (by first | exact po_move rfl | fail) ?_ | refine da_offC 15 rfl rfl rfl rfl rfl rfl (by kernel_rfl) ?_ | refine da_offU 15 rfl rfl rfl rfl rfl (by kernel_rfl) ?_ | ((first | refine da_caseP (t := 50) rfl (fun _ => ?_) (fun _ => ?_) | refine da_caseNP (t := 50) rfl (fun _ => ?_) (fun _ => ?_) | refine da_caseEq (t := 50) rfl (fun _ => ?_) (fun _ => ?_) | refine da_caseNe (t := 50) rfl (fun _ => ?_) (fun _ => ?_) | refine da_caseNB (t := 50) rfl (fun _ => ?_) (fun _ => ?_) | refine da_case (t := 50) rfl (fun _ => ?_) (fun _ => ?_)) <;> (first | refine da_onC 15 rfl rfl rfl rfl rfl (by kernel_rfl) (by first | exact po_move rfl | fail) ?_ | refine da_offC 15 rfl rfl rfl rfl rfl rfl (by kernel_rfl) ?_ | refine da_offU 15 rfl rfl rfl rfl rfl (by kernel_rfl) ?_)))
  all_goals (first | refine da_onC 16 rfl rfl rfl rfl rfl (by kernel_rfl) (by first | exact po_binOp rfl rfl rfl | fail) ?_ | refine da_offC 16 rfl rfl rfl rfl rfl rfl (by kernel_rfl) ?_ | refine da_offU 16 rfl rfl rfl rfl rfl (by kernel_rfl) ?_ | ((first | refine da_caseP (t := 50) rfl (fun _ => ?_) (fun _ => ?_) | refine da_caseNP (t := 50) rfl (fun _ => ?_) (fun _ => ?_) | refine da_caseEq (t := 50) rfl (fun _ => ?_) (fun _ => ?_) | refine da_caseNe (t := 50) rfl (fun _ => ?_) (fun _ => ?_) | refine da_caseNB (t := 50) rfl (fun _ => ?_) (fun _ => ?_) | refine da_case (t := 50) rfl (fun _ => ?_) (fun _ => ?_)) <;> (first | refine da_onC 16 rfl rfl rfl rfl rfl (by kernel_rfl) (by first | exact po_binOp rfl rfl rfl | fail) ?_ | refine da_offC 16 rfl rfl rfl rfl rfl rfl (by kernel_rfl) ?_ | refine da_offU 16 rfl rfl rfl rfl rfl (by kernel_rfl) ?_)))
  all_goals (first | refine da_onC 17 rfl rfl rfl rfl rfl (by kernel_rfl) (by first | exact po_move rfl | fail) ?_ | refine da_offC 17 rfl rfl rfl rfl rfl rfl (by kernel_rfl) ?_ | refine da_offU 17 rfl rfl rfl rfl rfl (by kernel_rfl) ?_ | ((first | refine da_caseP (t := 50) rfl (fun _ => ?_) (fun _ => ?_) | refine da_caseNP (t := 50) rfl (fun _ => ?_) (fun _ => ?_) | refine da_caseEq (t := 50) rfl (fun _ => ?_) (fun _ => ?_) | refine da_caseNe (t := 50) rfl (fun _ => ?_) (fun _ => ?_) | refine da_caseNB (t := 50) rfl (fun _ => ?_) (fun _ => ?_) | refine da_case (t := 50) rfl (fun _ => ?_) (fun _ => ?_)) <;> (first | refine da_onC 17 rfl rfl rfl rfl rfl (by kernel_rfl) (by first | exact po_move rfl | fail) ?_ | refine da_offC 17 rfl rfl rfl rfl rfl rfl (by kernel_rfl) ?_ | refine da_offU 17 rfl rfl rfl rfl rfl (by kernel_rfl) ?_)))
  all_goals (first | refine da_onC 18 rfl rfl rfl rfl rfl (by kernel_rfl) (by first | exact po_fieldAddr rfl inI | fail) ?_ | refine da_offC 18 rfl rfl rfl rfl rfl rfl (by kernel_rfl) ?_ | refine da_offU 18 rfl rfl rfl rfl rfl (by kernel_rfl) ?_ | ((first | refine da_caseP (t := 53) rfl (fun _ => ?_) (fun _ => ?_) | refine da_caseNP (t := 53) rfl (fun _ => ?_) (fun _ => ?_) | refine da_caseEq (t := 53) rfl (fun _ => ?_) (fun _ => ?_) | refine da_caseNe (t := 53) rfl (fun _ => ?_) (fun _ => ?_) | refine da_caseNB (t := 53) rfl (fun _ => ?_) (fun _ => ?_) | refine da_case (t := 53) rfl (fun _ => ?_) (fun _ => ?_)) <;> (first | refine da_onC 18 rfl rfl rfl rfl rfl (by kernel_rfl) (by first | exact po_fieldAddr rfl inI | fail) ?_ | refine da_offC 18 rfl rfl rfl rfl rfl rfl (by kernel_rfl) ?_ | refine da_offU 18 rfl rfl rfl rfl rfl (by kernel_rfl) ?_)))
  all_goals (first | refine da_onC 19 rfl rfl rfl rfl rfl (by kernel_rfl) (by first | exact pc_load1L rfl inI (at_has (.inl rfl) rfl rfl) inI | fail) ?_ | refine da_offC 19 rfl rfl rfl rfl rfl rfl (by kernel_rfl) ?_ | refine da_offU 19 rfl rfl rfl rfl rfl (by kernel_rfl) ?_ | ((first | refine da_caseP (t := 53) rfl (fun _ => ?_) (fun _ => ?_) | refine da_caseNP (t := 53) rfl (fun _ => ?_) (fun _ => ?_) | refine da_caseEq (t := 53) rfl (fun _ => ?_) (fun _ => ?_) | refine da_caseNe (t := 53) rfl (fun _ => ?_) (fun _ => ?_) | refine da_caseNB (t := 53) rfl (fun _ => ?_) (fun _ => ?_) | refine da_case (t := 53) rfl (fun _ => ?_) (fun _ => ?_)) <;> (first | refine da_onC 19 rfl rfl rfl rfl rfl (by kernel_rfl) (by first | exact pc_load1L rfl inI (at_has (.inl rfl) rfl rfl) inI | fail) ?_ | refine da_offC 19 rfl rfl rfl rfl rfl rfl (by kernel_rfl) ?_ | refine da_offU 19 rfl rfl rfl rfl rfl (by kernel_rfl) ?_)))
  all_goals (first | refine da_onC 20 rfl rfl rfl rfl rfl (by kernel_rfl) (by first | exact po_move rfl | fail) ?_ | refine da_offC 20 rfl rfl rfl rfl rfl rfl (by kernel_rfl) ?_ | refine da_offU 20 rfl rfl rfl rfl rfl (by kernel_rfl) ?_ | ((first | refine da_caseP (t := 53) rfl (fun _ => ?_) (fun _ => ?_) | refine da_caseNP (t := 53) rfl (fun _ => ?_) (fun _ => ?_) | refine da_caseEq (t := 53) rfl (fun _ => ?_) (fun _ => ?_) | refine da_caseNe (t := 53) rfl (fun _ => ?_) (fun _ => ?_) | refine da_caseNB (t := 53) rfl (fun _ => ?_) (fun _ => ?_) | refine da_case (t := 53) rfl (fun _ => ?_) (fun _ => ?_)) <;> (first | refine da_onC 20 rfl rfl rfl rfl rfl (by kernel_rfl) (by first | exact po_move rfl | fail) ?_ | refine da_offC 20 rfl rfl rfl rfl rfl rfl (by kernel_rfl) ?_ | refine da_offU 20 rfl rfl rfl rfl rfl (by kernel_rfl) ?_)))
  all_goals (first | refine da_onC 21 rfl rfl rfl rfl rfl (by kernel_rfl) (by first | exact pc_indexRow rfl rfl inI inI inI (by omega) | fail) ?_ | refine da_offC 21 rfl rfl rfl rfl rfl rfl (by kernel_rfl) ?_ | refine da_offU 21 rfl rfl rfl rfl rfl (by kernel_rfl) ?_ | ((first | refine da_caseP (t := 53) rfl (fun _ => ?_) (fun _ => ?_) | refine da_caseNP (t := 53) rfl (fun _ => ?_) (fun _ => ?_) | refine da_caseEq (t := 53) rfl (fun _ => ?_) (fun _ => ?_) | refine da_caseNe (t := 53) rfl (fun _ => ?_) (fun _ => ?_) | refine da_caseNB (t := 53) rfl (fun _ => ?_) (fun _ => ?_) | refine da_case (t := 53) rfl (fun _ => ?_) (fun _ => ?_)) <;> (first | refine da_onC 21 rfl rfl rfl rfl rfl (by kernel_rfl) (by first | exact pc_indexRow rfl rfl inI inI inI (by omega) | fail) ?_ | refine da_offC 21 rfl rfl rfl rfl rfl rfl (by kernel_rfl) ?_ | refine da_offU 21 rfl rfl rfl rfl rfl (by kernel_rfl) ?_)))
  all_goals (first | refine da_onC 22 rfl rfl rfl rfl rfl (by kernel_rfl) (by first | exact pc_ldAV rfl inI inI (by omega) inI | fail) ?_ | refine da_offC 22 rfl rfl rfl rfl rfl rfl (by kernel_rfl) ?_ | refine da_offU 22 rfl rfl rfl rfl rfl (by kernel_rfl) ?_ | ((first | refine da_caseP (t := 53) rfl (fun _ => ?_) (fun _ => ?_) | refine da_caseNP (t := 53) rfl (fun _ => ?_) (fun _ => ?_) | refine da_caseEq (t := 53) rfl (fun _ => ?_) (fun _ => ?_) | refine da_caseNe (t := 53) rfl (fun _ => ?_) (fun _ => ?_) | refine da_caseNB (t := 53) rfl (fun _ => ?_) (fun _ => ?_) | refine da_case (t := 53) rfl (fun _ => ?_) (fun _ => ?_)) <;> (first | refine da_onC 22 rfl rfl rfl rfl rfl (by kernel_rfl) (by first | exact pc_ldAV rfl inI inI (by omega) inI | fail) ?_ | refine da_offC 22 rfl rfl rfl rfl rfl rfl (by kernel_rfl) ?_ | refine da_offU 22 rfl rfl rfl rfl rfl (by kernel_rfl) ?_)))
  all_goals (first | refine da_onC 23 rfl rfl rfl rfl rfl (by kernel_rfl) (by first | exact po_move rfl | fail) ?_ | refine da_offC 23 rfl rfl rfl rfl rfl rfl (by kernel_rfl) ?_ | refine da_offU 23 rfl rfl rfl rfl rfl (by kernel_rfl) ?_ | ((first | refine da_caseP (t := 53) rfl (fun _ => ?_) (fun _ => ?_) | refine da_caseNP (t := 53) rfl (fun _ => ?_) (fun _ => ?_) | refine da_caseEq (t := 53) rfl (fun _ => ?_) (fun _ => ?_) | refine da_caseNe (t := 53) rfl (fun _ => ?_) (fun _ => ?_) | refine da_caseNB (t := 53) rfl (fun _ => ?_) (fun _ => ?_) | refine da_case (t := 53) rfl (fun _ => ?_) (fun _ => ?_)) <;> (first | refine da_onC 23 rfl rfl rfl rfl rfl (by kernel_rfl) (by first | exact po_move rfl | fail) ?_ | refine da_offC 23 rfl rfl rfl rfl rfl rfl (by kernel_rfl) ?_ | refine da_offU 23 rfl rfl rfl rfl rfl (by kernel_rfl) ?_)))
  all_goals (first | refine da_onC 24 rfl rfl rfl rfl rfl (by kernel_rfl) (by first | exact pc_sub rfl rfl (by omega) (by omega) | fail) ?_ | refine da_offC 24 rfl rfl rfl rfl rfl rfl (by kernel_rfl) ?_ | refine da_offU 24 rfl rfl rfl rfl rfl (by kernel_rfl) ?_ | ((first | refine da_caseP (t := 53) rfl (fun _ => ?_) (fun _ => ?_) | refine da_caseNP (t := 53) rfl (fun _ => ?_) (fun _ => ?_) | refine da_caseEq (t := 53) rfl (fun _ => ?_) (fun _ => ?_) | refine da_caseNe (t := 53) rfl (fun _ => ?_) (fun _ => ?_) | refine da_caseNB (t := 53) rfl (fun _ => ?_) (fun _ => ?_) | refine da_case (t := 53) rfl (fun _ => ?_) (fun _ => ?_)) <;> (first | refine da_onC 24 rfl rfl rfl rfl rfl (by kernel_rfl) (by first | exact pc_sub rfl rfl (by omega) (by omega) | fail) ?_ | refine da_offC 24 rfl rfl rfl rfl rfl rfl (by kernel_rfl) ?_ | refine da_offU 24 rfl rfl rfl rfl rfl (by kernel_rfl) ?_)))
  all_goals (first | refine da_onC 25 rfl rfl rfl rfl rfl (by kernel_rfl) (by first | exact pc_indexRowZ rfl rfl inI inI inI (by omega) (by omega) | fail) ?_ | refine da_offC 25 rfl rfl rfl rfl rfl rfl (by kernel_rfl) ?_ | refine da_offU 25 rfl rfl rfl rfl rfl (by kernel_rfl) ?_ | ((first | refine da_caseP (t := 53) rfl (fun _ => ?_) (fun _ => ?_) | refine da_caseNP (t := 53) rfl (fun _ => ?_) (fun _ => ?_) | refine da_caseEq (t := 53) rfl (fun _ => ?_) (fun _ => ?_) | refine da_caseNe (t := 53) rfl (fun _ => ?_) (fun _ => ?_) | refine da_caseNB (t := 53) rfl (fun _ => ?_) (fun _ => ?_) | refine da_case (t := 53) rfl (fun _ => ?_) (fun _ => ?_)) <;> (first | refine da_onC 25 rfl rfl rfl rfl rfl (by kernel_rfl) (by first | exact pc_indexRowZ rfl rfl inI inI inI (by omega) (by omega) | fail) ?_ | refine da_offC 25 rfl rfl rfl rfl rfl rfl (by kernel_rfl) ?_ | refine da_offU 25 rfl rfl rfl rfl rfl (by kernel_rfl) ?_)))
  all_goals (first | refine da_onC 26 rfl rfl rfl rfl rfl (by kernel_rfl) (by first | exact pc_ldMv rfl inI inI (by omega) inI | fail) ?_ | refine da_offC 26 rfl rfl rfl rfl rfl rfl (by kernel_rfl) ?_ | refine da_offU 26 rfl rfl rfl rfl rfl (by kernel_rfl) ?_ | ((first | refine da_caseP (t := 53) rfl (fun _ => ?_) (fun _ => ?_) | refine da_caseNP (t := 53) rfl (fun _ => ?_) (fun _ => ?_) | refine da_caseEq (t := 53) rfl (fun _ => ?_) (fun _ => ?_) | refine da_caseNe (t := 53) rfl (fun _ => ?_) (fun _ => ?_) | refine da_caseNB (t := 53) rfl (fun _ => ?_) (fun _ => ?_) | refine da_case (t := 53) rfl (fun _ => ?_) (fun _ => ?_)) <;> (first | refine da_onC 26 rfl rfl rfl rfl rfl (by kernel_rfl) (by first | exact pc_ldMv rfl inI inI (by omega) inI | fail) ?_ | refine da_offC 26 rfl rfl rfl rfl rfl rfl (by kernel_rfl) ?_ | refine da_offU 26 rfl rfl rfl rfl rfl (by kernel_rfl) ?_)))
  all_goals (first | refine da_onC 27 rfl rfl rfl rfl rfl (by kernel_rfl) (by first | exact pc_loadnL rfl inI (at_has (cs := [_, _]) (.inl rfl) rfl rfl) inI | fail) ?_ | refine da_offC 27 rfl rfl rfl rfl rfl rfl (by kernel_rfl) ?_ | refine da_offU 27 rfl rfl rfl rfl rfl (by kernel_rfl) ?_ | ((first | refine da_caseP (t := 53) rfl (fun _ => ?_) (fun _ => ?_) | refine da_caseNP (t := 53) rfl (fun _ => ?_) (fun _ => ?_) | refine da_caseEq (t := 53) rfl (fun _ => ?_) (fun _ => ?_) | refine da_caseNe (t := 53) rfl (fun _ => ?_) (fun _ => ?_) | refine da_caseNB (t := 53) rfl (fun _ => ?_) (fun _ => ?_) | refine da_case (t := 53) rfl (fun _ => ?_) (fun _ => ?_)) <;> (first | refine da_onC 27 rfl rfl rfl rfl rfl (by kernel_rfl) (by first | exact pc_loadnL rfl inI (at_has (cs := [_, _]) (.inl rfl) rfl rfl) inI | fail) ?_ | refine da_offC 27 rfl rfl rfl rfl rfl rfl (by kernel_rfl) ?_ | refine da_offU 27 rfl rfl rfl rfl rfl (by kernel_rfl) ?_)))
  all_goals (first | refine da_offC 28 rfl rfl rfl rfl rfl rfl (by kernel_rfl) ?_ | refine da_offU 28 rfl rfl rfl rfl rfl (by kernel_rfl) ?_ | (refine da_one 28 rfl (by kernel_rfl) (fun _ _ _ _ => ?_); (repeat' (first | (refine wc_callR rfl inI rfl (c_l3Less _ _ _ _ _) rfl ?_; intro _ _) | refine wc_guardT_true rfl rfl rfl ?_ | fail)); all_goals (first | refine wl_nil ⟨rfl, (by first | exact LeS.len inI | exact App.len (by assumption)), ?_⟩ | trace_state)) | ((first | refine da_caseP (t := 53) rfl (fun _ => ?_) (fun _ => ?_) | refine da_caseNP (t := 53) rfl (fun _ => ?_) (fun _ => ?_) | refine da_caseEq (t := 53) rfl (fun _ => ?_) (fun _ => ?_) | refine da_caseNe (t := 53) rfl (fun _ => ?_) (fun _ => ?_) | refine da_caseNB (t := 53) rfl (fun _ => ?_) (fun _ => ?_) | refine da_case (t := 53) rfl (fun _ => ?_) (fun _ => ?_)) <;> (first | refine da_offC 28 rfl rfl rfl rfl rfl rfl (by kernel_rfl) ?_ | refine da_offU 28 rfl rfl rfl rfl rfl (by kernel_rfl) ?_ | (refine da_one 28 rfl (by kernel_rfl) (fun _ _ _ _ => ?_); (repeat' (first | (refine wc_callR rfl inI rfl (c_l3Less _ _ _ _ _) rfl ?_; intro _ _) | refine wc_guardT_true rfl rfl rfl ?_ | fail)); all_goals (first | refine wl_nil ⟨rfl, (by first | exact LeS.len inI | exact App.len (by assumption)), ?_⟩ | trace_state)))))
  all_goals (first | refine da_onC 29 rfl rfl rfl rfl rfl (by kernel_rfl) (by first | exact po_not rfl | fail) ?_ | refine da_offC 29 rfl rfl rfl rfl rfl rfl (by kernel_rfl) ?_ | refine da_offU 29 rfl rfl rfl rfl rfl (by kernel_rfl) ?_ | ((first | refine da_caseP (t := 53) rfl (fun _ => ?_) (fun _ => ?_) | refine da_caseNP (t := 53) rfl (fun _ => ?_) (fun _ => ?_) | refine da_caseEq (t := 53) rfl (fun _ => ?_) (fun _ => ?_) | refine da_caseNe (t := 53) rfl (fun _ => ?_) (fun _ => ?_) | refine da_caseNB (t := 53) rfl (fun _ => ?_) (fun _ => ?_) | refine da_case (t := 53) rfl (fun _ => ?_) (fun _ => ?_)) <;> (first | refine da_onC 29 rfl rfl rfl rfl rfl (by kernel_rfl) (by first | exact po_not rfl | fail) ?_ | refine da_offC 29 rfl rfl rfl rfl rfl rfl (by kernel_rfl) ?_ | refine da_offU 29 rfl rfl rfl rfl rfl (by kernel_rfl) ?_)))
  all_goals (first | refine da_onC 30 rfl rfl rfl rfl rfl (by kernel_rfl) (by first | exact po_pick rfl rfl | fail) ?_ | refine da_offC 30 rfl rfl rfl rfl rfl rfl (by kernel_rfl) ?_ | refine da_offU 30 rfl rfl rfl rfl rfl (by kernel_rfl) ?_ | ((first | refine da_caseP (t := 50) rfl (fun _ => ?_) (fun _ => ?_) | refine da_caseNP (t := 50) rfl (fun _ => ?_) (fun _ => ?_) | refine da_caseEq (t := 50) rfl (fun _ => ?_) (fun _ => ?_) | refine da_caseNe (t := 50) rfl (fun _ => ?_) (fun _ => ?_) | refine da_caseNB (t := 50) rfl (fun _ => ?_) (fun _ => ?_) | refine da_case (t := 50) rfl (fun _ => ?_) (fun _ => ?_)) <;> (first | refine da_onC 30 rfl rfl rfl rfl rfl (by kernel_rfl) (by first | exact po_pick rfl rfl | fail) ?_ | refine da_offC 30 rfl rfl rfl rfl rfl rfl (by kernel_rfl) ?_ | refine da_offU 30 rfl rfl rfl rfl rfl (by kernel_rfl) ?_)))
  all_goals refine da_takeC 31 rfl rfl (by kernel_rfl) (by first | exact po_pick rfl rfl | fail) ?_
  all_goals refine da_done (by kernel_rfl) ?_
  repeat' (first
    | refine wp_seqA ?_
    | refine wp_region_seq ?_
    | refine thru_seq_next ?_
    | refine thru_seq_ret ?_
    | refine thru_block_ret ?_
    | refine thru_block_next ?_
    | refine wp_skipA ?_
    | refine wp_retA ?_
    | refine wl_nil ?_
    | refine wl_pop rfl (po_move rfl) ?_
    | refine wl_pop rfl (po_assign rfl) ?_
    | refine wl_pop rfl (pc_add rfl rfl (by omega) (by omega)) ?_
    | refine wp_condT rfl ?_
    | refine wp_condF rfl ?_
    | refine wp_condNP rfl (fun _ => ?_) (fun _ => ?_)
    | refine at_ret (res1 rfl rfl) ?_
    | fail)
  all_goals have e1 : ((q : Int) - 1).toNat = q - 1 := by omega
  all_goals (try simp only [e1] at *)
  all_goals first
    | exact ret_ inI (congrArg Bo (prB_false (not_gok hk' hq' (fun hh => by first | omega | (have h5 := hh.2.2.2 (by omega); rw [mlt_iff] at h5; omega)))).symm)
    | exact ⟨q + 1, by omega, ⟨hq', rowTo_succ hqto (by omega) (by omega) (by omega) (fun h => by first | omega | (rw [mlt_iff]; omega)), inI⟩, (by repeat' (first | exact sub_nil | refine sub_cons rfl ?_ | refine sub_int rfl (by first | rfl | omega | (push_cast; omega) | simp) ?_ | refine sub_eq rfl (by assumption) ?_))⟩
    | trace_state
end
end Go.Proofs.YthbodgnoadlbcaaGreatDoor.Asl
