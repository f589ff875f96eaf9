/- Does a table tell a likeness? The implementation's parts. -/
import Derived.Test.YtpkgcdpebomalaaG14
namespace Go.Proofs.Ytpkgcdpebomalaa.Asl
open Go.RowKit Go.Proofs.YtpkgcdpebomalaaW.PrintLast
set_option linter.unusedVariables false
set_option linter.unusedSimpArgs false
attribute [local irreducible] WP WL andThen inBlock noGoto atEnd ACall DA DL PO Hold
set_option maxHeartbeats 4000000
set_option synthInstance.maxHeartbeats 400000
set_option synthInstance.maxSize 10000
section
variable {base : Nat}
theorem c_tableOk (σ : Store) (u t : AV) {ss ts : List AV} {g : Gr} {rel : List (List Bool)} [hs : RW σ u ss] [hg : RRs σ ss g] [ht : RW σ t ts] [hr : RRs σ ts rel] :
    ACall Try.prog base F_impl_tableOk [.agg [u], t] σ (fun _ => False) (Ret σ (Bo (prB (TabOk g rel)))) := by
  have hb := hs.bound
  have := hs.one
  have hl := hg.len
  have hb2 := ht.bound
  have htl := hr.len
  refine acall2 fun_impl_tableOk rfl tmps_impl_tableOk rfl fun N B w₀ ρ₀ => ?_
  repeat' (first
    | (refine wc_callR rfl inferInstance rfl (c_GraphOk _ _) rfl ?_; intro _ _)
    | refine wl_pop rfl (pc_lenRow rfl inferInstance inferInstance) ?_
    | refine wc_loadn rfl inferInstance (at_has (cs := [_]) (.inl rfl) rfl rfl) rfl ?_
    | refine wc_guardNPr_false rfl rfl rfl rfl (fun _ => ?_) (fun _ => ?_)
    | refine wp_seqA ?_
    | refine wp_region_seq ?_
    | refine thru_seq_next ?_
    | refine thru_seq_ret ?_
    | refine wp_skipA ?_
    | refine wp_retA ?_
    | refine wp_blockA ?_
    | refine wl_nil ?_
    | refine wl_pop rfl (po_move rfl) ?_
    | refine wl_pop rfl (po_assign rfl) ?_
    | refine wl_pop rfl (po_binOp rfl rfl rfl) ?_
    | refine wl_pop rfl (po_fieldAddr rfl inferInstance) ?_
    | refine wc_load1 rfl inferInstance (at_has (.inl rfl) rfl rfl) rfl ?_
    | refine wl_pop rfl (po_not rfl) ?_
    | (refine wc_boxA rfl inferInstance rfl ?_; intro _ _ _ _ _)
    | refine wl_pop rfl (po_pick rfl rfl) ?_
    | refine wc_guardT_false rfl rfl rfl ?_
    | refine wc_guardF_false rfl rfl rfl rfl ?_
    | refine wp_condT rfl ?_
    | refine wp_condNP rfl (fun _ => ?_) (fun _ => ?_)
    | refine at_ret (res1 rfl rfl) ?_
    | fail)
  all_goals try exact ret_ inferInstance (congrArg Bo (prB_false fun h => by have h1 := h.ok; have h2 := h.len; first | contradiction | omega).symm)
  rename_i i1 σ1 g1 n1 h1 σ2 g2 hok hlen
  have hlen' : rel.length = g.length := by omega
  have h60 := hok.most
  refine wc_loop [(2, _), (18, _), (19, _)] (fun k : Nat => [(20, I k)]) (fun k σ' => k ≤ rel.length ∧ LeS σ1 σ' ∧ ∀ j, j < k → (rel.getD j []).length = g.length) (fun k => rel.length - k) 0 ⟨Nat.zero_le _, inferInstance, fun j hj => by omega⟩ (by repeat' (first | exact sub_nil | refine sub_cons rfl ?_ | refine sub_int rfl (by first | rfl | omega | (push_cast; omega) | simp) ?_ | refine sub_eq rfl (by assumption) ?_)) ?_
  rintro k σ3 ⟨hk, hle3, hrows⟩
  have := hle3.grow
  repeat' (first
    | refine wl_pop rfl (pc_ldAV rfl inferInstance inferInstance (by omega) inferInstance) ?_
    | refine wl_pop rfl (pc_indexRow rfl rfl inferInstance inferInstance inferInstance (by omega)) ?_
    | refine wl_pop rfl (pc_lenRow rfl inferInstance inferInstance) ?_
    | refine wp_seqA ?_
    | refine wp_region_seq ?_
    | refine thru_seq_next ?_
    | refine thru_seq_ret ?_
    | refine thru_seq ?_
    | refine thru_block_ret ?_
    | refine thru_block_next ?_
    | refine exit_here ?_
    | refine wp_skipA ?_
    | refine wp_retA ?_
    | refine wp_exitA ?_
    | refine wp_blockA ?_
    | refine wl_nil ?_
    | refine wl_pop rfl (po_move rfl) ?_
    | refine wl_pop rfl (po_assign rfl) ?_
    | refine wl_pop rfl (pc_add rfl rfl (by omega) (by omega)) ?_
    | refine wl_pop rfl (po_binOp rfl rfl rfl) ?_
    | refine wl_pop rfl (po_fieldAddr rfl inferInstance) ?_
    | refine wc_load1 rfl inferInstance (at_has (.inl rfl) rfl rfl) rfl ?_
    | refine wp_condP rfl (fun _ => ?_) (fun _ => ?_)
    | refine wp_condNP rfl (fun _ => ?_) (fun _ => ?_)
    | refine at_ret (res1 rfl rfl) ?_
    | fail)
  · rename_i hkl hne
    refine ret_ inferInstance (congrArg Bo (prB_false fun h => ?_).symm)
    have := h.rows (rel.getD k []) (by rw [getD_lt (by omega)]; exact List.getElem_mem _)
    omega
  · rename_i hkl he
    refine ⟨k + 1, by omega, ⟨by omega, inferInstance, fun j hj => ?_⟩, (by repeat' (first | exact sub_nil | refine sub_cons rfl ?_ | refine sub_int rfl (by first | rfl | omega | (push_cast; omega) | simp) ?_ | refine sub_eq rfl (by assumption) ?_))⟩
    rcases Nat.lt_or_ge j k with h | h
    · exact hrows j h
    · obtain rfl : j = k := by omega
      omega
  rename_i hkl
  obtain rfl : k = rel.length := by omega
  exact ret_ inferInstance (congrArg Bo (prB_true ⟨hok, hlen', fun r hr => by
    obtain ⟨j, hj, e⟩ := List.getElem_of_mem hr
    rw [← e, ← getD_lt (d := []) hj]; exact hrows j hj⟩).symm)
theorem c_AlikeRelation_1 (σ : Store) (k m : Mv) (i j : Nat) {t : AV} {ts : List AV} {g : Gr} {rel : List (List Bool)} (hi : Has σ i ⟨.own, 1, [I m.1, I m.2], []⟩) (hj : Has σ j ⟨.own, 1, [t], []⟩) (ht : RW σ t ts) (hr : RRs σ ts rel) (htab : TabOk g rel) (hm : 0 ≤ m.2 ∧ m.2 < g.length) (hk : 0 ≤ k.2 ∧ k.2 < g.length) :
    ACall Try.prog base F_impl_AlikeRelation_1 ([.agg [I k.1, I k.2]] ++ [.pt i 0, .pt j 0]) σ (fun _ => False) (Ret σ (Bo (folB rel false m k))) := by
  have := ht.one
  have htl := hr.len
  have hrl := htab.len
  have hm1 := htab.row (k := m.2.toNat) (by omega)
  refine acall3 fun_impl_AlikeRelation_1 rfl tmps_impl_AlikeRelation_1 rfl fun N B w₀ ρ₀ => ?_
  repeat' (first
    | refine wp_seqA ?_
    | refine wp_region_seq ?_
    | refine thru_seq_next ?_
    | refine wl_nil ?_
    | refine wl_pop rfl (po_assign rfl) ?_
    | (refine wc_boxA rfl inferInstance rfl ?_; intro _ _ _ _ _)
    | fail)
  refine wc_drawn [] mixed_ rfl ?_
  all_goals refine da_takeC 0 rfl rfl (by kernel_rfl) (by first | exact po_fieldAddr rfl inferInstance | fail) ?_
  all_goals refine da_takeC 1 rfl rfl (by kernel_rfl) (by first | exact pc_load1L rfl inferInstance (at_has (.inl rfl) rfl rfl) inferInstance | fail) ?_
  all_goals refine da_takeC 2 rfl rfl (by kernel_rfl) (by first | exact po_fieldAddr rfl inferInstance | fail) ?_
  all_goals refine da_takeC 3 rfl rfl (by kernel_rfl) (by first | exact pc_load1L rfl inferInstance (at_has (.inl rfl) rfl rfl) inferInstance | fail) ?_
  all_goals refine da_takeC 4 rfl rfl (by kernel_rfl) (by first | exact po_binOp rfl rfl rfl | fail) ?_
  all_goals refine da_takeC 5 rfl rfl (by kernel_rfl) (by first | exact po_move rfl | fail) ?_
  all_goals (first | refine da_onC 6 rfl rfl rfl rfl rfl (by kernel_rfl) (by first | exact pc_load1L rfl inferInstance (at_has (.inl rfl) rfl rfl) inferInstance | fail) ?_ | refine da_offC 6 rfl rfl rfl rfl rfl rfl (by kernel_rfl) ?_ | refine da_offU 6 rfl rfl rfl rfl rfl (by kernel_rfl) ?_ | ((first | refine da_caseP (t := 10) rfl (fun _ => ?_) (fun _ => ?_) | refine da_caseNP (t := 10) rfl (fun _ => ?_) (fun _ => ?_) | refine da_caseEq (t := 10) rfl (fun _ => ?_) (fun _ => ?_) | refine da_caseNe (t := 10) rfl (fun _ => ?_) (fun _ => ?_) | refine da_caseNB (t := 10) rfl (fun _ => ?_) (fun _ => ?_) | refine da_case (t := 10) rfl (fun _ => ?_) (fun _ => ?_)) <;> (first | refine da_onC 6 rfl rfl rfl rfl rfl (by kernel_rfl) (by first | exact pc_load1L rfl inferInstance (at_has (.inl rfl) rfl rfl) inferInstance | fail) ?_ | refine da_offC 6 rfl rfl rfl rfl rfl rfl (by kernel_rfl) ?_ | refine da_offU 6 rfl rfl rfl rfl rfl (by kernel_rfl) ?_)))
  all_goals (first | refine da_onC 7 rfl rfl rfl rfl rfl (by kernel_rfl) (by first | exact po_fieldAddr rfl inferInstance | fail) ?_ | refine da_offC 7 rfl rfl rfl rfl rfl rfl (by kernel_rfl) ?_ | refine da_offU 7 rfl rfl rfl rfl rfl (by kernel_rfl) ?_ | ((first | refine da_caseP (t := 10) rfl (fun _ => ?_) (fun _ => ?_) | refine da_caseNP (t := 10) rfl (fun _ => ?_) (fun _ => ?_) | refine da_caseEq (t := 10) rfl (fun _ => ?_) (fun _ => ?_) | refine da_caseNe (t := 10) rfl (fun _ => ?_) (fun _ => ?_) | refine da_caseNB (t := 10) rfl (fun _ => ?_) (fun _ => ?_) | refine da_case (t := 10) rfl (fun _ => ?_) (fun _ => ?_)) <;> (first | refine da_onC 7 rfl rfl rfl rfl rfl (by kernel_rfl) (by first | exact po_fieldAddr rfl inferInstance | fail) ?_ | refine da_offC 7 rfl rfl rfl rfl rfl rfl (by kernel_rfl) ?_ | refine da_offU 7 rfl rfl rfl rfl rfl (by kernel_rfl) ?_)))
  all_goals (first | refine da_onC 8 rfl rfl rfl rfl rfl (by kernel_rfl) (by first | exact pc_load1L rfl inferInstance (at_has (.inl rfl) rfl rfl) inferInstance | fail) ?_ | refine da_offC 8 rfl rfl rfl rfl rfl rfl (by kernel_rfl) ?_ | refine da_offU 8 rfl rfl rfl rfl rfl (by kernel_rfl) ?_ | ((first | refine da_caseP (t := 10) rfl (fun _ => ?_) (fun _ => ?_) | refine da_caseNP (t := 10) rfl (fun _ => ?_) (fun _ => ?_) | refine da_caseEq (t := 10) rfl (fun _ => ?_) (fun _ => ?_) | refine da_caseNe (t := 10) rfl (fun _ => ?_) (fun _ => ?_) | refine da_caseNB (t := 10) rfl (fun _ => ?_) (fun _ => ?_) | refine da_case (t := 10) rfl (fun _ => ?_) (fun _ => ?_)) <;> (first | refine da_onC 8 rfl rfl rfl rfl rfl (by kernel_rfl) (by first | exact pc_load1L rfl inferInstance (at_has (.inl rfl) rfl rfl) inferInstance | fail) ?_ | refine da_offC 8 rfl rfl rfl rfl rfl rfl (by kernel_rfl) ?_ | refine da_offU 8 rfl rfl rfl rfl rfl (by kernel_rfl) ?_)))
  all_goals (first | refine da_onC 9 rfl rfl rfl rfl rfl (by kernel_rfl) (by first | exact pc_indexRowZ rfl rfl inferInstance inferInstance inferInstance (by omega) (by omega) | fail) ?_ | refine da_offC 9 rfl rfl rfl rfl rfl rfl (by kernel_rfl) ?_ | refine da_offU 9 rfl rfl rfl rfl rfl (by kernel_rfl) ?_ | ((first | refine da_caseP (t := 10) rfl (fun _ => ?_) (fun _ => ?_) | refine da_caseNP (t := 10) rfl (fun _ => ?_) (fun _ => ?_) | refine da_caseEq (t := 10) rfl (fun _ => ?_) (fun _ => ?_) | refine da_caseNe (t := 10) rfl (fun _ => ?_) (fun _ => ?_) | refine da_caseNB (t := 10) rfl (fun _ => ?_) (fun _ => ?_) | refine da_case (t := 10) rfl (fun _ => ?_) (fun _ => ?_)) <;> (first | refine da_onC 9 rfl rfl rfl rfl rfl (by kernel_rfl) (by first | exact pc_indexRowZ rfl rfl inferInstance inferInstance inferInstance (by omega) (by omega) | fail) ?_ | refine da_offC 9 rfl rfl rfl rfl rfl rfl (by kernel_rfl) ?_ | refine da_offU 9 rfl rfl rfl rfl rfl (by kernel_rfl) ?_)))
  all_goals (first | refine da_onC 10 rfl rfl rfl rfl rfl (by kernel_rfl) (by first | exact pc_ldAV rfl inferInstance inferInstance (by omega) inferInstance | fail) ?_ | refine da_offC 10 rfl rfl rfl rfl rfl rfl (by kernel_rfl) ?_ | refine da_offU 10 rfl rfl rfl rfl rfl (by kernel_rfl) ?_ | ((first | refine da_caseP (t := 10) rfl (fun _ => ?_) (fun _ => ?_) | refine da_caseNP (t := 10) rfl (fun _ => ?_) (fun _ => ?_) | refine da_caseEq (t := 10) rfl (fun _ => ?_) (fun _ => ?_) | refine da_caseNe (t := 10) rfl (fun _ => ?_) (fun _ => ?_) | refine da_caseNB (t := 10) rfl (fun _ => ?_) (fun _ => ?_) | refine da_case (t := 10) rfl (fun _ => ?_) (fun _ => ?_)) <;> (first | refine da_onC 10 rfl rfl rfl rfl rfl (by kernel_rfl) (by first | exact pc_ldAV rfl inferInstance inferInstance (by omega) inferInstance | fail) ?_ | refine da_offC 10 rfl rfl rfl rfl rfl rfl (by kernel_rfl) ?_ | refine da_offU 10 rfl rfl rfl rfl rfl (by kernel_rfl) ?_)))
  all_goals (first | refine da_onC 11 rfl rfl rfl rfl rfl (by kernel_rfl) (by first | exact po_fieldAddr rfl inferInstance | fail) ?_ | refine da_offC 11 rfl rfl rfl rfl rfl rfl (by kernel_rfl) ?_ | refine da_offU 11 rfl rfl rfl rfl rfl (by kernel_rfl) ?_ | ((first | refine da_caseP (t := 10) rfl (fun _ => ?_) (fun _ => ?_) | refine da_caseNP (t := 10) rfl (fun _ => ?_) (fun _ => ?_) | refine da_caseEq (t := 10) rfl (fun _ => ?_) (fun _ => ?_) | refine da_caseNe (t := 10) rfl (fun _ => ?_) (fun _ => ?_) | refine da_caseNB (t := 10) rfl (fun _ => ?_) (fun _ => ?_) | refine da_case (t := 10) rfl (fun _ => ?_) (fun _ => ?_)) <;> (first | refine da_onC 11 rfl rfl rfl rfl rfl (by kernel_rfl) (by first | exact po_fieldAddr rfl inferInstance | fail) ?_ | refine da_offC 11 rfl rfl rfl rfl rfl rfl (by kernel_rfl) ?_ | refine da_offU 11 rfl rfl rfl rfl rfl (by kernel_rfl) ?_)))
  all_goals (first | refine da_onC 12 rfl rfl rfl rfl rfl (by kernel_rfl) (by first | exact pc_load1L rfl inferInstance (at_has (.inl rfl) rfl rfl) inferInstance | fail) ?_ | refine da_offC 12 rfl rfl rfl rfl rfl rfl (by kernel_rfl) ?_ | refine da_offU 12 rfl rfl rfl rfl rfl (by kernel_rfl) ?_ | ((first | refine da_caseP (t := 10) rfl (fun _ => ?_) (fun _ => ?_) | refine da_caseNP (t := 10) rfl (fun _ => ?_) (fun _ => ?_) | refine da_caseEq (t := 10) rfl (fun _ => ?_) (fun _ => ?_) | refine da_caseNe (t := 10) rfl (fun _ => ?_) (fun _ => ?_) | refine da_caseNB (t := 10) rfl (fun _ => ?_) (fun _ => ?_) | refine da_case (t := 10) rfl (fun _ => ?_) (fun _ => ?_)) <;> (first | refine da_onC 12 rfl rfl rfl rfl rfl (by kernel_rfl) (by first | exact pc_load1L rfl inferInstance (at_has (.inl rfl) rfl rfl) inferInstance | fail) ?_ | refine da_offC 12 rfl rfl rfl rfl rfl rfl (by kernel_rfl) ?_ | refine da_offU 12 rfl rfl rfl rfl rfl (by kernel_rfl) ?_)))
  all_goals (first | refine da_onC 13 rfl rfl rfl rfl rfl (by kernel_rfl) (by first | exact pc_indexRowZ rfl rfl inferInstance inferInstance inferInstance (by omega) (by omega) | fail) ?_ | refine da_offC 13 rfl rfl rfl rfl rfl rfl (by kernel_rfl) ?_ | refine da_offU 13 rfl rfl rfl rfl rfl (by kernel_rfl) ?_ | ((first | refine da_caseP (t := 10) rfl (fun _ => ?_) (fun _ => ?_) | refine da_caseNP (t := 10) rfl (fun _ => ?_) (fun _ => ?_) | refine da_caseEq (t := 10) rfl (fun _ => ?_) (fun _ => ?_) | refine da_caseNe (t := 10) rfl (fun _ => ?_) (fun _ => ?_) | refine da_caseNB (t := 10) rfl (fun _ => ?_) (fun _ => ?_) | refine da_case (t := 10) rfl (fun _ => ?_) (fun _ => ?_)) <;> (first | refine da_onC 13 rfl rfl rfl rfl rfl (by kernel_rfl) (by first | exact pc_indexRowZ rfl rfl inferInstance inferInstance inferInstance (by omega) (by omega) | fail) ?_ | refine da_offC 13 rfl rfl rfl rfl rfl rfl (by kernel_rfl) ?_ | refine da_offU 13 rfl rfl rfl rfl rfl (by kernel_rfl) ?_)))
  all_goals (first | refine da_onC 14 rfl rfl rfl rfl rfl (by kernel_rfl) (by first | exact pc_ldBool rfl inferInstance inferInstance (by omega) inferInstance | fail) ?_ | refine da_offC 14 rfl rfl rfl rfl rfl rfl (by kernel_rfl) ?_ | refine da_offU 14 rfl rfl rfl rfl rfl (by kernel_rfl) ?_ | ((first | refine da_caseP (t := 10) rfl (fun _ => ?_) (fun _ => ?_) | refine da_caseNP (t := 10) rfl (fun _ => ?_) (fun _ => ?_) | refine da_caseEq (t := 10) rfl (fun _ => ?_) (fun _ => ?_) | refine da_caseNe (t := 10) rfl (fun _ => ?_) (fun _ => ?_) | refine da_caseNB (t := 10) rfl (fun _ => ?_) (fun _ => ?_) | refine da_case (t := 10) rfl (fun _ => ?_) (fun _ => ?_)) <;> (first | refine da_onC 14 rfl rfl rfl rfl rfl (by kernel_rfl) (by first | exact pc_ldBool rfl inferInstance inferInstance (by omega) inferInstance | fail) ?_ | refine da_offC 14 rfl rfl rfl rfl rfl rfl (by kernel_rfl) ?_ | refine da_offU 14 rfl rfl rfl rfl rfl (by kernel_rfl) ?_)))
  all_goals refine da_takeC 15 rfl rfl (by kernel_rfl) (by first | exact po_pick rfl rfl | fail) ?_
  all_goals refine da_takeC 16 rfl rfl (by kernel_rfl) (by first | exact po_assign rfl | fail) ?_
  all_goals refine da_done (by kernel_rfl) ?_
  repeat' (first
    | refine thru_seq_next ?_
    | refine wp_retA ?_
    | refine at_ret (res1 rfl rfl) ?_
    | fail)
  · rename_i h
    exact ret_ inferInstance (congrArg Bo (by unfold folB; rw [decide_eq_true h]; rfl))
  · rename_i h
    exact ret_ inferInstance (congrArg Bo (by unfold folB; rw [decide_eq_false h]; rfl))
theorem c_AlikeRelation_2 (σ : Store) (k m : Mv) (i j : Nat) {t : AV} {ts : List AV} {g : Gr} {rel : List (List Bool)} (hi : Has σ i ⟨.own, 1, [I m.1, I m.2], []⟩) (hj : Has σ j ⟨.own, 1, [t], []⟩) (ht : RW σ t ts) (hr : RRs σ ts rel) (htab : TabOk g rel) (hm : 0 ≤ m.2 ∧ m.2 < g.length) (hk : 0 ≤ k.2 ∧ k.2 < g.length) :
    ACall Try.prog base F_impl_AlikeRelation_2 ([.agg [I k.1, I k.2]] ++ [.pt i 0, .pt j 0]) σ (fun _ => False) (Ret σ (Bo (folB rel true m k))) := by
  have := ht.one
  have htl := hr.len
  have hrl := htab.len
  have hm1 := htab.row (k := k.2.toNat) (by omega)
  refine acall3 fun_impl_AlikeRelation_2 rfl tmps_impl_AlikeRelation_2 rfl fun N B w₀ ρ₀ => ?_
  repeat' (first
    | refine wp_seqA ?_
    | refine wp_region_seq ?_
    | refine thru_seq_next ?_
    | refine wl_nil ?_
    | refine wl_pop rfl (po_assign rfl) ?_
    | (refine wc_boxA rfl inferInstance rfl ?_; intro _ _ _ _ _)
    | fail)
  refine wc_drawn [] mixed_ rfl ?_
  all_goals refine da_takeC 0 rfl rfl (by kernel_rfl) (by first | exact po_fieldAddr rfl inferInstance | fail) ?_
  all_goals refine da_takeC 1 rfl rfl (by kernel_rfl) (by first | exact pc_load1L rfl inferInstance (at_has (.inl rfl) rfl rfl) inferInstance | fail) ?_
  all_goals refine da_takeC 2 rfl rfl (by kernel_rfl) (by first | exact po_fieldAddr rfl inferInstance | fail) ?_
  all_goals refine da_takeC 3 rfl rfl (by kernel_rfl) (by first | exact pc_load1L rfl inferInstance (at_has (.inl rfl) rfl rfl) inferInstance | fail) ?_
  all_goals refine da_takeC 4 rfl rfl (by kernel_rfl) (by first | exact po_binOp rfl rfl rfl | fail) ?_
  all_goals refine da_takeC 5 rfl rfl (by kernel_rfl) (by first | exact po_move rfl | fail) ?_
  all_goals (first | refine da_onC 6 rfl rfl rfl rfl rfl (by kernel_rfl) (by first | exact pc_load1L rfl inferInstance (at_has (.inl rfl) rfl rfl) inferInstance | fail) ?_ | refine da_offC 6 rfl rfl rfl rfl rfl rfl (by kernel_rfl) ?_ | refine da_offU 6 rfl rfl rfl rfl rfl (by kernel_rfl) ?_ | ((first | refine da_caseP (t := 10) rfl (fun _ => ?_) (fun _ => ?_) | refine da_caseNP (t := 10) rfl (fun _ => ?_) (fun _ => ?_) | refine da_caseEq (t := 10) rfl (fun _ => ?_) (fun _ => ?_) | refine da_caseNe (t := 10) rfl (fun _ => ?_) (fun _ => ?_) | refine da_caseNB (t := 10) rfl (fun _ => ?_) (fun _ => ?_) | refine da_case (t := 10) rfl (fun _ => ?_) (fun _ => ?_)) <;> (first | refine da_onC 6 rfl rfl rfl rfl rfl (by kernel_rfl) (by first | exact pc_load1L rfl inferInstance (at_has (.inl rfl) rfl rfl) inferInstance | fail) ?_ | refine da_offC 6 rfl rfl rfl rfl rfl rfl (by kernel_rfl) ?_ | refine da_offU 6 rfl rfl rfl rfl rfl (by kernel_rfl) ?_)))
  all_goals (first | refine da_onC 7 rfl rfl rfl rfl rfl (by kernel_rfl) (by first | exact po_fieldAddr rfl inferInstance | fail) ?_ | refine da_offC 7 rfl rfl rfl rfl rfl rfl (by kernel_rfl) ?_ | refine da_offU 7 rfl rfl rfl rfl rfl (by kernel_rfl) ?_ | ((first | refine da_caseP (t := 10) rfl (fun _ => ?_) (fun _ => ?_) | refine da_caseNP (t := 10) rfl (fun _ => ?_) (fun _ => ?_) | refine da_caseEq (t := 10) rfl (fun _ => ?_) (fun _ => ?_) | refine da_caseNe (t := 10) rfl (fun _ => ?_) (fun _ => ?_) | refine da_caseNB (t := 10) rfl (fun _ => ?_) (fun _ => ?_) | refine da_case (t := 10) rfl (fun _ => ?_) (fun _ => ?_)) <;> (first | refine da_onC 7 rfl rfl rfl rfl rfl (by kernel_rfl) (by first | exact po_fieldAddr rfl inferInstance | fail) ?_ | refine da_offC 7 rfl rfl rfl rfl rfl rfl (by kernel_rfl) ?_ | refine da_offU 7 rfl rfl rfl rfl rfl (by kernel_rfl) ?_)))
  all_goals (first | refine da_onC 8 rfl rfl rfl rfl rfl (by kernel_rfl) (by first | exact pc_load1L rfl inferInstance (at_has (.inl rfl) rfl rfl) inferInstance | fail) ?_ | refine da_offC 8 rfl rfl rfl rfl rfl rfl (by kernel_rfl) ?_ | refine da_offU 8 rfl rfl rfl rfl rfl (by kernel_rfl) ?_ | ((first | refine da_caseP (t := 10) rfl (fun _ => ?_) (fun _ => ?_) | refine da_caseNP (t := 10) rfl (fun _ => ?_) (fun _ => ?_) | refine da_caseEq (t := 10) rfl (fun _ => ?_) (fun _ => ?_) | refine da_caseNe (t := 10) rfl (fun _ => ?_) (fun _ => ?_) | refine da_caseNB (t := 10) rfl (fun _ => ?_) (fun _ => ?_) | refine da_case (t := 10) rfl (fun _ => ?_) (fun _ => ?_)) <;> (first | refine da_onC 8 rfl rfl rfl rfl rfl (by kernel_rfl) (by first | exact pc_load1L rfl inferInstance (at_has (.inl rfl) rfl rfl) inferInstance | fail) ?_ | refine da_offC 8 rfl rfl rfl rfl rfl rfl (by kernel_rfl) ?_ | refine da_offU 8 rfl rfl rfl rfl rfl (by kernel_rfl) ?_)))
  all_goals (first | refine da_onC 9 rfl rfl rfl rfl rfl (by kernel_rfl) (by first | exact pc_indexRowZ rfl rfl inferInstance inferInstance inferInstance (by omega) (by omega) | fail) ?_ | refine da_offC 9 rfl rfl rfl rfl rfl rfl (by kernel_rfl) ?_ | refine da_offU 9 rfl rfl rfl rfl rfl (by kernel_rfl) ?_ | ((first | refine da_caseP (t := 10) rfl (fun _ => ?_) (fun _ => ?_) | refine da_caseNP (t := 10) rfl (fun _ => ?_) (fun _ => ?_) | refine da_caseEq (t := 10) rfl (fun _ => ?_) (fun _ => ?_) | refine da_caseNe (t := 10) rfl (fun _ => ?_) (fun _ => ?_) | refine da_caseNB (t := 10) rfl (fun _ => ?_) (fun _ => ?_) | refine da_case (t := 10) rfl (fun _ => ?_) (fun _ => ?_)) <;> (first | refine da_onC 9 rfl rfl rfl rfl rfl (by kernel_rfl) (by first | exact pc_indexRowZ rfl rfl inferInstance inferInstance inferInstance (by omega) (by omega) | fail) ?_ | refine da_offC 9 rfl rfl rfl rfl rfl rfl (by kernel_rfl) ?_ | refine da_offU 9 rfl rfl rfl rfl rfl (by kernel_rfl) ?_)))
  all_goals (first | refine da_onC 10 rfl rfl rfl rfl rfl (by kernel_rfl) (by first | exact pc_ldAV rfl inferInstance inferInstance (by omega) inferInstance | fail) ?_ | refine da_offC 10 rfl rfl rfl rfl rfl rfl (by kernel_rfl) ?_ | refine da_offU 10 rfl rfl rfl rfl rfl (by kernel_rfl) ?_ | ((first | refine da_caseP (t := 10) rfl (fun _ => ?_) (fun _ => ?_) | refine da_caseNP (t := 10) rfl (fun _ => ?_) (fun _ => ?_) | refine da_caseEq (t := 10) rfl (fun _ => ?_) (fun _ => ?_) | refine da_caseNe (t := 10) rfl (fun _ => ?_) (fun _ => ?_) | refine da_caseNB (t := 10) rfl (fun _ => ?_) (fun _ => ?_) | refine da_case (t := 10) rfl (fun _ => ?_) (fun _ => ?_)) <;> (first | refine da_onC 10 rfl rfl rfl rfl rfl (by kernel_rfl) (by first | exact pc_ldAV rfl inferInstance inferInstance (by omega) inferInstance | fail) ?_ | refine da_offC 10 rfl rfl rfl rfl rfl rfl (by kernel_rfl) ?_ | refine da_offU 10 rfl rfl rfl rfl rfl (by kernel_rfl) ?_)))
  all_goals (first | refine da_onC 11 rfl rfl rfl rfl rfl (by kernel_rfl) (by first | exact po_fieldAddr rfl inferInstance | fail) ?_ | refine da_offC 11 rfl rfl rfl rfl rfl rfl (by kernel_rfl) ?_ | refine da_offU 11 rfl rfl rfl rfl rfl (by kernel_rfl) ?_ | ((first | refine da_caseP (t := 10) rfl (fun _ => ?_) (fun _ => ?_) | refine da_caseNP (t := 10) rfl (fun _ => ?_) (fun _ => ?_) | refine da_caseEq (t := 10) rfl (fun _ => ?_) (fun _ => ?_) | refine da_caseNe (t := 10) rfl (fun _ => ?_) (fun _ => ?_) | refine da_caseNB (t := 10) rfl (fun _ => ?_) (fun _ => ?_) | refine da_case (t := 10) rfl (fun _ => ?_) (fun _ => ?_)) <;> (first | refine da_onC 11 rfl rfl rfl rfl rfl (by kernel_rfl) (by first | exact po_fieldAddr rfl inferInstance | fail) ?_ | refine da_offC 11 rfl rfl rfl rfl rfl rfl (by kernel_rfl) ?_ | refine da_offU 11 rfl rfl rfl rfl rfl (by kernel_rfl) ?_)))
  all_goals (first | refine da_onC 12 rfl rfl rfl rfl rfl (by kernel_rfl) (by first | exact pc_load1L rfl inferInstance (at_has (.inl rfl) rfl rfl) inferInstance | fail) ?_ | refine da_offC 12 rfl rfl rfl rfl rfl rfl (by kernel_rfl) ?_ | refine da_offU 12 rfl rfl rfl rfl rfl (by kernel_rfl) ?_ | ((first | refine da_caseP (t := 10) rfl (fun _ => ?_) (fun _ => ?_) | refine da_caseNP (t := 10) rfl (fun _ => ?_) (fun _ => ?_) | refine da_caseEq (t := 10) rfl (fun _ => ?_) (fun _ => ?_) | refine da_caseNe (t := 10) rfl (fun _ => ?_) (fun _ => ?_) | refine da_caseNB (t := 10) rfl (fun _ => ?_) (fun _ => ?_) | refine da_case (t := 10) rfl (fun _ => ?_) (fun _ => ?_)) <;> (first | refine da_onC 12 rfl rfl rfl rfl rfl (by kernel_rfl) (by first | exact pc_load1L rfl inferInstance (at_has (.inl rfl) rfl rfl) inferInstance | fail) ?_ | refine da_offC 12 rfl rfl rfl rfl rfl rfl (by kernel_rfl) ?_ | refine da_offU 12 rfl rfl rfl rfl rfl (by kernel_rfl) ?_)))
  all_goals (first | refine da_onC 13 rfl rfl rfl rfl rfl (by kernel_rfl) (by first | exact pc_indexRowZ rfl rfl inferInstance inferInstance inferInstance (by omega) (by omega) | fail) ?_ | refine da_offC 13 rfl rfl rfl rfl rfl rfl (by kernel_rfl) ?_ | refine da_offU 13 rfl rfl rfl rfl rfl (by kernel_rfl) ?_ | ((first | refine da_caseP (t := 10) rfl (fun _ => ?_) (fun _ => ?_) | refine da_caseNP (t := 10) rfl (fun _ => ?_) (fun _ => ?_) | refine da_caseEq (t := 10) rfl (fun _ => ?_) (fun _ => ?_) | refine da_caseNe (t := 10) rfl (fun _ => ?_) (fun _ => ?_) | refine da_caseNB (t := 10) rfl (fun _ => ?_) (fun _ => ?_) | refine da_case (t := 10) rfl (fun _ => ?_) (fun _ => ?_)) <;> (first | refine da_onC 13 rfl rfl rfl rfl rfl (by kernel_rfl) (by first | exact pc_indexRowZ rfl rfl inferInstance inferInstance inferInstance (by omega) (by omega) | fail) ?_ | refine da_offC 13 rfl rfl rfl rfl rfl rfl (by kernel_rfl) ?_ | refine da_offU 13 rfl rfl rfl rfl rfl (by kernel_rfl) ?_)))
  all_goals (first | refine da_onC 14 rfl rfl rfl rfl rfl (by kernel_rfl) (by first | exact pc_ldBool rfl inferInstance inferInstance (by omega) inferInstance | fail) ?_ | refine da_offC 14 rfl rfl rfl rfl rfl rfl (by kernel_rfl) ?_ | refine da_offU 14 rfl rfl rfl rfl rfl (by kernel_rfl) ?_ | ((first | refine da_caseP (t := 10) rfl (fun _ => ?_) (fun _ => ?_) | refine da_caseNP (t := 10) rfl (fun _ => ?_) (fun _ => ?_) | refine da_caseEq (t := 10) rfl (fun _ => ?_) (fun _ => ?_) | refine da_caseNe (t := 10) rfl (fun _ => ?_) (fun _ => ?_) | refine da_caseNB (t := 10) rfl (fun _ => ?_) (fun _ => ?_) | refine da_case (t := 10) rfl (fun _ => ?_) (fun _ => ?_)) <;> (first | refine da_onC 14 rfl rfl rfl rfl rfl (by kernel_rfl) (by first | exact pc_ldBool rfl inferInstance inferInstance (by omega) inferInstance | fail) ?_ | refine da_offC 14 rfl rfl rfl rfl rfl rfl (by kernel_rfl) ?_ | refine da_offU 14 rfl rfl rfl rfl rfl (by kernel_rfl) ?_)))
  all_goals refine da_takeC 15 rfl rfl (by kernel_rfl) (by first | exact po_pick rfl rfl | fail) ?_
  all_goals refine da_takeC 16 rfl rfl (by kernel_rfl) (by first | exact po_assign rfl | fail) ?_
  all_goals refine da_done (by kernel_rfl) ?_
  repeat' (first
    | refine thru_seq_next ?_
    | refine wp_retA ?_
    | refine at_ret (res1 rfl rfl) ?_
    | fail)
  · rename_i h
    exact ret_ inferInstance (congrArg Bo (by unfold folB; rw [decide_eq_true h.symm]; rfl))
  · rename_i h
    exact ret_ inferInstance (congrArg Bo (by unfold folB; rw [decide_eq_false (fun e => h e.symm)]; rfl))
end
end Go.Proofs.Ytpkgcdpebomalaa.Asl
