/- The drawn law FnTermSwap. -/
import Derived.Test.YtkgmdicbfpkihaaT23
import Derived.Test.YtkgmdicbfpkihaaT15
namespace Go.Proofs.Ytkgmdicbfpkihaa.Asl
open Go.RowKit
set_option linter.unusedVariables false
set_option linter.unusedSimpArgs false
attribute [local irreducible] WP WL andThen inBlock noGoto atEnd ACall DA DL PO Hold Tm.ok Tm.swO Tm.names
set_option maxHeartbeats 4000000
set_option synthInstance.maxHeartbeats 2000000
set_option synthInstance.maxSize 5000
theorem Tm.swO_cases (t : Tm) (a b : Int) : t.swO a b = none ∨ (t.swO a b = some (t.sw a b) ∧ (0 ≤ a ∧ a ≤ 3) ∧ (0 ≤ b ∧ b ≤ 3) ∧ t.ok = true ∧ (t.sw a b).swO a b = some t) := by
  by_cases h : (t.ok && inB a 0 3 && inB b 0 3) = true
  · have h' := h
    simp only [Bool.and_eq_true, inB_iff] at h'
    obtain ⟨⟨h1, h2⟩, h3⟩ := h'
    refine .inr ⟨by unfold Tm.swO; rw [if_pos h], h2, h3, h1, ?_⟩
    unfold Tm.swO
    rw [if_pos (by simp only [Bool.and_eq_true, inB_iff]; exact ⟨⟨Tm.sw_ok h2 h3 h1, h2⟩, h3⟩), Tm.sw_inv h2.1 h3.1]
  · exact .inl (by unfold Tm.swO; rw [if_neg h])
section
variable {base : Nat}
theorem c_FnTermSwap (b : AV) (gb : List UInt8) (σ : Store) [hs : RW σ b gb] : ACall Try.prog base F_laws_FnTermSwap [b] σ (fun _ => False) (Ret σ (Bo true)) := by
  have := hs.one
  refine acall1 fun_laws_FnTermSwap rfl tmps_laws_FnTermSwap rfl fun N B w₀ ρ₀ => ?_
  repeat' (first
    | refine wl_pop rfl (pc_lenRow rfl hs inferInstance) ?_
    | (refine wc_callTS rfl inferInstance rfl (c_DrawTermSwap b gb _ (by omega)) rfl ?_; intro _ _ _ _ _ _ _ _)
    | refine wc_holdR 4 ?_
    | refine wp_seqA ?_
    | refine wp_region_seq ?_
    | refine thru_seq_next ?_
    | refine thru_seq_ret ?_
    | refine wp_skipA ?_
    | refine wp_retA ?_
    | refine wl_nil ?_
    | refine wl_pop rfl (po_move rfl) ?_
    | refine wl_pop rfl (po_assign rfl) ?_
    | refine wl_pop rfl (po_binOp rfl rfl rfl) ?_
    | (refine wc_storeA rfl rfl inferInstance inferInstance rfl inferInstance (Nat.le_of_ble_eq_true rfl) (.inr (may_new _)) ?_; intro _ _)
    | refine wl_pop rfl (po_extract rfl rfl) ?_
    | (refine wc_allocA (cs := [_, _, _]) inferInstance rfl inferInstance rfl ?_; intro _ _ _ _ _)
    | refine wp_condP rfl (fun _ => ?_) (fun _ => ?_)
    | refine at_ret (res1 rfl rfl) ?_
    | exact ret_ inferInstance rfl
    | fail)
  rename_i hlen t u m1 m2 σ1 ou ru g1 i2 σ2 g2 n2 h2 σ3 u3
  refine hold_go ?_
  have l3 : LeS σ σ3 := inferInstance
  rcases Tm.swO_cases t m1 m2 with ho | ⟨ho, ha, hb, hok, ho2⟩
  · repeat' (first
      | (refine wc_callTO rfl inferInstance rfl (ho ▸ c_TermSwap t m1 m2 _ _) rfl ?_; intro _ _ _ _ _)
      | (refine wc_callTO rfl inferInstance rfl (ho ▸ c_sTermSwap t m1 m2 _ _) rfl ?_; intro _ _ _ _ _)
      | (refine wc_callR rfl inferInstance rfl (c_mnTerm (tmO none) _ _ _) rfl ?_; intro _ _)
      | refine wp_seqA ?_
      | refine wp_region_seq ?_
      | refine thru_seq_next ?_
      | refine thru_seq_ret ?_
      | refine wp_skipA ?_
      | refine wp_retA ?_
      | refine wl_nil ?_
      | refine wl_pop rfl (po_move rfl) ?_
      | refine wl_pop rfl (po_assign rfl) ?_
      | refine wl_pop rfl (pc_boolNeSelf rfl rfl inferInstance) ?_
      | refine wc_loadn rfl inferInstance (at_has (cs := [_, _, _]) (.inl rfl) rfl rfl) rfl ?_
      | refine wl_pop rfl (po_not rfl) ?_
      | (refine wc_storeA rfl rfl inferInstance inferInstance rfl inferInstance (Nat.le_of_ble_eq_true rfl) (.inr (may_new _)) ?_; intro _ _)
      | refine wl_pop rfl (po_extract rfl rfl) ?_
      | (refine wc_allocA (cs := [_, _, _]) inferInstance rfl inferInstance rfl ?_; intro _ _ _ _ _)
      | refine wl_pop rfl (po_pick rfl rfl) ?_
      | refine wc_guardT_false rfl rfl rfl ?_
      | refine wp_condT rfl ?_
      | refine wp_condF rfl ?_
      | refine at_ret (res1 rfl rfl) ?_
      | exact ret_ inferInstance rfl
      | fail)
  · have hnl := Tm.names_sw ha hb hok
    generalize t.sw m1 m2 = t' at *
    repeat' (first
      | (refine wc_callTO rfl inferInstance rfl (ho ▸ c_TermSwap t m1 m2 _ _) rfl ?_; intro _ _ _ _ _)
      | (refine wc_callTO rfl inferInstance rfl (ho ▸ c_sTermSwap t m1 m2 _ _) rfl ?_; intro _ _ _ _ _)
      | (refine wc_callR rfl inferInstance rfl (c_mnTerm (tmO (some t')) _ _ _) rfl ?_; intro _ _)
      | (refine wc_callTO rfl inferInstance rfl (ho2 ▸ c_TermSwap t' m1 m2 _ _) rfl ?_; intro _ _ _ _ _)
      | refine wc_holdR 11 ?_
      | refine wp_seqA ?_
      | refine wp_region_seq ?_
      | refine thru_seq_next ?_
      | refine wp_skipA ?_
      | refine wl_nil ?_
      | refine wl_pop rfl (po_move rfl) ?_
      | refine wl_pop rfl (po_assign rfl) ?_
      | refine wl_pop rfl (pc_boolNeSelf rfl rfl inferInstance) ?_
      | refine wc_loadn rfl inferInstance (at_has (cs := [_, _, _]) (.inl rfl) rfl rfl) rfl ?_
      | refine wl_pop rfl (po_not rfl) ?_
      | (refine wc_storeA rfl rfl inferInstance inferInstance rfl inferInstance (Nat.le_of_ble_eq_true rfl) (.inr (may_new _)) ?_; intro _ _)
      | refine wl_pop rfl (po_extract rfl rfl) ?_
      | (refine wc_allocA (cs := [_, _, _]) inferInstance rfl inferInstance rfl ?_; intro _ _ _ _ _)
      | refine wl_pop rfl (po_pick rfl rfl) ?_
      | refine wc_guardT_false rfl rfl rfl ?_
      | refine wp_condF rfl ?_
      | fail)
    refine hold_go ?_
    refine wc_drawn [] mixed_ rfl ?_
    all_goals refine da_takeC 0 rfl rfl (by kernel_rfl) (by first | exact po_move rfl | fail) ?_
    all_goals refine da_takeC 1 rfl rfl (by kernel_rfl) (by first | exact po_move rfl | fail) ?_
    all_goals (first | refine da_onC 2 rfl rfl rfl rfl rfl (by kernel_rfl) (by first | exact pc_loadnL rfl inferInstance (at_has (cs := [_, _, _]) (.inl rfl) rfl rfl) inferInstance | fail) ?_ | refine da_offC 2 rfl rfl rfl rfl rfl rfl (by kernel_rfl) ?_ | refine da_offU 2 rfl rfl rfl rfl rfl (by kernel_rfl) ?_ | ((first | refine da_caseP (t := 54) rfl (fun _ => ?_) (fun _ => ?_) | refine da_caseNP (t := 54) rfl (fun _ => ?_) (fun _ => ?_) | refine da_caseEq (t := 54) rfl (fun _ => ?_) (fun _ => ?_) | refine da_caseNe (t := 54) rfl (fun _ => ?_) (fun _ => ?_) | refine da_caseNB (t := 54) rfl (fun _ => ?_) (fun _ => ?_) | refine da_case (t := 54) rfl (fun _ => ?_) (fun _ => ?_)) <;> (first | refine da_onC 2 rfl rfl rfl rfl rfl (by kernel_rfl) (by first | exact pc_loadnL rfl inferInstance (at_has (cs := [_, _, _]) (.inl rfl) rfl rfl) inferInstance | fail) ?_ | refine da_offC 2 rfl rfl rfl rfl rfl rfl (by kernel_rfl) ?_ | refine da_offU 2 rfl rfl rfl rfl rfl (by kernel_rfl) ?_)))
    all_goals (first | refine da_onC 3 rfl rfl rfl rfl rfl (by kernel_rfl) (by first | exact pc_loadnL rfl inferInstance (at_has (cs := [_, _, _]) (.inl rfl) rfl rfl) inferInstance | fail) ?_ | refine da_offC 3 rfl rfl rfl rfl rfl rfl (by kernel_rfl) ?_ | refine da_offU 3 rfl rfl rfl rfl rfl (by kernel_rfl) ?_ | ((first | refine da_caseP (t := 54) rfl (fun _ => ?_) (fun _ => ?_) | refine da_caseNP (t := 54) rfl (fun _ => ?_) (fun _ => ?_) | refine da_caseEq (t := 54) rfl (fun _ => ?_) (fun _ => ?_) | refine da_caseNe (t := 54) rfl (fun _ => ?_) (fun _ => ?_) | refine da_caseNB (t := 54) rfl (fun _ => ?_) (fun _ => ?_) | refine da_case (t := 54) rfl (fun _ => ?_) (fun _ => ?_)) <;> (first | refine da_onC 3 rfl rfl rfl rfl rfl (by kernel_rfl) (by first | exact pc_loadnL rfl inferInstance (at_has (cs := [_, _, _]) (.inl rfl) rfl rfl) inferInstance | fail) ?_ | refine da_offC 3 rfl rfl rfl rfl rfl rfl (by kernel_rfl) ?_ | refine da_offU 3 rfl rfl rfl rfl rfl (by kernel_rfl) ?_)))
    all_goals (first | refine da_offC 4 rfl rfl rfl rfl rfl rfl (by kernel_rfl) ?_ | refine da_offU 4 rfl rfl rfl rfl rfl (by kernel_rfl) ?_ | (refine da_one 4 rfl (by kernel_rfl) (fun _ _ _ _ => ?_); (repeat' (first | (refine wc_callR rfl inferInstance rfl (c_mnTerm t _ _ _) rfl ?_; intro _ _) | refine wc_guardT_true rfl rfl rfl ?_ | fail)); all_goals (first | refine wl_nil ⟨rfl, (by first | exact LeS.len inferInstance | exact App.len (by assumption)), ?_⟩ | trace_state)) | ((first | refine da_caseP (t := 54) rfl (fun _ => ?_) (fun _ => ?_) | refine da_caseNP (t := 54) rfl (fun _ => ?_) (fun _ => ?_) | refine da_caseEq (t := 54) rfl (fun _ => ?_) (fun _ => ?_) | refine da_caseNe (t := 54) rfl (fun _ => ?_) (fun _ => ?_) | refine da_caseNB (t := 54) rfl (fun _ => ?_) (fun _ => ?_) | refine da_case (t := 54) rfl (fun _ => ?_) (fun _ => ?_)) <;> (first | refine da_offC 4 rfl rfl rfl rfl rfl rfl (by kernel_rfl) ?_ | refine da_offU 4 rfl rfl rfl rfl rfl (by kernel_rfl) ?_ | (refine da_one 4 rfl (by kernel_rfl) (fun _ _ _ _ => ?_); (repeat' (first | (refine wc_callR rfl inferInstance rfl (c_mnTerm t _ _ _) rfl ?_; intro _ _) | refine wc_guardT_true rfl rfl rfl ?_ | fail)); all_goals (first | refine wl_nil ⟨rfl, (by first | exact LeS.len inferInstance | exact App.len (by assumption)), ?_⟩ | trace_state)))))
    all_goals refine da_takeC 5 rfl rfl (by kernel_rfl) (by first | exact po_pick rfl rfl | fail) ?_
    all_goals refine da_takeC 6 rfl rfl (by kernel_rfl) (by first | exact po_move rfl | fail) ?_
    all_goals (first | refine da_onC 7 rfl rfl rfl rfl rfl (by kernel_rfl) (by first | exact pc_loadnL rfl inferInstance (at_has (cs := [_, _, _]) (.inl rfl) rfl rfl) inferInstance | fail) ?_ | refine da_offC 7 rfl rfl rfl rfl rfl rfl (by kernel_rfl) ?_ | refine da_offU 7 rfl rfl rfl rfl rfl (by kernel_rfl) ?_ | ((first | refine da_caseP (t := 59) rfl (fun _ => ?_) (fun _ => ?_) | refine da_caseNP (t := 59) rfl (fun _ => ?_) (fun _ => ?_) | refine da_caseEq (t := 59) rfl (fun _ => ?_) (fun _ => ?_) | refine da_caseNe (t := 59) rfl (fun _ => ?_) (fun _ => ?_) | refine da_caseNB (t := 59) rfl (fun _ => ?_) (fun _ => ?_) | refine da_case (t := 59) rfl (fun _ => ?_) (fun _ => ?_)) <;> (first | refine da_onC 7 rfl rfl rfl rfl rfl (by kernel_rfl) (by first | exact pc_loadnL rfl inferInstance (at_has (cs := [_, _, _]) (.inl rfl) rfl rfl) inferInstance | fail) ?_ | refine da_offC 7 rfl rfl rfl rfl rfl rfl (by kernel_rfl) ?_ | refine da_offU 7 rfl rfl rfl rfl rfl (by kernel_rfl) ?_)))
    all_goals (first | refine da_onC 10 rfl rfl rfl rfl rfl (by kernel_rfl) (by first | exact pc_loadnL rfl inferInstance (at_has (cs := [_, _, _]) (.inl rfl) rfl rfl) inferInstance | fail) ?_ | refine da_offC 10 rfl rfl rfl rfl rfl rfl (by kernel_rfl) ?_ | refine da_offU 10 rfl rfl rfl rfl rfl (by kernel_rfl) ?_ | ((first | refine da_caseP (t := 59) rfl (fun _ => ?_) (fun _ => ?_) | refine da_caseNP (t := 59) rfl (fun _ => ?_) (fun _ => ?_) | refine da_caseEq (t := 59) rfl (fun _ => ?_) (fun _ => ?_) | refine da_caseNe (t := 59) rfl (fun _ => ?_) (fun _ => ?_) | refine da_caseNB (t := 59) rfl (fun _ => ?_) (fun _ => ?_) | refine da_case (t := 59) rfl (fun _ => ?_) (fun _ => ?_)) <;> (first | refine da_onC 10 rfl rfl rfl rfl rfl (by kernel_rfl) (by first | exact pc_loadnL rfl inferInstance (at_has (cs := [_, _, _]) (.inl rfl) rfl rfl) inferInstance | fail) ?_ | refine da_offC 10 rfl rfl rfl rfl rfl rfl (by kernel_rfl) ?_ | refine da_offU 10 rfl rfl rfl rfl rfl (by kernel_rfl) ?_)))
    all_goals (first | refine da_offC 8 rfl rfl rfl rfl rfl rfl (by kernel_rfl) ?_ | refine da_offU 8 rfl rfl rfl rfl rfl (by kernel_rfl) ?_ | (refine da_one 8 rfl (by kernel_rfl) (fun _ _ _ _ => ?_); (repeat' (first | (refine wc_callInts rfl inferInstance rfl (c_TermNames t' _ _) rfl ?_; intro _ _ _ _ _) | refine wc_guardT_true rfl rfl rfl ?_ | fail)); all_goals (first | refine wl_nil ⟨rfl, (by first | exact LeS.len inferInstance | exact App.len (by assumption)), ?_⟩ | trace_state)) | ((first | refine da_caseP (t := 59) rfl (fun _ => ?_) (fun _ => ?_) | refine da_caseNP (t := 59) rfl (fun _ => ?_) (fun _ => ?_) | refine da_caseEq (t := 59) rfl (fun _ => ?_) (fun _ => ?_) | refine da_caseNe (t := 59) rfl (fun _ => ?_) (fun _ => ?_) | refine da_caseNB (t := 59) rfl (fun _ => ?_) (fun _ => ?_) | refine da_case (t := 59) rfl (fun _ => ?_) (fun _ => ?_)) <;> (first | refine da_offC 8 rfl rfl rfl rfl rfl rfl (by kernel_rfl) ?_ | refine da_offU 8 rfl rfl rfl rfl rfl (by kernel_rfl) ?_ | (refine da_one 8 rfl (by kernel_rfl) (fun _ _ _ _ => ?_); (repeat' (first | (refine wc_callInts rfl inferInstance rfl (c_TermNames t' _ _) rfl ?_; intro _ _ _ _ _) | refine wc_guardT_true rfl rfl rfl ?_ | fail)); all_goals (first | refine wl_nil ⟨rfl, (by first | exact LeS.len inferInstance | exact App.len (by assumption)), ?_⟩ | trace_state)))))
    all_goals (first | refine da_onC 9 rfl rfl rfl rfl rfl (by kernel_rfl) (by first | exact po_len (ri := 0) rfl Un.eq | fail) ?_ | refine da_offC 9 rfl rfl rfl rfl rfl rfl (by kernel_rfl) ?_ | refine da_offU 9 rfl rfl rfl rfl rfl (by kernel_rfl) ?_ | ((first | refine da_caseP (t := 59) rfl (fun _ => ?_) (fun _ => ?_) | refine da_caseNP (t := 59) rfl (fun _ => ?_) (fun _ => ?_) | refine da_caseEq (t := 59) rfl (fun _ => ?_) (fun _ => ?_) | refine da_caseNe (t := 59) rfl (fun _ => ?_) (fun _ => ?_) | refine da_caseNB (t := 59) rfl (fun _ => ?_) (fun _ => ?_) | refine da_case (t := 59) rfl (fun _ => ?_) (fun _ => ?_)) <;> (first | refine da_onC 9 rfl rfl rfl rfl rfl (by kernel_rfl) (by first | exact po_len (ri := 0) rfl Un.eq | fail) ?_ | refine da_offC 9 rfl rfl rfl rfl rfl rfl (by kernel_rfl) ?_ | refine da_offU 9 rfl rfl rfl rfl rfl (by kernel_rfl) ?_)))
    all_goals (first | refine da_offC 11 rfl rfl rfl rfl rfl rfl (by kernel_rfl) ?_ | refine da_offU 11 rfl rfl rfl rfl rfl (by kernel_rfl) ?_ | (refine da_one 11 rfl (by kernel_rfl) (fun _ _ _ _ => ?_); (repeat' (first | (refine wc_callInts rfl inferInstance rfl (c_TermNames t _ _) rfl ?_; intro _ _ _ _ _) | refine wc_guardT_true rfl rfl rfl ?_ | fail)); all_goals (first | refine wl_nil ⟨rfl, (by first | exact LeS.len inferInstance | exact App.len (by assumption)), ?_⟩ | trace_state)) | ((first | refine da_caseP (t := 59) rfl (fun _ => ?_) (fun _ => ?_) | refine da_caseNP (t := 59) rfl (fun _ => ?_) (fun _ => ?_) | refine da_caseEq (t := 59) rfl (fun _ => ?_) (fun _ => ?_) | refine da_caseNe (t := 59) rfl (fun _ => ?_) (fun _ => ?_) | refine da_caseNB (t := 59) rfl (fun _ => ?_) (fun _ => ?_) | refine da_case (t := 59) rfl (fun _ => ?_) (fun _ => ?_)) <;> (first | refine da_offC 11 rfl rfl rfl rfl rfl rfl (by kernel_rfl) ?_ | refine da_offU 11 rfl rfl rfl rfl rfl (by kernel_rfl) ?_ | (refine da_one 11 rfl (by kernel_rfl) (fun _ _ _ _ => ?_); (repeat' (first | (refine wc_callInts rfl inferInstance rfl (c_TermNames t _ _) rfl ?_; intro _ _ _ _ _) | refine wc_guardT_true rfl rfl rfl ?_ | fail)); all_goals (first | refine wl_nil ⟨rfl, (by first | exact LeS.len inferInstance | exact App.len (by assumption)), ?_⟩ | trace_state)))))
    all_goals (first | refine da_onC 12 rfl rfl rfl rfl rfl (by kernel_rfl) (by first | exact po_len (ri := 0) rfl Un.eq | fail) ?_ | refine da_offC 12 rfl rfl rfl rfl rfl rfl (by kernel_rfl) ?_ | refine da_offU 12 rfl rfl rfl rfl rfl (by kernel_rfl) ?_ | ((first | refine da_caseP (t := 59) rfl (fun _ => ?_) (fun _ => ?_) | refine da_caseNP (t := 59) rfl (fun _ => ?_) (fun _ => ?_) | refine da_caseEq (t := 59) rfl (fun _ => ?_) (fun _ => ?_) | refine da_caseNe (t := 59) rfl (fun _ => ?_) (fun _ => ?_) | refine da_caseNB (t := 59) rfl (fun _ => ?_) (fun _ => ?_) | refine da_case (t := 59) rfl (fun _ => ?_) (fun _ => ?_)) <;> (first | refine da_onC 12 rfl rfl rfl rfl rfl (by kernel_rfl) (by first | exact po_len (ri := 0) rfl Un.eq | fail) ?_ | refine da_offC 12 rfl rfl rfl rfl rfl rfl (by kernel_rfl) ?_ | refine da_offU 12 rfl rfl rfl rfl rfl (by kernel_rfl) ?_)))
    all_goals (first | refine da_onC 13 rfl rfl rfl rfl rfl (by kernel_rfl) (by first | exact po_binOp rfl rfl rfl | fail) ?_ | refine da_offC 13 rfl rfl rfl rfl rfl rfl (by kernel_rfl) ?_ | refine da_offU 13 rfl rfl rfl rfl rfl (by kernel_rfl) ?_ | ((first | refine da_caseP (t := 59) rfl (fun _ => ?_) (fun _ => ?_) | refine da_caseNP (t := 59) rfl (fun _ => ?_) (fun _ => ?_) | refine da_caseEq (t := 59) rfl (fun _ => ?_) (fun _ => ?_) | refine da_caseNe (t := 59) rfl (fun _ => ?_) (fun _ => ?_) | refine da_caseNB (t := 59) rfl (fun _ => ?_) (fun _ => ?_) | refine da_case (t := 59) rfl (fun _ => ?_) (fun _ => ?_)) <;> (first | refine da_onC 13 rfl rfl rfl rfl rfl (by kernel_rfl) (by first | exact po_binOp rfl rfl rfl | fail) ?_ | refine da_offC 13 rfl rfl rfl rfl rfl rfl (by kernel_rfl) ?_ | refine da_offU 13 rfl rfl rfl rfl rfl (by kernel_rfl) ?_)))
    all_goals refine da_takeC 14 rfl rfl (by kernel_rfl) (by first | exact po_pick rfl rfl | fail) ?_
    all_goals refine da_takeC 15 rfl rfl (by kernel_rfl) (by first | exact po_assign rfl | fail) ?_
    all_goals refine da_done (by kernel_rfl) ?_
    repeat' (first
      | refine thru_seq_next ?_
      | refine wp_retA ?_
      | refine at_ret (res1 rfl rfl) ?_
      | fail)
    have e : ((t'.names.length : Int) == (t.names.length : Int)) = true := by rw [hnl]; simp
    rw [e]
    exact ret_ inferInstance rfl
end
end Go.Proofs.Ytkgmdicbfpkihaa.Asl
