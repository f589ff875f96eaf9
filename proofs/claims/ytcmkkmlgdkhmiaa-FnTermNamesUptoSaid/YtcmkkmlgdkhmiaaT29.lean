/- The drawn laws FnTermSteps and FnStepsBeside: their helpers. -/
import Derived.Test.YtcmkkmlgdkhmiaaT28
import Derived.Test.YtcmkkmlgdkhmiaaDD
import Derived.Test.YtcmkkmlgdkhmiaaT22
namespace Go.Proofs.Ytcmkkmlgdkhmiaa.Asl
open Go.RowKit Go.Proofs.YtcmkkmlgdkhmiaaW.PrintLast
set_option linter.unusedVariables false
set_option linter.unusedSimpArgs false
attribute [local irreducible] WP WL andThen inBlock noGoto atEnd ACall DA DL PO Hold nodeOk Tm.shape Tm.ok Tm.askO
set_option maxHeartbeats 4000000
set_option synthInstance.maxHeartbeats 400000
set_option synthInstance.maxSize 10000
section
variable {base : Nat} {G : Nat → Prop}
theorem c_mnSteps (L : List Stp) (xs xs' : List StC) (σ : Store) (u u' : AV) [hu : RW σ u xs] [hu' : RW σ u' xs'] [hs : SR G σ xs L] [hs' : SR G σ xs' L] : ACall Try.prog base F_laws_mnSteps [u, u'] σ (fun _ => False) (Ret σ (Bo true)) := by
  have := hu.one
  have := hu'.one
  have hl := hs.len'
  have hl' := hs'.len'
  have hb := hu.bound
  refine acall2 fun_laws_mnSteps rfl tmps_laws_mnSteps rfl fun N B w₀ ρ₀ => ?_
  repeat' (first
    | refine wl_pop rfl (pc_lenRow rfl inferInstance inferInstance) ?_
    | refine wp_seqA ?_
    | refine wp_region_seq ?_
    | refine thru_seq_next ?_
    | refine thru_seq_ret ?_
    | refine wp_skipA ?_
    | refine wp_retA ?_
    | refine wp_blockA ?_
    | refine wl_nil ?_
    | refine wl_pop rfl (po_move rfl) ?_
    | refine wl_pop rfl (po_assign rfl) ?_
    | refine wl_pop rfl (po_binOp rfl rfl rfl) ?_
    | refine wp_condNP rfl (fun _ => ?_) (fun _ => ?_)
    | refine at_ret (res1 rfl rfl) ?_
    | fail)
  · exfalso; omega
  refine wc_loop [(0, _), (1, _)] (fun k : Nat => [(5, I k)]) (fun k σ' => k ≤ L.length ∧ LeS σ σ') (fun k => L.length - k) 0 ⟨Nat.zero_le _, inferInstance⟩ (by repeat' (first | exact sub_nil | refine sub_cons rfl ?_ | refine sub_int rfl (by first | rfl | omega | (push_cast; omega) | simp) ?_ | refine sub_eq rfl (by assumption) ?_)) ?_
  rintro k σ' ⟨hk, hg⟩
  have := hg.grow
  repeat' (first
    | refine wl_pop rfl (pc_lenRow rfl inferInstance inferInstance) ?_
    | refine wp_seqA ?_
    | refine wp_region_seq ?_
    | refine thru_seq_next ?_
    | refine thru_seq ?_
    | refine exit_here ?_
    | refine wp_skipA ?_
    | refine wp_retA ?_
    | refine wp_exitA ?_
    | refine wp_blockA ?_
    | refine wl_nil ?_
    | refine wl_pop rfl (po_move rfl) ?_
    | refine wl_pop rfl (po_assign rfl) ?_
    | refine wl_pop rfl (po_binOp rfl rfl rfl) ?_
    | refine wp_condP rfl (fun _ => ?_) (fun _ => ?_)
    | refine at_ret (res1 rfl rfl) ?_
    | exact ret_ inferInstance rfl
    | fail)
  have hk' : k < L.length := by omega
  have hkx : k < xs.length := by omega
  have hkx' : k < xs'.length := by omega
  obtain ⟨e1, e2, e3, r⟩ := hs.at hk'
  obtain ⟨f1, f2, f3, r'⟩ := hs'.at hk'
  have r1 : RTs σ' (xs.getD k Enc.dflt).s (L.getD k (0, nilT)).2.ps := ⟨(r.les hg).rep.mono (fun _ _ _ h => h) (fun _ _ => trivial)⟩
  have r2 : RTs σ' (xs'.getD k Enc.dflt).s (L.getD k (0, nilT)).2.ps := ⟨(r'.les hg).rep.mono (fun _ _ _ h => h) (fun _ _ => trivial)⟩
  have hmt : ACall Try.prog base F_laws_mnTerm [.agg [I (xs.getD k Enc.dflt).op, I (xs.getD k Enc.dflt).n, (xs.getD k Enc.dflt).s], .agg [I (xs'.getD k Enc.dflt).op, I (xs'.getD k Enc.dflt).n, (xs'.getD k Enc.dflt).s]] σ' (fun _ => False) (Ret σ' (Bo true)) := by
    rw [e2, e3, f2, f3]
    exact c_mnTerm _ _ _ _
  refine wc_drawn [] mixed_ rfl ?_
  all_goals refine da_takeC 0 rfl rfl (by kernel_rfl) (by first | exact po_move rfl | fail) ?_
  all_goals refine da_takeC 1 rfl rfl (by kernel_rfl) (by first | exact po_move rfl | fail) ?_
  all_goals refine da_takeC 2 rfl rfl (by kernel_rfl) (by first | exact pc_indexRow rfl rfl inferInstance inferInstance inferInstance (by omega) | fail) ?_
  all_goals refine da_takeC 3 rfl rfl (by kernel_rfl) (by first | exact po_fieldAddr rfl inferInstance | fail) ?_
  all_goals refine da_takeC 4 rfl rfl (by kernel_rfl) (by first | exact pc_ldStA rfl inferInstance inferInstance (by omega) inferInstance | fail) ?_
  all_goals refine da_takeC 5 rfl rfl (by kernel_rfl) (by first | exact po_move rfl | fail) ?_
  all_goals refine da_takeC 6 rfl rfl (by kernel_rfl) (by first | exact po_move rfl | fail) ?_
  all_goals refine da_takeC 7 rfl rfl (by kernel_rfl) (by first | exact pc_indexRow rfl rfl inferInstance inferInstance inferInstance (by omega) | fail) ?_
  all_goals refine da_takeC 8 rfl rfl (by kernel_rfl) (by first | exact po_fieldAddr rfl inferInstance | fail) ?_
  all_goals refine da_takeC 9 rfl rfl (by kernel_rfl) (by first | exact pc_ldStA rfl inferInstance inferInstance (by omega) inferInstance | fail) ?_
  all_goals refine da_takeC 10 rfl rfl (by kernel_rfl) (by first | exact po_binOp rfl rfl rfl | fail) ?_
  all_goals refine da_takeC 11 rfl rfl (by kernel_rfl) (by first | exact po_move rfl | fail) ?_
  all_goals (first | refine da_onC 12 rfl rfl rfl rfl rfl (by kernel_rfl) (by first | exact po_move rfl | fail) ?_ | refine da_offC 12 rfl rfl rfl rfl rfl rfl (by kernel_rfl) ?_ | refine da_offU 12 rfl rfl rfl rfl rfl (by kernel_rfl) ?_ | ((first | refine da_caseP (t := 28) rfl (fun _ => ?_) (fun _ => ?_) | refine da_caseNP (t := 28) rfl (fun _ => ?_) (fun _ => ?_) | refine da_caseEq (t := 28) rfl (fun _ => ?_) (fun _ => ?_) | refine da_caseNe (t := 28) rfl (fun _ => ?_) (fun _ => ?_) | refine da_caseNB (t := 28) rfl (fun _ => ?_) (fun _ => ?_) | refine da_case (t := 28) rfl (fun _ => ?_) (fun _ => ?_)) <;> (first | refine da_onC 12 rfl rfl rfl rfl rfl (by kernel_rfl) (by first | exact po_move rfl | fail) ?_ | refine da_offC 12 rfl rfl rfl rfl rfl rfl (by kernel_rfl) ?_ | refine da_offU 12 rfl rfl rfl rfl rfl (by kernel_rfl) ?_)))
  all_goals (first | refine da_onC 13 rfl rfl rfl rfl rfl (by kernel_rfl) (by first | exact po_move rfl | fail) ?_ | refine da_offC 13 rfl rfl rfl rfl rfl rfl (by kernel_rfl) ?_ | refine da_offU 13 rfl rfl rfl rfl rfl (by kernel_rfl) ?_ | ((first | refine da_caseP (t := 28) rfl (fun _ => ?_) (fun _ => ?_) | refine da_caseNP (t := 28) rfl (fun _ => ?_) (fun _ => ?_) | refine da_caseEq (t := 28) rfl (fun _ => ?_) (fun _ => ?_) | refine da_caseNe (t := 28) rfl (fun _ => ?_) (fun _ => ?_) | refine da_caseNB (t := 28) rfl (fun _ => ?_) (fun _ => ?_) | refine da_case (t := 28) rfl (fun _ => ?_) (fun _ => ?_)) <;> (first | refine da_onC 13 rfl rfl rfl rfl rfl (by kernel_rfl) (by first | exact po_move rfl | fail) ?_ | refine da_offC 13 rfl rfl rfl rfl rfl rfl (by kernel_rfl) ?_ | refine da_offU 13 rfl rfl rfl rfl rfl (by kernel_rfl) ?_)))
  all_goals (first | refine da_onC 14 rfl rfl rfl rfl rfl (by kernel_rfl) (by first | exact pc_indexRow rfl rfl inferInstance inferInstance inferInstance (by omega) | fail) ?_ | refine da_offC 14 rfl rfl rfl rfl rfl rfl (by kernel_rfl) ?_ | refine da_offU 14 rfl rfl rfl rfl rfl (by kernel_rfl) ?_ | ((first | refine da_caseP (t := 28) rfl (fun _ => ?_) (fun _ => ?_) | refine da_caseNP (t := 28) rfl (fun _ => ?_) (fun _ => ?_) | refine da_caseEq (t := 28) rfl (fun _ => ?_) (fun _ => ?_) | refine da_caseNe (t := 28) rfl (fun _ => ?_) (fun _ => ?_) | refine da_caseNB (t := 28) rfl (fun _ => ?_) (fun _ => ?_) | refine da_case (t := 28) rfl (fun _ => ?_) (fun _ => ?_)) <;> (first | refine da_onC 14 rfl rfl rfl rfl rfl (by kernel_rfl) (by first | exact pc_indexRow rfl rfl inferInstance inferInstance inferInstance (by omega) | fail) ?_ | refine da_offC 14 rfl rfl rfl rfl rfl rfl (by kernel_rfl) ?_ | refine da_offU 14 rfl rfl rfl rfl rfl (by kernel_rfl) ?_)))
  all_goals (first | refine da_onC 15 rfl rfl rfl rfl rfl (by kernel_rfl) (by first | exact po_fieldAddr rfl inferInstance | fail) ?_ | refine da_offC 15 rfl rfl rfl rfl rfl rfl (by kernel_rfl) ?_ | refine da_offU 15 rfl rfl rfl rfl rfl (by kernel_rfl) ?_ | ((first | refine da_caseP (t := 28) rfl (fun _ => ?_) (fun _ => ?_) | refine da_caseNP (t := 28) rfl (fun _ => ?_) (fun _ => ?_) | refine da_caseEq (t := 28) rfl (fun _ => ?_) (fun _ => ?_) | refine da_caseNe (t := 28) rfl (fun _ => ?_) (fun _ => ?_) | refine da_caseNB (t := 28) rfl (fun _ => ?_) (fun _ => ?_) | refine da_case (t := 28) rfl (fun _ => ?_) (fun _ => ?_)) <;> (first | refine da_onC 15 rfl rfl rfl rfl rfl (by kernel_rfl) (by first | exact po_fieldAddr rfl inferInstance | fail) ?_ | refine da_offC 15 rfl rfl rfl rfl rfl rfl (by kernel_rfl) ?_ | refine da_offU 15 rfl rfl rfl rfl rfl (by kernel_rfl) ?_)))
  all_goals (first | refine da_onC 16 rfl rfl rfl rfl rfl (by kernel_rfl) (by first | exact pc_ldStT rfl inferInstance inferInstance (by omega) inferInstance | fail) ?_ | refine da_offC 16 rfl rfl rfl rfl rfl rfl (by kernel_rfl) ?_ | refine da_offU 16 rfl rfl rfl rfl rfl (by kernel_rfl) ?_ | ((first | refine da_caseP (t := 28) rfl (fun _ => ?_) (fun _ => ?_) | refine da_caseNP (t := 28) rfl (fun _ => ?_) (fun _ => ?_) | refine da_caseEq (t := 28) rfl (fun _ => ?_) (fun _ => ?_) | refine da_caseNe (t := 28) rfl (fun _ => ?_) (fun _ => ?_) | refine da_caseNB (t := 28) rfl (fun _ => ?_) (fun _ => ?_) | refine da_case (t := 28) rfl (fun _ => ?_) (fun _ => ?_)) <;> (first | refine da_onC 16 rfl rfl rfl rfl rfl (by kernel_rfl) (by first | exact pc_ldStT rfl inferInstance inferInstance (by omega) inferInstance | fail) ?_ | refine da_offC 16 rfl rfl rfl rfl rfl rfl (by kernel_rfl) ?_ | refine da_offU 16 rfl rfl rfl rfl rfl (by kernel_rfl) ?_)))
  all_goals (first | refine da_onC 17 rfl rfl rfl rfl rfl (by kernel_rfl) (by first | exact po_move rfl | fail) ?_ | refine da_offC 17 rfl rfl rfl rfl rfl rfl (by kernel_rfl) ?_ | refine da_offU 17 rfl rfl rfl rfl rfl (by kernel_rfl) ?_ | ((first | refine da_caseP (t := 28) rfl (fun _ => ?_) (fun _ => ?_) | refine da_caseNP (t := 28) rfl (fun _ => ?_) (fun _ => ?_) | refine da_caseEq (t := 28) rfl (fun _ => ?_) (fun _ => ?_) | refine da_caseNe (t := 28) rfl (fun _ => ?_) (fun _ => ?_) | refine da_caseNB (t := 28) rfl (fun _ => ?_) (fun _ => ?_) | refine da_case (t := 28) rfl (fun _ => ?_) (fun _ => ?_)) <;> (first | refine da_onC 17 rfl rfl rfl rfl rfl (by kernel_rfl) (by first | exact po_move rfl | fail) ?_ | refine da_offC 17 rfl rfl rfl rfl rfl rfl (by kernel_rfl) ?_ | refine da_offU 17 rfl rfl rfl rfl rfl (by kernel_rfl) ?_)))
  all_goals (first | refine da_onC 18 rfl rfl rfl rfl rfl (by kernel_rfl) (by first | exact po_move rfl | fail) ?_ | refine da_offC 18 rfl rfl rfl rfl rfl rfl (by kernel_rfl) ?_ | refine da_offU 18 rfl rfl rfl rfl rfl (by kernel_rfl) ?_ | ((first | refine da_caseP (t := 28) rfl (fun _ => ?_) (fun _ => ?_) | refine da_caseNP (t := 28) rfl (fun _ => ?_) (fun _ => ?_) | refine da_caseEq (t := 28) rfl (fun _ => ?_) (fun _ => ?_) | refine da_caseNe (t := 28) rfl (fun _ => ?_) (fun _ => ?_) | refine da_caseNB (t := 28) rfl (fun _ => ?_) (fun _ => ?_) | refine da_case (t := 28) rfl (fun _ => ?_) (fun _ => ?_)) <;> (first | refine da_onC 18 rfl rfl rfl rfl rfl (by kernel_rfl) (by first | exact po_move rfl | fail) ?_ | refine da_offC 18 rfl rfl rfl rfl rfl rfl (by kernel_rfl) ?_ | refine da_offU 18 rfl rfl rfl rfl rfl (by kernel_rfl) ?_)))
  all_goals (first | refine da_onC 19 rfl rfl rfl rfl rfl (by kernel_rfl) (by first | exact pc_indexRow rfl rfl inferInstance inferInstance inferInstance (by omega) | fail) ?_ | refine da_offC 19 rfl rfl rfl rfl rfl rfl (by kernel_rfl) ?_ | refine da_offU 19 rfl rfl rfl rfl rfl (by kernel_rfl) ?_ | ((first | refine da_caseP (t := 28) rfl (fun _ => ?_) (fun _ => ?_) | refine da_caseNP (t := 28) rfl (fun _ => ?_) (fun _ => ?_) | refine da_caseEq (t := 28) rfl (fun _ => ?_) (fun _ => ?_) | refine da_caseNe (t := 28) rfl (fun _ => ?_) (fun _ => ?_) | refine da_caseNB (t := 28) rfl (fun _ => ?_) (fun _ => ?_) | refine da_case (t := 28) rfl (fun _ => ?_) (fun _ => ?_)) <;> (first | refine da_onC 19 rfl rfl rfl rfl rfl (by kernel_rfl) (by first | exact pc_indexRow rfl rfl inferInstance inferInstance inferInstance (by omega) | fail) ?_ | refine da_offC 19 rfl rfl rfl rfl rfl rfl (by kernel_rfl) ?_ | refine da_offU 19 rfl rfl rfl rfl rfl (by kernel_rfl) ?_)))
  all_goals (first | refine da_onC 20 rfl rfl rfl rfl rfl (by kernel_rfl) (by first | exact po_fieldAddr rfl inferInstance | fail) ?_ | refine da_offC 20 rfl rfl rfl rfl rfl rfl (by kernel_rfl) ?_ | refine da_offU 20 rfl rfl rfl rfl rfl (by kernel_rfl) ?_ | ((first | refine da_caseP (t := 28) rfl (fun _ => ?_) (fun _ => ?_) | refine da_caseNP (t := 28) rfl (fun _ => ?_) (fun _ => ?_) | refine da_caseEq (t := 28) rfl (fun _ => ?_) (fun _ => ?_) | refine da_caseNe (t := 28) rfl (fun _ => ?_) (fun _ => ?_) | refine da_caseNB (t := 28) rfl (fun _ => ?_) (fun _ => ?_) | refine da_case (t := 28) rfl (fun _ => ?_) (fun _ => ?_)) <;> (first | refine da_onC 20 rfl rfl rfl rfl rfl (by kernel_rfl) (by first | exact po_fieldAddr rfl inferInstance | fail) ?_ | refine da_offC 20 rfl rfl rfl rfl rfl rfl (by kernel_rfl) ?_ | refine da_offU 20 rfl rfl rfl rfl rfl (by kernel_rfl) ?_)))
  all_goals (first | refine da_onC 21 rfl rfl rfl rfl rfl (by kernel_rfl) (by first | exact pc_ldStT rfl inferInstance inferInstance (by omega) inferInstance | fail) ?_ | refine da_offC 21 rfl rfl rfl rfl rfl rfl (by kernel_rfl) ?_ | refine da_offU 21 rfl rfl rfl rfl rfl (by kernel_rfl) ?_ | ((first | refine da_caseP (t := 28) rfl (fun _ => ?_) (fun _ => ?_) | refine da_caseNP (t := 28) rfl (fun _ => ?_) (fun _ => ?_) | refine da_caseEq (t := 28) rfl (fun _ => ?_) (fun _ => ?_) | refine da_caseNe (t := 28) rfl (fun _ => ?_) (fun _ => ?_) | refine da_caseNB (t := 28) rfl (fun _ => ?_) (fun _ => ?_) | refine da_case (t := 28) rfl (fun _ => ?_) (fun _ => ?_)) <;> (first | refine da_onC 21 rfl rfl rfl rfl rfl (by kernel_rfl) (by first | exact pc_ldStT rfl inferInstance inferInstance (by omega) inferInstance | fail) ?_ | refine da_offC 21 rfl rfl rfl rfl rfl rfl (by kernel_rfl) ?_ | refine da_offU 21 rfl rfl rfl rfl rfl (by kernel_rfl) ?_)))
  all_goals (first | refine da_offC 22 rfl rfl rfl rfl rfl rfl (by kernel_rfl) ?_ | refine da_offU 22 rfl rfl rfl rfl rfl (by kernel_rfl) ?_ | (refine da_one 22 rfl (by kernel_rfl) (fun _ _ _ _ => ?_); (repeat' (first | (refine wc_callR rfl inferInstance rfl hmt rfl ?_; intro _ _) | refine wc_guardT_false rfl rfl rfl ?_ | fail)); all_goals (first | refine wl_nil ⟨rfl, (by first | exact LeS.len inferInstance | exact App.len (by assumption)), ?_⟩ | trace_state)) | ((first | refine da_caseP (t := 28) rfl (fun _ => ?_) (fun _ => ?_) | refine da_caseNP (t := 28) rfl (fun _ => ?_) (fun _ => ?_) | refine da_caseEq (t := 28) rfl (fun _ => ?_) (fun _ => ?_) | refine da_caseNe (t := 28) rfl (fun _ => ?_) (fun _ => ?_) | refine da_caseNB (t := 28) rfl (fun _ => ?_) (fun _ => ?_) | refine da_case (t := 28) rfl (fun _ => ?_) (fun _ => ?_)) <;> (first | refine da_offC 22 rfl rfl rfl rfl rfl rfl (by kernel_rfl) ?_ | refine da_offU 22 rfl rfl rfl rfl rfl (by kernel_rfl) ?_ | (refine da_one 22 rfl (by kernel_rfl) (fun _ _ _ _ => ?_); (repeat' (first | (refine wc_callR rfl inferInstance rfl hmt rfl ?_; intro _ _) | refine wc_guardT_false rfl rfl rfl ?_ | fail)); all_goals (first | refine wl_nil ⟨rfl, (by first | exact LeS.len inferInstance | exact App.len (by assumption)), ?_⟩ | trace_state)))))
  all_goals (first | refine da_onC 23 rfl rfl rfl rfl rfl (by kernel_rfl) (by first | exact po_not rfl | fail) ?_ | refine da_offC 23 rfl rfl rfl rfl rfl rfl (by kernel_rfl) ?_ | refine da_offU 23 rfl rfl rfl rfl rfl (by kernel_rfl) ?_ | ((first | refine da_caseP (t := 28) rfl (fun _ => ?_) (fun _ => ?_) | refine da_caseNP (t := 28) rfl (fun _ => ?_) (fun _ => ?_) | refine da_caseEq (t := 28) rfl (fun _ => ?_) (fun _ => ?_) | refine da_caseNe (t := 28) rfl (fun _ => ?_) (fun _ => ?_) | refine da_caseNB (t := 28) rfl (fun _ => ?_) (fun _ => ?_) | refine da_case (t := 28) rfl (fun _ => ?_) (fun _ => ?_)) <;> (first | refine da_onC 23 rfl rfl rfl rfl rfl (by kernel_rfl) (by first | exact po_not rfl | fail) ?_ | refine da_offC 23 rfl rfl rfl rfl rfl rfl (by kernel_rfl) ?_ | refine da_offU 23 rfl rfl rfl rfl rfl (by kernel_rfl) ?_)))
  all_goals refine da_takeC 24 rfl rfl (by kernel_rfl) (by first | exact po_pick rfl rfl | fail) ?_
  all_goals refine da_done (by kernel_rfl) ?_
  all_goals try (exfalso; omega)
  repeat' (first
    | refine wp_region_seq ?_
    | refine thru_seq_next ?_
    | refine thru_block_next ?_
    | refine wp_skipA ?_
    | refine wl_nil ?_
    | refine wl_pop rfl (po_move rfl) ?_
    | refine wl_pop rfl (po_assign rfl) ?_
    | refine wl_pop rfl (pc_add rfl rfl (by omega) (by omega)) ?_
    | refine wp_condF rfl ?_
    | fail)
  exact ⟨k + 1, by omega, ⟨hk', inferInstance⟩, (by repeat' (first | exact sub_nil | refine sub_cons rfl ?_ | refine sub_int rfl (by first | rfl | omega | (push_cast; omega) | simp) ?_ | refine sub_eq rfl (by assumption) ?_))⟩
theorem c_mnPut (a b : Int) (s : AV) (σ : Store) [h : One s] : ACall Try.prog base F_laws_mnPut [I a, I b, s] σ (fun _ => False) (Ret σ (.agg [I a, I b, s])) := by
  refine acall3 fun_laws_mnPut rfl tmps_laws_mnPut rfl fun N B w₀ ρ₀ => ?_
  repeat' (first
    | refine wl_pop rfl (pc_tm3 rfl rfl rfl inferInstance inferInstance rfl) ?_
    | refine wp_seqA ?_
    | refine wp_region_seq ?_
    | refine thru_seq_next ?_
    | refine wp_retA ?_
    | refine wl_nil ?_
    | refine wl_pop rfl (po_move rfl) ?_
    | (refine wc_storeA rfl rfl inferInstance inferInstance rfl inferInstance (Nat.le_of_ble_eq_true rfl) (.inr (may_new _)) ?_; intro _ _)
    | (refine wc_allocA (cs := [_, _, _]) inferInstance rfl inferInstance rfl ?_; intro _ _ _ _ _)
    | refine at_ret (res_cell rfl rfl inferInstance (at_has (cs := [_, _, _]) (.inl rfl) rfl rfl)) ?_
    | exact ret_ inferInstance rfl
    | fail)
/-- A term and definitions that are drawn, alone. -/
def RetTD (σ : Store) : AV → Store → Prop := fun r σ' => ∃ (t : Tm) (u v : AV) (xs : List Tm), r = .tup [.agg [I t.op, I t.n, u], v] ∧ RTs σ' u t.ps ∧ RTs σ' v xs ∧ xs.length ≤ 3 ∧ Grow σ σ'
theorem wc_callTDr {E : Env} {ops : Array Oper} {l : List Oper} {Q : Exit → Slots → Store → Prop} {S : Slots} {σ : Store} {d : Option Tmp} {ty : TypeId} {pos : String} {af : Array Edge} {x : Operand} {args : Array Operand} {ats : Array TypeId} {f : FuncId} {rs caps : List AV} (hf : S.ev x = some (.fn f caps)) (hc : Callable E.P f) (hargs : evs S args.toList = some rs)
    (h : ACall E.P E.base f (rs ++ caps) σ (fun _ => False) (RetTD σ)) (hd : okd E d = true) (k : ∀ (t : Tm) (u v : AV) (xs : List Tm) σ', One u → One v → RTs σ' u t.ps → RTs σ' v xs → xs.length ≤ 3 → Grow σ σ' → WL E ops l Q (S.put d (.tup [.agg [I t.op, I t.n, u], v])) σ') :
    WL E ops (⟨d, .call ⟨.value x, args, ats⟩, ty, pos, af, none⟩ :: l) Q S σ :=
  wc_call hf hc hargs h hd fun r' σ' h => by obtain ⟨t, u, v, xs, e, h1, h2, h3, h4⟩ := h; subst e; exact k t u v xs σ' h1.one h2.one h1 h2 h3 h4
theorem c_DrawTermSteps (b : AV) (gb : List UInt8) (σ : Store) [hs : RW σ b gb] (hg : gb.length ≤ 1048576) : ACall Try.prog base F_spec_DrawTermSteps [b] σ (fun _ => False) (RetTD σ) := by
  have := hs.one
  refine acall1 fun_spec_DrawTermSteps rfl tmps_spec_DrawTermSteps rfl fun N B w₀ ρ₀ => ?_
  repeat' (first
    | (refine wc_callOpen rfl inferInstance rfl (c_l6Open b gb _ hg) rfl ?_; intro _ _ _ _ _ _ _ _)
    | refine wc_holdR 2 ?_
    | refine wp_seqA ?_
    | refine wp_region_seq ?_
    | refine thru_seq_next ?_
    | refine wl_nil ?_
    | refine wl_pop rfl (po_move rfl) ?_
    | refine wl_pop rfl (po_assign rfl) ?_
    | (refine wc_allocA (cs := [_, _, _]) inferInstance rfl inferInstance rfl ?_; intro _ _ _ _ _)
    | fail)
  rename_i i1 σ1 g1 n1 h1 i s g σ2 g2 n2 h2 b2
  have hni : σ.length ≤ i := Nat.le_trans g1.len n2.le
  have y0 := h1.lt
  have y1 := n2.le
  have y2 := h2.lt
  have y3 := g2.len
  refine hold_go ?_
  repeat' (first
    | (refine wc_callC rfl inferInstance rfl (c_l91Called i s g _ _ (by omega) (by omega)) inferInstance (.inr hni) rfl ?_; intro _ _ _ _ _ _ _ _ _ _ _ _ _ _ _ _)
    | (refine wc_storeA rfl rfl inferInstance inferInstance rfl inferInstance (Nat.le_of_ble_eq_true rfl) (.inr (may_newB i σ)) ?_; intro _ _)
    | refine wp_seqA ?_
    | refine wp_region_seq ?_
    | refine thru_seq_next ?_
    | refine wp_retA ?_
    | refine wl_nil ?_
    | refine wl_pop rfl (po_move rfl) ?_
    | refine wl_pop rfl (po_assign rfl) ?_
    | refine wc_loadn rfl inferInstance (at_has (cs := [_, _, _]) (.inl rfl) rfl rfl) rfl ?_
    | refine wl_pop rfl (po_extract rfl rfl) ?_
    | (refine wc_allocA (cs := [_, _, _]) inferInstance rfl inferInstance rfl ?_; intro _ _ _ _ _)
    | refine at_ret (res_cell2 rfl rfl inferInstance (at_has (cs := [_, _, _]) (.inl rfl) rfl rfl) rfl) ?_
    | fail)
  rename_i t u v xs p3 σ3 σ4 ou ov ru rv hx a1 a2 g4 u4 j σ5 g5 n5 h5 σ6 u6 σ7 u7
  have y4 := (inferInstance : LeB i σ2 σ4).len
  have y5 := n5.le
  have hl := (inferInstance : LeB i σ σ6)
  have RV : RepD σ7 (fun x => σ2.length ≤ x ∧ x < σ4.length) v xs := rv.rep.lt.mono (fun x o hx ho => by rw [u7.eq, List.getElem?_set_ne (by omega)]; exact (inferInstance : LeB i σ4 σ6).keep.keep x o (by omega) ho) (fun x hx => hx)
  have RU : RepD σ7 (fun x => σ2.length ≤ x ∧ x < σ4.length) u t.ps := ru.rep.lt.mono (fun x o hx ho => by rw [u7.eq, List.getElem?_set_ne (by omega)]; exact (inferInstance : LeB i σ4 σ6).keep.keep x o (by omega) ho) (fun x hx => hx)
  have z1 := n1.le
  refine ⟨t, u, v, xs, rfl, ⟨RU.rep.mono (fun _ _ _ h => h) (fun _ _ => trivial)⟩, ⟨RV.rep.mono (fun _ _ _ h => h) (fun _ _ => trivial)⟩, hx, ⟨fun x o ho => ?_⟩⟩
  have hx1 : x < σ.length := Has.lt ⟨ho⟩
  rw [u7.eq, List.getElem?_set_ne (by omega)]
  exact hl.keep.keep x o (by omega) ho
end
end Go.Proofs.Ytcmkkmlgdkhmiaa.Asl
