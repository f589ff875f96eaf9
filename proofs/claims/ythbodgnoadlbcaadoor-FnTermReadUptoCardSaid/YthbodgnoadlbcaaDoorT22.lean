/- What the drawn law FnTermSwap draws; terms alike. -/
import Derived.Test.YthbodgnoadlbcaaDoorDD
import Derived.Test.YthbodgnoadlbcaaDoorT21
namespace Go.Proofs.YthbodgnoadlbcaaDoor.Asl
open Go.RowKit
set_option linter.unusedVariables false
set_option linter.unusedSimpArgs false
attribute [local irreducible] WP WL andThen inBlock noGoto atEnd ACall DA DL PO Hold Tm.ok
set_option maxHeartbeats 4000000
section
variable {base : Nat}
def RetTS (σ : Store) : AV → Store → Prop := fun r σ' => ∃ (t : Tm) (u : AV) (m1 m2 : Int), r = .tup [.agg [I t.op, I t.n, u], I m1, I m2] ∧ RTs σ' u t.ps ∧ -10 ≤ m1 ∧ m1 ≤ 10 ∧ -10 ≤ m2 ∧ m2 ≤ 10 ∧ Grow σ σ'
theorem c_mnTerm_of {op n : Int} {ps : List Tm} (h : ∀ (σ : Store) (s s' : AV) [RTs σ s ps] [RTs σ s' ps], ACall Tryd.prog base F_laws_mnTerms [s, s'] σ (fun _ => False) (Ret σ (Bo true)))
    (σ : Store) (s s' : AV) [hs : RTs σ s ps] [hs' : RTs σ s' ps] : ACall Tryd.prog base F_laws_mnTerm [.agg [I op, I n, s], .agg [I op, I n, s']] σ (fun _ => False) (Ret σ (Bo true)) := by
  have := hs.one
  have := hs'.one
  refine acall2 fun_laws_mnTerm rfl tmps_laws_mnTerm rfl fun N B w₀ ρ₀ => ?_
  repeat' (first
    | (refine wc_callR rfl inferInstance rfl (h _ _ _) rfl ?_; intro _ _)
    | refine wp_seqA ?_
    | refine wp_region_seq ?_
    | refine thru_seq_next ?_
    | refine wp_retA ?_
    | refine wl_nil ?_
    | refine wl_pop rfl (po_move rfl) ?_
    | refine wl_pop rfl (po_assign rfl) ?_
    | refine wl_pop rfl (po_binOp rfl rfl rfl) ?_
    | refine wl_pop rfl (po_fieldAddr rfl inferInstance) ?_
    | refine wc_load1 rfl inferInstance (at_has (.inl rfl) rfl rfl) rfl ?_
    | (refine wc_boxA rfl inferInstance rfl ?_; intro _ _ _ _ _)
    | refine wl_pop rfl (po_pick rfl rfl) ?_
    | refine wc_guardT_true rfl rfl rfl ?_
    | refine wc_guardF_true rfl rfl rfl rfl ?_
    | refine wc_guardP_true rfl rfl rfl rfl (fun _ => ?_) (fun _ => ?_)
    | refine at_ret (res1 rfl rfl) ?_
    | exact ret_ inferInstance rfl
    | fail)
  all_goals (exfalso; simp_all)
theorem c_mnTerms_of {ps : List Tm} (h : ∀ p ∈ ps, ∀ (σ : Store) (s s' : AV) [RTs σ s p.ps] [RTs σ s' p.ps], ACall Tryd.prog base F_laws_mnTerm [.agg [I p.op, I p.n, s], .agg [I p.op, I p.n, s']] σ (fun _ => False) (Ret σ (Bo true)))
    (σ : Store) (s s' : AV) [hs : RTs σ s ps] [hs' : RTs σ s' ps] : ACall Tryd.prog base F_laws_mnTerms [s, s'] σ (fun _ => False) (Ret σ (Bo true)) := by
  have hb := hs.bound
  have := hs.one
  have := hs'.one
  refine acall2 fun_laws_mnTerms rfl tmps_laws_mnTerms rfl fun N B w₀ ρ₀ => ?_
  repeat' (first
    | refine wc_holdR 3 ?_
    | refine wp_seqA ?_
    | refine wp_region_seq ?_
    | refine thru_seq_next ?_
    | refine thru_seq_ret ?_
    | refine wp_skipA ?_
    | refine wp_retA ?_
    | refine wl_nil ?_
    | refine wl_pop rfl (po_move rfl) ?_
    | refine wl_pop rfl (po_assign rfl) ?_
    | refine wl_pop rfl (po_binOp rfl rfl rfl) ?_
    | refine wp_condNP rfl (fun _ => ?_) (fun _ => ?_)
    | refine wl_pop rfl (pc_lenT rfl inferInstance inferInstance) ?_
    | refine at_ret (res1 rfl rfl) ?_
    | fail)
  · exfalso; omega
  refine hold_go ?_
  repeat' (first
    | refine wp_region_seq ?_
    | refine thru_seq_next ?_
    | refine wp_blockA ?_
    | refine wl_nil ?_
    | refine wl_pop rfl (po_assign rfl) ?_
    | fail)
  refine wc_loop [(0, s), (1, s')] (fun k : Nat => [(5, I k)]) (fun k σ' => k ≤ ps.length ∧ Grow σ σ') (fun k => ps.length - k) 0 ⟨Nat.zero_le _, LeS.grow inferInstance⟩ (sub_int rfl (by simp) (sub_cons rfl (sub_cons rfl sub_nil))) ?_
  rintro k σ' ⟨hk, hg⟩
  repeat' (first
    | refine wp_seqA ?_
    | refine wp_region_seq ?_
    | refine thru_seq_next ?_
    | refine thru_seq ?_
    | refine exit_here ?_
    | refine wp_skipA ?_
    | refine wp_retA ?_
    | refine wp_exitA ?_
    | refine wp_blockA ?_
    | refine wl_nil ?_
    | refine wl_pop rfl (po_move rfl) ?_
    | refine wl_pop rfl (po_assign rfl) ?_
    | refine wl_pop rfl (po_binOp rfl rfl rfl) ?_
    | refine wp_condP rfl (fun _ => ?_) (fun _ => ?_)
    | refine wl_pop rfl (pc_lenT rfl inferInstance inferInstance) ?_
    | refine at_ret (res1 rfl rfl) ?_
    | exact ret_ inferInstance rfl
    | fail)
  have hk' : k < ps.length := by omega
  obtain ⟨id, off, u, rfl, hat, hrs⟩ := (inferInstance : RTs σ' s ps).part hk'
  obtain ⟨id', off', u', rfl, hat', hrs'⟩ := (inferInstance : RTs σ' s' ps).part hk'
  have := hrs.one
  have := hrs'.one
  repeat' (first
    | fail)
  refine wc_drawn [] mixed_ rfl ?_
  all_goals refine da_takeC 0 rfl rfl (by kernel_rfl) (by first | exact po_move rfl | fail) ?_
  all_goals refine da_takeC 1 rfl rfl (by kernel_rfl) (by first | exact po_move rfl | fail) ?_
  all_goals refine da_takeC 2 rfl rfl (by kernel_rfl) (by first | exact pc_indexAddr rfl rfl inferInstance inferInstance (by omega) | fail) ?_
  all_goals refine da_takeC 3 rfl rfl (by kernel_rfl) (by first | exact pc_loadnL rfl inferInstance inferInstance inferInstance | fail) ?_
  all_goals refine da_takeC 4 rfl rfl (by kernel_rfl) (by first | exact po_move rfl | fail) ?_
  all_goals refine da_takeC 5 rfl rfl (by kernel_rfl) (by first | exact po_move rfl | fail) ?_
  all_goals refine da_takeC 6 rfl rfl (by kernel_rfl) (by first | exact pc_indexAddr rfl rfl inferInstance inferInstance (by omega) | fail) ?_
  all_goals refine da_takeC 7 rfl rfl (by kernel_rfl) (by first | exact pc_loadnL rfl inferInstance inferInstance inferInstance | fail) ?_
  all_goals (first | (refine da_one 8 rfl (by kernel_rfl) (fun _ _ _ _ => ?_); (repeat' (first | (refine wc_callR rfl inferInstance rfl (h _ (List.getElem_mem hk') _ _ _) rfl ?_; intro _ _) | fail)); all_goals (first | refine wl_nil ⟨rfl, (by first | exact LeS.len inferInstance | exact App.len (by assumption)), ?_⟩ | trace_state)))
  all_goals refine da_takeC 9 rfl rfl (by kernel_rfl) (by first | exact po_not rfl | fail) ?_
  all_goals refine da_done (by kernel_rfl) ?_
  repeat' (first
    | refine wp_region_seq ?_
    | refine thru_seq_next ?_
    | refine thru_block_next ?_
    | refine wp_skipA ?_
    | refine wl_nil ?_
    | refine wl_pop rfl (po_move rfl) ?_
    | refine wl_pop rfl (po_assign rfl) ?_
    | refine wl_pop rfl (pc_add rfl rfl (by omega) (by omega)) ?_
    | refine wp_condF rfl ?_
    | fail)
  exact ⟨k + 1, by omega, ⟨hk', LeS.grow inferInstance⟩, sub_int rfl (by simp) (sub_cons rfl (sub_cons rfl sub_nil))⟩
theorem c_mnTerm (t : Tm) : ∀ (σ : Store) (s s' : AV) [RTs σ s t.ps] [RTs σ s' t.ps], ACall Tryd.prog base F_laws_mnTerm [.agg [I t.op, I t.n, s], .agg [I t.op, I t.n, s']] σ (fun _ => False) (Ret σ (Bo true)) :=
  Tm.ind (P := fun t => ∀ (σ : Store) (s s' : AV) [RTs σ s t.ps] [RTs σ s' t.ps], ACall Tryd.prog base F_laws_mnTerm [.agg [I t.op, I t.n, s], .agg [I t.op, I t.n, s']] σ (fun _ => False) (Ret σ (Bo true)))
    (fun op n ps ih => c_mnTerm_of (c_mnTerms_of ih)) t
end
/-! Exchanged twice. -/
end Go.Proofs.YthbodgnoadlbcaaDoor.Asl
