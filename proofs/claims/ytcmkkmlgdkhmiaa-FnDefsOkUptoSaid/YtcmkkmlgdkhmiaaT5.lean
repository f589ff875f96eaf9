/- Which trees are terms: the reference's answer. -/
import Derived.Test.YtcmkkmlgdkhmiaaT4
namespace Go.Proofs.Ytcmkkmlgdkhmiaa.Asl
open Go.RowKit
set_option linter.unusedVariables false
attribute [local irreducible] WP WL andThen inBlock noGoto atEnd ACall DA PO Hold actB inB nodeOk
set_option maxHeartbeats 4000000

section
variable {base : Nat}
theorem c_l2Nodes_of {op n : Int} {ps : List Tm} (h : ∀ p ∈ ps, ∀ (σ : Store) (s : AV) [RTs σ s p.ps], ACall Try.prog base F_spec_l2Nodes [.agg [I p.op, I p.n, s]] σ (fun _ => False) (Ret σ (I (if p.shape then (min p.cnt 1000 : Nat) else 0))))
    (σ : Store) (s : AV) [hs : RTs σ s ps] : ACall Try.prog base F_spec_l2Nodes [.agg [I op, I n, s]] σ (fun _ => False) (Ret σ (I (if (Tm.node op n ps).shape then (min (Tm.node op n ps).cnt 1000 : Nat) else 0))) := by
  have hb := hs.bound
  have := hs.one
  refine acall1 fun_spec_l2Nodes rfl tmps_spec_l2Nodes rfl fun N B w₀ ρ₀ => ?_
  repeat' (first
    | refine wc_hold 0 ?_
    | refine wp_seqA ?_
    | refine wp_region_seq ?_
    | refine thru_seq_next ?_
    | refine wl_nil ?_
    | refine wl_pop rfl (po_assign rfl) ?_
    | refine wl_pop rfl (po_binOp rfl rfl rfl) ?_
    | refine wl_pop rfl (po_fieldAddr rfl inferInstance) ?_
    | refine wc_load1 rfl inferInstance (at_has (.inl rfl) rfl rfl) rfl ?_
    | (refine wc_boxA rfl inferInstance rfl ?_; intro _ _ _ _ _)
    | fail)
  rename_i i σ₁ g1 n1 h1
  refine wc_cut (ι := Int × Bool) [(1, .pt i 0)] (fun x => [(3, I x.1), (4, Bo x.2)]) (fun x σ' => LeS σ₁ σ' ∧ 0 ≤ x.1 ∧ x.1 ≤ 2 ∧ (nodeOk op n ps.length = true ↔ x.2 = true ∧ (ps.length : Int) = x.1)) ?_ ?_
  · repeat' (first
      | (refine wc_callR rfl inferInstance rfl (c_sActOk _ _) rfl ?_; intro _ _)
      | (refine wc_callR rfl inferInstance rfl (c_l6In _ _ _ _) rfl ?_; intro _ _)
      | refine wp_seqA ?_
      | refine wp_region_seq ?_
      | refine thru_seq_next ?_
      | refine thru_block_next ?_
      | refine wp_skipA ?_
      | refine wp_blockA ?_
      | refine wl_nil ?_
      | refine wl_pop rfl (po_assign rfl) ?_
      | refine wl_pop rfl (po_binOp rfl rfl rfl) ?_
      | refine wl_pop rfl (po_fieldAddr rfl inferInstance) ?_
      | refine wc_load1 rfl inferInstance (at_has (.inl rfl) rfl rfl) rfl ?_
      | refine wp_condP rfl (fun _ => ?_) (fun _ => ?_)
      | fail)
    all_goals refine ⟨(_, _), ⟨inferInstance, ?_, ?_, ?_⟩, sub_cons rfl (sub_cons rfl (sub_cons rfl sub_nil))⟩
    all_goals dsimp only
    all_goals first | omega | (simp only [nodeOk_iff, actB_iff, inB_iff, beq_iff_eq, Bool.false_eq_true, false_and, iff_false]; omega)
  rintro ⟨w, b⟩ σ₂ ⟨hg, hw0, hw2, hok⟩
  dsimp only at hw0 hw2 hok ⊢
  have := hg.grow
  repeat' (first
    | refine wp_seqA ?_
    | refine wp_region_seq ?_
    | refine thru_seq_next ?_
    | refine thru_seq_ret ?_
    | refine wp_skipA ?_
    | refine wp_retA ?_
    | refine wp_blockA ?_
    | refine wl_nil ?_
    | refine wl_pop rfl (po_move rfl) ?_
    | refine wl_pop rfl (po_assign rfl) ?_
    | refine wl_pop rfl (po_binOp rfl rfl rfl) ?_
    | refine wl_pop rfl (po_fieldAddr rfl inferInstance) ?_
    | refine wc_load1 rfl inferInstance (at_has (.inl rfl) rfl rfl) rfl ?_
    | refine wl_pop rfl (po_not rfl) ?_
    | refine wl_pop rfl (po_pick rfl rfl) ?_
    | refine wc_guardT_false rfl rfl rfl ?_
    | refine wc_guardF_false rfl rfl rfl rfl ?_
    | refine wc_guard rfl rfl rfl rfl (fun _ => ?_) (fun _ => ?_)
    | refine wp_condT rfl ?_
    | refine wp_condNP rfl (fun _ => ?_) (fun _ => ?_)
    | refine wl_pop rfl (pc_lenT rfl inferInstance inferInstance) ?_
    | refine at_ret (res1 rfl rfl) ?_
    | fail)
  · rename_i e1 e2
    refine ret_ inferInstance (congrArg I ?_)
    have : ¬ nodeOk op n ps.length = true := by rw [hok]; simp_all
    simp [Tm.shape, this]
  rotate_left
  · rename_i e1
    refine ret_ inferInstance (congrArg I ?_)
    have : ¬ nodeOk op n ps.length = true := by rw [hok]; simp_all
    simp [Tm.shape, this]
  rename_i e1 e2
  have e2 : (ps.length : Int) = w := by simpa using e2
  subst e2
  have hok' : nodeOk op n ps.length = true := hok.mpr ⟨by simpa using e1, rfl⟩
  refine wc_loop [(1, .pt i 0), (3, I ps.length)] (fun x : Nat × Int => [(5, I x.2), (6, I x.1)]) (fun x σ' => x.1 ≤ ps.length ∧ (ps.take x.1).all Tm.shape = true ∧ x.2 = min (1 + (Tm.cnts (ps.take x.1) : Int)) 1000 ∧ LeS σ₁ σ') (fun x => ps.length - x.1) (0, 1) ⟨Nat.zero_le _, rfl, by simp [Tm.cnts]; omega, inferInstance⟩ (sub_int rfl (by simp) (sub_int rfl (by simp) (sub_cons rfl (sub_cons rfl sub_nil)))) ?_
  rintro ⟨k, z⟩ σ' ⟨hk, hsh, hz, hg⟩
  dsimp only at hk hsh hz ⊢
  have := hg.grow
  repeat' (first
    | refine wp_seqA ?_
    | refine wp_region_seq ?_
    | refine thru_seq_next ?_
    | refine thru_seq ?_
    | refine exit_here ?_
    | refine wp_skipA ?_
    | refine wp_retA ?_
    | refine wp_exitA ?_
    | refine wp_blockA ?_
    | refine wl_nil ?_
    | refine wl_pop rfl (po_move rfl) ?_
    | refine wl_pop rfl (po_assign rfl) ?_
    | refine wl_pop rfl (po_binOp rfl rfl rfl) ?_
    | refine wl_pop rfl (po_fieldAddr rfl inferInstance) ?_
    | refine wc_load1 rfl inferInstance (at_has (.inl rfl) rfl rfl) rfl ?_
    | refine wp_condP rfl (fun _ => ?_) (fun _ => ?_)
    | refine at_ret (res1 rfl rfl) ?_
    | fail)
  rotate_left
  · have : k = ps.length := by omega
    subst this
    rw [List.take_length] at hsh hz
    refine ret_ inferInstance (congrArg I ?_)
    simp only [Tm.shape, Tm.shapes_eq, hok', hsh, Bool.and_self, if_true, Tm.cnt]; omega
  have hk' : k < ps.length := by omega
  obtain ⟨id, off, s', rfl, hat, hrs⟩ := (inferInstance : RTs σ' s ps).part hk'
  have hcp := Tm.cnt_pos ps[k]
  repeat' (first
    | (refine wc_callR rfl inferInstance rfl (h _ (List.getElem_mem hk') _ _) rfl ?_; intro _ _)
    | refine wp_seqA ?_
    | refine wp_region_seq ?_
    | refine thru_seq_next ?_
    | refine thru_seq_ret ?_
    | refine thru_block_ret ?_
    | refine thru_block_next ?_
    | refine wp_skipA ?_
    | refine wp_retA ?_
    | refine wl_nil ?_
    | refine wl_pop rfl (po_move rfl) ?_
    | refine wl_pop rfl (po_assign rfl) ?_
    | refine wl_pop rfl (pc_add rfl rfl (by omega) (by omega)) ?_
    | refine wl_pop rfl (po_binOp rfl rfl rfl) ?_
    | refine wl_pop rfl (pc_indexAddr rfl rfl inferInstance inferInstance (by omega)) ?_
    | refine wc_loadn rfl inferInstance inferInstance rfl ?_
    | refine wl_pop rfl (pc_min rfl rfl) ?_
    | refine wp_condP rfl (fun _ => ?_) (fun _ => ?_)
    | refine at_ret (res1 rfl rfl) ?_
    | fail)
  · rename_i e3
    have hn : ¬ ps[k].shape = true := by
      intro h
      rw [if_pos h] at e3; omega
    refine ret_ inferInstance (congrArg I ?_)
    rw [if_neg]
    simp only [Tm.shape, Tm.shapes_eq, Bool.and_eq_true, not_and]
    intro _ hall
    exact hn (List.all_eq_true.mp hall _ (List.getElem_mem hk'))
  rename_i σ₃ g3 e3
  have hn : ps[k].shape = true := by
    rcases Bool.eq_false_or_eq_true ps[k].shape with h | h
    · exact h
    · rw [h] at e3; simp at e3
  simp only [hn, if_true]
  repeat' (first
    | fail)
  have hcs := Tm.cnts_take hk'
  refine ⟨(k + 1, _), by dsimp only; omega, ⟨hk', by rw [List.take_succ_eq_append_getElem hk', List.all_append, hsh]; simp [hn], ?_, inferInstance⟩, sub_cons rfl (sub_int rfl (by simp) (sub_cons rfl (sub_cons rfl sub_nil)))⟩
  dsimp only
  omega
theorem c_l2Nodes (t : Tm) : ∀ (σ : Store) (s : AV) [RTs σ s t.ps], ACall Try.prog base F_spec_l2Nodes [.agg [I t.op, I t.n, s]] σ (fun _ => False) (Ret σ (I (if t.shape then (min t.cnt 1000 : Nat) else 0))) :=
  Tm.ind (P := fun t => ∀ (σ : Store) (s : AV) [RTs σ s t.ps], ACall Try.prog base F_spec_l2Nodes [.agg [I t.op, I t.n, s]] σ (fun _ => False) (Ret σ (I (if t.shape then (min t.cnt 1000 : Nat) else 0))))
    (fun op n ps ih => c_l2Nodes_of ih) t
theorem c_sTermOk (t : Tm) (σ : Store) (s : AV) [hs : RTs σ s t.ps] : ACall Try.prog base F_spec_TermOk [.agg [I t.op, I t.n, s]] σ (fun _ => False) (Ret σ (Bo t.ok)) := by
  have := hs.one
  refine acall1 fun_spec_TermOk rfl tmps_spec_TermOk rfl fun N B w₀ ρ₀ => ?_
  repeat' (first
    | (refine wc_callR rfl inferInstance rfl (c_l2Nodes t _ _) rfl ?_; intro _ _)
    | (refine wc_callR rfl inferInstance rfl (c_l6In _ _ _ _) rfl ?_; intro _ _)
    | refine wp_seqA ?_
    | refine wp_region_seq ?_
    | refine thru_seq_next ?_
    | refine wp_retA ?_
    | refine wl_nil ?_
    | refine wl_pop rfl (po_assign rfl) ?_
    | refine wc_loadn rfl inferInstance (at_has (cs := [_, _, _]) (.inl rfl) rfl rfl) rfl ?_
    | (refine wc_boxA rfl inferInstance rfl ?_; intro _ _ _ _ _)
    | refine at_ret (res1 rfl rfl) ?_
    | fail)
  refine ret_ inferInstance (congrArg Bo (Bool.eq_iff_iff.mpr ?_))
  rw [inB_iff]
  have := Tm.cnt_pos t
  cases h : t.shape <;> simp [Tm.ok, h] <;> omega
end
end Go.Proofs.Ytcmkkmlgdkhmiaa.Asl
