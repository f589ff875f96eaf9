/- Which trees are terms: the program's answer and the reference's. -/
import Derived.Test.YtcmkkmlgdkhmiaaT3
namespace Go.Proofs.Ytcmkkmlgdkhmiaa.Asl
open Go.RowKit
set_option linter.unusedVariables false
attribute [local irreducible] WP WL andThen inBlock noGoto atEnd ACall DA PO Hold
set_option maxHeartbeats 4000000

section
variable {base : Nat}
theorem c_termNodes_of {op n : Int} {ps : List Tm} (h : ∀ p ∈ ps, ∀ (most : Int) (σ : Store) (s : AV) [RTs σ s p.ps], 0 ≤ most → most ≤ 1000000 → ACall Try.prog base F_impl_termNodes [.agg [I p.op, I p.n, s], I most] σ (fun _ => False) (Ret σ (I (min (p.cnt : Int) (most + 1)))))
    (most : Int) (σ : Store) (s : AV) [hs : RTs σ s ps] (h0 : 0 ≤ most) (h1 : most ≤ 1000000) : ACall Try.prog base F_impl_termNodes [.agg [I op, I n, s], I most] σ (fun _ => False) (Ret σ (I (min ((Tm.node op n ps).cnt : Int) (most + 1)))) := by
  have hb := hs.bound
  have := hs.one
  refine acall2 fun_impl_termNodes rfl tmps_impl_termNodes rfl fun N B w₀ ρ₀ => ?_
  repeat' (first
    | refine wp_seqA ?_
    | refine wp_region_seq ?_
    | refine thru_seq_next ?_
    | refine wp_blockA ?_
    | refine wl_nil ?_
    | refine wl_pop rfl (po_move rfl) ?_
    | refine wl_pop rfl (po_assign rfl) ?_
    | refine wl_pop rfl (po_fieldAddr rfl inferInstance) ?_
    | refine wc_load1 rfl inferInstance (at_has (.inl rfl) rfl rfl) rfl ?_
    | (refine wc_boxA rfl inferInstance rfl ?_; intro _ _ _ _ _)
    | refine wl_pop rfl (pc_lenT rfl inferInstance inferInstance) ?_
    | fail)
  rename_i i σ₁ g1 n1 h2
  refine wc_loop [(1, I most), (9, s), (10, I ps.length)] (fun x : Nat × Int => [(5, I x.2), (11, I x.1)]) (fun x σ' => x.1 ≤ ps.length ∧ x.2 = min (1 + (Tm.cnts (ps.take x.1) : Int)) (most + 1) ∧ LeS σ₁ σ') (fun x => ps.length - x.1) (0, 1) ⟨Nat.zero_le _, by simp [Tm.cnts]; omega, inferInstance⟩ (sub_int rfl (by simp) (sub_int rfl (by simp) (sub_cons rfl (sub_cons rfl (sub_cons rfl sub_nil))))) ?_
  rintro ⟨k, z⟩ σ' ⟨hk, hz, hg⟩
  dsimp only at hk hz ⊢
  have := hg.grow
  repeat' (first
    | refine wp_seqA ?_
    | refine wp_region_seq ?_
    | refine thru_seq_next ?_
    | refine thru_seq ?_
    | refine exit_here ?_
    | refine wp_skipA ?_
    | refine wp_retA ?_
    | refine wp_exitA ?_
    | refine wp_blockA ?_
    | refine wl_nil ?_
    | refine wl_pop rfl (po_move rfl) ?_
    | refine wl_pop rfl (po_assign rfl) ?_
    | refine wl_pop rfl (po_binOp rfl rfl rfl) ?_
    | refine wp_condP rfl (fun _ => ?_) (fun _ => ?_)
    | refine at_ret (res1 rfl rfl) ?_
    | fail)
  rotate_left
  · have : k = ps.length := by omega
    subst this
    rw [List.take_length] at hz
    refine ret_ inferInstance (congrArg I ?_)
    simp only [Tm.cnt]; omega
  have hk' : k < ps.length := by omega
  obtain ⟨id, off, s', rfl, hat, hrs⟩ := (inferInstance : RTs σ' s ps).part hk'
  have := hrs.one
  repeat' (first
    | (refine wc_callR rfl inferInstance rfl (h _ (List.getElem_mem hk') _ _ _ (by omega) (by omega)) rfl ?_; intro _ _)
    | refine wp_seqA ?_
    | refine wp_region_seq ?_
    | refine thru_seq_next ?_
    | refine thru_seq_ret ?_
    | refine thru_block_ret ?_
    | refine thru_block_next ?_
    | refine wp_skipA ?_
    | refine wp_retA ?_
    | refine wl_nil ?_
    | refine wl_pop rfl (po_move rfl) ?_
    | refine wl_pop rfl (po_assign rfl) ?_
    | refine wl_pop rfl (pc_add rfl rfl (by omega) (by omega)) ?_
    | refine wl_pop rfl (pc_sub rfl rfl (by omega) (by omega)) ?_
    | refine wl_pop rfl (po_binOp rfl rfl rfl) ?_
    | refine wl_pop rfl (pc_indexAddr rfl rfl inferInstance inferInstance (by omega)) ?_
    | refine wc_loadn rfl inferInstance (at_has (cs := [_, _, _]) (.inl rfl) rfl rfl) rfl ?_
    | refine wc_loadn rfl inferInstance inferInstance rfl ?_
    | (refine wc_storeA rfl rfl inferInstance inferInstance rfl inferInstance (Nat.le_of_ble_eq_true rfl) (.inr (may_new _)) ?_; intro _ _)
    | (refine wc_allocA (cs := [_, _, _]) inferInstance rfl inferInstance rfl ?_; intro _ _ _ _ _)
    | refine wp_condP rfl (fun _ => ?_) (fun _ => ?_)
    | refine at_ret (res1 rfl rfl) ?_
    | fail)
  · refine ret_ inferInstance (congrArg I ?_)
    have := Tm.cnts_le (ps := ps) k
    simp only [Tm.cnt]; omega
  · have := Tm.cnts_take hk'
    exact ⟨(k + 1, _), by dsimp only; omega, ⟨hk', by dsimp only; omega, inferInstance⟩, sub_cons rfl (sub_int rfl (by simp) (sub_cons rfl (sub_cons rfl (sub_cons rfl sub_nil))))⟩
theorem c_termNodes (t : Tm) : ∀ (most : Int) (σ : Store) (s : AV) [RTs σ s t.ps], 0 ≤ most → most ≤ 1000000 → ACall Try.prog base F_impl_termNodes [.agg [I t.op, I t.n, s], I most] σ (fun _ => False) (Ret σ (I (min (t.cnt : Int) (most + 1)))) :=
  Tm.ind (P := fun t => ∀ (most : Int) (σ : Store) (s : AV) [RTs σ s t.ps], 0 ≤ most → most ≤ 1000000 → ACall Try.prog base F_impl_termNodes [.agg [I t.op, I t.n, s], I most] σ (fun _ => False) (Ret σ (I (min (t.cnt : Int) (most + 1)))))
    (fun op n ps ih => c_termNodes_of ih) t

theorem c_termShape1 {p : Tm} (h : ∀ (σ : Store) (s : AV) [RTs σ s p.ps], ACall Try.prog base F_impl_termShape [.agg [I p.op, I p.n, s]] σ (fun _ => False) (Ret σ (Bo p.shape))) (σ : Store) (s : AV) [hs : RTs σ s p.ps] :
    ACall Try.prog base F_impl_termShape_1 [.agg [I p.op, I p.n, s]] σ (fun _ => False) (Ret σ (Bo (!p.shape))) := by
  have := hs.one
  refine acall1 fun_impl_termShape_1 rfl tmps_impl_termShape_1 rfl fun N B w₀ ρ₀ => ?_
  repeat' (first
    | (refine wc_callR rfl inferInstance rfl (h _ _) rfl ?_; intro _ _)
    | refine wp_seqA ?_
    | refine wp_region_seq ?_
    | refine thru_seq_next ?_
    | refine wp_retA ?_
    | refine wl_nil ?_
    | refine wl_pop rfl (po_assign rfl) ?_
    | refine wc_loadn rfl inferInstance (at_has (cs := [_, _, _]) (.inl rfl) rfl rfl) rfl ?_
    | refine wl_pop rfl (po_not rfl) ?_
    | (refine wc_boxA rfl inferInstance rfl ?_; intro _ _ _ _ _)
    | refine at_ret (res1 rfl rfl) ?_
    | exact ret_ inferInstance rfl
    | fail)
theorem c_termShape_of {op n : Int} {ps : List Tm} (h : ∀ p ∈ ps, ∀ (σ : Store) (s : AV) [RTs σ s p.ps], ACall Try.prog base F_impl_termShape [.agg [I p.op, I p.n, s]] σ (fun _ => False) (Ret σ (Bo p.shape)))
    (σ : Store) (s : AV) [hs : RTs σ s ps] : ACall Try.prog base F_impl_termShape [.agg [I op, I n, s]] σ (fun _ => False) (Ret σ (Bo (Tm.node op n ps).shape)) := by
  have hb := hs.bound
  have := hs.one
  refine acall1 fun_impl_termShape rfl tmps_impl_termShape rfl fun N B w₀ ρ₀ => ?_
  repeat' (first
    | (refine wc_callR rfl inferInstance rfl (c_ActOk _ _) rfl ?_; intro _ _)
    | (refine wc_callR rfl inferInstance rfl (c_nameOk _ _) rfl ?_; intro _ _)
    | (refine wc_callR rfl inferInstance rfl (c_ContainsFunc (caps := []) (fun _ => True) (fun _ _ _ h => h) (fun p => !p.shape) (fun p hp σ s _ _ => c_termShape1 (h p hp) σ s) _ _ trivial) rfl ?_; intro _ _)
    | refine wp_seqA ?_
    | refine wp_region_seq ?_
    | refine thru_seq_next ?_
    | refine thru_seq_ret ?_
    | refine thru_block_ret ?_
    | refine thru_block_next ?_
    | refine wp_skipA ?_
    | refine wp_retA ?_
    | refine wp_blockA ?_
    | refine wl_nil ?_
    | refine wl_pop rfl (po_move rfl) ?_
    | refine wl_pop rfl (po_assign rfl) ?_
    | refine wl_pop rfl (po_binOp rfl rfl rfl) ?_
    | refine wl_pop rfl (po_fieldAddr rfl inferInstance) ?_
    | refine wc_load1 rfl inferInstance (at_has (.inl rfl) rfl rfl) rfl ?_
    | refine wl_pop rfl (po_not rfl) ?_
    | (refine wc_boxA rfl inferInstance rfl ?_; intro _ _ _ _ _)
    | refine wl_pop rfl (po_pick rfl rfl) ?_
    | refine wc_guardT_true rfl rfl rfl ?_
    | refine wc_guardF_true rfl rfl rfl rfl ?_
    | refine wc_guardT_false rfl rfl rfl ?_
    | refine wc_guardF_false rfl rfl rfl rfl ?_
    | refine wc_guardP_true rfl rfl rfl rfl (fun _ => ?_) (fun _ => ?_)
    | refine wc_guardP_false rfl rfl rfl rfl (fun _ => ?_) (fun _ => ?_)
    | refine wp_condT rfl ?_
    | refine wp_condP rfl (fun _ => ?_) (fun _ => ?_)
    | refine wp_condNP rfl (fun _ => ?_) (fun _ => ?_)
    | refine wl_pop rfl (pc_lenT rfl inferInstance inferInstance) ?_
    | refine at_ret (res1 rfl rfl) ?_
    | fail)
  all_goals refine ret_ inferInstance (congrArg Bo ?_)
  all_goals simp only [Tm.shape, Tm.shapes_eq, List.all_eq_not_any_not]
  all_goals (simp [nodeOk, actB, inB, -List.length_eq_zero_iff, *] <;> try (intros; omega))
theorem c_termShape (t : Tm) : ∀ (σ : Store) (s : AV) [RTs σ s t.ps], ACall Try.prog base F_impl_termShape [.agg [I t.op, I t.n, s]] σ (fun _ => False) (Ret σ (Bo t.shape)) :=
  Tm.ind (P := fun t => ∀ (σ : Store) (s : AV) [RTs σ s t.ps], ACall Try.prog base F_impl_termShape [.agg [I t.op, I t.n, s]] σ (fun _ => False) (Ret σ (Bo t.shape)))
    (fun op n ps ih => c_termShape_of ih) t

/-- A term. -/
def Tm.ok (t : Tm) : Bool := decide (t.cnt ≤ 24) && t.shape
theorem c_TermOk (t : Tm) (σ : Store) (s : AV) [hs : RTs σ s t.ps] : ACall Try.prog base F_impl_TermOk [.agg [I t.op, I t.n, s]] σ (fun _ => False) (Ret σ (Bo t.ok)) := by
  have := hs.one
  refine acall1 fun_impl_TermOk rfl tmps_impl_TermOk rfl fun N B w₀ ρ₀ => ?_
  repeat' (first
    | (refine wc_callR rfl inferInstance rfl (c_termNodes t _ _ _ (by decide) (by decide)) rfl ?_; intro _ _)
    | (refine wc_callR rfl inferInstance rfl (c_termShape t _ _) rfl ?_; intro _ _)
    | refine wp_seqA ?_
    | refine wp_region_seq ?_
    | refine thru_seq_next ?_
    | refine wp_retA ?_
    | refine wl_nil ?_
    | refine wl_pop rfl (po_move rfl) ?_
    | refine wl_pop rfl (po_assign rfl) ?_
    | refine wl_pop rfl (po_binOp rfl rfl rfl) ?_
    | refine wc_loadn rfl inferInstance (at_has (cs := [_, _, _]) (.inl rfl) rfl rfl) rfl ?_
    | (refine wc_boxA rfl inferInstance rfl ?_; intro _ _ _ _ _)
    | refine wl_pop rfl (po_pick rfl rfl) ?_
    | refine wc_guardT_true rfl rfl rfl ?_
    | refine wc_guardF_true rfl rfl rfl rfl ?_
    | refine wc_guardP_true rfl rfl rfl rfl (fun _ => ?_) (fun _ => ?_)
    | refine at_ret (res1 rfl rfl) ?_
    | fail)
  all_goals refine ret_ inferInstance (congrArg Bo (Bool.eq_iff_iff.mpr ?_))
  all_goals (simp [Tm.ok]; try omega)

end
end Go.Proofs.Ytcmkkmlgdkhmiaa.Asl
