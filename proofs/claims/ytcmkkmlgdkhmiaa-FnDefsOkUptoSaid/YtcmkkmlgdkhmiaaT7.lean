/- Which terms fit, and which definitions are ok: the reference's answer, and the program's. -/
import Derived.Test.YtcmkkmlgdkhmiaaT6
namespace Go.Proofs.Ytcmkkmlgdkhmiaa.Asl
open Go.RowKit
set_option linter.unusedVariables false
attribute [local irreducible] WP WL andThen inBlock noGoto atEnd ACall DA PO Hold actB inB nodeOk
set_option maxHeartbeats 4000000

section
variable {base : Nat}
theorem c_l2Calls_of {op n : Int} {ps : List Tm} (u : Bool) (h : ∀ p ∈ ps, ∀ (σ : Store) (s : AV) [RTs σ s p.ps], ACall Try.prog base F_spec_l2Calls [.agg [I p.op, I p.n, s], Bo u] σ (fun _ => False) (Ret σ (I (p.maxc u))))
    (σ : Store) (s : AV) [hs : RTs σ s ps] : ACall Try.prog base F_spec_l2Calls [.agg [I op, I n, s], Bo u] σ (fun _ => False) (Ret σ (I ((Tm.node op n ps).maxc u))) := by
  have hb := hs.bound
  have := hs.one
  refine acall2 fun_spec_l2Calls rfl tmps_spec_l2Calls rfl fun N B w₀ ρ₀ => ?_
  repeat' (first
    | refine wp_seqA ?_
    | refine wp_region_seq ?_
    | refine thru_seq_next ?_
    | refine thru_seq_ret ?_
    | refine wp_skipA ?_
    | refine wp_retA ?_
    | refine wp_blockA ?_
    | refine wl_nil ?_
    | refine wl_pop rfl (po_assign rfl) ?_
    | refine wl_pop rfl (po_binOp rfl rfl rfl) ?_
    | refine wl_pop rfl (po_fieldAddr rfl inferInstance) ?_
    | refine wc_load1 rfl inferInstance (at_has (.inl rfl) rfl rfl) rfl ?_
    | (refine wc_boxA rfl inferInstance rfl ?_; intro _ _ _ _ _)
    | refine wp_condP rfl (fun _ => ?_) (fun _ => ?_)
    | refine at_ret (res1 rfl rfl) ?_
    | fail)
  · rename_i h5
    exact ret_ inferInstance (congrArg I (by simp [Tm.maxc, h5]))
  rename_i i σ₁ g1 n1 h1 h5
  refine wc_loop [(1, Bo u), (2, .pt i 0)] (fun x : Nat × Int => [(5, I x.2), (6, I x.1)]) (fun x σ' => x.1 ≤ ps.length ∧ (x.1 = 0 ∨ ¬ (u = true ∧ op = 1)) ∧ x.2 = Tm.maxcs u (ps.take x.1) ∧ LeS σ₁ σ') (fun x => ps.length - x.1) (0, -1) ⟨Nat.zero_le _, .inl rfl, by simp [Tm.maxcs], inferInstance⟩ (sub_int rfl (by simp) (sub_int rfl (by simp) (sub_cons rfl (sub_cons rfl sub_nil)))) ?_
  rintro ⟨k, z⟩ σ' ⟨hk, hu, hz, hg⟩
  dsimp only at hk hu hz ⊢
  have := hg.grow
  have fin : ∀ (σ'' : Store), LeS σ σ'' → (k = ps.length ∨ (u = true ∧ op = 1)) → Ret σ (I ((Tm.node op n ps).maxc u)) (I z) σ'' := by
    intro σ'' hle hc
    refine ret_ hle (congrArg I ?_)
    simp only [Tm.maxc, if_neg h5]
    rcases hu with h0 | h0
    · subst h0
      have hz : z = -1 := by simpa [Tm.maxcs] using hz
      rcases hc with hc | hc
      · obtain rfl : ps = [] := by simpa using hc.symm
        subst hz; split <;> simp [Tm.maxcs]
      · rw [if_pos (by simp [hc])]; exact hz
    · have : k = ps.length := by rcases hc with hc | hc; · exact hc
                                 · exact absurd hc h0
      subst this
      rw [List.take_length] at hz
      rw [if_neg (by simpa using h0)]; exact hz
  have step : ∀ (hk' : k < ps.length) (σ'' : Store) (s' : AV), LeS σ₁ σ'' → ¬ (u = true ∧ op = 1) → k + 1 ≤ ps.length ∧ (k + 1 = 0 ∨ ¬ (u = true ∧ op = 1)) ∧ max z (ps[k].maxc u) = Tm.maxcs u (ps.take (k + 1)) ∧ LeS σ₁ σ'' :=
    fun hk' σ'' s' hl hn => ⟨hk', .inr hn, by rw [Tm.maxcs_take u hk', hz], hl⟩
  have hcase : u = true ∨ u = false := by cases u <;> simp
  rcases hcase with rfl | rfl
  · repeat' (first
      | refine wp_seqA ?_
      | refine wp_region_seq ?_
      | refine thru_seq_next ?_
      | refine thru_seq ?_
      | refine exit_here ?_
      | refine wp_skipA ?_
      | refine wp_retA ?_
      | refine wp_exitA ?_
      | refine wp_blockA ?_
      | refine wl_nil ?_
      | refine wl_pop rfl (po_move rfl) ?_
      | refine wl_pop rfl (po_assign rfl) ?_
      | refine wl_pop rfl (po_binOp rfl rfl rfl) ?_
      | refine wl_pop rfl (po_fieldAddr rfl inferInstance) ?_
      | refine wc_load1 rfl inferInstance (at_has (.inl rfl) rfl rfl) rfl ?_
      | refine wl_pop rfl (po_not rfl) ?_
      | refine wl_pop rfl (po_pick rfl rfl) ?_
      | refine wc_guardU rfl rfl rfl rfl ?_
      | refine wc_guardT_true rfl rfl rfl ?_
      | refine wc_guardF_true rfl rfl rfl rfl ?_
      | refine wc_guardP_true rfl rfl rfl rfl (fun _ => ?_) (fun _ => ?_)
      | refine wp_condF rfl ?_
      | refine wp_condNP rfl (fun _ => ?_) (fun _ => ?_)
      | refine wl_pop rfl (pc_lenT rfl inferInstance inferInstance) ?_
      | refine at_ret (res1 rfl rfl) ?_
      | fail)
    rotate_left
    · rename_i hk1 ho
      exact fin _ inferInstance (.inr ⟨rfl, by first | exact ho | omega⟩)
    · exact fin _ inferInstance (.inl (by omega))
    rename_i hk1 ho
    have hk' : k < ps.length := by omega
    obtain ⟨id, off, s', rfl, hat, hrs⟩ := (inferInstance : RTs σ' s ps).part hk'
    repeat' (first
      | (refine wc_callR rfl inferInstance rfl (h _ (List.getElem_mem hk') _ _) rfl ?_; intro _ _)
      | refine wp_region_seq ?_
      | refine thru_seq_next ?_
      | refine thru_block_next ?_
      | refine wl_nil ?_
      | refine wl_pop rfl (po_move rfl) ?_
      | refine wl_pop rfl (po_assign rfl) ?_
      | refine wl_pop rfl (pc_add rfl rfl (by omega) (by omega)) ?_
      | refine wl_pop rfl (pc_indexAddr rfl rfl inferInstance inferInstance (by omega)) ?_
      | refine wc_loadn rfl inferInstance inferInstance rfl ?_
      | refine wl_pop rfl (pc_max rfl rfl) ?_
      | fail)
    exact ⟨(k + 1, _), by dsimp only; omega, step hk' _ s' inferInstance (by simp [ho]), sub_cons rfl (sub_int rfl (by simp) (sub_cons rfl (sub_cons rfl sub_nil)))⟩
  · repeat' (first
      | refine wp_seqA ?_
      | refine wp_region_seq ?_
      | refine thru_seq_next ?_
      | refine thru_seq ?_
      | refine exit_here ?_
      | refine wp_skipA ?_
      | refine wp_retA ?_
      | refine wp_exitA ?_
      | refine wp_blockA ?_
      | refine wl_nil ?_
      | refine wl_pop rfl (po_move rfl) ?_
      | refine wl_pop rfl (po_assign rfl) ?_
      | refine wl_pop rfl (po_binOp rfl rfl rfl) ?_
      | refine wl_pop rfl (po_fieldAddr rfl inferInstance) ?_
      | refine wc_load1 rfl inferInstance (at_has (.inl rfl) rfl rfl) rfl ?_
      | refine wl_pop rfl (po_not rfl) ?_
      | refine wl_pop rfl (po_pick rfl rfl) ?_
      | refine wc_guardU rfl rfl rfl rfl ?_
      | refine wc_guardT_true rfl rfl rfl ?_
      | refine wc_guardF_true rfl rfl rfl rfl ?_
      | refine wc_guardP_true rfl rfl rfl rfl (fun _ => ?_) (fun _ => ?_)
      | refine wp_condT rfl ?_
      | refine wp_condF rfl ?_
      | refine wl_pop rfl (pc_lenT rfl inferInstance inferInstance) ?_
      | refine at_ret (res1 rfl rfl) ?_
      | fail)
    rotate_left
    · exact fin _ inferInstance (.inl (by omega))
    have hk' : k < ps.length := by omega
    obtain ⟨id, off, s', rfl, hat, hrs⟩ := (inferInstance : RTs σ' s ps).part hk'
    repeat' (first
      | (refine wc_callR rfl inferInstance rfl (h _ (List.getElem_mem hk') _ _) rfl ?_; intro _ _)
      | refine wp_region_seq ?_
      | refine thru_seq_next ?_
      | refine thru_block_next ?_
      | refine wl_nil ?_
      | refine wl_pop rfl (po_move rfl) ?_
      | refine wl_pop rfl (po_assign rfl) ?_
      | refine wl_pop rfl (pc_add rfl rfl (by omega) (by omega)) ?_
      | refine wl_pop rfl (pc_indexAddr rfl rfl inferInstance inferInstance (by omega)) ?_
      | refine wc_loadn rfl inferInstance inferInstance rfl ?_
      | refine wl_pop rfl (pc_max rfl rfl) ?_
      | fail)
    exact ⟨(k + 1, _), by dsimp only; omega, step hk' _ s' inferInstance (by simp), sub_cons rfl (sub_int rfl (by simp) (sub_cons rfl (sub_cons rfl sub_nil)))⟩
theorem c_l2Calls (u : Bool) (t : Tm) : ∀ (σ : Store) (s : AV) [RTs σ s t.ps], ACall Try.prog base F_spec_l2Calls [.agg [I t.op, I t.n, s], Bo u] σ (fun _ => False) (Ret σ (I (t.maxc u))) :=
  Tm.ind (P := fun t => ∀ (σ : Store) (s : AV) [RTs σ s t.ps], ACall Try.prog base F_spec_l2Calls [.agg [I t.op, I t.n, s], Bo u] σ (fun _ => False) (Ret σ (I (t.maxc u))))
    (fun op n ps ih => c_l2Calls_of u ih) t
theorem c_sTermFits (m : Int) (t : Tm) (σ : Store) (s : AV) [hs : RTs σ s t.ps] : ACall Try.prog base F_spec_TermFits [.agg [I t.op, I t.n, s], I m] σ (fun _ => False) (Ret σ (Bo (t.fits m))) := by
  have := hs.one
  refine acall2 fun_spec_TermFits rfl tmps_spec_TermFits rfl fun N B w₀ ρ₀ => ?_
  repeat' (first
    | (refine wc_callR rfl inferInstance rfl (c_sTermOk t _ _) rfl ?_; intro _ _)
    | (refine wc_callR rfl inferInstance rfl (c_l2Calls false t _ _) rfl ?_; intro _ _)
    | (refine wc_callR rfl inferInstance rfl (c_l6In _ _ _ _) rfl ?_; intro _ _)
    | refine wp_seqA ?_
    | refine wp_region_seq ?_
    | refine thru_seq_next ?_
    | refine wp_retA ?_
    | refine wl_nil ?_
    | refine wl_pop rfl (po_move rfl) ?_
    | refine wl_pop rfl (po_assign rfl) ?_
    | refine wl_pop rfl (po_binOp rfl rfl rfl) ?_
    | refine wc_loadn rfl inferInstance (at_has (cs := [_, _, _]) (.inl rfl) rfl rfl) rfl ?_
    | (refine wc_boxA rfl inferInstance rfl ?_; intro _ _ _ _ _)
    | refine wl_pop rfl (po_pick rfl rfl) ?_
    | refine wc_guardT_true rfl rfl rfl ?_
    | refine wc_guardF_true rfl rfl rfl rfl ?_
    | refine wc_guard rfl rfl rfl rfl (fun _ => ?_) (fun _ => ?_)
    | refine at_ret (res1 rfl rfl) ?_
    | fail)
  · rename_i σ₃ g3 e1 σ₂ g2 e2 σ₁ g1
    refine ret_ inferInstance (congrArg Bo (Bool.eq_iff_iff.mpr ?_))
    have hsh : t.shape = true := by
      have : t.ok = true := by assumption
      simp only [Tm.ok, Bool.and_eq_true] at this
      exact this.2
    have hm : 0 ≤ m ∧ m ≤ 3 := by
      have : inB m 0 3 = true := by assumption
      exact inB_iff.mp this
    simp only [decide_eq_true_eq, Tm.fits, Bool.and_eq_true]
    rw [Tm.maxc_callLt hm.1 t hsh]
    simp [*]
  all_goals refine ret_ inferInstance (congrArg Bo ?_)
  all_goals simp_all [Tm.fits]

theorem c_sDefsOk (ds : List Tm) (σ : Store) (s : AV) [hs : RTs σ s ds] : ACall Try.prog base F_spec_DefsOk [s] σ (fun _ => False) (Ret σ (Bo (defsOk ds))) := by
  have hb := hs.bound
  have := hs.one
  refine acall1 fun_spec_DefsOk rfl tmps_spec_DefsOk rfl fun N B w₀ ρ₀ => ?_
  repeat' (first
    | refine wp_seqA ?_
    | refine wp_region_seq ?_
    | refine thru_seq_next ?_
    | refine wp_blockA ?_
    | refine wl_nil ?_
    | refine wl_pop rfl (po_assign rfl) ?_
    | fail)
  refine wc_loop [(0, s)] (fun k : Nat => [(3, I k)]) (fun k σ' => k ≤ ds.length ∧ ((ds.take k).all fun t => t.fits ds.length && !t.bare) = true ∧ LeS σ σ') (fun k => ds.length - k) 0 ⟨Nat.zero_le _, rfl, inferInstance⟩ (sub_int rfl (by simp) (sub_cons rfl sub_nil)) ?_
  rintro k σ' ⟨hk, hall, hg⟩
  have := hg.grow
  repeat' (first
    | refine wp_seqA ?_
    | refine wp_region_seq ?_
    | refine thru_seq_next ?_
    | refine thru_seq ?_
    | refine exit_here ?_
    | refine wp_skipA ?_
    | refine wp_retA ?_
    | refine wp_exitA ?_
    | refine wp_blockA ?_
    | refine wl_nil ?_
    | refine wl_pop rfl (po_move rfl) ?_
    | refine wl_pop rfl (po_assign rfl) ?_
    | refine wl_pop rfl (po_binOp rfl rfl rfl) ?_
    | refine wp_condP rfl (fun _ => ?_) (fun _ => ?_)
    | refine wl_pop rfl (pc_lenT rfl inferInstance inferInstance) ?_
    | refine at_ret (res1 rfl rfl) ?_
    | fail)
  rotate_left
  · obtain rfl : k = ds.length := by omega
    rw [List.take_length] at hall
    refine ret_ inferInstance (congrArg Bo (Bool.eq_iff_iff.mpr ?_))
    simp only [defsOk, hall, Bool.and_true]
    simp; omega
  have hk' : k < ds.length := by omega
  obtain ⟨id, off, s', rfl, hat, hrs⟩ := (inferInstance : RTs σ' s ds).part hk'
  repeat' (first
    | (refine wc_callR rfl inferInstance rfl (c_sTermFits _ ds[k] _ _) rfl ?_; intro _ _)
    | (refine wc_callR rfl inferInstance rfl (c_l2Calls true ds[k] _ _) rfl ?_; intro _ _)
    | refine wp_seqA ?_
    | refine wp_region_seq ?_
    | refine thru_seq_next ?_
    | refine thru_seq_ret ?_
    | refine thru_block_ret ?_
    | refine thru_block_next ?_
    | refine wp_skipA ?_
    | refine wp_retA ?_
    | refine wl_nil ?_
    | refine wl_pop rfl (po_move rfl) ?_
    | refine wl_pop rfl (po_assign rfl) ?_
    | refine wl_pop rfl (pc_add rfl rfl (by omega) (by omega)) ?_
    | refine wl_pop rfl (po_binOp rfl rfl rfl) ?_
    | refine wl_pop rfl (pc_indexAddr rfl rfl inferInstance inferInstance (by omega)) ?_
    | refine wc_loadn rfl inferInstance inferInstance rfl ?_
    | refine wl_pop rfl (po_not rfl) ?_
    | refine wl_pop rfl (po_len (ri := 0) rfl Un.eq) ?_
    | refine wl_pop rfl (po_pick rfl rfl) ?_
    | refine wc_guardT_false rfl rfl rfl ?_
    | refine wc_guardF_false rfl rfl rfl rfl ?_
    | refine wc_guard rfl rfl rfl rfl (fun _ => ?_) (fun _ => ?_)
    | refine wp_condT rfl ?_
    | refine wp_condP rfl (fun _ => ?_) (fun _ => ?_)
    | refine at_ret (res1 rfl rfl) ?_
    | fail)
  · rename_i e1 σ₂ g2 e2
    refine ret_ inferInstance (congrArg Bo ?_)
    have hf : Tm.fits ds.length ds[k] = true := by simpa using e1
    have hsh : ds[k].shape = true := by simp only [Tm.fits, Tm.ok, Bool.and_eq_true] at hf; exact hf.1.1.2
    have hbb := (Tm.maxc_bare ds[k] hsh).mp e2
    symm
    simp only [defsOk, Bool.and_eq_false_iff, List.all_eq_false]
    exact .inr ⟨_, List.getElem_mem hk', by simp [hbb]⟩
  · rename_i e1 σ₂ g2 e2
    have hf : Tm.fits ds.length ds[k] = true := by simpa using e1
    have hsh : ds[k].shape = true := by simp only [Tm.fits, Tm.ok, Bool.and_eq_true] at hf; exact hf.1.1.2
    have hbb : ds[k].bare = false := by
      cases hc : ds[k].bare with
      | false => rfl
      | true => exact absurd ((Tm.maxc_bare ds[k] hsh).mpr hc) e2
    exact ⟨k + 1, by omega, ⟨hk', by rw [List.take_succ_eq_append_getElem hk', List.all_append, hall]; simp [hf, hbb], inferInstance⟩, sub_int rfl (by simp) (sub_cons rfl sub_nil)⟩
  · rename_i e1
    refine ret_ inferInstance (congrArg Bo ?_)
    have hf : Tm.fits ds.length ds[k] = false := by simpa using e1
    symm
    simp only [defsOk, Bool.and_eq_false_iff, List.all_eq_false]
    exact .inr ⟨_, List.getElem_mem hk', by simp [hf]⟩

theorem c_DefsOk1 {ds : List Tm} {sd : AV} (t : Tm) (σ : Store) (s : AV) (i : Nat) [hs : RTs σ s t.ps] [hi : Has σ i ⟨.own, 1, [sd], []⟩] [hd : RTs σ sd ds] :
    ACall Try.prog base F_impl_DefsOk_1 [.agg [I t.op, I t.n, s], .pt i 0] σ (fun _ => False) (Ret σ (Bo (!t.fits ds.length || t.bare))) := by
  have := hs.one
  have := hd.one
  refine acall2 fun_impl_DefsOk_1 rfl tmps_impl_DefsOk_1 rfl fun N B w₀ ρ₀ => ?_
  repeat' (first
    | (refine wc_callR rfl inferInstance rfl (c_TermFits _ t _ _) rfl ?_; intro _ _)
    | (refine wc_callR rfl inferInstance rfl (c_bare t _ _) rfl ?_; intro _ _)
    | refine wp_seqA ?_
    | refine wp_region_seq ?_
    | refine thru_seq_next ?_
    | refine wp_retA ?_
    | refine wl_nil ?_
    | refine wl_pop rfl (po_move rfl) ?_
    | refine wl_pop rfl (po_assign rfl) ?_
    | refine wc_load1 rfl inferInstance (at_has (.inl rfl) rfl rfl) rfl ?_
    | refine wc_loadn rfl inferInstance (at_has (cs := [_, _, _]) (.inl rfl) rfl rfl) rfl ?_
    | refine wl_pop rfl (po_not rfl) ?_
    | (refine wc_boxA rfl inferInstance rfl ?_; intro _ _ _ _ _)
    | refine wl_pop rfl (po_pick rfl rfl) ?_
    | refine wc_guardT_false rfl rfl rfl ?_
    | refine wc_guardF_false rfl rfl rfl rfl ?_
    | refine wc_guard rfl rfl rfl rfl (fun _ => ?_) (fun _ => ?_)
    | refine wl_pop rfl (pc_lenT rfl inferInstance inferInstance) ?_
    | refine at_ret (res1 rfl rfl) ?_
    | fail)
  all_goals refine ret_ inferInstance (congrArg Bo ?_)
  all_goals simp_all
theorem c_anyDef {ds : List Tm} (σ : Store) (s : AV) (i : Nat) [hs : RTs σ s ds] [hi : Has σ i ⟨.own, 1, [s], []⟩] :
    ACall Try.prog base F_slices_ContainsFunc_impl_Term_impl_Term [s, .fn F_impl_DefsOk_1 [.pt i 0]] σ (fun _ => False) (Ret σ (Bo (ds.any fun t => !t.fits ds.length || t.bare))) :=
  c_ContainsFunc (caps := [.pt i 0]) (fun σ => Has σ i ⟨.own, 1, [s], []⟩ ∧ RTs σ s ds) (fun _ _ _ h => have := h.1; have := h.2; ⟨inferInstance, inferInstance⟩) (fun t => !t.fits ds.length || t.bare)
    (fun p hp σ s' _ hj => have := hj.1; have := hj.2; c_DefsOk1 p σ s' i) σ s ⟨hi, hs⟩
theorem c_DefsOk (ds : List Tm) (σ : Store) (s : AV) [hs : RTs σ s ds] : ACall Try.prog base F_impl_DefsOk [s] σ (fun _ => False) (Ret σ (Bo (defsOk ds))) := by
  have hb := hs.bound
  have := hs.one
  refine acall1 fun_impl_DefsOk rfl tmps_impl_DefsOk rfl fun N B w₀ ρ₀ => ?_
  repeat' (first
    | (refine wc_callR rfl inferInstance rfl (c_anyDef _ _ _) rfl ?_; intro _ _)
    | refine wp_seqA ?_
    | refine wp_region_seq ?_
    | refine thru_seq_next ?_
    | refine wp_retA ?_
    | refine wl_nil ?_
    | refine wl_pop rfl (po_move rfl) ?_
    | refine wl_pop rfl (po_assign rfl) ?_
    | refine wl_pop rfl (po_binOp rfl rfl rfl) ?_
    | refine wc_load1 rfl inferInstance (at_has (.inl rfl) rfl rfl) rfl ?_
    | refine wl_pop rfl (po_not rfl) ?_
    | refine wl_pop rfl (po_makeFunc rfl rfl) ?_
    | (refine wc_box1 rfl inferInstance rfl ?_; intro _ _ _ _ _)
    | refine wl_pop rfl (po_pick rfl rfl) ?_
    | refine wc_guardT_true rfl rfl rfl ?_
    | refine wc_guardF_true rfl rfl rfl rfl ?_
    | refine wc_guardP_true rfl rfl rfl rfl (fun _ => ?_) (fun _ => ?_)
    | refine wl_pop rfl (pc_lenT rfl inferInstance inferInstance) ?_
    | refine at_ret (res1 rfl rfl) ?_
    | fail)
  all_goals refine ret_ inferInstance (congrArg Bo ?_)
  all_goals simp only [defsOk, List.all_eq_not_any_not]
  · have : ds.length ≤ 3 := by omega
    simp [this, Bool.not_and]
  · have : ¬ ds.length ≤ 3 := by omega
    simp [this]
end
end Go.Proofs.Ytcmkkmlgdkhmiaa.Asl
