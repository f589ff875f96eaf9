/- Terms compared and copied. -/
import Derived.Test.YtcmkkmlgdkhmiaaF
import Derived.Test.YtcmkkmlgdkhmiaaT0
namespace Go.Proofs.Ytcmkkmlgdkhmiaa.Asl
open Go.RowKit
set_option linter.unusedVariables false
attribute [local irreducible] WP WL andThen inBlock noGoto atEnd ACall DA PO
set_option maxHeartbeats 4000000

theorem c_eqTerm_of {base : Nat} {op n op' n' : Int} {ps ps' : List Tm} (h : ∀ (σ : Store) (s s' : AV) [RTs σ s ps] [RTs σ s' ps'], ACall Try.prog base F_laws_eqTermS [s, s'] σ (fun _ => False) (Ret σ (Bo (eqB ps ps'))))
    (σ : Store) (s s' : AV) [hs : RTs σ s ps] [hs' : RTs σ s' ps'] : ACall Try.prog base F_laws_eqTerm [.agg [I op, I n, s], .agg [I op', I n', s']] σ (fun _ => False) (Ret σ (Bo (eqB (Tm.node op n ps) (.node op' n' ps')))) := by
  have := hs.one
  have := hs'.one
  refine acall2 fun_laws_eqTerm rfl tmps_laws_eqTerm rfl fun N B w₀ ρ₀ => ?_
  repeat' (first
    | (refine wc_callR rfl inferInstance rfl (h _ _ _) rfl ?_; intro _ _)
    | refine wp_seqA ?_
    | refine wp_region_seq ?_
    | refine thru_seq_next ?_
    | refine thru_seq_ret ?_
    | refine wp_skipA ?_
    | refine wp_retA ?_
    | refine wl_nil ?_
    | refine wl_pop rfl (po_assign rfl) ?_
    | refine wl_pop rfl (po_binOp rfl rfl rfl) ?_
    | refine wl_pop rfl (po_fieldAddr rfl inferInstance) ?_
    | refine wc_load1 rfl inferInstance (at_has (.inl rfl) rfl rfl) rfl ?_
    | refine wl_pop rfl (po_not rfl) ?_
    | (refine wc_boxA rfl inferInstance rfl ?_; intro _ _ _ _ _)
    | refine wp_condNP rfl (fun _ => ?_) (fun _ => ?_)
    | refine wp_condA rfl (fun _ => ?_) (fun _ => ?_)
    | refine at_ret (res1 rfl rfl) ?_
    | fail)
  all_goals refine ret_ inferInstance (congrArg Bo ?_)
  all_goals simp_all [eqB]

theorem c_eqTermS_of {base : Nat} {ps ps' : List Tm} (h : ∀ p ∈ ps, ∀ (p' : Tm) (σ : Store) (s s' : AV) [RTs σ s p.ps] [RTs σ s' p'.ps], ACall Try.prog base F_laws_eqTerm [.agg [I p.op, I p.n, s], .agg [I p'.op, I p'.n, s']] σ (fun _ => False) (Ret σ (Bo (eqB p p'))))
    (σ : Store) (s s' : AV) [hs : RTs σ s ps] [hs' : RTs σ s' ps'] : ACall Try.prog base F_laws_eqTermS [s, s'] σ (fun _ => False) (Ret σ (Bo (eqB ps ps'))) := by
  have hb := hs.bound
  have hb' := hs'.bound
  refine acall2 fun_laws_eqTermS rfl tmps_laws_eqTermS rfl fun N B w₀ ρ₀ => ?_
  repeat' (first
    | refine wp_seqA ?_
    | refine wp_region_seq ?_
    | refine thru_seq_next ?_
    | refine thru_seq_ret ?_
    | refine wp_skipA ?_
    | refine wp_retA ?_
    | refine wp_blockA ?_
    | refine wl_nil ?_
    | refine wl_pop rfl (po_move rfl) ?_
    | refine wl_pop rfl (po_assign rfl) ?_
    | refine wl_pop rfl (po_binOp rfl rfl rfl) ?_
    | refine wp_condNP rfl (fun _ => ?_) (fun _ => ?_)
    | refine wl_pop rfl (pc_lenT rfl inferInstance inferInstance) ?_
    | refine at_ret (res1 rfl rfl) ?_
    | fail)
  · refine ret_ inferInstance (congrArg Bo (eqB_ne ?_).symm)
    rintro rfl; simp_all
  rename_i hl
  have hl' : ps.length = ps'.length := by omega
  refine wc_loop [(0, s), (1, s')] (fun k : Nat => [(5, I k)]) (fun k σ' => k ≤ ps.length ∧ ps.take k = ps'.take k ∧ Grow σ σ') (fun k => ps.length - k) 0 ⟨Nat.zero_le _, rfl, LeS.grow inferInstance⟩ (sub_int rfl (by simp) (sub_cons rfl (sub_cons rfl sub_nil))) ?_
  rintro k σ' ⟨hk, htk, hg⟩
  repeat' (first
    | refine wp_seqA ?_
    | refine wp_region_seq ?_
    | refine thru_seq_next ?_
    | refine thru_seq ?_
    | refine exit_here ?_
    | refine wp_skipA ?_
    | refine wp_retA ?_
    | refine wp_exitA ?_
    | refine wp_blockA ?_
    | refine wl_nil ?_
    | refine wl_pop rfl (po_move rfl) ?_
    | refine wl_pop rfl (po_assign rfl) ?_
    | refine wl_pop rfl (po_binOp rfl rfl rfl) ?_
    | refine wp_condP rfl (fun _ => ?_) (fun _ => ?_)
    | refine wl_pop rfl (pc_lenT rfl inferInstance inferInstance) ?_
    | refine at_ret (res1 rfl rfl) ?_
    | fail)
  rotate_left
  · refine ret_ inferInstance (congrArg Bo ?_)
    have : k = ps.length := by omega
    subst this
    rw [List.take_length, List.take_of_length_le (by omega)] at htk
    rw [htk, eqB_self]
  rename_i hk1
  have hk' : k < ps.length := by omega
  have hk2 : k < ps'.length := by omega
  obtain ⟨id, off, u, rfl, hat, hrs⟩ := (inferInstance : RTs σ' s ps).part hk'
  obtain ⟨id', off', u', rfl, hat', hrs'⟩ := (inferInstance : RTs σ' s' ps').part hk2
  repeat' (first
    | fail)
  refine wc_drawn [] mixed_ rfl ?_
  refine da_takeC 0 rfl rfl (by kernel_rfl) (by first | exact po_move rfl | fail) ?_
  refine da_takeC 1 rfl rfl (by kernel_rfl) (by first | exact po_move rfl | fail) ?_
  refine da_takeC 2 rfl rfl (by kernel_rfl) (by first | exact pc_indexAddr rfl rfl inferInstance inferInstance (by omega) | fail) ?_
  refine da_takeC 3 rfl rfl (by kernel_rfl) (by first | exact pc_loadnL rfl inferInstance inferInstance inferInstance | fail) ?_
  refine da_takeC 4 rfl rfl (by kernel_rfl) (by first | exact po_move rfl | fail) ?_
  refine da_takeC 5 rfl rfl (by kernel_rfl) (by first | exact po_move rfl | fail) ?_
  refine da_takeC 6 rfl rfl (by kernel_rfl) (by first | exact pc_indexAddr rfl rfl inferInstance inferInstance (by omega) | fail) ?_
  refine da_takeC 7 rfl rfl (by kernel_rfl) (by first | exact pc_loadnL rfl inferInstance inferInstance inferInstance | fail) ?_
  refine da_callR 8 rfl (by kernel_rfl) rfl inferInstance rfl (h _ (List.getElem_mem hk') _ _ _ _) rfl ?_
  intro _ _
  refine da_takeC 9 rfl rfl (by kernel_rfl) (by first | exact po_not rfl | fail) ?_
  refine da_done (by kernel_rfl) ?_
  repeat' (first
    | refine wp_seqA ?_
    | refine wp_region_seq ?_
    | refine thru_seq_next ?_
    | refine thru_seq_ret ?_
    | refine thru_block_ret ?_
    | refine thru_block_next ?_
    | refine wp_skipA ?_
    | refine wp_retA ?_
    | refine wl_nil ?_
    | refine wl_pop rfl (po_move rfl) ?_
    | refine wl_pop rfl (po_assign rfl) ?_
    | refine wl_pop rfl (pc_add rfl rfl (by omega) (by omega)) ?_
    | refine wp_condA rfl (fun _ => ?_) (fun _ => ?_)
    | refine at_ret (res1 rfl rfl) ?_
    | fail)
  · refine ret_ inferInstance (congrArg Bo (eqB_ne ?_).symm)
    rintro rfl
    simp_all [eqB]
  · rename_i he
    have he' : ps[k] = ps'[k] := by simpa [eqB] using he
    exact ⟨k + 1, by omega, ⟨hk', by rw [List.take_succ_eq_append_getElem hk', List.take_succ_eq_append_getElem hk2, htk, he'], LeS.grow inferInstance⟩, sub_int rfl (by simp) (sub_cons rfl (sub_cons rfl sub_nil))⟩
theorem c_eqTerm {base : Nat} (t : Tm) : ∀ (t' : Tm) (σ : Store) (s s' : AV) [RTs σ s t.ps] [RTs σ s' t'.ps], ACall Try.prog base F_laws_eqTerm [.agg [I t.op, I t.n, s], .agg [I t'.op, I t'.n, s']] σ (fun _ => False) (Ret σ (Bo (eqB t t'))) :=
  Tm.ind (P := fun t => ∀ (t' : Tm) (σ : Store) (s s' : AV) [RTs σ s t.ps] [RTs σ s' t'.ps], ACall Try.prog base F_laws_eqTerm [.agg [I t.op, I t.n, s], .agg [I t'.op, I t'.n, s']] σ (fun _ => False) (Ret σ (Bo (eqB t t'))))
    (fun op n ps ih t' => by
      cases t' with
      | node op' n' ps' => exact c_eqTerm_of (c_eqTermS_of ih)) t

theorem c_toTerm_of {base : Nat} {op n : Int} {ps : List Tm} (h : ∀ (σ : Store) (s : AV) [RTs σ s ps], ACall Try.prog base F_laws_toTermS [s] σ (fun _ => False) (RetTms σ ps))
    (σ : Store) (s : AV) [hs : RTs σ s ps] : ACall Try.prog base F_laws_toTerm [.agg [I op, I n, s]] σ (fun _ => False) (RetTm σ (.node op n ps)) := by
  have := hs.one
  refine acall1 fun_laws_toTerm rfl tmps_laws_toTerm rfl fun N B w₀ ρ₀ => ?_
  repeat' (first
    | (refine wc_callTs rfl inferInstance rfl (h _ _) rfl ?_; intro _ _ _ _ _)
    | refine wp_seqA ?_
    | refine wp_region_seq ?_
    | refine thru_seq_next ?_
    | refine wp_retA ?_
    | refine wl_nil ?_
    | refine wl_pop rfl (po_fieldAddr rfl inferInstance) ?_
    | refine wc_load1 rfl inferInstance (at_has (.inl rfl) rfl rfl) rfl ?_
    | refine wc_loadn rfl inferInstance (at_has (cs := [_, _, _]) (.inl rfl) rfl rfl) rfl ?_
    | (refine wc_storeA rfl rfl inferInstance inferInstance rfl inferInstance (Nat.le_of_ble_eq_true rfl) (.inr (may_new _)) ?_; intro _ _)
    | (refine wc_store1 rfl rfl inferInstance inferInstance inferInstance (Nat.le_of_ble_eq_true rfl) (.inr (may_new _)) ?_; intro _ _)
    | (refine wc_boxA rfl inferInstance rfl ?_; intro _ _ _ _ _)
    | (refine wc_allocA (cs := [_, _, _]) inferInstance rfl inferInstance rfl ?_; intro _ _ _ _ _)
    | refine at_ret (res_cell rfl rfl inferInstance (at_has (cs := [_, _, _]) (.inl rfl) rfl rfl)) ?_
    | exact ret_tm inferInstance inferInstance inferInstance
    | fail)

theorem c_toTermS_of {base : Nat} {ps : List Tm} (h : ∀ p ∈ ps, ∀ (σ : Store) (s : AV) [RTs σ s p.ps], ACall Try.prog base F_laws_toTerm [.agg [I p.op, I p.n, s]] σ (fun _ => False) (RetTm σ p))
    (σ : Store) (s : AV) [hs : RTs σ s ps] : ACall Try.prog base F_laws_toTermS [s] σ (fun _ => False) (RetTms σ ps) := by
  have hb := hs.bound
  have := hs.one
  refine acall1 fun_laws_toTermS rfl tmps_laws_toTermS rfl fun N B w₀ ρ₀ => ?_
  repeat' (first
    | refine wp_seqA ?_
    | refine wp_region_seq ?_
    | refine thru_seq_next ?_
    | refine wp_blockA ?_
    | refine wl_nil ?_
    | refine wl_pop rfl (po_move rfl) ?_
    | refine wl_pop rfl (po_assign rfl) ?_
    | (refine wc_makeSlice rfl rfl Un.eq inferInstance rfl (by decide) (by decide) (by omega) (by omega) rfl ?_; intro _ _ _ _ _)
    | refine wl_pop rfl (pc_lenT rfl inferInstance inferInstance) ?_
    | fail)
  rename_i i σ₁ g1 n1 h1
  refine wc_loop [(0, s), (3, .sl i 0 ps.length)] (fun k : Nat => [(4, I k)]) (fun k σ' => k ≤ ps.length ∧ LeS σ σ' ∧ σ₁.length ≤ σ'.length ∧ ∃ (l : List AV) (ss : List AV), ss.length = k ∧ l.length = ps.length * 3 ∧ Has σ' i ⟨.own, 3, l, []⟩ ∧
    ∀ (j : Nat) (t : Tm) (u : AV), ps[j]? = some t → ss[j]? = some u → cutL l (j * 3) 3 = [I t.op, I t.n, u] ∧ RTsN σ₁ σ' u t.ps) (fun k => ps.length - k) 0 ⟨Nat.zero_le _, inferInstance, Nat.le_refl _, _, [], rfl, by simp, h1, by simp⟩ (sub_int rfl (by simp) (sub_cons rfl (sub_cons rfl sub_nil))) ?_
  rintro k σ' ⟨hk, hg, hlen, l, ss, hl, hl2, hi, hss⟩
  have := hg.grow
  repeat' (first
    | refine wp_seqA ?_
    | refine wp_region_seq ?_
    | refine thru_seq_next ?_
    | refine thru_seq ?_
    | refine exit_here ?_
    | refine wp_skipA ?_
    | refine wp_retA ?_
    | refine wp_exitA ?_
    | refine wp_blockA ?_
    | refine wl_nil ?_
    | refine wl_pop rfl (po_move rfl) ?_
    | refine wl_pop rfl (po_assign rfl) ?_
    | refine wl_pop rfl (po_binOp rfl rfl rfl) ?_
    | refine wp_condP rfl (fun _ => ?_) (fun _ => ?_)
    | refine wl_pop rfl (pc_lenT rfl inferInstance inferInstance) ?_
    | refine at_ret (res1 rfl rfl) ?_
    | fail)
  rotate_left
  · have hk2 : k = ps.length := by omega
    subst hk2
    exact ⟨⟨.row ss (may_new σ) hi.get (.inr rfl) rfl hb hl (fun j t u ht hu => by
      rw [cut_cutL, Nat.zero_add]; exact (hss j t u ht hu).1) fun j t u ht hu => ((hss j t u ht hu).2.down (instLeGrow (σ := σ))).rep⟩, hg.grow⟩
  have hk' : k < ps.length := by omega
  obtain ⟨id, off, s', rfl, hat, hrs⟩ := (inferInstance : RTs σ' s ps).part hk'
  repeat' (first
    | (refine wc_callT rfl inferInstance rfl (h _ (List.getElem_mem hk') _ _) rfl ?_; intro _ _ _ _ _)
    | (refine wc_storeA rfl rfl inferInstance inferInstance rfl inferInstance (by omega) (.inr (may_new _)) ?_; intro _ _)
    | refine wp_region_seq ?_
    | refine thru_seq_next ?_
    | refine thru_block_next ?_
    | refine wl_nil ?_
    | refine wl_pop rfl (po_move rfl) ?_
    | refine wl_pop rfl (po_assign rfl) ?_
    | refine wl_pop rfl (pc_add rfl rfl (by omega) (by omega)) ?_
    | refine wl_pop rfl (pc_indexAddr rfl rfl inferInstance inferInstance (by omega)) ?_
    | refine wc_loadn rfl inferInstance inferInstance rfl ?_
    | fail)
  rename_i u σ₂ o2 r2 g2 σ₃ u3
  refine ⟨k + 1, by omega, ⟨hk', inferInstance, by rw [u3.len]; have := g2.len; omega, _, ss ++ [u], by simp [hl], by rw [splice_length (by simp; omega)]; exact hl2, inferInstance, ?_⟩, sub_int rfl (by simp) (sub_cons rfl (sub_cons rfl sub_nil))⟩
  intro j t v ht hv
  rw [Nat.zero_add]
  rw [List.getElem?_append] at hv
  split at hv
  · rename_i hj
    obtain ⟨e1, e2⟩ := hss j t v ht hv
    exact ⟨by rw [cutL_splice_ne (by simp; omega) (.inl (by omega))]; exact e1, inferInstance⟩
  · rename_i hj
    have hj1 : j - ss.length = 0 := by
      rcases Nat.eq_zero_or_pos (j - ss.length) with h | h
      · exact h
      · rw [List.getElem?_eq_none (by simp; omega)] at hv; cases hv
    obtain rfl : j = k := by omega
    rw [hj1] at hv
    simp at hv
    subst hv
    rw [List.getElem?_eq_getElem hk'] at ht
    cases ht
    exact ⟨cutL_splice_eq (by simp; omega) rfl, RTsN.down' (σ₁ := σ') inferInstance hlen⟩
theorem c_toTerm {base : Nat} (t : Tm) : ∀ (σ : Store) (s : AV) [RTs σ s t.ps], ACall Try.prog base F_laws_toTerm [.agg [I t.op, I t.n, s]] σ (fun _ => False) (RetTm σ t) :=
  Tm.ind (P := fun t => ∀ (σ : Store) (s : AV) [RTs σ s t.ps], ACall Try.prog base F_laws_toTerm [.agg [I t.op, I t.n, s]] σ (fun _ => False) (RetTm σ t))
    (fun op n ps ih => c_toTerm_of (c_toTermS_of ih)) t
end Go.Proofs.Ytcmkkmlgdkhmiaa.Asl
