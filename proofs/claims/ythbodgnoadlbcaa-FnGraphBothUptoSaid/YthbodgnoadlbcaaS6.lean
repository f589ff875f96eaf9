/- Classes and rounds of a graph: the program. -/
import Derived.Test.YthbodgnoadlbcaaS5
namespace Go.Proofs.Ythbodgnoadlbcaa.Asl
open Go.RowKit Go.Proofs.YthbodgnoadlbcaaW.PrintLast
set_option linter.unusedVariables false
set_option linter.unusedSimpArgs false
attribute [local irreducible] WP WL andThen inBlock noGoto atEnd ACall DA DL PO Hold
set_option maxHeartbeats 4000000
set_option synthInstance.maxHeartbeats 400000
set_option synthInstance.maxSize 10000
section
variable {base : Nat}
theorem c_alikeRounds (σ : Store) (u : AV) {ss : List AV} {g : Gr} [hs : RW σ u ss] [hg : RRs σ ss g] (hok : GOk g) (hlim : ∀ k, (g.getD k []).length < 4294967296) :
    ACall Try.prog base F_impl_alikeRounds [.agg [u]] σ (fun _ => False) (RetORs σ (roundsL g)) := by
  have hb := hs.bound
  have := hs.one
  have hl := hg.len
  have h60 := hok.most
  refine acall1 fun_impl_alikeRounds rfl tmps_impl_alikeRounds rfl fun N B w₀ ρ₀ => ?_
  repeat' (first
    | refine wl_pop rfl (pc_lenRow rfl inferInstance inferInstance) ?_
    | refine wp_seqA ?_
    | refine wp_region_seq ?_
    | refine thru_seq_next ?_
    | refine wl_nil ?_
    | refine wl_pop rfl (po_assign rfl) ?_
    | refine wl_pop rfl (po_fieldAddr rfl inferInstance) ?_
    | refine wc_load1 rfl inferInstance (at_has (.inl rfl) rfl rfl) rfl ?_
    | refine wl_pop rfl (po_makeFunc rfl rfl) ?_
    | (refine wc_boxA rfl inferInstance rfl ?_; intro _ _ _ _ _)
    | fail)
  rename_i i1 σ1 g1 n1 h1
  have hr : ACall Try.prog base F_impl_rounds ([I (ss.length : Int), .fn F_impl_alikeRounds_1 [.pt i1 0]] ++ []) σ1 (fun _ => False) (RetORs σ1 (roundsL g)) := by
    rw [hl]
    refine c_rounds σ1 F_impl_alikeRounds_1 [.pt i1 0] h60 (fun σ' => Has σ' i1 ⟨.own, 1, [u], []⟩ ∧ RW σ' u ss ∧ RRs σ' ss g) (fun a b l k => ⟨⟨l.keep _ _ k.1.get⟩, k.2.1.les l, k.2.2.les l⟩) ⟨h1, inferInstance, inferInstance⟩ ?_
    intro v c s σ' hc hs' hj hv
    exact c_alikeRounds_1 σ' v u s i1 hj.1 hj.2.1 hj.2.2 hv hok hc hs' hlim
  repeat' (first
    | (refine wc_callORs rfl inferInstance rfl hr rfl ?_; intro _ _ _ _ _ _ _)
    | refine thru_seq_next ?_
    | refine wp_retA ?_
    | refine wl_nil ?_
    | refine wl_pop rfl (po_assign rfl) ?_
    | refine at_ret (res1 rfl rfl) ?_
    | fail)
  rename_i v us σ2 ov wv rv gv
  exact ⟨us, wv.down (LeS.len inferInstance), rv.down (LeS.len inferInstance), (inferInstance : LeS σ σ2).grow⟩
theorem c_alikeClasses (σ : Store) (u : AV) {ss : List AV} {g : Gr} [hs : RW σ u ss] [hg : RRs σ ss g] (hok : GOk g) (hlim : ∀ k, (g.getD k []).length < 4294967296) :
    ACall Try.prog base F_impl_alikeClasses [.agg [u]] σ (fun _ => False) (RetOW σ (lastC g)) := by
  have hb := hs.bound
  have := hs.one
  have h60 := hok.most
  have hpos := hok.pos
  have hll := lastC_len g
  refine acall1 fun_impl_alikeClasses rfl tmps_impl_alikeClasses rfl fun N B w₀ ρ₀ => ?_
  repeat' (first
    | (refine wc_callORs rfl inferInstance rfl (c_alikeRounds _ _ hok hlim) rfl ?_; intro _ _ _ _ _ _ _)
    | refine wc_holdR 2 ?_
    | refine wc_loadn rfl inferInstance (at_has (cs := [_]) (.inl rfl) rfl rfl) rfl ?_
    | refine wp_seqA ?_
    | refine wp_region_seq ?_
    | refine thru_seq_next ?_
    | refine wl_nil ?_
    | refine wl_pop rfl (po_assign rfl) ?_
    | (refine wc_boxA rfl inferInstance rfl ?_; intro _ _ _ _ _)
    | fail)
  rename_i i1 σ1 g1 n1 h1 v us σ2 ov wv rv gv
  refine hold_go ?_
  have hul := rv.len
  have hne : 0 < us.length := by rw [hul]; exact List.length_pos_iff.mpr (roundsL_ne g)
  have hlast : OW σ1 σ2 (us.getD ((us.length : Int) - 1).toNat nilS) (lastC g) := by
    rw [show ((us.length : Int) - 1).toNat = us.length - 1 by omega, ← roundsL_last, ← hul]
    exact rv.row _
  have := hlast.one
  have hb2 := wv.bound
  repeat' (first
    | refine wl_pop rfl (pc_indexRowZ rfl rfl inferInstance inferInstance wv.rw (by omega) (by omega)) ?_
    | (refine wc_callOW rfl inferInstance rfl (c_Clone _ _ (hs := hlast.rw) (fun e => by rw [e] at hll; simp at hll; omega) (by omega)) rfl ?_; intro _ _ _ _ _)
    | refine wl_pop rfl (pc_ldAV rfl inferInstance inferInstance (by omega) inferInstance) ?_
    | refine wl_pop rfl (pc_lenRow rfl inferInstance inferInstance) ?_
    | refine wp_region_seq ?_
    | refine thru_seq_next ?_
    | refine wp_retA ?_
    | refine wl_nil ?_
    | refine wl_pop rfl (po_move rfl) ?_
    | refine wl_pop rfl (po_assign rfl) ?_
    | refine wl_pop rfl (pc_sub rfl rfl (by omega) (by omega)) ?_
    | refine at_ret (res1 rfl rfl) ?_
    | fail)
  exact ret_ow (by assumption) (inferInstance : LeS σ σ2) inferInstance rfl
theorem c_AlikeClasses (σ : Store) (u : AV) {ss : List AV} {g : Gr} [hs : RW σ u ss] [hg : RRs σ ss g] (hlim : ∀ k, (g.getD k []).length < 4294967296) :
    ACall Try.prog base F_impl_AlikeClasses [.agg [u]] σ (fun _ => False) (RetOW σ ((optB (GOk g) (lastC g)).getD [])) := by
  have hb := hs.bound
  have := hs.one
  refine acall1 fun_impl_AlikeClasses rfl tmps_impl_AlikeClasses rfl fun N B w₀ ρ₀ => ?_
  repeat' (first
    | (refine wc_callR rfl inferInstance rfl (c_GraphOk _ _) rfl ?_; intro _ _)
    | (refine wc_callOW rfl inferInstance rfl (c_alikeClasses _ _ (by assumption) hlim) rfl ?_; intro _ _ _ _ _)
    | refine wc_loadn rfl inferInstance (at_has (cs := [_]) (.inl rfl) rfl rfl) rfl ?_
    | refine wp_condNPr rfl (fun _ => ?_) (fun _ => ?_)
    | refine wp_seqA ?_
    | refine wp_region_seq ?_
    | refine thru_seq_next ?_
    | refine thru_seq_ret ?_
    | refine wp_skipA ?_
    | refine wp_retA ?_
    | refine wl_nil ?_
    | refine wl_pop rfl (po_assign rfl) ?_
    | refine wl_pop rfl (po_not rfl) ?_
    | (refine wc_boxA rfl inferInstance rfl ?_; intro _ _ _ _ _)
    | refine at_ret (res1 rfl rfl) ?_
    | fail)
  · rename_i hno
    rw [optB_getD_no hno]
    exact ret_ow (σ₁ := σ) (OW.nilS _ _) instLeRefl inferInstance rfl
  · rename_i hok v σ3 ov wv gv
    rw [optB_getD_yes hok]
    exact ret_ow wv inferInstance inferInstance rfl
end
end Go.Proofs.Ythbodgnoadlbcaa.Asl
