/- The law FnExactGraphFold: a walk. -/
import Derived.Test.YtemhpkfijoodkaaG28
import Derived.Test.YtemhpkfijoodkaaS7
import Derived.Test.YtemhpkfijoodkaaGL2
import Derived.Test.YtemhpkfijoodkaaGA2
namespace Go.Proofs.Ytemhpkfijoodkaa.Asl
open Go.RowKit Go.Proofs.YtemhpkfijoodkaaW.PrintLast
set_option linter.unusedVariables false
set_option linter.unusedSimpArgs false
attribute [local irreducible] WP WL andThen inBlock noGoto atEnd ACall DA DL PO Hold
set_option maxHeartbeats 4000000
set_option synthInstance.maxHeartbeats 400000
set_option synthInstance.maxSize 10000
theorem c_FnExactGraphFold {base : Nat} (σ : Store) (s : AV) {ss : List AV} {a : Gr} (ha : a.length ≤ 1048576 ∧ ∀ l ∈ a, l.length ≤ 1048576) [hs : RW σ s ss] [hg : RRs σ ss a] :
    ACall Try.prog base F_laws_FnExactGraphFold [.agg [s]] σ (fun _ => False) (Ret σ (Bo true)) := by
  have := hs.one
  have hta := total_small ha
  have hlim : ∀ k, (a.getD k []).length < 4294967296 := fun k => Nat.lt_of_le_of_lt (getD_len ha.2 k) (by decide)
  generalize ho : optB (GOk a) (foldG a (lastC a)) = o
  have hto : totalG (o.getD []) ≤ 2199023255552 := by
    subst ho
    unfold optB
    split
    · rename_i h
      have h := prB_of h
      simp only [Option.getD_some]
      have h1 : ∀ l ∈ foldG a (lastC a), l.length ≤ 1048576 := by
        intro l hl
        rw [foldG_eq] at hl
        obtain ⟨k, _, rfl⟩ := List.mem_map.mp hl
        have := tidyL_len ((a.getD k []).map (foldM (lastC a)))
        rw [List.length_map] at this
        exact Nat.le_trans this (getD_len ha.2 k)
      have h2 := totalG_bound h1
      have h3 : (foldG a (lastC a)).length ≤ 1048576 := by
        rw [fold_len]
        have := reps_le (lastC a)
        have := lastC_len a
        have := h.most
        omega
      have := Nat.mul_le_mul_right 1048576 h3
      omega
    · simp [totalG]
  refine acall1 fun_laws_FnExactGraphFold rfl tmps_laws_FnExactGraphFold rfl fun N B w₀ ρ₀ => ?_
  repeat' (first
    | (refine wc_callI rfl inferInstance rfl (c_szGraph _ _ _) rfl ?_; intro _ _ _)
    | refine wc_holdR 5 ?_
    | refine wc_loadn rfl inferInstance (at_has (cs := [_]) (.inl rfl) rfl rfl) rfl ?_
    | refine wp_seqA ?_
    | refine wp_region_seq ?_
    | refine thru_seq_next ?_
    | refine thru_seq_ret ?_
    | refine wp_skipA ?_
    | refine wp_retA ?_
    | refine wl_nil ?_
    | refine wl_pop rfl (po_move rfl) ?_
    | refine wl_pop rfl (po_assign rfl) ?_
    | refine wl_pop rfl (po_binOp rfl rfl rfl) ?_
    | (refine wc_boxA rfl inferInstance rfl ?_; intro _ _ _ _ _)
    | refine wp_condP rfl (fun _ => ?_) (fun _ => ?_)
    | refine at_ret (res1 rfl rfl) ?_
    | exact ret_ inferInstance rfl
    | fail)
  rename_i i1 σ1 g1 n1 h1 z1 σ4 g4 hz1
  refine hold_go ?_
  repeat' (first
    | (refine wc_callG rfl inferInstance rfl (c_toGraph _ _) rfl ?_; intro _ _ _ _ _ _ _)
    | (refine wc_callGO rfl inferInstance rfl (ho ▸ c_sGraphFold _ _ hlim) rfl ?_; intro _ _ _ _ _ _ _)
    | refine wc_holdR 6 ?_
    | refine wc_loadn rfl inferInstance (at_has (cs := [_]) (.inl rfl) rfl rfl) rfl ?_
    | refine wp_seqA ?_
    | refine wp_region_seq ?_
    | refine thru_seq_next ?_
    | refine wl_nil ?_
    | refine wl_pop rfl (po_move rfl) ?_
    | refine wl_pop rfl (po_assign rfl) ?_
    | (refine wc_storeA rfl rfl inferInstance inferInstance rfl inferInstance (Nat.le_of_ble_eq_true rfl) (.inr (may_new _)) ?_; intro _ _)
    | refine wl_pop rfl (po_extract rfl rfl) ?_
    | (refine wc_allocA (cs := [_]) inferInstance rfl inferInstance rfl ?_; intro _ _ _ _ _)
    | fail)
  rename_i y0 ys0 σ4a yo0 yw0 yr0 yg0 u5 us5 σ5 o5 w5 r5 g5 i5 σ5b g5b n5b h5 σ5c up5
  refine hold_go ?_
  repeat' (first
    | (refine wc_callG rfl inferInstance rfl (c_toGraph _ _) rfl ?_; intro _ _ _ _ _ _ _)
    | (refine wc_callGO rfl inferInstance rfl (ho ▸ c_GraphFold _ _ hlim) rfl ?_; intro _ _ _ _ _ _ _)
    | (refine wc_callR rfl inferInstance rfl (c_eqGraph _ _ _) rfl ?_; intro _ _)
    | refine wc_holdR 10 ?_
    | refine wc_loadn rfl inferInstance (at_has (cs := [_]) (.inl rfl) rfl rfl) rfl ?_
    | refine wc_guardNPr_false rfl rfl rfl rfl (fun _ => ?_) (fun _ => ?_)
    | refine wp_seqA ?_
    | refine wp_region_seq ?_
    | refine thru_seq_next ?_
    | refine thru_seq_ret ?_
    | refine wp_skipA ?_
    | refine wp_retA ?_
    | refine wl_nil ?_
    | refine wl_pop rfl (po_move rfl) ?_
    | refine wl_pop rfl (po_assign rfl) ?_
    | refine wl_pop rfl (pc_boolNeSelf rfl rfl inferInstance) ?_
    | refine wl_pop rfl (po_not rfl) ?_
    | (refine wc_storeA rfl rfl inferInstance inferInstance rfl inferInstance (Nat.le_of_ble_eq_true rfl) (.inr (may_new _)) ?_; intro _ _)
    | refine wl_pop rfl (po_extract rfl rfl) ?_
    | (refine wc_allocA (cs := [_]) inferInstance rfl inferInstance rfl ?_; intro _ _ _ _ _)
    | refine wl_pop rfl (po_pick rfl rfl) ?_
    | refine wc_guardT_false rfl rfl rfl ?_
    | refine wc_guardF_false rfl rfl rfl rfl ?_
    | refine wp_condT rfl ?_
    | refine wp_condF rfl ?_
    | refine at_ret (res1 rfl rfl) ?_
    | fail)
  all_goals try exact absurd rfl (by assumption)
  rename_i x0 xs0 σ6 xo0 xw0 xr0 xg0 i0 σ7 g7 n0 h0 σ8 up8 x1 xs1 σ9 xo1 xw1 xr1 xg1 i9 σ10 g10 n10 h10 σ11 up11 σ12 g12 _
  refine hold_go ?_
  refine wc_drawn [] mixed_ rfl ?_
  all_goals refine da_takeC 0 rfl rfl (by kernel_rfl) (by first | exact pc_loadnL rfl inferInstance (at_has (cs := [_]) (.inl rfl) rfl rfl) inferInstance | fail) ?_
  all_goals refine da_takeC 1 rfl rfl (by kernel_rfl) (by first | exact pc_loadnL rfl inferInstance (at_has (cs := [_]) (.inl rfl) rfl rfl) inferInstance | fail) ?_
  all_goals (first | (refine da_one 2 rfl (by kernel_rfl) (fun _ _ _ _ => ?_); (repeat' (first | (refine wc_callG rfl inferInstance rfl (c_toGraph _ _) rfl ?_; intro _ _ _ _ _ _ _) | fail)); all_goals (first | refine wl_nil ⟨rfl, (by first | exact LeS.len inferInstance | exact App.len (by assumption)), ?_⟩ | trace_state)))
  all_goals (first | (refine da_one 3 rfl (by kernel_rfl) (fun _ _ _ _ => ?_); (repeat' (first | (refine wc_callR rfl inferInstance rfl (c_eqGraph _ _ _) rfl ?_; intro _ _) | fail)); all_goals (first | refine wl_nil ⟨rfl, (by first | exact LeS.len inferInstance | exact App.len (by assumption)), ?_⟩ | trace_state)))
  all_goals refine da_takeC 4 rfl rfl (by kernel_rfl) (by first | exact po_not rfl | fail) ?_
  all_goals refine da_done (by kernel_rfl) ?_
  repeat' (first
    | refine wc_loadn rfl inferInstance (at_has (cs := [_]) (.inl rfl) rfl rfl) rfl ?_
    | refine wp_condNPr rfl (fun _ => ?_) (fun _ => ?_)
    | refine wp_seqA ?_
    | refine wp_region_seq ?_
    | refine thru_seq_next ?_
    | refine thru_seq_ret ?_
    | refine wp_skipA ?_
    | refine wp_retA ?_
    | refine wl_nil ?_
    | refine wl_pop rfl (po_move rfl) ?_
    | refine wl_pop rfl (po_assign rfl) ?_
    | refine at_ret (res1 rfl rfl) ?_
    | fail)
  all_goals try exact absurd rfl (by assumption)
  refine wc_callMkR σ5c σ6 rfl inferInstance rfl (by infer_instance : ORs σ5c _ xs0 a) xr0 (c_markGraph _ x0 1 (by infer_instance : ORs σ5c _ xs0 a) (by omega) (by omega)) (may_ge σ5c) rfl ?_
  intro σ16 m16 _
  have l16 : LeS σ5c σ16 := inferInstance
  have := l16.grow
  repeat' (first
    | (refine wc_callR rfl inferInstance rfl (c_eqGraph _ _ _) rfl ?_; intro _ _)
    | refine wc_loadn rfl inferInstance (at_has (cs := [_]) (.inl rfl) rfl rfl) rfl ?_
    | refine wc_guardNPr_false rfl rfl rfl rfl (fun _ => ?_) (fun _ => ?_)
    | refine wp_seqA ?_
    | refine wp_region_seq ?_
    | refine thru_seq_next ?_
    | refine thru_seq_ret ?_
    | refine wp_skipA ?_
    | refine wp_retA ?_
    | refine wl_nil ?_
    | refine wl_pop rfl (po_move rfl) ?_
    | refine wl_pop rfl (po_assign rfl) ?_
    | refine wl_pop rfl (po_binOp rfl rfl rfl) ?_
    | refine wl_pop rfl (pc_boolNeSelf rfl rfl inferInstance) ?_
    | refine wl_pop rfl (po_not rfl) ?_
    | refine wl_pop rfl (po_pick rfl rfl) ?_
    | refine wc_guardT_false rfl rfl rfl ?_
    | refine wc_guardF_false rfl rfl rfl rfl ?_
    | refine wp_condT rfl ?_
    | refine wp_condF rfl ?_
    | refine at_ret (res1 rfl rfl) ?_
    | fail)
  all_goals try exact absurd rfl (by assumption)
  rename_i σ17 g17 _
  refine wc_callMkR2 σ8 σ9 rfl inferInstance rfl (by decide) (by infer_instance : OW σ8 _ x1 xs1) (by infer_instance : ORs σ8 _ xs1 (o.getD [])) xr1 (c_markGraph _ x1 1 (by infer_instance : ORs σ8 _ xs1 (o.getD [])) (by omega) (by omega)) (may_ge σ8) rfl ?_
  intro σ18 m18 wx2 rx2
  have l18 : LeS σ5c σ18 := inferInstance
  have := l18.grow
  have hig : Has σ18 i9 ⟨.own, 1, [x1], []⟩ := inferInstance
  clear m16 m18 l16
  repeat' (first
    | (refine wc_callR rfl inferInstance rfl (c_heldGraph _ _ _ (by omega) (by omega)) rfl ?_; intro _ _)
    | (refine wc_callG rfl inferInstance rfl (c_toGraph _ _) rfl ?_; intro _ _ _ _ _ _ _)
    | (refine wc_callGO rfl inferInstance rfl (ho ▸ c_GraphFold _ _ hlim) rfl ?_; intro _ _ _ _ _ _ _)
    | (refine wc_callR rfl inferInstance rfl (c_eqGraph _ _ _) rfl ?_; intro _ _)
    | refine wc_loadn rfl inferInstance (at_has (cs := [_]) (.inl rfl) rfl rfl) rfl ?_
    | refine wc_guardNPr_false rfl rfl rfl rfl (fun _ => ?_) (fun _ => ?_)
    | refine wp_seqA ?_
    | refine wp_region_seq ?_
    | refine thru_seq_next ?_
    | refine thru_seq_ret ?_
    | refine wp_skipA ?_
    | refine wp_retA ?_
    | refine wl_nil ?_
    | refine wl_pop rfl (po_move rfl) ?_
    | refine wl_pop rfl (po_assign rfl) ?_
    | refine wl_pop rfl (po_binOp rfl rfl rfl) ?_
    | refine wl_pop rfl (pc_boolNeSelf rfl rfl inferInstance) ?_
    | refine wl_pop rfl (po_not rfl) ?_
    | (refine wc_storeA rfl rfl inferInstance inferInstance rfl inferInstance (Nat.le_of_ble_eq_true rfl) (.inr (may_new _)) ?_; intro _ _)
    | refine wl_pop rfl (po_extract rfl rfl) ?_
    | (refine wc_allocA (cs := [_]) inferInstance rfl inferInstance rfl ?_; intro _ _ _ _ _)
    | refine wl_pop rfl (po_pick rfl rfl) ?_
    | refine wc_guardT_false rfl rfl rfl ?_
    | refine wc_guardF_false rfl rfl rfl rfl ?_
    | refine wp_condT rfl ?_
    | refine wp_condF rfl ?_
    | refine wp_condNP rfl (fun _ => ?_) (fun _ => ?_)
    | refine at_ret (res1 rfl rfl) ?_
    | exact ret_ inferInstance rfl
    | fail)
  all_goals first | exact absurd rfl (by assumption) | exact ret_ inferInstance rfl | (exfalso; omega)
end Go.Proofs.Ytemhpkfijoodkaa.Asl
