/- The law FnExactAlikeRounds: a walk. -/
import Derived.Test.YtemhpkfijoodkaaS6
import Derived.Test.YtemhpkfijoodkaaG27
import Derived.Test.YtemhpkfijoodkaaP2
import Derived.Test.YtemhpkfijoodkaaB7
namespace Go.Proofs.Ytemhpkfijoodkaa.Asl
open Go.RowKit Go.Proofs.YtemhpkfijoodkaaW.PrintLast
set_option linter.unusedVariables false
set_option linter.unusedSimpArgs false
attribute [local irreducible] WP WL andThen inBlock noGoto atEnd ACall DA DL PO Hold
set_option maxHeartbeats 4000000
set_option synthInstance.maxHeartbeats 400000
set_option synthInstance.maxSize 10000
theorem total_small8 {g : Gr} (h : g.length ≤ 1048576 ∧ ∀ l ∈ g, l.length ≤ 1048576) : totalG g ≤ 1099511627776 := by
  have := totalG_bound h.2
  have := Nat.mul_le_mul_right 1048576 h.1
  omega
theorem rounds_total {g : Gr} (hok : GOk g) : totalG (roundsL g) ≤ 1000000 := by
  obtain ⟨p1, _, p3, _⟩ := rounds_props (g := g) (fun _ => True) trivial (fun _ _ => trivial)
  have h60 := hok.most
  have h1 : ∀ c ∈ roundsL g, c.length ≤ 60 := fun c hc => by rw [(p1 c hc).2.2]; exact h60
  have h2 : (roundsL g).length ≤ 61 := by omega
  have h3 := totalG_bound h1
  have := Nat.mul_le_mul_right 60 h2
  omega
theorem c_FnExactAlikeRounds {base : Nat} (σ : Store) (s : AV) {ss : List AV} {a : Gr} (ha : a.length ≤ 1048576 ∧ ∀ l ∈ a, l.length ≤ 1048576) [hs : RW σ s ss] [hg : RRs σ ss a] :
    ACall Try.prog base F_laws_FnExactAlikeRounds [.agg [s]] σ (fun _ => False) (Ret σ (Bo true)) := by
  have := hs.one
  have hta := total_small8 ha
  have hlim : ∀ k, (a.getD k []).length < 4294967296 := fun k => Nat.lt_of_le_of_lt (getD_all (p := fun (l : List Mv) => l.length ≤ 1048576) ha.2 (by simp) k) (by decide)
  have hLt : totalG ((optB (GOk a) (roundsL a)).getD []) ≤ 1000000 := by
    unfold optB
    split
    · rename_i h
      exact rounds_total (prB_of h)
    · simp [totalG]
  generalize hL : (optB (GOk a) (roundsL a)).getD [] = L at hLt
  refine acall1 fun_laws_FnExactAlikeRounds rfl tmps_laws_FnExactAlikeRounds rfl fun N B w₀ ρ₀ => ?_
  repeat' (first
    | (refine wc_callI rfl inferInstance rfl (c_szGraph _ _ _) rfl ?_; intro _ _ _)
    | refine wc_holdR 5 ?_
    | refine wc_loadn rfl inferInstance (at_has (cs := [_]) (.inl rfl) rfl rfl) rfl ?_
    | refine wp_seqA ?_
    | refine wp_region_seq ?_
    | refine thru_seq_next ?_
    | refine thru_seq_ret ?_
    | refine wp_skipA ?_
    | refine wp_retA ?_
    | refine wl_nil ?_
    | refine wl_pop rfl (po_move rfl) ?_
    | refine wl_pop rfl (po_assign rfl) ?_
    | refine wl_pop rfl (po_binOp rfl rfl rfl) ?_
    | (refine wc_boxA rfl inferInstance rfl ?_; intro _ _ _ _ _)
    | refine wp_condP rfl (fun _ => ?_) (fun _ => ?_)
    | refine at_ret (res1 rfl rfl) ?_
    | exact ret_ inferInstance rfl
    | fail)
  rename_i i1 σ1 g1 n1 h1 z1 σ4 g4 hz1
  refine hold_go ?_
  repeat' (first
    | (refine wc_callG rfl inferInstance rfl (c_toGraph _ _) rfl ?_; intro _ _ _ _ _ _ _)
    | (refine wc_callORs rfl inferInstance rfl (hL ▸ c_sAlikeRounds _ _) rfl ?_; intro _ _ _ _ _ _ _)
    | refine wc_holdR 6 ?_
    | refine wc_loadn rfl inferInstance (at_has (cs := [_]) (.inl rfl) rfl rfl) rfl ?_
    | refine wp_seqA ?_
    | refine wp_region_seq ?_
    | refine thru_seq_next ?_
    | refine wl_nil ?_
    | refine wl_pop rfl (po_assign rfl) ?_
    | fail)
  rename_i y0 ys0 σ4a yo0 yw0 yr0 yg0 w ws σ5 wo ww wr wg
  refine hold_go ?_
  repeat' (first
    | (refine wc_callG rfl inferInstance rfl (c_toGraph _ _) rfl ?_; intro _ _ _ _ _ _ _)
    | (refine wc_callORs rfl inferInstance rfl (hL ▸ c_AlikeRounds _ _ hlim) rfl ?_; intro _ _ _ _ _ _ _)
    | (refine wc_callR rfl inferInstance rfl (c_eqIntSS _ _ _) rfl ?_; intro _ _)
    | refine wc_holdR 10 ?_
    | refine wc_loadn rfl inferInstance (at_has (cs := [_]) (.inl rfl) rfl rfl) rfl ?_
    | refine wp_condNPr rfl (fun _ => ?_) (fun _ => ?_)
    | refine wp_seqA ?_
    | refine wp_region_seq ?_
    | refine thru_seq_next ?_
    | refine thru_seq_ret ?_
    | refine wp_skipA ?_
    | refine wp_retA ?_
    | refine wl_nil ?_
    | refine wl_pop rfl (po_move rfl) ?_
    | refine wl_pop rfl (po_assign rfl) ?_
    | refine wl_pop rfl (po_not rfl) ?_
    | (refine wc_storeA rfl rfl inferInstance inferInstance rfl inferInstance (Nat.le_of_ble_eq_true rfl) (.inr (may_new _)) ?_; intro _ _)
    | (refine wc_allocA (cs := [_]) inferInstance rfl inferInstance rfl ?_; intro _ _ _ _ _)
    | refine at_ret (res1 rfl rfl) ?_
    | fail)
  all_goals try exact absurd rfl (by assumption)
  rename_i x0 xs0 σ6 xo0 xw0 xr0 xg0 i0 σ7 g7 n0 h0 σ8 up8 v vs σ9 vo vw vr vg σ10 g10 _
  refine hold_go ?_
  refine wc_drawn [] mixed_ rfl ?_
  all_goals refine da_takeC 0 rfl rfl (by kernel_rfl) (by first | exact pc_loadnL rfl inferInstance (at_has (cs := [_]) (.inl rfl) rfl rfl) inferInstance | fail) ?_
  all_goals refine da_takeC 1 rfl rfl (by kernel_rfl) (by first | exact pc_loadnL rfl inferInstance (at_has (cs := [_]) (.inl rfl) rfl rfl) inferInstance | fail) ?_
  all_goals (first | (refine da_one 2 rfl (by kernel_rfl) (fun _ _ _ _ => ?_); (repeat' (first | (refine wc_callG rfl inferInstance rfl (c_toGraph _ _) rfl ?_; intro _ _ _ _ _ _ _) | fail)); all_goals (first | refine wl_nil ⟨rfl, (by first | exact LeS.len inferInstance | exact App.len (by assumption)), ?_⟩ | trace_state)))
  all_goals (first | (refine da_one 3 rfl (by kernel_rfl) (fun _ _ _ _ => ?_); (repeat' (first | (refine wc_callR rfl inferInstance rfl (c_eqGraph _ _ _) rfl ?_; intro _ _) | fail)); all_goals (first | refine wl_nil ⟨rfl, (by first | exact LeS.len inferInstance | exact App.len (by assumption)), ?_⟩ | trace_state)))
  all_goals refine da_takeC 4 rfl rfl (by kernel_rfl) (by first | exact po_not rfl | fail) ?_
  all_goals refine da_done (by kernel_rfl) ?_
  repeat' (first
    | refine wc_loadn rfl inferInstance (at_has (cs := [_]) (.inl rfl) rfl rfl) rfl ?_
    | refine wp_condNPr rfl (fun _ => ?_) (fun _ => ?_)
    | refine wp_seqA ?_
    | refine wp_region_seq ?_
    | refine thru_seq_next ?_
    | refine thru_seq_ret ?_
    | refine wp_skipA ?_
    | refine wp_retA ?_
    | refine wl_nil ?_
    | refine wl_pop rfl (po_move rfl) ?_
    | refine wl_pop rfl (po_assign rfl) ?_
    | refine at_ret (res1 rfl rfl) ?_
    | fail)
  all_goals try exact absurd rfl (by assumption)
  refine wc_callMkR σ5 σ6 rfl inferInstance rfl (by infer_instance : ORs σ5 _ xs0 a) xr0 (c_markGraph _ x0 1 (by infer_instance : ORs σ5 _ xs0 a) (by omega) (by omega)) (may_ge σ5) rfl ?_
  intro σ16 m16 _
  have l16 : LeS σ5 σ16 := inferInstance
  have := l16.grow
  repeat' (first
    | (refine wc_callR rfl inferInstance rfl (c_eqIntSS _ _ _) rfl ?_; intro _ _)
    | refine wp_condNPr rfl (fun _ => ?_) (fun _ => ?_)
    | refine wp_seqA ?_
    | refine wp_region_seq ?_
    | refine thru_seq_next ?_
    | refine thru_seq_ret ?_
    | refine wp_skipA ?_
    | refine wp_retA ?_
    | refine wl_nil ?_
    | refine wl_pop rfl (po_move rfl) ?_
    | refine wl_pop rfl (po_assign rfl) ?_
    | refine wl_pop rfl (po_binOp rfl rfl rfl) ?_
    | refine wl_pop rfl (po_not rfl) ?_
    | refine wl_pop rfl (po_pick rfl rfl) ?_
    | refine wc_guardT_false rfl rfl rfl ?_
    | refine at_ret (res1 rfl rfl) ?_
    | fail)
  all_goals try exact absurd rfl (by assumption)
  rename_i σ17 g17 _
  refine wc_callMkN σ8 σ9 rfl inferInstance rfl (by infer_instance : OW σ8 _ v vs) (by infer_instance : ORs σ8 _ vs L) vr (c_markIntSS _ v 1 (by infer_instance : ORs σ8 _ vs L) (by omega)) (may_ge σ8) rfl ?_
  intro σ18 m18 wv rv
  have l18 : LeS σ5 σ18 := inferInstance
  have := l18.grow
  have := wv.one
  clear m16 m18 l16
  repeat' (first
    | (refine wc_callR rfl inferInstance rfl (c_heldIntSS _ v 1 (g := L) (by omega)) rfl ?_; intro _ _)
    | (refine wc_callG rfl inferInstance rfl (c_toGraph _ _) rfl ?_; intro _ _ _ _ _ _ _)
    | (refine wc_callORs rfl inferInstance rfl (hL ▸ c_AlikeRounds _ _ hlim) rfl ?_; intro _ _ _ _ _ _ _)
    | (refine wc_callR rfl inferInstance rfl (c_eqIntSS _ _ _) rfl ?_; intro _ _)
    | refine wc_loadn rfl inferInstance (at_has (cs := [_]) (.inl rfl) rfl rfl) rfl ?_
    | refine wp_condNPr rfl (fun _ => ?_) (fun _ => ?_)
    | refine wp_seqA ?_
    | refine wp_region_seq ?_
    | refine thru_seq_next ?_
    | refine thru_seq_ret ?_
    | refine wp_skipA ?_
    | refine wp_retA ?_
    | refine wl_nil ?_
    | refine wl_pop rfl (po_move rfl) ?_
    | refine wl_pop rfl (po_assign rfl) ?_
    | refine wl_pop rfl (po_binOp rfl rfl rfl) ?_
    | refine wl_pop rfl (po_not rfl) ?_
    | refine wp_condF rfl ?_
    | refine wp_condNP rfl (fun _ => ?_) (fun _ => ?_)
    | refine at_ret (res1 rfl rfl) ?_
    | exact ret_ inferInstance rfl
    | fail)
  all_goals first | exact absurd rfl (by assumption) | exact ret_ inferInstance rfl | (exfalso; omega)
end Go.Proofs.Ytemhpkfijoodkaa.Asl
