/- Whether two terms are alike: both ways. -/
import Derived.Test.YthbodgnoadlbcaaGreatDoorK12
namespace Go.Proofs.YthbodgnoadlbcaaGreatDoor.Asl
open Go.RowKit Go.Proofs.YthbodgnoadlbcaaGreatDoorW.PrintLast
set_option linter.unusedVariables false
set_option linter.unusedSimpArgs false
attribute [local irreducible] WP WL andThen inBlock noGoto atEnd ACall DA DL DX PO Hold nodeOk Tm.shape Tm.ok Tm.txt graphO pairO
set_option maxHeartbeats 4000000
set_option synthInstance.maxHeartbeats 400000
set_option synthInstance.maxSize 10000
section
variable {base : Nat}
theorem c_TermsAlike (t u : Tm) (ds : List Tm) (σ : Store) (s s' d : AV) [hs : RTs σ s t.ps] [hs' : RTs σ s' u.ps] [hd : RTs σ d ds] : ACall Tryz.prog base F_impl_TermsAlike [.agg [I t.op, I t.n, s], .agg [I u.op, I u.n, s'], d] σ (fun _ => False) (Ret σ (.tup [Bo ((alkO ds t u).getD false), Bo (alkO ds t u).isSome])) := by
  have := hs.one
  have := hs'.one
  have := hd.one
  obtain ⟨o, ho⟩ : ∃ o, pairO ds t u = o := ⟨_, rfl⟩
  unfold alkO
  rw [ho]
  refine acall3 fun_impl_TermsAlike rfl tmps_impl_TermsAlike rfl fun N B w₀ ρ₀ => ?_
  cases o with
  | none =>
    repeat' (first
      | (refine wc_callPG rfl inI rfl (ho ▸ c_bothOf t u ds _ _ _ _) rfl ?_; intro _ _ _ _ _ _ _ _ _)
      | refine wp_seqA ?_
      | refine wp_region_seq ?_
      | refine thru_seq_next ?_
      | refine thru_seq_ret ?_
      | refine wp_retA ?_
      | refine wl_nil ?_
      | refine wl_pop rfl (po_move rfl) ?_
      | refine wl_pop rfl (po_assign rfl) ?_
      | refine wc_loadn rfl inI (at_has (cs := [_, _, _]) (.inl rfl) rfl rfl) rfl ?_
      | refine wl_pop rfl (po_not rfl) ?_
      | (refine wc_storeA rfl rfl inI inI rfl inI (Nat.le_of_ble_eq_true rfl) (.inr (may_new _)) ?_; intro _ _)
      | refine wl_pop rfl (po_extract rfl rfl) ?_
      | (refine wc_boxA rfl inI rfl ?_; intro _ _ _ _ _)
      | (refine wc_allocA (cs := [_]) inI rfl inI rfl ?_; intro _ _ _ _ _)
      | refine wp_condT rfl ?_
      | refine at_ret (res2 rfl rfl rfl) ?_
      | exact ret_ inI rfl
      | fail)
  | some x =>
    obtain ⟨g, n⟩ := x
    obtain ⟨gok, hn, hlim⟩ := pairO_ok ho
    have hcl := lastC_len g
    repeat' (first
      | (refine wc_callPG rfl inI rfl (ho ▸ c_bothOf t u ds _ _ _ _) rfl ?_; intro _ _ _ _ _ _ _ _ _)
      | (refine wc_callOW rfl inI rfl (c_alikeClasses _ _ gok hlim) rfl ?_; intro _ _ _ _ _)
      | refine wc_loadn rfl inI (at_has (cs := [_]) (.inl rfl) rfl rfl) rfl ?_
      | refine wp_seqA ?_
      | refine wp_region_seq ?_
      | refine thru_seq_next ?_
      | refine wp_skipA ?_
      | refine wl_nil ?_
      | refine wl_pop rfl (po_move rfl) ?_
      | refine wl_pop rfl (po_assign rfl) ?_
      | refine wc_loadn rfl inI (at_has (cs := [_, _, _]) (.inl rfl) rfl rfl) rfl ?_
      | refine wl_pop rfl (po_not rfl) ?_
      | (refine wc_storeA rfl rfl inI inI rfl inI (Nat.le_of_ble_eq_true rfl) (.inr (may_new _)) ?_; intro _ _)
      | refine wl_pop rfl (po_extract rfl rfl) ?_
      | (refine wc_boxA rfl inI rfl ?_; intro _ _ _ _ _)
      | (refine wc_allocA (cs := [_]) inI rfl inI rfl ?_; intro _ _ _ _ _)
      | refine wp_condF rfl ?_
      | fail)
    rename_i w ws z σp ow hz rww rrw gp i σa ga na ha σb ub u σc ou owc gc
    have hzn : z = (n : Int) := hz (g, n) rfl
    subst hzn
    have b0 : Int.toNat 0 < (lastC g).length := by rw [hcl]; omega
    have bn : (n : Int).toNat < (lastC g).length := by omega
    have rwc : RW σc u (lastC g) := owc.rw
    refine wc_drawn [] mixed_ rfl ?_
    all_goals refine da_takeC 0 rfl rfl (by kernel_rfl) (by first | exact po_move rfl | fail) ?_
    all_goals refine da_takeC 1 rfl rfl (by kernel_rfl) (by first | exact pc_indexRowZ rfl rfl inI inI rwc (by omega) (by omega) | fail) ?_
    all_goals refine da_takeC 2 rfl rfl (by kernel_rfl) (by first | exact pc_ldNat rfl inI rwc b0 inI | fail) ?_
    all_goals refine da_takeC 3 rfl rfl (by kernel_rfl) (by first | exact po_move rfl | fail) ?_
    all_goals refine da_takeC 4 rfl rfl (by kernel_rfl) (by first | exact po_move rfl | fail) ?_
    all_goals refine da_takeC 5 rfl rfl (by kernel_rfl) (by first | exact pc_indexRowZ rfl rfl inI inI rwc (by omega) (by omega) | fail) ?_
    all_goals refine da_takeC 6 rfl rfl (by kernel_rfl) (by first | exact pc_ldNat rfl inI rwc bn inI | fail) ?_
    all_goals refine da_takeC 7 rfl rfl (by kernel_rfl) (by first | exact po_binOp rfl rfl rfl | fail) ?_
    all_goals refine da_takeC 8 rfl rfl (by kernel_rfl) (by first | exact po_assign rfl | fail) ?_
    all_goals refine da_takeC 9 rfl rfl (by kernel_rfl) (by first | exact po_assign rfl | fail) ?_
    all_goals refine da_done (by kernel_rfl) ?_
    repeat' (first
      | refine thru_seq_next ?_
      | refine wp_retA ?_
      | refine at_ret (res2 rfl rfl rfl) ?_
      | fail)
    refine ret_ inI ?_
    have e : ((((lastC g).getD (Int.toNat 0) 0 : Nat) : Int) == (((lastC g).getD (n : Int).toNat 0 : Nat) : Int)) = decide ((lastC g).getD 0 0 = (lastC g).getD n 0) := by
      rw [Bool.eq_iff_iff, beq_iff_eq, decide_eq_true_eq, Int.toNat_natCast, show Int.toNat 0 = 0 from rfl]; omega
    rw [e]; rfl
theorem c_sTermsAlike (t u : Tm) (ds : List Tm) (σ : Store) (s s' d : AV) [hs : RTs σ s t.ps] [hs' : RTs σ s' u.ps] [hd : RTs σ d ds] : ACall Tryz.prog base F_spec_TermsAlike [.agg [I t.op, I t.n, s], .agg [I u.op, I u.n, s'], d] σ (fun _ => False) (Ret σ (.tup [Bo ((alkO ds t u).getD false), Bo (alkO ds t u).isSome])) := by
  have := hs.one
  have := hs'.one
  have := hd.one
  obtain ⟨o, ho⟩ : ∃ o, pairO ds t u = o := ⟨_, rfl⟩
  unfold alkO
  rw [ho]
  refine acall3 fun_spec_TermsAlike rfl tmps_spec_TermsAlike rfl fun N B w₀ ρ₀ => ?_
  cases o with
  | none =>
    repeat' (first
      | (refine wc_callPG rfl inI rfl (ho ▸ c_l4Pair t u ds _ _ _ _) rfl ?_; intro _ _ _ _ _ _ _ _ _)
      | refine wp_seqA ?_
      | refine wp_region_seq ?_
      | refine thru_seq_next ?_
      | refine thru_seq_ret ?_
      | refine wp_retA ?_
      | refine wl_nil ?_
      | refine wl_pop rfl (po_move rfl) ?_
      | refine wl_pop rfl (po_assign rfl) ?_
      | refine wc_loadn rfl inI (at_has (cs := [_, _, _]) (.inl rfl) rfl rfl) rfl ?_
      | refine wl_pop rfl (po_not rfl) ?_
      | (refine wc_storeA rfl rfl inI inI rfl inI (Nat.le_of_ble_eq_true rfl) (.inr (may_new _)) ?_; intro _ _)
      | refine wl_pop rfl (po_extract rfl rfl) ?_
      | (refine wc_boxA rfl inI rfl ?_; intro _ _ _ _ _)
      | (refine wc_allocA (cs := [_]) inI rfl inI rfl ?_; intro _ _ _ _ _)
      | refine wp_condT rfl ?_
      | refine at_ret (res2 rfl rfl rfl) ?_
      | exact ret_ inI rfl
      | fail)
  | some x =>
    obtain ⟨g, n⟩ := x
    obtain ⟨gok, hn, hlim⟩ := pairO_ok ho
    have hcl := lastC_len g
    have hz0 := last_zero g
    repeat' (first
      | (refine wc_callPG rfl inI rfl (ho ▸ c_l4Pair t u ds _ _ _ _) rfl ?_; intro _ _ _ _ _ _ _ _ _)
      | refine wc_holdR 4 ?_
      | refine wp_seqA ?_
      | refine wp_region_seq ?_
      | refine thru_seq_next ?_
      | refine wp_skipA ?_
      | refine wl_nil ?_
      | refine wl_pop rfl (po_move rfl) ?_
      | refine wl_pop rfl (po_assign rfl) ?_
      | refine wc_loadn rfl inI (at_has (cs := [_, _, _]) (.inl rfl) rfl rfl) rfl ?_
      | refine wl_pop rfl (po_not rfl) ?_
      | (refine wc_storeA rfl rfl inI inI rfl inI (Nat.le_of_ble_eq_true rfl) (.inr (may_new _)) ?_; intro _ _)
      | refine wl_pop rfl (po_extract rfl rfl) ?_
      | (refine wc_boxA rfl inI rfl ?_; intro _ _ _ _ _)
      | (refine wc_allocA (cs := [_]) inI rfl inI rfl ?_; intro _ _ _ _ _)
      | refine wp_condF rfl ?_
      | fail)
    rename_i w ws z σp ow hz rww rrw gp i σa ga na ha σb ub
    have hzn : z = (n : Int) := hz (g, n) rfl
    subst hzn
    have b0 : Int.toNat 0 < (lastC g).length := by rw [hcl]; omega
    have bn : (n : Int).toNat < (lastC g).length := by omega
    have gg : LeS σ σb := inI
    refine hold_go ?_
    repeat' (first
      | (refine wc_callOW rfl inI rfl (c_l4Classes _ _ gok) rfl ?_; intro _ _ _ _ _)
      | refine wl_pop rfl (pc_indexRowZ rfl rfl inI inI inI (by omega) (by omega)) ?_
      | refine wl_pop rfl (pc_ldNat rfl inI inI bn inI) ?_
      | refine wc_loadn rfl inI (at_has (cs := [_]) (.inl rfl) rfl rfl) rfl ?_
      | refine wp_region_seq ?_
      | refine thru_seq_next ?_
      | refine wp_retA ?_
      | refine wl_nil ?_
      | refine wl_pop rfl (po_move rfl) ?_
      | refine wl_pop rfl (po_assign rfl) ?_
      | refine wl_pop rfl (po_binOp rfl rfl rfl) ?_
      | refine at_ret (res2 rfl rfl rfl) ?_
      | fail)
    refine ret_ inI ?_
    have e : ((((lastC g).getD (n : Int).toNat 0 : Nat) : Int) == 0) = decide ((lastC g).getD 0 0 = (lastC g).getD n 0) := by
      rw [Bool.eq_iff_iff, beq_iff_eq, decide_eq_true_eq, Int.toNat_natCast, hz0]; omega
    rw [e]; rfl
end
end Go.Proofs.YthbodgnoadlbcaaGreatDoor.Asl
