/- Several texts in one. -/
import Derived.Test.YthbodgnoadlbcaaGreatDoorTT
import Derived.Test.YthbodgnoadlbcaaGreatDoorK13
import Derived.Test.YthbodgnoadlbcaaGreatDoorTU
/- The laws FnExactTermFits and FnExactDefsOk: walks. -/
namespace Go.Proofs.YthbodgnoadlbcaaGreatDoor.Asl
open Go.RowKit
set_option linter.unusedVariables false
attribute [local irreducible] WP WL andThen inBlock noGoto atEnd ACall DA PO Hold actB inB nodeOk
set_option maxHeartbeats 4000000

theorem c_szTermS {base : Nat} (ps : List Tm) (σ : Store) (s : AV) (left : Int) [hs : RTs σ s ps] : ACall Tryz.prog base F_laws_szTermS [s, I left] σ (fun _ => False) (RetInt σ) := c_szTermS_of (fun p _ => c_szTerm p) σ s left
theorem c_eqTermS {base : Nat} (ps ps' : List Tm) (σ : Store) (s s' : AV) [hs : RTs σ s ps] [hs' : RTs σ s' ps'] : ACall Tryz.prog base F_laws_eqTermS [s, s'] σ (fun _ => False) (Ret σ (Bo (eqB ps ps'))) := c_eqTermS_of (fun p _ => c_eqTerm p) σ s s'
theorem c_eqTermS_self {base : Nat} (ps : List Tm) (σ : Store) (s s' : AV) [hs : RTs σ s ps] [hs' : RTs σ s' ps] : ACall Tryz.prog base F_laws_eqTermS [s, s'] σ (fun _ => False) (Ret σ (Bo true)) := by
  have := c_eqTermS (base := base) ps ps σ s s'
  rwa [eqB_self] at this
end Go.Proofs.YthbodgnoadlbcaaGreatDoor.Asl

/- The law FnExactTermsAlike. -/
namespace Go.Proofs.YthbodgnoadlbcaaGreatDoor.Asl
open Go.RowKit Go.Proofs.YthbodgnoadlbcaaGreatDoorW.PrintLast
set_option linter.unusedVariables false
set_option linter.unusedSimpArgs false
attribute [local irreducible] WP WL andThen inBlock noGoto atEnd ACall DA DL PO Hold nodeOk Tm.shape Tm.ok graphO alkO
set_option maxHeartbeats 4000000
set_option synthInstance.maxHeartbeats 400000
set_option synthInstance.maxSize 10000
section
variable {base : Nat}
theorem c_toTermSL3 {ds : List Tm} {s : AV} {σ₀ : Store} (hs : RTs σ₀ s ds) (σ : Store) [g : LeS σ₀ σ] : ACall Tryz.prog base F_laws_toTermS [s] σ (fun _ => False) (RetTmsD σ ds) :=
  have := hs.les g
  c_toTermSD_of (fun p _ => c_toTermD p) σ s
theorem c_FnExactTermsAlike (t : Tm) (hct : Tm.cnts t.ps ≤ 1048576) (u : Tm) (hcu : Tm.cnts u.ps ≤ 1048576) (ds : List Tm) (hcd : Tm.cnts ds ≤ 1048576) (σ : Store) (s s' d : AV) [hs : RTs σ s t.ps] [hs' : RTs σ s' u.ps] [hd : RTs σ d ds] : ACall Tryz.prog base F_laws_FnExactTermsAlike [.agg [I t.op, I t.n, s], .agg [I u.op, I u.n, s'], d] σ (fun _ => False) (Ret σ (Bo true)) := by
  have := hs.one
  have := hs'.one
  have := hd.one
  obtain ⟨o, ho⟩ : ∃ o, alkO ds t u = o := ⟨_, rfl⟩
  refine acall3 fun_laws_FnExactTermsAlike rfl tmps_laws_FnExactTermsAlike rfl fun N B w₀ ρ₀ => ?_
  repeat' (first
    | (refine wc_callI rfl inferInstance rfl (c_szTerm t _ _ _) rfl ?_; intro _ _ _)
    | (refine wc_callI rfl inferInstance rfl (c_szTerm u _ _ _) rfl ?_; intro _ _ _)
    | (refine wc_callI rfl inferInstance rfl (c_szTermS ds _ _ _) rfl ?_; intro _ _ _)
    | refine wc_holdR 11 ?_
    | refine wp_seqA ?_
    | refine wp_region_seq ?_
    | refine thru_seq_next ?_
    | refine thru_seq_ret ?_
    | refine wp_skipA ?_
    | refine wp_retA ?_
    | refine wl_nil ?_
    | refine wl_pop rfl (po_move rfl) ?_
    | refine wl_pop rfl (po_assign rfl) ?_
    | refine wl_pop rfl (po_binOp rfl rfl rfl) ?_
    | refine wc_loadn rfl inferInstance (at_has (cs := [_, _, _]) (.inl rfl) rfl rfl) rfl ?_
    | (refine wc_boxA rfl inferInstance rfl ?_; intro _ _ _ _ _)
    | refine wp_condP rfl (fun _ => ?_) (fun _ => ?_)
    | refine at_ret (res1 rfl rfl) ?_
    | exact ret_ inferInstance rfl
    | fail)
  rename_i i1 σ1 g1 n1 h1 i2 σ2 g2 n2 h2 z1 σ3 g3 hz1 z2 σ4 g4 hz2 z3 σ5 g5 hz3
  have l5 : LeS σ σ5 := inferInstance
  have h15 : Has σ5 i1 ⟨.own, 1, [I t.op, I t.n, s], []⟩ := inferInstance
  have h25 : Has σ5 i2 ⟨.own, 1, [I u.op, I u.n, s'], []⟩ := inferInstance
  refine hold_go ?_
  refine wc_drawn [] mixed_ rfl ?_
  all_goals refine da_takeC 0 rfl rfl (by kernel_rfl) (by first | exact pc_loadnL rfl inferInstance (at_has (cs := [_, _, _]) (.inl rfl) rfl rfl) inferInstance | fail) ?_
  all_goals refine da_takeC 2 rfl rfl (by kernel_rfl) (by first | exact pc_loadnL rfl inferInstance (at_has (cs := [_, _, _]) (.inl rfl) rfl rfl) inferInstance | fail) ?_
  all_goals refine da_takeC 4 rfl rfl (by kernel_rfl) (by first | exact po_move rfl | fail) ?_
  all_goals (first | (refine da_one 1 rfl (by kernel_rfl) (fun _ _ _ _ => ?_); (repeat' (first | (refine wc_callTD rfl inferInstance rfl (c_toTermL hs _) rfl ?_; intro _ _ _ _ _) | fail)); all_goals (first | refine wl_nil ⟨rfl, (by first | exact LeS.len inferInstance | exact App.len (by assumption)), ?_⟩ | trace_state)))
  all_goals (first | (refine da_one 3 rfl (by kernel_rfl) (fun _ _ _ _ => ?_); (repeat' (first | (refine wc_callTD rfl inferInstance rfl (c_toTermL hs' _) rfl ?_; intro _ _ _ _ _) | fail)); all_goals (first | refine wl_nil ⟨rfl, (by first | exact LeS.len inferInstance | exact App.len (by assumption)), ?_⟩ | trace_state)))
  all_goals (first | (refine da_one 5 rfl (by kernel_rfl) (fun _ _ _ _ => ?_); (repeat' (first | (refine wc_callTsD rfl inferInstance rfl (c_toTermSL3 hd _) rfl ?_; intro _ _ _ _ _) | fail)); all_goals (first | refine wl_nil ⟨rfl, (by first | exact LeS.len inferInstance | exact App.len (by assumption)), ?_⟩ | trace_state)))
  all_goals (first | (refine da_one 6 rfl (by kernel_rfl) (fun _ _ _ _ => ?_); (repeat' (first | (refine wc_callR rfl inferInstance rfl (ho ▸ c_sTermsAlike t u ds _ _ _ _) rfl ?_; intro _ _) | fail)); all_goals (first | refine wl_nil ⟨rfl, (by first | exact LeS.len inferInstance | exact App.len (by assumption)), ?_⟩ | trace_state)))
  all_goals refine da_takeC 7 rfl rfl (by kernel_rfl) (by first | exact po_move rfl | fail) ?_
  all_goals refine da_takeC 8 rfl rfl (by kernel_rfl) (by first | exact po_extract rfl rfl | fail) ?_
  all_goals refine da_takeC 9 rfl rfl (by kernel_rfl) (by first | exact po_extract rfl rfl | fail) ?_
  all_goals refine da_takeC 10 rfl rfl (by kernel_rfl) (by first | exact po_assign rfl | fail) ?_
  all_goals refine da_takeC 11 rfl rfl (by kernel_rfl) (by first | exact po_assign rfl | fail) ?_
  all_goals refine da_done (by kernel_rfl) ?_
  repeat' (first
    | refine wc_holdR 12 ?_
    | refine wp_seqA ?_
    | refine thru_seq_next ?_
    | fail)
  rename_i σ11 g11
  have h111 : Has σ11 i1 ⟨.own, 1, [I t.op, I t.n, s], []⟩ := inferInstance
  have h211 : Has σ11 i2 ⟨.own, 1, [I u.op, I u.n, s'], []⟩ := inferInstance
  have l11 : LeS σ σ11 := inferInstance
  refine hold_go ?_
  repeat' (first
    | (refine wc_callTD rfl inferInstance rfl (c_toTermL hs _) rfl ?_; intro _ _ _ _ _)
    | (refine wc_callTD rfl inferInstance rfl (c_toTermL hs' _) rfl ?_; intro _ _ _ _ _)
    | (refine wc_callTsD rfl inferInstance rfl (c_toTermSL3 hd _) rfl ?_; intro _ _ _ _ _)
    | (refine wc_callR rfl inferInstance rfl (ho ▸ c_TermsAlike t u ds _ _ _ _) rfl ?_; intro _ _)
    | refine wc_holdR 18 ?_
    | refine wp_seqA ?_
    | refine wp_region_seq ?_
    | refine thru_seq_next ?_
    | refine wp_skipA ?_
    | refine wl_nil ?_
    | refine wl_pop rfl (po_move rfl) ?_
    | refine wl_pop rfl (po_assign rfl) ?_
    | refine wl_pop rfl (pc_boolNeSelf rfl rfl inferInstance) ?_
    | refine wc_loadn rfl inferInstance (at_has (cs := [_, _, _]) (.inl rfl) rfl rfl) rfl ?_
    | (refine wc_storeA rfl rfl inferInstance inferInstance rfl inferInstance (Nat.le_of_ble_eq_true rfl) (.inr (may_new _)) ?_; intro _ _)
    | refine wl_pop rfl (po_extract rfl rfl) ?_
    | (refine wc_allocA (cs := [_, _, _]) inferInstance rfl inferInstance rfl ?_; intro _ _ _ _ _)
    | refine wl_pop rfl (po_pick rfl rfl) ?_
    | refine wc_guardT_false rfl rfl rfl ?_
    | refine wp_condF rfl ?_
    | fail)
  refine hold_go ?_
  refine wc_drawn [] mixed_ rfl ?_
  all_goals refine da_takeC 0 rfl rfl (by kernel_rfl) (by first | exact pc_loadnL rfl inferInstance (at_has (cs := [_, _, _]) (.inl rfl) rfl rfl) inferInstance | fail) ?_
  all_goals refine da_takeC 1 rfl rfl (by kernel_rfl) (by first | exact pc_loadnL rfl inferInstance (at_has (cs := [_, _, _]) (.inl rfl) rfl rfl) inferInstance | fail) ?_
  all_goals (first | (refine da_one 2 rfl (by kernel_rfl) (fun _ _ _ _ => ?_); (repeat' (first | (refine wc_callTD rfl inferInstance rfl (c_toTermL hs _) rfl ?_; intro _ _ _ _ _) | fail)); all_goals (first | refine wl_nil ⟨rfl, (by first | exact LeS.len inferInstance | exact App.len (by assumption)), ?_⟩ | trace_state)))
  all_goals (first | (refine da_one 3 rfl (by kernel_rfl) (fun _ _ _ _ => ?_); (repeat' (first | (refine wc_callR rfl inferInstance rfl (c_eqTerm_self t _ _ _) rfl ?_; intro _ _) | fail)); all_goals (first | refine wl_nil ⟨rfl, (by first | exact LeS.len inferInstance | exact App.len (by assumption)), ?_⟩ | trace_state)))
  all_goals refine da_takeC 4 rfl rfl (by kernel_rfl) (by first | exact po_not rfl | fail) ?_
  all_goals refine da_done (by kernel_rfl) ?_
  repeat' (first
    | refine wc_holdR 20 ?_
    | refine wp_seqA ?_
    | refine thru_seq_next ?_
    | refine wp_skipA ?_
    | refine wp_condF rfl ?_
    | fail)
  refine hold_go ?_
  refine wc_drawn [] mixed_ rfl ?_
  all_goals refine da_takeC 0 rfl rfl (by kernel_rfl) (by first | exact pc_loadnL rfl inferInstance (at_has (cs := [_, _, _]) (.inl rfl) rfl rfl) inferInstance | fail) ?_
  all_goals refine da_takeC 1 rfl rfl (by kernel_rfl) (by first | exact pc_loadnL rfl inferInstance (at_has (cs := [_, _, _]) (.inl rfl) rfl rfl) inferInstance | fail) ?_
  all_goals (first | (refine da_one 2 rfl (by kernel_rfl) (fun _ _ _ _ => ?_); (repeat' (first | (refine wc_callTD rfl inferInstance rfl (c_toTermL hs' _) rfl ?_; intro _ _ _ _ _) | fail)); all_goals (first | refine wl_nil ⟨rfl, (by first | exact LeS.len inferInstance | exact App.len (by assumption)), ?_⟩ | trace_state)))
  all_goals (first | (refine da_one 3 rfl (by kernel_rfl) (fun _ _ _ _ => ?_); (repeat' (first | (refine wc_callR rfl inferInstance rfl (c_eqTerm_self u _ _ _) rfl ?_; intro _ _) | fail)); all_goals (first | refine wl_nil ⟨rfl, (by first | exact LeS.len inferInstance | exact App.len (by assumption)), ?_⟩ | trace_state)))
  all_goals refine da_takeC 4 rfl rfl (by kernel_rfl) (by first | exact po_not rfl | fail) ?_
  all_goals refine da_done (by kernel_rfl) ?_
  repeat' (first
    | (refine wc_callTsD rfl inferInstance rfl (c_toTermSL3 hd _) rfl ?_; intro _ _ _ _ _)
    | (refine wc_callR rfl inferInstance rfl (c_eqTermS_self ds _ _ _) rfl ?_; intro _ _)
    | refine wp_seqA ?_
    | refine wp_region_seq ?_
    | refine thru_seq_next ?_
    | refine wp_skipA ?_
    | refine wp_retA ?_
    | refine wl_nil ?_
    | refine wl_pop rfl (po_move rfl) ?_
    | refine wl_pop rfl (po_assign rfl) ?_
    | refine wl_pop rfl (po_not rfl) ?_
    | refine wp_condF rfl ?_
    | refine at_ret (res1 rfl rfl) ?_
    | exact ret_ inferInstance rfl
    | fail)

end
end Go.Proofs.YthbodgnoadlbcaaGreatDoor.Asl
