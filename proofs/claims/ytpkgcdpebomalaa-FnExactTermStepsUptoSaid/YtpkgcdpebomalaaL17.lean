/- The law FnExactTermSteps. -/
import Derived.Test.YtpkgcdpebomalaaT30
import Derived.Test.YtpkgcdpebomalaaL2
namespace Go.Proofs.Ytpkgcdpebomalaa.Asl
open Go.RowKit Go.Proofs.YtpkgcdpebomalaaW.PrintLast
set_option linter.unusedVariables false
set_option linter.unusedSimpArgs false
attribute [local irreducible] WP WL andThen inBlock noGoto atEnd ACall DA DL PO Hold nodeOk Tm.shape Tm.ok SDk
set_option maxHeartbeats 4000000
set_option synthInstance.maxHeartbeats 400000
set_option synthInstance.maxSize 10000
theorem askO_bound (t : Tm) (ds : List Tm) : ((t.askO ds).getD []).length ≤ 331776 ∧ SW ((t.askO ds).getD []) ≤ 400000000 := by
  unfold Tm.askO
  split
  · rename_i h
    simp only [Bool.and_eq_true] at h
    obtain ⟨a1, a2, a3⟩ := fits_get h.2
    have h1 := Tm.steps_len h.1 a3
    have h2 := Tm.steps_ok h.1 a1 a2 a3
    have h3 := SW_bound (c := 576) fun y hy => (h2 y hy).2.2.2
    refine ⟨h1, ?_⟩
    simp only [Option.getD_some]
    have := Nat.mul_le_mul_right (3 + 2 * 576) h1
    omega
  · simp [SW]
section
variable {base : Nat}
theorem c_toTermSL {ds : List Tm} {s : AV} {σ₀ : Store} (hs : RTs σ₀ s ds) (σ : Store) [g : LeS σ₀ σ] : ACall Try.prog base F_laws_toTermS [s] σ (fun _ => False) (RetTmsD σ ds) :=
  have := hs.les g
  c_toTermSD_of (fun p _ => c_toTermD p) σ s
theorem c_FnExactTermSteps (t : Tm) (hct : Tm.cnts t.ps ≤ 1048576) (ds : List Tm) (hcd : Tm.cnts ds ≤ 1048576) (σ : Store) (s d : AV) [hs : RTs σ s t.ps] [hd : RTs σ d ds] : ACall Try.prog base F_laws_FnExactTermSteps [.agg [I t.op, I t.n, s], d] σ (fun _ => False) (Ret σ (Bo true)) := by
  have := hs.one
  have := hd.one
  have hbd := askO_bound t ds
  obtain ⟨o, ho⟩ : ∃ o, t.askO ds = o := ⟨_, rfl⟩
  rw [ho] at hbd
  obtain ⟨hb1, hb2⟩ := hbd
  refine acall2 fun_laws_FnExactTermSteps rfl tmps_laws_FnExactTermSteps rfl fun N B w₀ ρ₀ => ?_
  repeat' (first
    | (refine wc_callI rfl inferInstance rfl (c_szTerm t _ _ _) rfl ?_; intro _ _ _)
    | (refine wc_callI rfl inferInstance rfl (c_szTermS ds _ _ _) rfl ?_; intro _ _ _)
    | refine wc_holdR 8 ?_
    | refine wp_seqA ?_
    | refine wp_region_seq ?_
    | refine thru_seq_next ?_
    | refine thru_seq_ret ?_
    | refine wp_skipA ?_
    | refine wp_retA ?_
    | refine wl_nil ?_
    | refine wl_pop rfl (po_move rfl) ?_
    | refine wl_pop rfl (po_assign rfl) ?_
    | refine wl_pop rfl (po_binOp rfl rfl rfl) ?_
    | refine wc_loadn rfl inferInstance (at_has (cs := [_, _, _]) (.inl rfl) rfl rfl) rfl ?_
    | (refine wc_boxA rfl inferInstance rfl ?_; intro _ _ _ _ _)
    | refine wp_condP rfl (fun _ => ?_) (fun _ => ?_)
    | refine at_ret (res1 rfl rfl) ?_
    | exact ret_ inferInstance rfl
    | fail)
  rename_i i1 σ1 g1 n1 h1 z σ2 g2 hz z2 σ3 g3 hz2
  refine hold_go ?_
  repeat' (first
    | refine wc_holdR 9 ?_
    | (refine wc_callTD rfl inferInstance rfl (c_toTermL hs _) rfl ?_; intro _ _ _ _ _)
    | (refine wc_callTsD rfl inferInstance rfl (c_toTermSL hd _) rfl ?_; intro _ _ _ _ _)
    | (refine wc_callSO rfl inferInstance rfl (ho ▸ c_sTermSteps t ds _ _ _) rfl ?_; intro _ _ _ _ _ _ _)
    | refine wp_seqA ?_
    | refine wp_region_seq ?_
    | refine thru_seq_next ?_
    | refine wl_nil ?_
    | refine wl_pop rfl (po_move rfl) ?_
    | refine wl_pop rfl (po_assign rfl) ?_
    | refine wc_loadn rfl inferInstance (at_has (cs := [_, _, _]) (.inl rfl) rfl rfl) rfl ?_
    | refine wl_pop rfl (po_extract rfl rfl) ?_
    | fail)
  rename_i sa σ4 oa ra g4 da σ5 ob rb g5 uw xw σ6 ow oww srw g6
  have srw6 : SR (fun _ => True) σ6 xw (o.getD []) := inferInstance
  have ruw6 : RW σ6 uw xw := inferInstance
  have l6 : LeS σ1 σ6 := inferInstance
  clear oww srw
  refine hold_go ?_
  repeat' (first
    | refine wc_holdR 11 ?_
    | (refine wc_callTD rfl inferInstance rfl (c_toTermL hs _) rfl ?_; intro _ _ _ _ _)
    | (refine wc_callTsD rfl inferInstance rfl (c_toTermSL hd _) rfl ?_; intro _ _ _ _ _)
    | refine wp_seqA ?_
    | refine wp_region_seq ?_
    | refine thru_seq_next ?_
    | refine wl_nil ?_
    | refine wl_pop rfl (po_move rfl) ?_
    | refine wl_pop rfl (po_assign rfl) ?_
    | refine wc_loadn rfl inferInstance (at_has (cs := [_, _, _]) (.inl rfl) rfl rfl) rfl ?_
    | (refine wc_storeA rfl rfl inferInstance inferInstance rfl inferInstance (Nat.le_of_ble_eq_true rfl) (.inr (may_new _)) ?_; intro _ _)
    | (refine wc_allocA (cs := [_, _, _]) inferInstance rfl inferInstance rfl ?_; intro _ _ _ _ _)
    | fail)
  rename_i sx σ7 o7 r7 g7 ix σ8 g8 n8 h8 σ9 u9 dx σ10 o10 r10 g10
  have hx0 := r7.rep.lt
  have hy0 := r10.rep.lt
  refine hold_go ?_
  repeat' (first
    | refine wc_holdR 12 ?_
    | (refine wc_callSO rfl inferInstance rfl (ho ▸ c_TermSteps t ds _ _ _) rfl ?_; intro _ _ _ _ _ _ _)
    | refine wp_seqA ?_
    | refine wp_region_seq ?_
    | refine thru_seq_next ?_
    | refine wl_nil ?_
    | refine wl_pop rfl (po_move rfl) ?_
    | refine wl_pop rfl (po_assign rfl) ?_
    | refine wc_loadn rfl inferInstance (at_has (cs := [_, _, _]) (.inl rfl) rfl rfl) rfl ?_
    | refine wl_pop rfl (po_extract rfl rfl) ?_
    | fail)
  rename_i ug xg σ11 o11 ow11 sr11 g11
  have hg0 := SDk.of ow11 sr11
  refine hold_go ?_
  repeat' (first
    | (refine wc_callR rfl inferInstance rfl (c_eqStepS _ _ _ _ _ _) rfl ?_; intro _ _)
    | refine wc_holdR 14 ?_
    | refine wp_seqA ?_
    | refine wp_region_seq ?_
    | refine thru_seq_next ?_
    | refine wp_skipA ?_
    | refine wl_nil ?_
    | refine wl_pop rfl (po_move rfl) ?_
    | refine wl_pop rfl (pc_boolNeSelf rfl rfl inferInstance) ?_
    | refine wl_pop rfl (po_not rfl) ?_
    | refine wl_pop rfl (po_pick rfl rfl) ?_
    | refine wc_guardT_false rfl rfl rfl ?_
    | refine wp_condF rfl ?_
    | fail)
  rename_i σ12 g12
  refine hold_go ?_
  refine wc_drawn [] mixed_ rfl ?_
  all_goals refine da_takeC 0 rfl rfl (by kernel_rfl) (by first | exact pc_loadnL rfl inferInstance (at_has (cs := [_, _, _]) (.inl rfl) rfl rfl) inferInstance | fail) ?_
  all_goals refine da_takeC 1 rfl rfl (by kernel_rfl) (by first | exact pc_loadnL rfl inferInstance (at_has (cs := [_, _, _]) (.inl rfl) rfl rfl) inferInstance | fail) ?_
  all_goals (first | (refine da_one 2 rfl (by kernel_rfl) (fun _ _ _ _ => ?_); (repeat' (first | (refine wc_callTD rfl inferInstance rfl (c_toTermL hs _) rfl ?_; intro _ _ _ _ _) | fail)); all_goals (first | refine wl_nil ⟨rfl, (by first | exact LeS.len inferInstance | exact App.len (by assumption)), ?_⟩ | trace_state)))
  all_goals (first | (refine da_one 3 rfl (by kernel_rfl) (fun _ _ _ _ => ?_); (repeat' (first | (refine wc_callR rfl inferInstance rfl (c_eqTerm_self t _ _ _) rfl ?_; intro _ _) | fail)); all_goals (first | refine wl_nil ⟨rfl, (by first | exact LeS.len inferInstance | exact App.len (by assumption)), ?_⟩ | trace_state)))
  all_goals refine da_takeC 4 rfl rfl (by kernel_rfl) (by first | exact po_not rfl | fail) ?_
  all_goals refine da_done (by kernel_rfl) ?_
  repeat' (first
    | (refine wc_callTsD rfl inferInstance rfl (c_toTermSL hd _) rfl ?_; intro _ _ _ _ _)
    | (refine wc_callR rfl inferInstance rfl (c_eqTermS_self ds _ _ _) rfl ?_; intro _ _)
    | refine wp_seqA ?_
    | refine wp_region_seq ?_
    | refine thru_seq_next ?_
    | refine wp_skipA ?_
    | refine wl_nil ?_
    | refine wl_pop rfl (po_move rfl) ?_
    | refine wl_pop rfl (po_assign rfl) ?_
    | refine wc_loadn rfl inferInstance (at_has (cs := [_, _, _]) (.inl rfl) rfl rfl) rfl ?_
    | refine wl_pop rfl (po_not rfl) ?_
    | refine wp_condF rfl ?_
    | fail)
  rename_i sy σ13 o13 r13 g13 _ _ _ _ σ14 g14 dy σ15 o15 r15 g15 σ16 g16
  have l616 : LeS σ7 σ16 := inferInstance
  have l1016 : LeS σ10 σ16 := inferInstance
  have l1116 : LeS σ11 σ16 := inferInstance
  have y0 : σ.length ≤ σ6.length := (inferInstance : LeS σ σ6).len
  have y1 : σ7.length ≤ σ9.length := (inferInstance : LeS σ7 σ9).len
  have y2 : σ.length ≤ σ9.length := (inferInstance : LeS σ σ9).len
  have y3 : σ.length ≤ σ10.length := (inferInstance : LeS σ σ10).len
  have hownx : ∀ i, ((σ6.length ≤ i ∧ i < σ7.length) ∧ ∃ l, Has σ16 i ⟨.own, 3, l, []⟩) → ∃ l, Has σ16 i ⟨.own, 3, l, []⟩ := fun i hi => hi.2
  have hrepx := (hx0.mono (fun i o _ ho => l616.keep i o ho) (fun _ h => h)).own
  refine wc_callMk σ6 σ7 rfl inferInstance rfl (c_markTerm t _ sx 1 σ16 hownx hrepx (by omega) (by omega)) (fun j hj => hj.1) hownx (fun i hi => .inr (Nat.le_trans y0 hi.1.1)) rfl ?_
  intro σ17 m17 _
  have hy17 := (hy0.mono (fun i o hi ho => m17.keep i o (.inr (by omega)) (l1016.keep i o ho)) (fun _ h => h)).own
  have hg17 : SDk σ17 (fun i => σ10.length ≤ i ∧ i < σ11.length) ug (o.getD []) := hg0.mono (fun i o hi ho => m17.keep i o (.inr (by have := g10.len; omega)) (l1116.keep i o ho))
  repeat' (first
    | refine wp_seqA ?_
    | refine wp_region_seq ?_
    | refine thru_seq_next ?_
    | refine wl_nil ?_
    | refine wl_pop rfl (po_move rfl) ?_
    | refine wl_pop rfl (po_assign rfl) ?_
    | fail)
  have hown17 : ∀ i, ((σ9.length ≤ i ∧ i < σ10.length) ∧ ∃ l, Has σ17 i ⟨.own, 3, l, []⟩) → ∃ l, Has σ17 i ⟨.own, 3, l, []⟩ := fun i hi => hi.2
  refine wc_callMk σ9 σ10 rfl inferInstance rfl (c_markTermS_all (.node 0 0 ds) _ dx (1 + 2 * (Tm.cnts t.ps : Int)) σ17 hown17 hy17 (by omega) (by show 1 + 2 * (Tm.cnts t.ps : Int) + 2 * (Tm.cnts ds : Int) ≤ 1000000000000; omega)) (fun j hj => hj.1) hown17 (fun i hi => .inr (Nat.le_trans y2 hi.1.1)) rfl ?_
  intro σ18 m18 _
  have hg18 : SDk σ18 (fun i => σ10.length ≤ i ∧ i < σ11.length) ug (o.getD []) := hg17.mono (fun i o hi ho => m18.keep i o (.inr (by omega)) ho)
  obtain ⟨xg18, rg18, sg18⟩ := hg18.rw (by omega)
  have l618 : LeS σ6 σ18 := inferInstance
  have l610 : LeS σ6 σ10 := inferInstance
  have l010 : LeS σ σ10 := inferInstance
  have h110 : Has σ10 i1 ⟨.own, 1, [I t.op, I t.n, s], []⟩ := inferInstance
  have sw18 := srw6.les l618
  have rw18 := ruw6.les l618
  have hone : One ug := rg18.one
  have l18 : LeS σ σ18 := inferInstance
  have h118 : Has σ18 i1 ⟨.own, 1, [I t.op, I t.n, s], []⟩ := inferInstance
  clear m17 m18 hg17 hy17 hown17 hrepx hownx hx0 hy0 hg0 sr11 ow11 r7 r10 r13 r15 u9 h8
  repeat' (first
    | (refine wc_callR rfl inferInstance rfl (c_eqStepS _ _ _ _ _ _) rfl ?_; intro _ _)
    | refine wc_holdR 23 ?_
    | refine wp_seqA ?_
    | refine wp_region_seq ?_
    | refine thru_seq_next ?_
    | refine wp_skipA ?_
    | refine wl_nil ?_
    | refine wl_pop rfl (po_move rfl) ?_
    | refine wl_pop rfl (po_assign rfl) ?_
    | refine wl_pop rfl (po_binOp rfl rfl rfl) ?_
    | refine wl_pop rfl (pc_boolNeSelf rfl rfl inferInstance) ?_
    | refine wl_pop rfl (po_not rfl) ?_
    | refine wl_pop rfl (po_pick rfl rfl) ?_
    | refine wc_guardT_false rfl rfl rfl ?_
    | refine wp_condF rfl ?_
    | fail)
  rename_i σ19 g19
  refine hold_go ?_
  repeat' (first
    | refine wp_seqA ?_
    | refine wp_region_seq ?_
    | refine thru_seq_next ?_
    | refine wl_nil ?_
    | refine wl_pop rfl (po_move rfl) ?_
    | refine wl_pop rfl (po_assign rfl) ?_
    | fail)
  refine wc_callMkS σ10 σ11 rfl rfl inferInstance rfl rfl (by omega) (hg18.mono fun i o _ ho => g19.keep i o ho) (by decide) (by omega) (fun j hj => hj) (fun i hi => .inr (Nat.le_trans y3 hi.1)) rfl ?_
  intro σ20 m20 hm20
  obtain ⟨xg20, rg20, sg20⟩ := hm20.rw (by rw [mks_len]; omega)
  have l620 : LeS σ6 σ20 := inferInstance
  have l020 : LeS σ σ20 := inferInstance
  have sw20 := srw6.les l620
  have rw20 := ruw6.les l620
  have h120 : Has σ20 i1 ⟨.own, 1, [I t.op, I t.n, s], []⟩ := inferInstance
  have hone2 : One ug := rg20.one
  clear sw18 rw18 rg18 sg18 hg18 m20 hm20 h118 l618 srw6 ruw6
  repeat' (first
    | (refine wc_callR rfl inferInstance rfl (c_heldStepS (o.getD []) 1 _ _ _ (by decide) (by omega)) rfl ?_; intro _ _)
    | (refine wc_callTD rfl inferInstance rfl (c_toTermL hs _) rfl ?_; intro _ _ _ _ _)
    | (refine wc_callTsD rfl inferInstance rfl (c_toTermSL hd _) rfl ?_; intro _ _ _ _ _)
    | (refine wc_callSO rfl inferInstance rfl (ho ▸ c_TermSteps t ds _ _ _) rfl ?_; intro _ _ _ _ _ _ _)
    | (refine wc_callR rfl inferInstance rfl (c_eqStepS _ _ _ _ _ _) rfl ?_; intro _ _)
    | refine wp_seqA ?_
    | refine wp_region_seq ?_
    | refine thru_seq_next ?_
    | refine thru_seq_ret ?_
    | refine wp_skipA ?_
    | refine wp_retA ?_
    | refine wl_nil ?_
    | refine wl_pop rfl (po_move rfl) ?_
    | refine wl_pop rfl (po_assign rfl) ?_
    | refine wl_pop rfl (po_binOp rfl rfl rfl) ?_
    | refine wl_pop rfl (pc_boolNeSelf rfl rfl inferInstance) ?_
    | refine wc_loadn rfl inferInstance (at_has (cs := [_, _, _]) (.inl rfl) rfl rfl) rfl ?_
    | refine wl_pop rfl (po_not rfl) ?_
    | refine wl_pop rfl (po_extract rfl rfl) ?_
    | refine wl_pop rfl (po_pick rfl rfl) ?_
    | refine wc_guardT_false rfl rfl rfl ?_
    | refine wp_condF rfl ?_
    | refine wp_condNP rfl (fun _ => ?_) (fun _ => ?_)
    | refine at_ret (res1 rfl rfl) ?_
    | exact ret_ inferInstance rfl
    | fail)
  all_goals first
    | (exfalso; omega)
    | exact ret_ inferInstance rfl
end
end Go.Proofs.Ytpkgcdpebomalaa.Asl
