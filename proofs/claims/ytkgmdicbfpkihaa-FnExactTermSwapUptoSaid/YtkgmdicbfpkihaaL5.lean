/- The law FnExactTermSwap: a walk. -/
import Derived.Test.YtkgmdicbfpkihaaT21
namespace Go.Proofs.Ytkgmdicbfpkihaa.Asl
open Go.RowKit
set_option linter.unusedVariables false
attribute [local irreducible] WP WL andThen inBlock noGoto atEnd ACall DA DL PO Hold actB inB nodeOk Tm.shape Tm.ok Tm.swO
set_option maxHeartbeats 4000000

mutual
theorem Tm.sw_cnt (a b : Int) : ∀ t : Tm, (t.sw a b).cnt = t.cnt
  | .node op n ps => by simp only [Tm.sw, Tm.cnt]; rw [Tm.sws_cnt a b ps]
theorem Tm.sws_cnt (a b : Int) : ∀ ps : List Tm, Tm.cnts (Tm.sws a b ps) = Tm.cnts ps
  | [] => rfl
  | p :: ps => by simp only [Tm.sws, Tm.cnts]; rw [Tm.sw_cnt a b p, Tm.sws_cnt a b ps]
end
theorem Tm.cnt_ps (t : Tm) : t.cnt = 1 + Tm.cnts t.ps := by cases t; rfl
theorem Tm.swO_cnt (t : Tm) (a b : Int) : Tm.cnts (tmO (t.swO a b)).ps ≤ Tm.cnts t.ps := by
  have h : t.swO a b = some (t.sw a b) ∨ t.swO a b = none := by unfold Tm.swO; split <;> simp
  rcases h with h | h
  · rw [h]
    have h1 := Tm.sw_cnt a b t
    rw [Tm.cnt_ps, Tm.cnt_ps t] at h1
    exact Nat.le_of_eq (by have : tmO (some (t.sw a b)) = t.sw a b := rfl
                           rw [this]; omega)
  · rw [h]; exact Nat.zero_le _

theorem c_FnExactTermSwap {base : Nat} (t : Tm) (hct : Tm.cnts t.ps ≤ 1048576) (a b : Int) (σ : Store) (s : AV) [hs : RTs σ s t.ps] : ACall Try.prog base F_laws_FnExactTermSwap [.agg [I t.op, I t.n, s], I a, I b] σ (fun _ => False) (Ret σ (Bo true)) := by
  have := hs.one
  have hcu := Tm.swO_cnt t a b
  generalize hou : t.swO a b = ou at hcu
  refine acall3 fun_laws_FnExactTermSwap rfl tmps_laws_FnExactTermSwap rfl fun N B w₀ ρ₀ => ?_
  repeat' (first
    | (refine wc_callI rfl inferInstance rfl (c_szTerm t _ _ _) rfl ?_; intro _ _ _)
    | refine wc_holdR 5 ?_
    | refine wp_seqA ?_
    | refine wp_region_seq ?_
    | refine thru_seq_next ?_
    | refine thru_seq_ret ?_
    | refine wp_skipA ?_
    | refine wp_retA ?_
    | refine wl_nil ?_
    | refine wl_pop rfl (po_move rfl) ?_
    | refine wl_pop rfl (po_assign rfl) ?_
    | refine wl_pop rfl (po_binOp rfl rfl rfl) ?_
    | refine wc_loadn rfl inferInstance (at_has (cs := [_, _, _]) (.inl rfl) rfl rfl) rfl ?_
    | (refine wc_boxA rfl inferInstance rfl ?_; intro _ _ _ _ _)
    | refine wp_condP rfl (fun _ => ?_) (fun _ => ?_)
    | refine at_ret (res1 rfl rfl) ?_
    | exact ret_ inferInstance rfl
    | fail)
  rename_i i1 σ1 g1 n1 h1 z σ2 g2 hz
  refine hold_go ?_
  repeat' (first
    | refine wc_holdR 6 ?_
    | (refine wc_callTD rfl inferInstance rfl (c_toTermL hs _) rfl ?_; intro _ _ _ _ _)
    | (refine wc_callTO rfl inferInstance rfl (hou ▸ c_sTermSwap t a b _ _) rfl ?_; intro _ _ _ _ _)
    | refine wp_seqA ?_
    | refine wp_region_seq ?_
    | refine thru_seq_next ?_
    | refine wl_nil ?_
    | refine wl_pop rfl (po_move rfl) ?_
    | refine wl_pop rfl (po_assign rfl) ?_
    | refine wc_loadn rfl inferInstance (at_has (cs := [_, _, _]) (.inl rfl) rfl rfl) rfl ?_
    | (refine wc_storeA rfl rfl inferInstance inferInstance rfl inferInstance (Nat.le_of_ble_eq_true rfl) (.inr (may_new _)) ?_; intro _ _)
    | refine wl_pop rfl (po_extract rfl rfl) ?_
    | (refine wc_allocA (cs := [_, _, _]) inferInstance rfl inferInstance rfl ?_; intro _ _ _ _ _)
    | fail)
  rename_i s3 σ3 o3 r3 g3 u4 σ4 p4 r4 g4 i5 σ5 g5 n5 h5 σ6 v6
  have h6 : Has σ6 i5 ⟨.own, 1, [I (tmO ou).op, I (tmO ou).n, u4], []⟩ := (instHasUpd (g := v6) : Has σ6 i5 ⟨.own, 1, splice [I 0, I 0, nilS] 0 [I (tmO ou).op, I (tmO ou).n, u4], []⟩)
  have r6 : RTs σ6 u4 (tmO ou).ps := inferInstance
  have l6 : LeS σ1 σ6 := inferInstance
  clear h5 v6
  have := l6.grow
  refine hold_go ?_
  repeat' (first
    | refine wc_holdR 7 ?_
    | (refine wc_callTD rfl inferInstance rfl (c_toTermL hs _) rfl ?_; intro _ _ _ _ _)
    | refine wp_seqA ?_
    | refine wp_region_seq ?_
    | refine thru_seq_next ?_
    | refine wl_nil ?_
    | refine wc_loadn rfl inferInstance (at_has (cs := [_, _, _]) (.inl rfl) rfl rfl) rfl ?_
    | (refine wc_storeA rfl rfl inferInstance inferInstance rfl inferInstance (Nat.le_of_ble_eq_true rfl) (.inr (may_new _)) ?_; intro _ _)
    | (refine wc_allocA (cs := [_, _, _]) inferInstance rfl inferInstance rfl ?_; intro _ _ _ _ _)
    | fail)
  rename_i sx σ7 o7 r7 g7 ix σ8 g8 n8 h8 σ9 u9
  have hx0 := r7.rep.lt
  refine hold_go ?_
  repeat' (first
    | refine wc_holdR 8 ?_
    | (refine wc_callTO rfl inferInstance rfl (hou ▸ c_TermSwap t a b _ _) rfl ?_; intro _ _ _ _ _)
    | refine wp_seqA ?_
    | refine wp_region_seq ?_
    | refine thru_seq_next ?_
    | refine wl_nil ?_
    | refine wl_pop rfl (po_move rfl) ?_
    | refine wl_pop rfl (po_assign rfl) ?_
    | refine wc_loadn rfl inferInstance (at_has (cs := [_, _, _]) (.inl rfl) rfl rfl) rfl ?_
    | (refine wc_storeA rfl rfl inferInstance inferInstance rfl inferInstance (Nat.le_of_ble_eq_true rfl) (.inr (may_new _)) ?_; intro _ _)
    | refine wl_pop rfl (po_extract rfl rfl) ?_
    | (refine wc_allocA (cs := [_, _, _]) inferInstance rfl inferInstance rfl ?_; intro _ _ _ _ _)
    | fail)
  rename_i sg σ10 o10 r10 g10 ig σ11 g11 n11 h11 σ12 u12
  have hg0 := r10.rep.lt
  have r12 : RTsD σ9 σ12 sg (tmO ou).ps := ⟨hg0.mono (fun i o hi ho => (inferInstance : LeS σ10 σ12).keep i o ho) (fun i hi => hi.1)⟩
  refine hold_go ?_
  repeat' (first
    | (refine wc_callR rfl inferInstance rfl (c_eqTerm_self (tmO ou) _ _ _) rfl ?_; intro _ _)
    | refine wc_holdR 10 ?_
    | refine wp_seqA ?_
    | refine wp_region_seq ?_
    | refine thru_seq_next ?_
    | refine wp_skipA ?_
    | refine wl_nil ?_
    | refine wl_pop rfl (po_move rfl) ?_
    | refine wl_pop rfl (pc_boolNeSelf rfl rfl inferInstance) ?_
    | refine wc_loadn rfl inferInstance (at_has (cs := [_, _, _]) (.inl rfl) rfl rfl) rfl ?_
    | refine wl_pop rfl (po_not rfl) ?_
    | refine wl_pop rfl (po_pick rfl rfl) ?_
    | refine wc_guardT_false rfl rfl rfl ?_
    | refine wp_condF rfl ?_
    | fail)
  rename_i σ13 g13
  refine hold_go ?_
  refine wc_drawn [] mixed_ rfl ?_
  all_goals refine da_takeC 0 rfl rfl (by kernel_rfl) (by first | exact pc_loadnL rfl inferInstance (at_has (cs := [_, _, _]) (.inl rfl) rfl rfl) inferInstance | fail) ?_
  all_goals refine da_takeC 1 rfl rfl (by kernel_rfl) (by first | exact pc_loadnL rfl inferInstance (at_has (cs := [_, _, _]) (.inl rfl) rfl rfl) inferInstance | fail) ?_
  all_goals (first | (refine da_one 2 rfl (by kernel_rfl) (fun _ _ _ _ => ?_); (repeat' (first | (refine wc_callTD rfl inferInstance rfl (c_toTermL hs _) rfl ?_; intro _ _ _ _ _) | fail)); all_goals (first | refine wl_nil ⟨rfl, (by first | exact LeS.len inferInstance | exact App.len (by assumption)), ?_⟩ | trace_state)))
  all_goals (first | (refine da_one 3 rfl (by kernel_rfl) (fun _ _ _ _ => ?_); (repeat' (first | (refine wc_callR rfl inferInstance rfl (c_eqTerm_self t _ _ _) rfl ?_; intro _ _) | fail)); all_goals (first | refine wl_nil ⟨rfl, (by first | exact LeS.len inferInstance | exact App.len (by assumption)), ?_⟩ | trace_state)))
  all_goals refine da_takeC 4 rfl rfl (by kernel_rfl) (by first | exact po_not rfl | fail) ?_
  all_goals refine da_done (by kernel_rfl) ?_
  repeat' (first
    | refine wp_seqA ?_
    | refine wp_region_seq ?_
    | refine thru_seq_next ?_
    | refine wp_skipA ?_
    | refine wl_nil ?_
    | refine wl_pop rfl (po_move rfl) ?_
    | refine wl_pop rfl (po_assign rfl) ?_
    | refine wc_loadn rfl inferInstance (at_has (cs := [_, _, _]) (.inl rfl) rfl rfl) rfl ?_
    | refine wp_condF rfl ?_
    | fail)
  rename_i sy σ14 o14 r14 g14 _ _ _ _ σ15 g15
  have hownx : ∀ i, ((σ6.length ≤ i ∧ i < σ7.length) ∧ ∃ l, Has σ15 i ⟨.own, 3, l, []⟩) → ∃ l, Has σ15 i ⟨.own, 3, l, []⟩ := fun i hi => hi.2
  have hrepx := (hx0.mono (fun i o _ ho => (inferInstance : LeS σ7 σ15).keep i o ho) (fun _ h => h)).own
  have hle6 : σ.length ≤ σ6.length := (inferInstance : LeS σ σ6).len
  have hle9 : σ.length ≤ σ9.length := (inferInstance : LeS σ σ9).len
  refine wc_callMk σ6 σ7 rfl inferInstance rfl (c_markTerm t _ sx 1 σ15 hownx hrepx (by omega) (by omega)) (fun j hj => hj.1) hownx (fun i hi => .inr (Nat.le_trans hle6 hi.1.1)) rfl ?_
  intro σ16 m16 _
  repeat' (first
    | (refine wc_callR rfl inferInstance rfl (c_eqTerm_self (tmO ou) _ _ _) rfl ?_; intro _ _)
    | refine wc_holdR 16 ?_
    | refine wp_seqA ?_
    | refine wp_region_seq ?_
    | refine thru_seq_next ?_
    | refine wp_skipA ?_
    | refine wl_nil ?_
    | refine wl_pop rfl (po_move rfl) ?_
    | refine wl_pop rfl (po_assign rfl) ?_
    | refine wl_pop rfl (po_binOp rfl rfl rfl) ?_
    | refine wl_pop rfl (pc_boolNeSelf rfl rfl inferInstance) ?_
    | refine wc_loadn rfl inferInstance (at_has (cs := [_, _, _]) (.inl rfl) rfl rfl) rfl ?_
    | refine wl_pop rfl (po_not rfl) ?_
    | refine wl_pop rfl (po_pick rfl rfl) ?_
    | refine wc_guardT_false rfl rfl rfl ?_
    | refine wp_condF rfl ?_
    | fail)
  rename_i σ17 g17
  refine hold_go ?_
  have hl13 : LeS σ10 σ15 := inferInstance
  have hk16 : ∀ (i : Nat) (o : Ob), (σ9.length ≤ i ∧ i < σ10.length) → σ10[i]? = some o → σ17[i]? = some o := fun i o hi ho =>
    g17.keep i o (m16.keep i o (.inr (by have := (inferInstance : LeS σ7 σ9).len; omega)) (hl13.keep i o ho))
  repeat' (first
    | refine wp_seqA ?_
    | refine wp_region_seq ?_
    | refine thru_seq_next ?_
    | refine wl_nil ?_
    | refine wl_pop rfl (po_move rfl) ?_
    | refine wl_pop rfl (po_assign rfl) ?_
    | refine wc_loadn rfl inferInstance (at_has (cs := [_, _, _]) (.inl rfl) rfl rfl) rfl ?_
    | fail)
  have howng : ∀ i, ((σ9.length ≤ i ∧ i < σ10.length) ∧ ∃ l, Has σ17 i ⟨.own, 3, l, []⟩) → ∃ l, Has σ17 i ⟨.own, 3, l, []⟩ := fun i hi => hi.2
  have hrepg := (hg0.mono hk16 (fun _ h => h)).own
  refine wc_callMk σ9 σ10 rfl inferInstance rfl (c_markTerm (tmO ou) _ sg 1 σ17 howng hrepg (by omega) (by omega)) (fun j hj => hj.1) howng (fun i hi => .inr (Nat.le_trans hle9 hi.1.1)) rfl ?_
  intro σ18 m18 r18
  have r18' : RTs σ18 sg (Tm.marks 1 (tmO ou).ps) := ⟨r18.rep.mono (fun _ _ _ h => h) (fun _ _ => trivial)⟩
  have hi18 : Has σ18 ig ⟨.own, 1, [I (tmO ou).op, I (tmO ou).n, sg], []⟩ := by
    have h12 : Has σ12 ig ⟨.own, 1, splice [I 0, I 0, nilS] 0 [I (tmO ou).op, I (tmO ou).n, sg], []⟩ := inferInstance
    exact (inferInstance : Has σ18 ig ⟨.own, 1, splice [I 0, I 0, nilS] 0 [I (tmO ou).op, I (tmO ou).n, sg], []⟩)
  have h18 : Has σ18 i5 ⟨.own, 1, [I (tmO ou).op, I (tmO ou).n, u4], []⟩ := inferInstance
  have q18 : RTs σ18 u4 (tmO ou).ps := ⟨r6.rep.mono (fun i o _ ho => (inferInstance : LeS σ6 σ18).keep i o ho) (fun _ _ => trivial)⟩
  have h1' : Has σ18 i1 ⟨.own, 1, [I t.op, I t.n, s], []⟩ := inferInstance
  have l18' : LeS σ σ18 := inferInstance
  clear u12 r12 r10 hg0 m16 m18 hk16 hrepg hrepx hx0 u9 r18
  repeat' (first
    | (refine wc_callR rfl inferInstance rfl (c_heldTerm (tmO ou) _ _ 1 _ _ (by decide) (by omega)) rfl ?_; intro _ _)
    | (refine wc_callTD rfl inferInstance rfl (c_toTermL hs _) rfl ?_; intro _ _ _ _ _)
    | (refine wc_callTO rfl inferInstance rfl (hou ▸ c_TermSwap t a b _ _) rfl ?_; intro _ _ _ _ _)
    | (refine wc_callR rfl inferInstance rfl (c_eqTerm_self (tmO ou) _ _ _) rfl ?_; intro _ _)
    | refine wp_seqA ?_
    | refine wp_region_seq ?_
    | refine thru_seq_next ?_
    | refine thru_seq_ret ?_
    | refine wp_skipA ?_
    | refine wp_retA ?_
    | refine wl_nil ?_
    | refine wl_pop rfl (po_move rfl) ?_
    | refine wl_pop rfl (po_assign rfl) ?_
    | refine wl_pop rfl (po_binOp rfl rfl rfl) ?_
    | refine wl_pop rfl (pc_boolNeSelf rfl rfl inferInstance) ?_
    | refine wc_loadn rfl inferInstance (at_has (cs := [_, _, _]) (.inl rfl) rfl rfl) rfl ?_
    | refine wl_pop rfl (po_not rfl) ?_
    | (refine wc_storeA rfl rfl inferInstance inferInstance rfl inferInstance (Nat.le_of_ble_eq_true rfl) (.inr (may_new _)) ?_; intro _ _)
    | refine wl_pop rfl (po_extract rfl rfl) ?_
    | (refine wc_allocA (cs := [_, _, _]) inferInstance rfl inferInstance rfl ?_; intro _ _ _ _ _)
    | refine wl_pop rfl (po_pick rfl rfl) ?_
    | refine wc_guardT_false rfl rfl rfl ?_
    | refine wp_condF rfl ?_
    | refine wp_condNP rfl (fun _ => ?_) (fun _ => ?_)
    | refine at_ret (res1 rfl rfl) ?_
    | exact ret_ inferInstance rfl
    | fail)
  all_goals first
    | (exfalso; omega)
    | exact ret_ inferInstance rfl
end Go.Proofs.Ytkgmdicbfpkihaa.Asl
