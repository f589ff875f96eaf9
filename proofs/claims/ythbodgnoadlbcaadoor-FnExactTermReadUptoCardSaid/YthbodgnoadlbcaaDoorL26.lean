/- The law FnExactTermRead: a walk. -/
import Derived.Test.YthbodgnoadlbcaaDoorK21
import Derived.Test.YthbodgnoadlbcaaDoorK17
import Derived.Test.YthbodgnoadlbcaaDoorT21
import Derived.Test.YthbodgnoadlbcaaDoorT22
namespace Go.Proofs.YthbodgnoadlbcaaDoor.Asl
open Go.RowKit Go.Proofs.YthbodgnoadlbcaaDoorW.PrintLast
set_option linter.unusedVariables false
set_option linter.unusedSimpArgs false
attribute [local irreducible] WP WL andThen inBlock noGoto atEnd ACall DA DL PO Hold nodeOk Tm.shape Tm.ok Tm.txt Tm.text readO
set_option maxHeartbeats 4000000
set_option synthInstance.maxHeartbeats 400000
set_option synthInstance.maxSize 10000
theorem c_FnExactTermRead {base : Nat} (s : List UInt8) (σ : Store) : ACall Tryd.prog base F_laws_FnExactTermRead [Str (ofL s)] σ (fun _ => False) (Ret σ (Bo true)) := by
  refine acall1 fun_laws_FnExactTermRead rfl tmps_laws_FnExactTermRead rfl fun N B w₀ ρ₀ => ?_
  repeat' (first
    | refine wl_pop rfl (pc_lLen rfl inferInstance) ?_
    | refine wc_holdR 3 ?_
    | refine wp_seqA ?_
    | refine wp_region_seq ?_
    | refine thru_seq_next ?_
    | refine thru_seq_ret ?_
    | refine wp_skipA ?_
    | refine wp_retA ?_
    | refine wl_nil ?_
    | refine wl_pop rfl (po_move rfl) ?_
    | refine wl_pop rfl (po_assign rfl) ?_
    | refine wl_pop rfl (po_binOp rfl rfl rfl) ?_
    | refine wp_condP rfl (fun _ => ?_) (fun _ => ?_)
    | refine at_ret (res1 rfl rfl) ?_
    | exact ret_ inferInstance rfl
    | fail)
  rename_i hlen
  have hs4 : s.length ≤ 4000000 := by omega
  generalize hou : readO s = ou
  have hcu : Tm.cnts (tmO ou).ps ≤ 24 := by
    cases ou with
    | none => decide
    | some t =>
      have h1 := (readO_iff.mp hou).1
      unfold Tm.ok at h1
      simp only [Bool.and_eq_true, decide_eq_true_eq] at h1
      have : t.cnt = 1 + Tm.cnts t.ps := by cases t; rfl
      have e : tmO (some t) = t := rfl
      rw [e]; omega
  refine hold_go ?_
  repeat' (first
    | (refine wc_callTO rfl inferInstance rfl (hou ▸ c_sTermRead s hs4 _) rfl ?_; intro _ _ _ _ _)
    | refine wc_holdR 4 ?_
    | refine wp_seqA ?_
    | refine wp_region_seq ?_
    | refine thru_seq_next ?_
    | refine wl_nil ?_
    | refine wl_pop rfl (po_move rfl) ?_
    | refine wl_pop rfl (po_assign rfl) ?_
    | (refine wc_storeA rfl rfl inferInstance inferInstance rfl inferInstance (Nat.le_of_ble_eq_true rfl) (.inr (may_new _)) ?_; intro _ _)
    | refine wl_pop rfl (po_extract rfl rfl) ?_
    | (refine wc_allocA (cs := [_, _, _]) inferInstance rfl inferInstance rfl ?_; intro _ _ _ _ _)
    | fail)
  rename_i u4 σ4 p4 r4 g4 i5 σ5 g5 n5 h5 σ6 v6
  have h6 : Has σ6 i5 ⟨.own, 1, [I (tmO ou).op, I (tmO ou).n, u4], []⟩ := instHasUpd (g := v6)
  have r6 : RTs σ6 u4 (tmO ou).ps := inferInstance
  have l6 : LeS σ σ6 := inferInstance
  clear h5 v6
  have := l6.grow
  refine hold_go ?_
  repeat' (first
    | (refine wc_callTO rfl inferInstance rfl (hou ▸ c_TermRead s hs4 _) rfl ?_; intro _ _ _ _ _)
    | refine wc_holdR 5 ?_
    | refine wp_seqA ?_
    | refine wp_region_seq ?_
    | refine thru_seq_next ?_
    | refine wl_nil ?_
    | refine wl_pop rfl (po_move rfl) ?_
    | refine wl_pop rfl (po_assign rfl) ?_
    | (refine wc_storeA rfl rfl inferInstance inferInstance rfl inferInstance (Nat.le_of_ble_eq_true rfl) (.inr (may_new _)) ?_; intro _ _)
    | refine wl_pop rfl (po_extract rfl rfl) ?_
    | (refine wc_allocA (cs := [_, _, _]) inferInstance rfl inferInstance rfl ?_; intro _ _ _ _ _)
    | fail)
  rename_i sg σ10 o10 r10 g10 ig σ11 g11 n11 h11 σ12 u12
  have hg0 := r10.rep.lt
  have r12 : RTsD σ6 σ12 sg (tmO ou).ps := ⟨hg0.mono (fun i o hi ho => (inferInstance : LeS σ10 σ12).keep i o ho) (fun i hi => hi.1)⟩
  refine hold_go ?_
  repeat' (first
    | (refine wc_callR rfl inferInstance rfl (c_eqTerm_self (tmO ou) _ _ _) rfl ?_; intro _ _)
    | refine wc_holdR 8 ?_
    | refine wp_seqA ?_
    | refine wp_region_seq ?_
    | refine thru_seq_next ?_
    | refine wp_skipA ?_
    | refine wl_nil ?_
    | refine wl_pop rfl (po_move rfl) ?_
    | refine wl_pop rfl (po_assign rfl) ?_
    | refine wl_pop rfl (pc_boolNeSelf rfl rfl inferInstance) ?_
    | refine wc_loadn rfl inferInstance (at_has (cs := [_, _, _]) (.inl rfl) rfl rfl) rfl ?_
    | refine wl_pop rfl (po_not rfl) ?_
    | refine wl_pop rfl (po_pick rfl rfl) ?_
    | refine wc_guardT_false rfl rfl rfl ?_
    | refine wp_condF rfl ?_
    | fail)
  rename_i σ13 g13
  have hl13 : LeS σ10 σ13 := inferInstance
  have l13 : LeS σ σ13 := inferInstance
  have e6 : LeS σ6 σ13 := inferInstance
  have howng : ∀ i, ((σ6.length ≤ i ∧ i < σ10.length) ∧ ∃ l, Has σ13 i ⟨.own, 3, l, []⟩) → ∃ l, Has σ13 i ⟨.own, 3, l, []⟩ := fun i hi => hi.2
  have hrepg := (hg0.mono (fun i o _ ho => hl13.keep i o ho) (fun _ h => h)).own
  have hle6 : σ.length ≤ σ6.length := l6.len
  have h13 : Has σ13 i5 ⟨.own, 1, [I (tmO ou).op, I (tmO ou).n, u4], []⟩ := ⟨e6.keep _ _ h6.get⟩
  have r13 : RTs σ13 u4 (tmO ou).ps := r6.les e6
  have hi13 : Has σ13 ig ⟨.own, 1, [I (tmO ou).op, I (tmO ou).n, sg], []⟩ := (inferInstance : Has σ13 ig ⟨.own, 1, splice [I 0, I 0, nilS] 0 [I (tmO ou).op, I (tmO ou).n, sg], []⟩)
  refine hold_go ?_
  repeat' (first
    | refine wp_region_seq ?_
    | refine wl_pop rfl (po_move rfl) ?_
    | refine wc_loadn rfl inferInstance (at_has (cs := [_, _, _]) (.inl rfl) rfl rfl) rfl ?_
    | fail)
  refine wc_callMk σ6 σ10 rfl inferInstance rfl (c_markTerm (tmO ou) _ sg 1 σ13 howng hrepg (by omega) (by omega)) (fun j hj => hj.1) howng (fun i hi => .inr (Nat.le_trans hle6 hi.1.1)) rfl ?_
  intro σ18 m18 r18
  have r18' : RTs σ18 sg (Tm.marks 1 (tmO ou).ps) := ⟨r18.rep.mono (fun _ _ _ h => h) (fun _ _ => trivial)⟩
  have hi18 : Has σ18 ig ⟨.own, 1, [I (tmO ou).op, I (tmO ou).n, sg], []⟩ := inferInstance
  have h18 : Has σ18 i5 ⟨.own, 1, [I (tmO ou).op, I (tmO ou).n, u4], []⟩ := inferInstance
  have q18 : RTs σ18 u4 (tmO ou).ps := inferInstance
  have l18 : LeS σ σ18 := inferInstance
  clear u12 r12 r10 hg0 m18 hrepg r18 h13 r13 hi13 howng
  repeat' (first
    | (refine wc_callR rfl inferInstance rfl (c_heldTerm (tmO ou) _ _ 1 _ _ (by decide) (by omega)) rfl ?_; intro _ _)
    | (refine wc_callTO rfl inferInstance rfl (hou ▸ c_TermRead s hs4 _) rfl ?_; intro _ _ _ _ _)
    | (refine wc_callR rfl inferInstance rfl (c_eqTerm_self (tmO ou) _ _ _) rfl ?_; intro _ _)
    | refine wp_seqA ?_
    | refine wp_region_seq ?_
    | refine thru_seq_next ?_
    | refine thru_seq_ret ?_
    | refine wp_skipA ?_
    | refine wp_retA ?_
    | refine wl_nil ?_
    | refine wl_pop rfl (po_move rfl) ?_
    | refine wl_pop rfl (po_assign rfl) ?_
    | refine wl_pop rfl (po_binOp rfl rfl rfl) ?_
    | refine wl_pop rfl (pc_boolNeSelf rfl rfl inferInstance) ?_
    | refine wc_loadn rfl inferInstance (at_has (cs := [_, _, _]) (.inl rfl) rfl rfl) rfl ?_
    | refine wl_pop rfl (po_not rfl) ?_
    | (refine wc_storeA rfl rfl inferInstance inferInstance rfl inferInstance (Nat.le_of_ble_eq_true rfl) (.inr (may_new _)) ?_; intro _ _)
    | refine wl_pop rfl (po_extract rfl rfl) ?_
    | (refine wc_allocA (cs := [_, _, _]) inferInstance rfl inferInstance rfl ?_; intro _ _ _ _ _)
    | refine wl_pop rfl (po_pick rfl rfl) ?_
    | refine wc_guardT_false rfl rfl rfl ?_
    | refine wp_condF rfl ?_
    | refine wp_condNP rfl (fun _ => ?_) (fun _ => ?_)
    | refine at_ret (res1 rfl rfl) ?_
    | exact ret_ inferInstance rfl
    | fail)
  all_goals first
    | (exfalso; omega)
    | exact ret_ inferInstance rfl
end Go.Proofs.YthbodgnoadlbcaaDoor.Asl
