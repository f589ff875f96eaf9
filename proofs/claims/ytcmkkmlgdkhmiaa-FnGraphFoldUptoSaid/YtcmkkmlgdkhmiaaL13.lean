/- The drawn law FnGraphFold. -/
import Derived.Test.YtcmkkmlgdkhmiaaM3
import Derived.Test.YtcmkkmlgdkhmiaaS7
import Derived.Test.YtcmkkmlgdkhmiaaG28
namespace Go.Proofs.Ytcmkkmlgdkhmiaa.Asl
open Go.RowKit Go.Proofs.YtcmkkmlgdkhmiaaW.PrintLast
set_option linter.unusedVariables false
set_option linter.unusedSimpArgs false
attribute [local irreducible] WP WL andThen inBlock noGoto atEnd ACall DA DL PO Hold
set_option maxHeartbeats 4000000
set_option synthInstance.maxHeartbeats 400000
set_option synthInstance.maxSize 10000
theorem lim_of {g : Gr} (h : ∀ l ∈ g, l.length ≤ 331776) : ∀ k, (g.getD k []).length < 4294967296 := fun k => Nat.lt_of_le_of_lt (getD_all (p := fun (l : List Mv) => l.length ≤ 331776) h (by simp) k) (by decide)
theorem fold_bnd {g : Gr} {c : List Nat} (h : ∀ l ∈ g, l.length ≤ 331776) : ∀ l ∈ foldG g c, l.length ≤ 331776 := by
  intro l hl
  simp only [foldG, List.mem_map] at hl
  obtain ⟨s, _, rfl⟩ := hl
  have h1 := tidyL_lenK ((rowOf g s).map fun m => ((m.1, (((reps c).idxOf (c.getD m.2.toNat 0) : Nat) : Int)) : Mv))
  rw [List.length_map] at h1
  have h2 : (rowOf g s).length ≤ 331776 := getD_all (p := fun (l : List Mv) => l.length ≤ 331776) h (by simp) s
  omega
section
variable {base : Nat}
theorem c_FnGraphFold (b : AV) (gb : List UInt8) (σ : Store) [hs : RW σ b gb] : ACall Try.prog base F_laws_FnGraphFold [b] σ (fun _ => False) (Ret σ (Bo true)) := by
  have := hs.one
  refine acall1 fun_laws_FnGraphFold rfl tmps_laws_FnGraphFold rfl fun N B w₀ ρ₀ => ?_
  repeat' (first
    | refine wl_pop rfl (pc_lenRow rfl hs inferInstance) ?_
    | (refine wc_callG1 rfl inferInstance rfl (c_DrawGraphFold b gb _ (by omega)) rfl ?_; intro _ _ _ _ _ _ _ _)
    | refine wc_holdR 4 ?_
    | refine wp_seqA ?_
    | refine wp_region_seq ?_
    | refine thru_seq_next ?_
    | refine thru_seq_ret ?_
    | refine wp_skipA ?_
    | refine wp_retA ?_
    | refine wl_nil ?_
    | refine wl_pop rfl (po_move rfl) ?_
    | refine wl_pop rfl (po_assign rfl) ?_
    | refine wl_pop rfl (po_binOp rfl rfl rfl) ?_
    | (refine wc_storeA rfl rfl inferInstance inferInstance rfl inferInstance (Nat.le_of_ble_eq_true rfl) (.inr (may_new _)) ?_; intro _ _)
    | (refine wc_allocA (cs := [_]) inferInstance rfl inferInstance rfl ?_; intro _ _ _ _ _)
    | refine wp_condP rfl (fun _ => ?_) (fun _ => ?_)
    | refine at_ret (res1 rfl rfl) ?_
    | exact ret_ inferInstance rfl
    | fail)
  rename_i hlen u us g σ1 ou ng hgb g1 i2 σ2 g2 n2 h2 σ3 u3
  refine hold_go ?_
  have l3 : LeS σ σ3 := inferInstance
  have h3 : Has σ3 i2 ⟨.own, 1, [u], []⟩ := instHasUpd (g := u3)
  have ng3 : NG σ σ3 u us g := ng.keep fun x o hx ho => by
    have := Has.lt ⟨ho⟩
    have := n2.le
    rw [u3.eq, List.getElem?_set_ne (by omega)]; exact g2.keep x o ho
  have rw3 : RW σ3 u us := inferInstance
  have rr3 : RRs σ3 us g := ng3.rrs
  have hlim := lim_of hgb
  have hfb := fold_bnd (c := lastC g) hgb
  have hfl := lim_of hfb
  clear ng ng3 u3 n2
  by_cases hok : GOk g
  · have e := optB_pos (x := foldG g (lastC g)) hok
    have hF := fold_ok hok
    have eC := optB_pos (x := lastC (foldG g (lastC g))) hF
    have hag := fold_again hok
    have eF : optB (GOk (foldG g (lastC g))) (foldG (foldG g (lastC g)) (lastC (foldG g (lastC g)))) = some (foldG g (lastC g)) := by rw [optB_pos hF, hag]
    have hla : ∀ i, i < (foldG g (lastC g)).length → (lastC (foldG g (lastC g))).getD i 0 = i := fun i hi => fold_last hok hi
    have hfi := fold_first hok
    have hlc := lastC_len (foldG g (lastC g))
    have eC' : (optB (GOk (foldG g (lastC g))) (lastC (foldG g (lastC g)))).getD [] = lastC (foldG g (lastC g)) := by rw [eC]; rfl
    repeat' (first
      | (refine wc_callGO rfl inferInstance rfl (e ▸ c_GraphFold _ _ hlim) rfl ?_; intro _ _ _ _ _ _ _)
      | (refine wc_callGO rfl inferInstance rfl (e ▸ c_sGraphFold _ _ hlim) rfl ?_; intro _ _ _ _ _ _ _)
      | refine wc_holdR 6 ?_
      | refine wc_loadn rfl inferInstance (at_has (cs := [_]) (.inl rfl) rfl rfl) rfl ?_
      | refine wp_seqA ?_
      | refine wp_region_seq ?_
      | refine thru_seq_next ?_
      | refine wl_nil ?_
      | refine wl_pop rfl (po_move rfl) ?_
      | refine wl_pop rfl (po_assign rfl) ?_
      | (refine wc_storeA rfl rfl inferInstance inferInstance rfl inferInstance (Nat.le_of_ble_eq_true rfl) (.inr (may_new _)) ?_; intro _ _)
      | refine wl_pop rfl (po_extract rfl rfl) ?_
      | (refine wc_allocA (cs := [_]) inferInstance rfl inferInstance rfl ?_; intro _ _ _ _ _)
      | fail)
    rename_i v vs σ4 ov ow4 or4 g4 i5 σ5 g5 n5 h5 σ6 u6 v' vs' σ7 ov' ow7 or7 g7 i8 σ8 g8 n8 h8 σ9 u9
    have rF4 : RRs σ4 vs (foldG g (lastC g)) := or4.rrs
    have rF7 : RRs σ7 vs' (foldG g (lastC g)) := or7.rrs
    have h6 : Has σ6 i5 ⟨.own, 1, [v], []⟩ := instHasUpd (g := u6)
    have h9 : Has σ9 i8 ⟨.own, 1, [v'], []⟩ := instHasUpd (g := u9)
    have rF9 : RRs σ9 vs (foldG g (lastC g)) := inferInstance
    have rF9' : RRs σ9 vs' (foldG g (lastC g)) := inferInstance
    have rw9 : RW σ9 v vs := inferInstance
    have rw9' : RW σ9 v' vs' := inferInstance
    have rg9 : RRs σ9 us g := inferInstance
    have rwu9 : RW σ9 u us := inferInstance
    have l9 : LeS σ σ9 := inferInstance
    have h69 : Has σ9 i5 ⟨.own, 1, [v], []⟩ := inferInstance
    have h39 : Has σ9 i2 ⟨.own, 1, [u], []⟩ := inferInstance
    clear u9 u6
    refine hold_go ?_
    repeat' (first
      | (refine wc_callR rfl inferInstance rfl (c_mnGraphR (g := foldG g (lastC g)) _ _ _) rfl ?_; intro _ _)
      | (refine wc_callOW rfl inferInstance rfl (eC' ▸ c_AlikeClasses _ _ hfl) rfl ?_; intro _ _ _ _ _)
      | refine wc_holdR 11 ?_
      | refine wc_loadn rfl inferInstance (at_has (cs := [_]) (.inl rfl) rfl rfl) rfl ?_
      | refine wp_seqA ?_
      | refine wp_region_seq ?_
      | refine thru_seq_next ?_
      | refine wp_skipA ?_
      | refine wl_nil ?_
      | refine wl_pop rfl (po_move rfl) ?_
      | refine wl_pop rfl (po_assign rfl) ?_
      | refine wl_pop rfl (pc_boolNeSelf rfl rfl inferInstance) ?_
      | refine wl_pop rfl (po_not rfl) ?_
      | refine wl_pop rfl (po_pick rfl rfl) ?_
      | refine wc_guardT_false rfl rfl rfl ?_
      | refine wp_condF rfl ?_
      | fail)
    rename_i σ10 g10 w σ11 wo oww g11
    have hwb := oww.bound
    refine hold_go ?_
    repeat' (first
      | refine wp_region_seq ?_
      | refine thru_seq_next ?_
      | refine wp_blockA ?_
      | refine wl_nil ?_
      | refine wl_pop rfl (po_assign rfl) ?_
      | fail)
    refine wc_loop [(3, _), (4, _), (8, _)] (fun k : Nat => [(9, I k)]) (fun k σ' => k ≤ (foldG g (lastC g)).length ∧ LeS σ11 σ') (fun k => (foldG g (lastC g)).length - k) 0 ⟨Nat.zero_le _, inferInstance⟩ (by repeat' (first | exact sub_nil | refine sub_cons rfl ?_ | refine sub_int rfl (by first | rfl | omega | (push_cast; omega) | simp) ?_ | refine sub_eq rfl (by assumption) ?_)) ?_
    rintro k σ' ⟨hk, hgr⟩
    have := hgr.grow
    have l99 : LeS σ9 σ' := inferInstance
    repeat' (first
      | (refine wc_callGO rfl inferInstance rfl (eF ▸ c_GraphFold _ _ hfl) rfl ?_; intro _ _ _ _ _ _ _)
      | refine wc_holdR 17 ?_
      | refine wl_pop rfl (pc_ldNat rfl inferInstance inferInstance (by omega) inferInstance) ?_
      | refine wl_pop rfl (pc_indexRow rfl rfl inferInstance inferInstance inferInstance (by omega)) ?_
      | refine wl_pop rfl (pc_lenRow rfl inferInstance inferInstance) ?_
      | refine wc_loadn rfl inferInstance (at_has (cs := [_]) (.inl rfl) rfl rfl) rfl ?_
      | refine wp_seqA ?_
      | refine wp_region_seq ?_
      | refine thru_seq_next ?_
      | refine thru_seq_ret ?_
      | refine thru_seq ?_
      | refine thru_block_ret ?_
      | refine thru_block_next ?_
      | refine exit_here ?_
      | refine wp_skipA ?_
      | refine wp_retA ?_
      | refine wp_exitA ?_
      | refine wp_blockA ?_
      | refine wl_nil ?_
      | refine wl_pop rfl (po_move rfl) ?_
      | refine wl_pop rfl (po_assign rfl) ?_
      | refine wl_pop rfl (pc_add rfl rfl (by omega) (by omega)) ?_
      | refine wl_pop rfl (po_binOp rfl rfl rfl) ?_
      | (refine wc_storeA rfl rfl inferInstance inferInstance rfl inferInstance (Nat.le_of_ble_eq_true rfl) (.inr (may_new _)) ?_; intro _ _)
      | refine wl_pop rfl (po_extract rfl rfl) ?_
      | (refine wc_allocA (cs := [_]) inferInstance rfl inferInstance rfl ?_; intro _ _ _ _ _)
      | refine wp_condP rfl (fun _ => ?_) (fun _ => ?_)
      | refine wp_condNP rfl (fun _ => ?_) (fun _ => ?_)
      | refine at_ret (res1 rfl rfl) ?_
      | fail)
    · rename_i q1 q2
      exact absurd (congrArg Int.ofNat (hla k (by omega))) q2
    · exact ⟨k + 1, by omega, ⟨by omega, inferInstance⟩, (by repeat' (first | exact sub_nil | refine sub_cons rfl ?_ | refine sub_int rfl (by first | rfl | omega | (push_cast; omega) | simp) ?_ | refine sub_eq rfl (by assumption) ?_))⟩
    rename_i hkx x xs σ12 ox owx orx g12 i13 σ13 g13 n13 h13 σ14 u14
    have rx : RRs σ12 xs (foldG g (lastC g)) := orx.rrs
    have l12 : LeS σ9 σ12 := inferInstance
    have l914 : LeS σ9 σ14 := inferInstance
    have := l914.grow
    have rx14 : RRs σ14 xs (foldG g (lastC g)) := inferInstance
    have rwx14 : RW σ14 x xs := inferInstance
    have h14 : Has σ14 i13 ⟨.own, 1, [x], []⟩ := instHasUpd (g := u14)
    have h514 : Has σ14 i5 ⟨.own, 1, [v], []⟩ := ⟨l914.keep _ _ h69.get⟩
    have h214 : Has σ14 i2 ⟨.own, 1, [u], []⟩ := ⟨l914.keep _ _ h39.get⟩
    have rF14 : RRs σ14 vs (foldG g (lastC g)) := inferInstance
    have rw14 : RW σ14 v vs := inferInstance
    have rg14 : RRs σ14 us g := inferInstance
    have rwu14 : RW σ14 u us := inferInstance
    have l014 : LeS σ σ14 := inferInstance
    clear u14
    refine hold_go ?_
    repeat' (first
      | (refine wc_callR rfl inferInstance rfl (c_mnGraphR (g := foldG g (lastC g)) _ _ _) rfl ?_; intro _ _)
      | (refine wc_callR rfl inferInstance rfl (c_mnFirstR (a := g) (b := foldG g (lastC g)) _ _ _ hlim hfl (fun _ _ q => hfi q)) rfl ?_; intro _ _)
      | refine wc_loadn rfl inferInstance (at_has (cs := [_]) (.inl rfl) rfl rfl) rfl ?_
      | refine wp_region_seq ?_
      | refine thru_seq_next ?_
      | refine wp_retA ?_
      | refine wl_nil ?_
      | refine wl_pop rfl (po_move rfl) ?_
      | refine wl_pop rfl (po_assign rfl) ?_
      | refine wl_pop rfl (po_pick rfl rfl) ?_
      | refine wc_guardT_true rfl rfl rfl ?_
      | refine at_ret (res1 rfl rfl) ?_
      | exact ret_ inferInstance rfl
      | fail)
  · have e := optB_neg (x := foldG g (lastC g)) hok
    repeat' (first
      | (refine wc_callGO rfl inferInstance rfl (e ▸ c_GraphFold _ _ hlim) rfl ?_; intro _ _ _ _ _ _ _)
      | (refine wc_callGO rfl inferInstance rfl (e ▸ c_sGraphFold _ _ hlim) rfl ?_; intro _ _ _ _ _ _ _)
      | refine wc_holdR 6 ?_
      | refine wc_loadn rfl inferInstance (at_has (cs := [_]) (.inl rfl) rfl rfl) rfl ?_
      | refine wp_seqA ?_
      | refine wp_region_seq ?_
      | refine thru_seq_next ?_
      | refine wl_nil ?_
      | refine wl_pop rfl (po_move rfl) ?_
      | refine wl_pop rfl (po_assign rfl) ?_
      | (refine wc_storeA rfl rfl inferInstance inferInstance rfl inferInstance (Nat.le_of_ble_eq_true rfl) (.inr (may_new _)) ?_; intro _ _)
      | refine wl_pop rfl (po_extract rfl rfl) ?_
      | (refine wc_allocA (cs := [_]) inferInstance rfl inferInstance rfl ?_; intro _ _ _ _ _)
      | fail)
    rename_i v vs σ4 ov ow4 or4 g4 i5 σ5 g5 n5 h5 σ6 u6 v' vs' σ7 ov' ow7 or7 g7 i8 σ8 g8 n8 h8 σ9 u9
    have rF4 : RRs σ4 vs ([] : Gr) := or4.rrs
    have rF7 : RRs σ7 vs' ([] : Gr) := or7.rrs
    have h6 : Has σ6 i5 ⟨.own, 1, [v], []⟩ := instHasUpd (g := u6)
    have h9 : Has σ9 i8 ⟨.own, 1, [v'], []⟩ := instHasUpd (g := u9)
    have rF9 : RRs σ9 vs ([] : Gr) := inferInstance
    have rF9' : RRs σ9 vs' ([] : Gr) := inferInstance
    have rw9 : RW σ9 v vs := inferInstance
    have rw9' : RW σ9 v' vs' := inferInstance
    refine hold_go ?_
    repeat' (first
      | (refine wc_callR rfl inferInstance rfl (c_mnGraphR (g := ([] : Gr)) _ _ _) rfl ?_; intro _ _)
      | (refine wc_callR rfl inferInstance rfl (prB_false hok ▸ c_GraphOk _ _) rfl ?_; intro _ _)
      | refine wc_loadn rfl inferInstance (at_has (cs := [_]) (.inl rfl) rfl rfl) rfl ?_
      | refine wp_seqA ?_
      | refine wp_region_seq ?_
      | refine thru_seq_next ?_
      | refine thru_seq_ret ?_
      | refine wp_skipA ?_
      | refine wp_retA ?_
      | refine wl_nil ?_
      | refine wl_pop rfl (po_move rfl) ?_
      | refine wl_pop rfl (po_assign rfl) ?_
      | refine wl_pop rfl (pc_boolNeSelf rfl rfl inferInstance) ?_
      | refine wl_pop rfl (po_not rfl) ?_
      | refine wl_pop rfl (po_pick rfl rfl) ?_
      | refine wc_guardT_false rfl rfl rfl ?_
      | refine wp_condT rfl ?_
      | refine wp_condF rfl ?_
      | refine at_ret (res1 rfl rfl) ?_
      | exact ret_ inferInstance rfl
      | fail)
end
end Go.Proofs.Ytcmkkmlgdkhmiaa.Asl
