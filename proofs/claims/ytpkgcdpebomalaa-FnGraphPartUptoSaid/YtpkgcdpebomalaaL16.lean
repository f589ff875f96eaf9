/- Several texts in one. -/
import Derived.Test.YtpkgcdpebomalaaM2
import Derived.Test.YtpkgcdpebomalaaK6
import Derived.Test.YtpkgcdpebomalaaS6
import Derived.Test.YtpkgcdpebomalaaG6
import Derived.Test.YtpkgcdpebomalaaPP
import Derived.Test.YtpkgcdpebomalaaS2
import Derived.Test.YtpkgcdpebomalaaG19
import Derived.Test.YtpkgcdpebomalaaG9
import Derived.Test.YtpkgcdpebomalaaG24
import Derived.Test.YtpkgcdpebomalaaK7
/- Several texts in one. -/
/- The drawn laws' helper on the first states of two graphs. -/
namespace Go.Proofs.Ytpkgcdpebomalaa.Asl
open Go.RowKit Go.Proofs.YtpkgcdpebomalaaW.PrintLast
set_option linter.unusedVariables false
set_option linter.unusedSimpArgs false
attribute [local irreducible] WP WL andThen inBlock noGoto atEnd ACall DA DL PO Hold
set_option maxHeartbeats 4000000
set_option synthInstance.maxHeartbeats 400000
set_option synthInstance.maxSize 10000
theorem optB_pos {α : Type} {p : Prop} {x : α} (h : p) : optB p x = some x := by
  unfold optB; rw [prB_true h]
theorem optB_neg {α : Type} {p : Prop} {x : α} (h : ¬ p) : optB p x = none := by
  unfold optB; rw [prB_false h]
theorem both_lim {a b : Gr} (ha : ∀ k, (a.getD k []).length < 4294967296) (hb : ∀ k, (b.getD k []).length < 4294967296) : ∀ k, ((bothL a b).getD k []).length < 4294967296 := by
  intro k
  rcases Nat.lt_or_ge k a.length with h | h
  · have := both_row_lt (b := b) h
    unfold rowOf at this
    rw [this]; exact ha k
  · have := both_row_ge a b (k - a.length)
    rw [show a.length + (k - a.length) = k by omega] at this
    unfold rowOf at this
    rw [this, List.length_map]; exact hb _
end Go.Proofs.Ytpkgcdpebomalaa.Asl

/- Several texts in one. -/
/- The states to which one comes, in order: the program's answer. -/
namespace Go.Proofs.Ytpkgcdpebomalaa.Asl
open Go.RowKit Go.Proofs.YtpkgcdpebomalaaW.PrintLast
set_option linter.unusedVariables false
set_option linter.unusedSimpArgs false
attribute [local irreducible] WP WL andThen inBlock noGoto atEnd ACall DA DL PO Hold
set_option maxHeartbeats 4000000
set_option synthInstance.maxHeartbeats 400000
set_option synthInstance.maxSize 10000

end Go.Proofs.Ytpkgcdpebomalaa.Asl

/- The drawn law FnGraphOk. -/
namespace Go.Proofs.Ytpkgcdpebomalaa.Asl
open Go.RowKit Go.Proofs.YtpkgcdpebomalaaW.PrintLast
set_option linter.unusedVariables false
set_option linter.unusedSimpArgs false
attribute [local irreducible] WP WL andThen inBlock noGoto atEnd ACall DA DL PO Hold
set_option maxHeartbeats 4000000
set_option synthInstance.maxHeartbeats 400000
set_option synthInstance.maxSize 10000
theorem lim_ofP {g : Gr} (h : ∀ l ∈ g, l.length ≤ 331776) : ∀ k, (g.getD k []).length < 4294967296 := fun k => Nat.lt_of_le_of_lt (getD_all (p := fun (l : List Mv) => l.length ≤ 331776) h (by simp) k) (by decide)
theorem part_bnd {g : Gr} {s : Nat} (h : ∀ l ∈ g, l.length ≤ 331776) : ∀ l ∈ partL g s, l.length ≤ 331776 := by
  intro l hl
  simp only [partL, List.mem_map] at hl
  obtain ⟨k, _, rfl⟩ := hl
  have h1 := tidyL_lenK ((rowOf g k).map fun m => ((m.1, (((fromL g s).idxOf m.2.toNat : Nat) : Int)) : Mv))
  rw [List.length_map] at h1
  have h2 : (rowOf g k).length ≤ 331776 := getD_all (p := fun (l : List Mv) => l.length ≤ 331776) h (by simp) k
  omega
end Go.Proofs.Ytpkgcdpebomalaa.Asl

/- The drawn law FnGraphPart. -/
namespace Go.Proofs.Ytpkgcdpebomalaa.Asl
open Go.RowKit Go.Proofs.YtpkgcdpebomalaaW.PrintLast
set_option linter.unusedVariables false
set_option linter.unusedSimpArgs false
attribute [local irreducible] WP WL andThen inBlock noGoto atEnd ACall DA DL PO Hold
set_option maxHeartbeats 4000000
set_option synthInstance.maxHeartbeats 400000
set_option synthInstance.maxSize 10000
section
variable {base : Nat}
theorem c_FnGraphPart (b : AV) (gb : List UInt8) (σ : Store) [hs : RW σ b gb] : ACall Try.prog base F_laws_FnGraphPart [b] σ (fun _ => False) (Ret σ (Bo true)) := by
  have := hs.one
  refine acall1 fun_laws_FnGraphPart rfl tmps_laws_FnGraphPart rfl fun N B w₀ ρ₀ => ?_
  repeat' (first
    | refine wl_pop rfl (pc_lenRow rfl hs inferInstance) ?_
    | (refine wc_callG2 rfl inferInstance rfl (c_DrawGraphPart b gb _ (by omega)) rfl ?_; intro _ _ _ _ _ _ _ _ _)
    | refine wc_holdR 4 ?_
    | refine wp_seqA ?_
    | refine wp_region_seq ?_
    | refine thru_seq_next ?_
    | refine thru_seq_ret ?_
    | refine wp_skipA ?_
    | refine wp_retA ?_
    | refine wl_nil ?_
    | refine wl_pop rfl (po_move rfl) ?_
    | refine wl_pop rfl (po_assign rfl) ?_
    | refine wl_pop rfl (po_binOp rfl rfl rfl) ?_
    | (refine wc_storeA rfl rfl inferInstance inferInstance rfl inferInstance (Nat.le_of_ble_eq_true rfl) (.inr (may_new _)) ?_; intro _ _)
    | refine wl_pop rfl (po_extract rfl rfl) ?_
    | (refine wc_allocA (cs := [_]) inferInstance rfl inferInstance rfl ?_; intro _ _ _ _ _)
    | refine wp_condP rfl (fun _ => ?_) (fun _ => ?_)
    | refine at_ret (res1 rfl rfl) ?_
    | exact ret_ inferInstance rfl
    | fail)
  rename_i hlen u us g z σ1 ou ng hgb g1 i2 σ2 g2 n2 h2 σ3 u3
  refine hold_go ?_
  have l3 : LeS σ σ3 := inferInstance
  have h3 : Has σ3 i2 ⟨.own, 1, [u], []⟩ := instHasUpd (g := u3)
  have ng3 : NG σ σ3 u us g := ng.keep fun x o hx ho => by
    have := Has.lt ⟨ho⟩
    have := n2.le
    rw [u3.eq, List.getElem?_set_ne (by omega)]; exact g2.keep x o ho
  have rw3 : RW σ3 u us := inferInstance
  have rr3 : RRs σ3 us g := ng3.rrs
  have hgl := rr3.len
  have hub := rw3.bound
  have hlim := lim_ofP hgb
  have hpl := lim_ofP (part_bnd (s := z.toNat) hgb)
  clear ng ng3 u3 n2
  by_cases hP : GOk g ∧ 0 ≤ z ∧ z < g.length
  · have e := optB_pos (x := partL g z.toNat) hP
    have hzn : z.toNat < g.length := by omega
    have hlaw := part_law hP.1 hzn
    have hpok := part_ok hP.1 hzn
    have hpp := hpok.pos
    repeat' (first
      | (refine wc_callGO rfl inferInstance rfl (e ▸ c_GraphPart _ _ z hlim) rfl ?_; intro _ _ _ _ _ _ _)
      | (refine wc_callGO rfl inferInstance rfl (e ▸ c_sGraphPart _ _ z hlim) rfl ?_; intro _ _ _ _ _ _ _)
      | refine wc_holdR 6 ?_
      | refine wc_loadn rfl inferInstance (at_has (cs := [_]) (.inl rfl) rfl rfl) rfl ?_
      | refine wp_seqA ?_
      | refine wp_region_seq ?_
      | refine thru_seq_next ?_
      | refine wl_nil ?_
      | refine wl_pop rfl (po_move rfl) ?_
      | refine wl_pop rfl (po_assign rfl) ?_
      | (refine wc_storeA rfl rfl inferInstance inferInstance rfl inferInstance (Nat.le_of_ble_eq_true rfl) (.inr (may_new _)) ?_; intro _ _)
      | refine wl_pop rfl (po_extract rfl rfl) ?_
      | (refine wc_allocA (cs := [_]) inferInstance rfl inferInstance rfl ?_; intro _ _ _ _ _)
      | fail)
    rename_i v vs σ4 ov ow4 or4 g4 i5 σ5 g5 n5 h5 σ6 u6 v' vs' σ7 ov' ow7 or7 g7 i8 σ8 g8 n8 h8 σ9 u9
    have rF4 : RRs σ4 vs (partL g z.toNat) := or4.rrs
    have rF7 : RRs σ7 vs' (partL g z.toNat) := or7.rrs
    have h6 : Has σ6 i5 ⟨.own, 1, [v], []⟩ := instHasUpd (g := u6)
    have h9 : Has σ9 i8 ⟨.own, 1, [v'], []⟩ := instHasUpd (g := u9)
    have rF9 : RRs σ9 vs (partL g z.toNat) := inferInstance
    have rF9' : RRs σ9 vs' (partL g z.toNat) := inferInstance
    have rw9 : RW σ9 v vs := inferInstance
    have rw9' : RW σ9 v' vs' := inferInstance
    have rg9 : RRs σ9 us g := inferInstance
    have rwu9 : RW σ9 u us := inferInstance
    have l9 : LeS σ σ9 := inferInstance
    have h69 : Has σ9 i5 ⟨.own, 1, [v], []⟩ := inferInstance
    have h39 : Has σ9 i2 ⟨.own, 1, [u], []⟩ := inferInstance
    clear u9 u6
    refine hold_go ?_
    by_cases hB : GOk g ∧ GOk (partL g z.toNat) ∧ g.length + (partL g z.toNat).length ≤ 60
    · have eB := optB_pos (x := bothL g (partL g z.toNat)) hB
      have hbok := both_ok hB.1 hB.2.1 hB.2.2
      have eC : (optB (GOk (bothL g (partL g z.toNat))) (lastC (bothL g (partL g z.toNat)))).getD [] = lastC (bothL g (partL g z.toNat)) := by rw [optB_pos hbok]; rfl
      have hcl := lastC_len (bothL g (partL g z.toNat))
      rw [both_len] at hcl
      have hl2 := hlaw hB.2.2
      have hbl := both_lim hlim hpl
      repeat' (first
        | (refine wc_callR rfl inferInstance rfl (c_mnGraphR (g := partL g z.toNat) _ _ _) rfl ?_; intro _ _)
        | (refine wc_callGO rfl inferInstance rfl (eB ▸ c_GraphBoth _ _ _ (a := g) (b := partL g z.toNat)) rfl ?_; intro _ _ _ _ _ _ _)
        | refine wc_holdR 11 ?_
        | refine wc_loadn rfl inferInstance (at_has (cs := [_]) (.inl rfl) rfl rfl) rfl ?_
        | refine wp_seqA ?_
        | refine wp_region_seq ?_
        | refine thru_seq_next ?_
        | refine wp_skipA ?_
        | refine wl_nil ?_
        | refine wl_pop rfl (po_move rfl) ?_
        | refine wl_pop rfl (po_assign rfl) ?_
        | refine wl_pop rfl (pc_boolNeSelf rfl rfl inferInstance) ?_
        | refine wl_pop rfl (po_not rfl) ?_
        | (refine wc_storeA rfl rfl inferInstance inferInstance rfl inferInstance (Nat.le_of_ble_eq_true rfl) (.inr (may_new _)) ?_; intro _ _)
        | refine wl_pop rfl (po_extract rfl rfl) ?_
        | (refine wc_allocA (cs := [_]) inferInstance rfl inferInstance rfl ?_; intro _ _ _ _ _)
        | refine wl_pop rfl (po_pick rfl rfl) ?_
        | refine wc_guardT_false rfl rfl rfl ?_
        | refine wp_condF rfl ?_
        | fail)
      rename_i σa ga ub usb σb oub owb orb gb i9 σc gc nc hc σd ud
      refine hold_go ?_
      have rB : RRs σb usb (bothL g (partL g z.toNat)) := orb.rrs
      have hcd : Has σd i9 ⟨.own, 1, [ub], []⟩ := instHasUpd (g := ud)
      have rBd : RRs σd usb (bothL g (partL g z.toNat)) := inferInstance
      have rwBd : RW σd ub usb := inferInstance
      have h3d : Has σd i2 ⟨.own, 1, [u], []⟩ := inferInstance
      have rwud : RW σd u us := inferInstance
      have l9d : LeS σ σd := inferInstance
      have hpos := hpok.pos
      have hul := rg9.len
      have hub9 := rwu9.bound
      have hl2' : (lastC (bothL g (partL g z.toNat))).getD z.toNat 0 = (lastC (bothL g (partL g z.toNat))).getD us.length 0 := by rw [hul]; exact hl2
      clear ud
      repeat' (first
        | (refine wc_callOW rfl inferInstance rfl (eC ▸ c_AlikeClasses _ _ hbl) rfl ?_; intro _ _ _ _ _)
        | refine wc_loadn rfl inferInstance (at_has (cs := [_]) (.inl rfl) rfl rfl) rfl ?_
        | refine wp_seqA ?_
        | refine wp_region_seq ?_
        | refine thru_seq_next ?_
        | refine wl_nil ?_
        | refine wl_pop rfl (po_assign rfl) ?_
        | fail)
      rename_i cv σe ocv owc ge
      have hcb := owc.bound
      refine wc_drawn [] mixed_ rfl ?_
      all_goals refine da_takeC 0 rfl rfl (by kernel_rfl) (by first | exact po_move rfl | fail) ?_
      all_goals refine da_takeC 1 rfl rfl (by kernel_rfl) (by first | exact po_move rfl | fail) ?_
      all_goals refine da_takeC 2 rfl rfl (by kernel_rfl) (by first | exact pc_indexRowZ rfl rfl inferInstance inferInstance inferInstance (by omega) (by omega) | fail) ?_
      all_goals refine da_takeC 3 rfl rfl (by kernel_rfl) (by first | exact pc_ldNat rfl inferInstance inferInstance (by omega) inferInstance | fail) ?_
      all_goals refine da_takeC 4 rfl rfl (by kernel_rfl) (by first | exact po_move rfl | fail) ?_
      all_goals refine da_takeC 5 rfl rfl (by kernel_rfl) (by first | exact po_fieldAddr rfl inferInstance | fail) ?_
      all_goals refine da_takeC 6 rfl rfl (by kernel_rfl) (by first | exact pc_load1L rfl inferInstance (at_has (.inl rfl) rfl rfl) inferInstance | fail) ?_
      all_goals refine da_takeC 7 rfl rfl (by kernel_rfl) (by first | exact pc_lenRow rfl (rwud.les inferInstance) inferInstance | fail) ?_
      all_goals refine da_takeC 8 rfl rfl (by kernel_rfl) (by first | exact pc_indexRowZ rfl rfl inferInstance inferInstance inferInstance (by omega) (by omega) | fail) ?_
      all_goals refine da_takeC 9 rfl rfl (by kernel_rfl) (by first | exact pc_ldNat rfl inferInstance inferInstance (by omega) inferInstance | fail) ?_
      all_goals refine da_takeC 10 rfl rfl (by kernel_rfl) (by first | exact po_binOp rfl rfl rfl | fail) ?_
      all_goals refine da_takeC 11 rfl rfl (by kernel_rfl) (by first | exact po_assign rfl | fail) ?_
      all_goals refine da_done (by kernel_rfl) ?_
      repeat' (first
        | refine thru_seq_next ?_
        | refine wp_retA ?_
        | refine at_ret (res1 rfl rfl) ?_
        | fail)
      exact ret_ inferInstance (congrArg Bo (by rw [Int.toNat_natCast, hl2']; exact beq_self_eq_true _))
    · have eB := optB_neg (x := bothL g (partL g z.toNat)) hB
      repeat' (first
        | (refine wc_callR rfl inferInstance rfl (c_mnGraphR (g := partL g z.toNat) _ _ _) rfl ?_; intro _ _)
        | (refine wc_callGO rfl inferInstance rfl (eB ▸ c_GraphBoth _ _ _ (a := g) (b := partL g z.toNat)) rfl ?_; intro _ _ _ _ _ _ _)
        | refine wc_loadn rfl inferInstance (at_has (cs := [_]) (.inl rfl) rfl rfl) rfl ?_
        | refine wp_seqA ?_
        | refine wp_region_seq ?_
        | refine thru_seq_next ?_
        | refine thru_seq_ret ?_
        | refine wp_skipA ?_
        | refine wp_retA ?_
        | refine wl_nil ?_
        | refine wl_pop rfl (po_move rfl) ?_
        | refine wl_pop rfl (po_assign rfl) ?_
        | refine wl_pop rfl (pc_boolNeSelf rfl rfl inferInstance) ?_
        | refine wl_pop rfl (po_not rfl) ?_
        | (refine wc_storeA rfl rfl inferInstance inferInstance rfl inferInstance (Nat.le_of_ble_eq_true rfl) (.inr (may_new _)) ?_; intro _ _)
        | refine wl_pop rfl (po_extract rfl rfl) ?_
        | (refine wc_allocA (cs := [_]) inferInstance rfl inferInstance rfl ?_; intro _ _ _ _ _)
        | refine wl_pop rfl (po_pick rfl rfl) ?_
        | refine wc_guardT_false rfl rfl rfl ?_
        | refine wp_condT rfl ?_
        | refine wp_condF rfl ?_
        | refine at_ret (res1 rfl rfl) ?_
        | exact ret_ inferInstance rfl
        | fail)
  · have e := optB_neg (x := partL g z.toNat) hP
    repeat' (first
      | (refine wc_callGO rfl inferInstance rfl (e ▸ c_GraphPart _ _ z hlim) rfl ?_; intro _ _ _ _ _ _ _)
      | (refine wc_callGO rfl inferInstance rfl (e ▸ c_sGraphPart _ _ z hlim) rfl ?_; intro _ _ _ _ _ _ _)
      | refine wc_holdR 6 ?_
      | refine wc_loadn rfl inferInstance (at_has (cs := [_]) (.inl rfl) rfl rfl) rfl ?_
      | refine wp_seqA ?_
      | refine wp_region_seq ?_
      | refine thru_seq_next ?_
      | refine wl_nil ?_
      | refine wl_pop rfl (po_move rfl) ?_
      | refine wl_pop rfl (po_assign rfl) ?_
      | (refine wc_storeA rfl rfl inferInstance inferInstance rfl inferInstance (Nat.le_of_ble_eq_true rfl) (.inr (may_new _)) ?_; intro _ _)
      | refine wl_pop rfl (po_extract rfl rfl) ?_
      | (refine wc_allocA (cs := [_]) inferInstance rfl inferInstance rfl ?_; intro _ _ _ _ _)
      | fail)
    rename_i v vs σ4 ov ow4 or4 g4 i5 σ5 g5 n5 h5 σ6 u6 v' vs' σ7 ov' ow7 or7 g7 i8 σ8 g8 n8 h8 σ9 u9
    have rF4 : RRs σ4 vs ([] : Gr) := or4.rrs
    have rF7 : RRs σ7 vs' ([] : Gr) := or7.rrs
    have h6 : Has σ6 i5 ⟨.own, 1, [v], []⟩ := instHasUpd (g := u6)
    have h9 : Has σ9 i8 ⟨.own, 1, [v'], []⟩ := instHasUpd (g := u9)
    have rF9 : RRs σ9 vs ([] : Gr) := inferInstance
    have rF9' : RRs σ9 vs' ([] : Gr) := inferInstance
    have rw9 : RW σ9 v vs := inferInstance
    have rw9' : RW σ9 v' vs' := inferInstance
    have rg9 : RRs σ9 us g := inferInstance
    have rwu9 : RW σ9 u us := inferInstance
    have l9 : LeS σ σ9 := inferInstance
    have h69 : Has σ9 i5 ⟨.own, 1, [v], []⟩ := inferInstance
    have h39 : Has σ9 i2 ⟨.own, 1, [u], []⟩ := inferInstance
    clear u9 u6
    refine hold_go ?_
    repeat' (first
      | (refine wc_callR rfl inferInstance rfl (c_mnGraphR (g := ([] : Gr)) _ _ _) rfl ?_; intro _ _)
      | (refine wc_callGO rfl inferInstance rfl (c_GraphBoth _ _ _ (a := g) (b := ([] : Gr))) rfl ?_; intro _ _ _ _ _ _ _)
      | refine wc_loadn rfl inferInstance (at_has (cs := [_]) (.inl rfl) rfl rfl) rfl ?_
      | refine wp_seqA ?_
      | refine wp_region_seq ?_
      | refine thru_seq_next ?_
      | refine thru_seq_ret ?_
      | refine wp_skipA ?_
      | refine wp_retA ?_
      | refine wl_nil ?_
      | refine wl_pop rfl (po_move rfl) ?_
      | refine wl_pop rfl (po_assign rfl) ?_
      | refine wl_pop rfl (pc_boolNeSelf rfl rfl inferInstance) ?_
      | refine wl_pop rfl (po_not rfl) ?_
      | (refine wc_storeA rfl rfl inferInstance inferInstance rfl inferInstance (Nat.le_of_ble_eq_true rfl) (.inr (may_new _)) ?_; intro _ _)
      | refine wl_pop rfl (po_extract rfl rfl) ?_
      | (refine wc_allocA (cs := [_]) inferInstance rfl inferInstance rfl ?_; intro _ _ _ _ _)
      | refine wl_pop rfl (po_pick rfl rfl) ?_
      | refine wc_guardT_false rfl rfl rfl ?_
      | refine wc_guardF_false rfl rfl rfl rfl ?_
      | refine wp_condT rfl ?_
      | refine wp_condF rfl ?_
      | refine at_ret (res1 rfl rfl) ?_
      | exact ret_ inferInstance rfl
      | fail)
end
end Go.Proofs.Ytpkgcdpebomalaa.Asl
