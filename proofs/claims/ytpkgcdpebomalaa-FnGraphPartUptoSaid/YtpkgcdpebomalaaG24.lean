/- A graph's part: the program. -/
import Derived.Test.YtpkgcdpebomalaaS2
import Derived.Test.YtpkgcdpebomalaaG19
import Derived.Test.YtpkgcdpebomalaaG23
import Derived.Test.YtpkgcdpebomalaaBB
namespace Go.Proofs.Ytpkgcdpebomalaa.Asl
open Go.RowKit Go.Proofs.YtpkgcdpebomalaaW.PrintLast
set_option linter.unusedVariables false
set_option linter.unusedSimpArgs false
attribute [local irreducible] WP WL andThen inBlock noGoto atEnd ACall DA DL DX PO Hold
set_option maxHeartbeats 4000000
set_option synthInstance.maxHeartbeats 400000
set_option synthInstance.maxSize 10000
theorem OW.ne_nil {α : Type} [Enc α] {σ₀ σ : Store} {s : AV} {l : List α} (h : OW σ₀ σ s l) (hl : l ≠ []) : s ≠ Asl.nilS := by
  rcases h.rep with ⟨h1, _⟩ | ⟨i, h1, _⟩
  · exact absurd h1 hl
  · rw [h1]; intro e; cases e
section
variable {base : Nat}
theorem c_GraphPart (σ : Store) (s : AV) (z : Int) {ss : List AV} {g : Gr} [hs : RW σ s ss] [hg : RRs σ ss g] (hlim : ∀ k, (g.getD k []).length < 4294967296) :
    ACall Try.prog base F_impl_GraphPart [.agg [s], I z] σ (fun _ => False) (RetGO σ (optB (GOk g ∧ 0 ≤ z ∧ z < g.length) (partL g z.toNat))) := by
  have hb := hs.bound
  have := hs.one
  have hl := hg.len
  rcases Int.lt_or_le z 0 with hz | hz
  · refine acall2 fun_impl_GraphPart rfl tmps_impl_GraphPart rfl fun N B w₀ ρ₀ => ?_
    repeat' (first
      | (refine wc_callR rfl inferInstance rfl (c_GraphOk _ _) rfl ?_; intro _ _)
      | exact absurd (by assumption : ¬ z < 0) (by omega)
      | refine wc_loadn rfl inferInstance (at_has (cs := [_]) (.inl rfl) rfl rfl) rfl ?_
      | refine at_ret (res_cell2 rfl rfl inferInstance (at_has (cs := [_]) (.inl rfl) rfl rfl) rfl) ?_
      | refine wl_pop rfl (pc_build0 (cs := [_]) inferInstance inferInstance rfl) ?_
      | refine wc_guardNPr_false rfl rfl rfl rfl (fun _ => ?_) (fun _ => ?_)
      | refine wp_seqA ?_
      | refine wp_region_seq ?_
      | refine thru_seq_next ?_
      | refine thru_seq_ret ?_
      | refine wp_retA ?_
      | refine wl_nil ?_
      | refine wl_pop rfl (po_move rfl) ?_
      | refine wl_pop rfl (po_assign rfl) ?_
      | refine wl_pop rfl (po_binOp rfl rfl rfl) ?_
      | refine wl_pop rfl (po_not rfl) ?_
      | (refine wc_storeA rfl rfl inferInstance inferInstance rfl inferInstance (Nat.le_of_ble_eq_true rfl) (.inr (may_new _)) ?_; intro _ _)
      | (refine wc_boxA rfl inferInstance rfl ?_; intro _ _ _ _ _)
      | (refine wc_allocA (cs := [_]) inferInstance rfl inferInstance rfl ?_; intro _ _ _ _ _)
      | refine wl_pop rfl (po_pick rfl rfl) ?_
      | refine wc_guardT_false rfl rfl rfl ?_
      | refine wc_guardF_false rfl rfl rfl rfl ?_
      | refine wc_guardP_false rfl rfl rfl rfl (fun _ => ?_) (fun _ => ?_)
      | refine wp_condT rfl ?_
      | fail)
    all_goals first
      | exact ret_go_none (optB_no (fun h => by have := h.2.1; omega)) inferInstance
      | (exfalso; omega)
  obtain ⟨a, rfl⟩ := Int.eq_ofNat_of_zero_le hz
  refine acall2 fun_impl_GraphPart rfl tmps_impl_GraphPart rfl fun N B w₀ ρ₀ => ?_
  repeat' (first
    | (refine wc_callR rfl inferInstance rfl (c_GraphOk _ _) rfl ?_; intro _ _)
    | (refine wc_callOW rfl inferInstance rfl (c_reached _ _ a (by assumption) (by omega)) rfl ?_; intro _ _ _ _ _)
    | refine wl_pop rfl (pc_lenRow rfl inferInstance inferInstance) ?_
    | refine wc_loadn rfl inferInstance (at_has (cs := [_]) (.inl rfl) rfl rfl) rfl ?_
    | refine at_ret (res_cell2 rfl rfl inferInstance (at_has (cs := [_]) (.inl rfl) rfl rfl) rfl) ?_
    | refine wl_pop rfl (pc_build0 (cs := [_]) inferInstance inferInstance rfl) ?_
    | refine wc_guardNPr_false rfl rfl rfl rfl (fun _ => ?_) (fun _ => ?_)
    | refine wp_seqA ?_
    | refine wp_region_seq ?_
    | refine thru_seq_next ?_
    | refine thru_seq_ret ?_
    | refine wp_skipA ?_
    | refine wp_retA ?_
    | refine wp_blockA ?_
    | refine wl_nil ?_
    | refine wl_pop rfl (po_move rfl) ?_
    | refine wl_pop rfl (po_assign rfl) ?_
    | refine wl_pop rfl (po_binOp rfl rfl rfl) ?_
    | refine wl_pop rfl (po_fieldAddr rfl inferInstance) ?_
    | refine wc_load1 rfl inferInstance (at_has (.inl rfl) rfl rfl) rfl ?_
    | refine wl_pop rfl (po_not rfl) ?_
    | (refine wc_storeA rfl rfl inferInstance inferInstance rfl inferInstance (Nat.le_of_ble_eq_true rfl) (.inr (may_new _)) ?_; intro _ _)
    | (refine wc_boxA rfl inferInstance rfl ?_; intro _ _ _ _ _)
    | (refine wc_allocA (cs := [_]) inferInstance rfl inferInstance rfl ?_; intro _ _ _ _ _)
    | refine wl_pop rfl (po_pick rfl rfl) ?_
    | refine wc_guardT_false rfl rfl rfl ?_
    | refine wc_guardF_false rfl rfl rfl rfl ?_
    | refine wp_condT rfl ?_
    | refine wp_condP rfl (fun _ => ?_) (fun _ => ?_)
    | fail)
  · exact ret_go_none (optB_no (fun h => by have := h.2.2; omega)) inferInstance
  rotate_left
  · exact ret_go_none (optB_no (fun h => absurd h.1 (by assumption))) inferInstance
  rename_i i1 σ1 g1 n1 h1 i2 σ2 g2 n2 h2 σ3 g3 hok hal u σ4 ou wu gu i5 σ5 g5 n5 h5 σb u5
  have ha : a < g.length := by omega
  rw [optB_yes ⟨hok, by omega, by omega⟩, Int.toNat_natCast, partL_eq]
  have h60 := hok.most
  have hfp := from_props hok ha
  have hfl := hfp.1.len
  have hF : ∀ j, j < (fromL g a).length → (fromL g a).getD j 0 < g.length := fun j hj => by rw [getD_lt hj]; exact hfp.1.lt _ (List.getElem_mem _)
  have hnd := hfp.1.nodup
  have hcl := hfp.2.1
  generalize hFF : fromL g a = F at *
  have hb5 : Has σb i5 ⟨.own, 1, [nilS], []⟩ := instHasUpd (g := u5)
  have hn5 : New σ4 i5 := n5
  have hle5 : LeS σ4 σb := inferInstance
  clear h5
  refine wc_loop [(2, _), (4, _), (6, _), (7, _), (32, _), (33, _)] (fun x : Nat × AV => [(34, I x.1)]) (fun x σ' => x.1 ≤ F.length ∧ LeS σ4 σ' ∧ σb.length ≤ σ'.length ∧ Has σ' i5 ⟨.own, 1, [x.2], []⟩ ∧ ∃ us, OW σb σ' x.2 us ∧ ORs σb σ' us ((F.map fun k => tidyL ((g.getD k []).map (partM F))).take x.1)) (fun x => F.length - x.1) (0, nilS) ⟨Nat.zero_le _, hle5, Nat.le_refl _, hb5, [], OW.nilS _ _, ORs.nil _ _⟩ (by repeat' (first | exact sub_nil | refine sub_cons rfl ?_ | refine sub_int rfl (by first | rfl | omega | (push_cast; omega) | simp) ?_ | refine sub_eq rfl (by assumption) ?_)) ?_
  rintro ⟨k, v⟩ σ9 ⟨hk9, hle9, hlen9, hi9, us, how, hor⟩
  dsimp only at hk9 hi9 how hor ⊢
  have := hle9.grow
  have hone := how.one
  have hul : us.length = k := by have := hor.len; simp at this; omega
  have hFk := hF k
  repeat' (first
    | (refine wc_row0 (α := Mv) inferInstance inferInstance rfl rfl (by decide) rfl ?_; intro _ _ _ _ _)
    | refine wl_pop rfl (pc_ldNat rfl inferInstance inferInstance (by omega) inferInstance) ?_
    | refine wl_pop rfl (pc_ldAV rfl inferInstance inferInstance (by omega) inferInstance) ?_
    | refine wl_pop rfl (pc_indexRow rfl rfl inferInstance inferInstance inferInstance (by omega)) ?_
    | refine wl_pop rfl (pc_lenRow rfl inferInstance inferInstance) ?_
    | refine wc_loadn rfl inferInstance (at_has (cs := [_]) (.inl rfl) rfl rfl) rfl ?_
    | refine at_ret (res_cell2 rfl rfl inferInstance (at_has (cs := [_]) (.inl rfl) rfl rfl) rfl) ?_
    | refine wp_seqA ?_
    | refine wp_region_seq ?_
    | refine thru_seq_next ?_
    | refine thru_seq ?_
    | refine exit_here ?_
    | refine wp_skipA ?_
    | refine wp_retA ?_
    | refine wp_exitA ?_
    | refine wp_blockA ?_
    | refine wl_nil ?_
    | refine wl_pop rfl (po_move rfl) ?_
    | refine wl_pop rfl (po_assign rfl) ?_
    | refine wl_pop rfl (po_binOp rfl rfl rfl) ?_
    | refine wl_pop rfl (po_fieldAddr rfl inferInstance) ?_
    | refine wc_load1 rfl inferInstance (at_has (.inl rfl) rfl rfl) rfl ?_
    | (refine wc_storeA rfl rfl inferInstance inferInstance rfl inferInstance (Nat.le_of_ble_eq_true rfl) (.inr (may_new _)) ?_; intro _ _)
    | refine wp_condP rfl (fun _ => ?_) (fun _ => ?_)
    | fail)
  rotate_left
  · obtain rfl : k = F.length := by omega
    rw [List.take_of_length_le (by simp)] at hor
    exact ret_go rfl inferInstance inferInstance inferInstance inferInstance inferInstance
  rename_i hkl i10 σ10 g10 n10 h10
  have hk' : k < F.length := by omega
  have hFk := hFk hk'
  have hrw : RW σ1 (ss.getD (F.getD k 0) nilS) (g.getD (F.getD k 0) []) := inferInstance
  have hrb := hlim (F.getD k 0)
  have hmv : ∀ m ∈ g.getD (F.getD k 0) [], (-4 ≤ m.1 ∧ m.1 ≤ 4) ∧ 0 ≤ m.2 ∧ m.2 < g.length ∧ m.2.toNat < g.length ∧ ((m.2.toNat : Nat) : Int) = m.2 := fun m hm => hok.to (s := F.getD k 0) hm
  have hmF : ∀ m ∈ g.getD (F.getD k 0) [], m.2.toNat ∈ F := fun m hm => hcl (F.getD k 0) (by rw [getD_lt hk']; exact List.getElem_mem _) m hm
  have hgetk : (F.map fun k => tidyL ((g.getD k []).map (partM F))).getD k [] = tidyL ((g.getD (F.getD k 0) []).map (partM F)) := by
    rw [getD_lt (by simpa using hk'), List.getElem_map, getD_lt hk']
  have hw10 : OW σ9 σ10 (.sl i10 0 0) ([] : List Mv) := ow_of_has h10 n10.le rfl (by decide)
  refine wc_loop [(2, _), (4, _), (6, _), (7, _), (32, _), (33, _), (34, _), (43, _), (44, _)] (fun x : Nat × AV => [(10, x.2), (45, I x.1)]) (fun x σ' => x.1 ≤ (g.getD (F.getD k 0) []).length ∧ x.2 ≠ nilS ∧ LeS σ9 σ' ∧ OW σ9 σ' x.2 (((g.getD (F.getD k 0) []).map (partM F)).take x.1)) (fun x => (g.getD (F.getD k 0) []).length - x.1) (0, .sl i10 0 0) ⟨Nat.zero_le _, (by intro h; cases h), inferInstance, by simpa using hw10⟩ (by repeat' (first | exact sub_nil | refine sub_cons rfl ?_ | refine sub_int rfl (by first | rfl | omega | (push_cast; omega) | simp) ?_ | refine sub_eq rfl (by assumption) ?_)) ?_
  rintro ⟨q, w⟩ σ11 ⟨hq, hwn, hle11, how11⟩
  dsimp only at hq hwn how11 ⊢
  have := hle11.grow
  have honew := how11.one
  repeat' (first
    | refine wl_pop rfl (pc_ldMv rfl inferInstance inferInstance (by omega) inferInstance) ?_
    | refine wl_pop rfl (pc_indexRow rfl rfl inferInstance inferInstance inferInstance (by omega)) ?_
    | refine wp_seqA ?_
    | refine wp_region_seq ?_
    | refine thru_seq_next ?_
    | refine thru_seq ?_
    | refine exit_here ?_
    | refine wp_skipA ?_
    | refine wp_exitA ?_
    | refine wp_blockA ?_
    | refine wl_nil ?_
    | refine wl_pop rfl (po_binOp rfl rfl rfl) ?_
    | (refine wc_storeA rfl rfl inferInstance inferInstance rfl inferInstance (Nat.le_of_ble_eq_true rfl) (.inr (may_new _)) ?_; intro _ _)
    | (refine wc_allocA (cs := [_, _]) inferInstance rfl inferInstance rfl ?_; intro _ _ _ _ _)
    | refine wp_condP rfl (fun _ => ?_) (fun _ => ?_)
    | fail)
  · rename_i hql i12 σ12 g12 n12 h12 σ13 u13
    have hq' : q < (g.getD (F.getD k 0) []).length := by omega
    have hmem : (g.getD (F.getD k 0) []).getD q (0, 0) ∈ g.getD (F.getD k 0) [] := by rw [getD_lt hq']; exact List.getElem_mem _
    have hmb := hmv _ hmem
    have hmc := hmF _ hmem
    refine wc_drawn [9, 10] mixed_ rfl ?_
    all_goals refine da_takeC 0 rfl rfl (by kernel_rfl) (by first | exact po_move rfl | fail) ?_
    all_goals refine da_takeC 1 rfl rfl (by kernel_rfl) (by first | exact po_fieldAddr rfl inferInstance | fail) ?_
    all_goals refine da_takeC 2 rfl rfl (by kernel_rfl) (by first | exact pc_load1L rfl inferInstance (at_has (.inl rfl) rfl rfl) inferInstance | fail) ?_
    all_goals refine da_takeC 3 rfl rfl (by kernel_rfl) (by first | exact po_move rfl | fail) ?_
    all_goals refine da_takeC 4 rfl rfl (by kernel_rfl) (by first | exact po_fieldAddr rfl inferInstance | fail) ?_
    all_goals refine da_takeC 5 rfl rfl (by kernel_rfl) (by first | exact pc_load1L rfl inferInstance (at_has (.inl rfl) rfl rfl) inferInstance | fail) ?_
    all_goals (first | (refine da_one 6 rfl (by kernel_rfl) (fun _ _ _ _ => ?_); (repeat' (first | (refine wc_callR rfl inferInstance rfl (c_Index _ _ _ (by omega) hmc) rfl ?_; intro _ _) | fail)); all_goals (first | refine wl_nil ⟨rfl, (by first | exact LeS.len inferInstance | exact App.len (by assumption)), ?_⟩ | trace_state)))
    all_goals refine da_takeC 7 rfl rfl (by kernel_rfl) (by first | exact pc_buildMv rfl rfl inferInstance inferInstance rfl | fail) ?_
    all_goals (first | (refine da_one 8 rfl (by kernel_rfl) (fun _ _ _ _ => ?_); (repeat' (first | (refine wc_oneMv rfl inferInstance inferInstance rfl (by decide) rfl ?_; intro _ _ _ _ _) | fail)); all_goals (first | refine wl_nil ⟨rfl, (by first | exact LeS.len inferInstance | exact App.len (by assumption)), ?_⟩ | trace_state)))
    all_goals (refine da_last 9 rfl (by decide) (by kernel_rfl) ?_; (repeat' (first | (refine wc_append1 (α := Mv) (σ₀ := σ9) rfl rfl inferInstance inferInstance rfl (by decide) (by decide) inferInstance inferInstance (one_mv _ _) (by simp; omega) (may_ge σ9) (LeS.len inferInstance) rfl ?_; intro _ _ _ _ _ _) | fail)); all_goals (first | refine wl_nil (dl_in ?_) | trace_state))
    all_goals (refine dl_last 10 rfl (by decide) (by kernel_rfl) ?_; (repeat' (first | refine wl_pop rfl (po_assign rfl) ?_ | fail)); all_goals (first | refine wl_nil (dl_in ?_) | trace_state))
    all_goals refine dl_done (by kernel_rfl) ?_
    repeat' (first
      | refine wp_region_seq ?_
      | refine thru_seq_next ?_
      | refine thru_block_next ?_
      | refine wl_nil ?_
      | refine wl_pop rfl (po_move rfl) ?_
      | refine wl_pop rfl (pc_add rfl rfl (by omega) (by omega)) ?_
      | fail)
    rename_i N6 B6 w6 r6 σ14 g14 N7 B7 w7 r7 i15 σ15 g15 n15 h15 w' σ16 happ mk16 how16 one16
    refine ⟨(q + 1, w'), by dsimp only; omega, ⟨by dsimp only; omega, how16.ne_nil (by simp), inferInstance, ?_⟩, (by repeat' (first | exact sub_nil | refine sub_cons rfl ?_ | refine sub_int rfl (by first | rfl | omega | (push_cast; omega) | simp) ?_ | refine sub_eq rfl (by assumption) ?_))⟩
    dsimp only
    rw [map_take_succ hq' (d := (0, 0))]
    exact how16
  obtain rfl : q = (g.getD (F.getD k 0) []).length := by omega
  rw [List.take_of_length_le (by simp)] at how11
  rcases how11.rep with ⟨_, h0⟩ | ⟨iw, rfl, hiw, hhw⟩
  · exact absurd h0 hwn
  have hlt5 : i5 < σ11.length := Nat.lt_of_lt_of_le hi9.lt hle11.len
  have hne5 : i5 ≠ iw := by have := hi9.lt; omega
  refine wc_drawnX (t := 10) iw [5, 6, 7] mixed_ rfl rfl ?_
  refine dx_pure 0 rfl rfl (by kernel_rfl) (po_fieldAddr rfl inferInstance) ?_
  refine dx_pure 2 rfl rfl (by kernel_rfl) (po_move rfl) ?_
  refine dx_load1 1 rfl rfl (by kernel_rfl) rfl inferInstance (at_has (cs := [_]) (.inl rfl) rfl rfl) hlt5 hhw hne5 ?_
  refine dx_one 3 rfl (by kernel_rfl) hhw (.inr (Nat.le_trans (LeS.len inferInstance) hiw)) ?_
  intro N' B' w₀' ρ₀' may' hmay'
  refine wl_call rfl inferInstance rfl (c_tidy σ11 _ how11).len (fun j ⟨n, hj⟩ => ?_) rfl ?_
  · cases hj; exact ⟨hmay' _ (.inl rfl), _, hhw.get, .inl rfl⟩
  rintro r σ12 ⟨⟨h12, k12⟩, l12⟩
  refine wl_nil ⟨rfl, l12, ?_⟩
  clear hmay'
  have m12 : Mk σ11 σ9 σ11 σ12 := ⟨fun j o hj ho => k12 j o (fun n e => by cases e; have := hhw.lt; omega) ho⟩
  have hone12 := h12.one
  refine dx_new 4 rfl (by kernel_rfl) ?_
  intro N7 B7 w7 r7 may7 hmay7
  refine wc_oneAV rfl inferInstance inferInstance rfl (by decide) rfl ?_
  intro iv σ13 g13 n13 h13
  refine wl_nil ⟨rfl, g13.len, ?_⟩
  refine dx_last 5 rfl (by decide) (by kernel_rfl) ?_
  refine wc_append1 (α := AV) (σ₀ := σb) rfl rfl inferInstance inferInstance rfl (by decide) (by decide) inferInstance inferInstance (one_av inferInstance) (by omega) (may_ge σb) (Nat.le_trans hlen9 (LeS.len inferInstance)) rfl ?_
  intro v' σ14 happ mk14 how14 ov'
  refine wl_nil (dl_in ?_)
  refine dl_last 6 rfl (by decide) (by kernel_rfl) ?_
  refine wl_pop rfl (po_fieldAddr rfl inferInstance) ?_
  refine wl_nil (dl_in ?_)
  refine dl_last 7 rfl (by decide) (by kernel_rfl) ?_
  refine wc_store1 rfl rfl inferInstance inferInstance inferInstance (Nat.le_of_ble_eq_true rfl) (.inr (may_new _)) ?_
  intro σ15 u15
  refine wl_nil (dl_in ?_)
  refine dl_done (by kernel_rfl) ?_
  repeat' (first
    | refine wp_region_seq ?_
    | refine thru_seq_next ?_
    | refine thru_block_next ?_
    | refine wl_nil ?_
    | refine wl_pop rfl (po_move rfl) ?_
    | refine wl_pop rfl (pc_add rfl rfl (by omega) (by omega)) ?_
    | fail)
  have hpush := rows_push (by decide) hor how hlen9 hb5 (inferInstance : OW σ9 σ13 r _) inferInstance happ u15
  have how15 : OW σb σ15 v' (us ++ [r]) := inferInstance
  have hlen15 : σb.length ≤ σ15.length := by
    have := happ.len
    have := (inferInstance : LeS σ9 σ13).len
    rw [u15.eq, List.length_set]; omega
  refine ⟨(k + 1, v'), by dsimp only; omega, ⟨by dsimp only; omega, inferInstance, hlen15, instHasUpd (g := u15), us ++ [r], how15, ?_⟩, (by repeat' (first | exact sub_nil | refine sub_cons rfl ?_ | refine sub_int rfl (by first | rfl | omega | (push_cast; omega) | simp) ?_ | refine sub_eq rfl (by assumption) ?_))⟩
  dsimp only
  rw [take_succ_getD (by simpa using hk') (d := []), hgetk]
  exact hpush
end
end Go.Proofs.Ytpkgcdpebomalaa.Asl
