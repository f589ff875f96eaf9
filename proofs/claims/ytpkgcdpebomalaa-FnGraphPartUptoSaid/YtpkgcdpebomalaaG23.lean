/- A graph's part: the reference. -/
import Derived.Test.YtpkgcdpebomalaaG22
import Derived.Test.YtpkgcdpebomalaaG9
import Derived.Test.YtpkgcdpebomalaaG6
namespace Go.Proofs.Ytpkgcdpebomalaa.Asl
open Go.RowKit Go.Proofs.YtpkgcdpebomalaaW.PrintLast
set_option linter.unusedVariables false
set_option linter.unusedSimpArgs false
attribute [local irreducible] WP WL andThen inBlock noGoto atEnd ACall DA DL PO Hold
set_option maxHeartbeats 4000000
set_option synthInstance.maxHeartbeats 400000
set_option synthInstance.maxSize 10000
/-- A state's moves in the part. -/
def partM (F : List Nat) (m : Mv) : Mv := (m.1, ((F.idxOf m.2.toNat : Nat) : Int))
theorem partL_eq (g : Gr) (s : Nat) : partL g s = (fromL g s).map fun k => tidyL ((g.getD k []).map (partM (fromL g s))) := rfl
section
variable {base : Nat}
theorem c_l3Part (σ : Store) (s : AV) (a : Nat) {ss : List AV} {g : Gr} [hs : RW σ s ss] [hg : RRs σ ss g] (hok : GOk g) (ha : a < g.length) (hlim : ∀ k, (g.getD k []).length < 4294967296) : ACall Try.prog base F_spec_l3Part [.agg [s], I (a : Int)] σ (fun _ => False) (RetG σ (partL g a)) := by
  have hb := hs.bound
  have := hs.one
  have hl := hg.len
  have h60 := hok.most
  have hfp := from_props hok ha
  have hfl := hfp.1.len
  refine acall2 fun_spec_l3Part rfl tmps_spec_l3Part rfl fun N B w₀ ρ₀ => ?_
  repeat' (first
    | (refine wc_callOW rfl inferInstance rfl (c_l3From _ _ a hok ha) rfl ?_; intro _ _ _ _ _)
    | (refine wc_makeRow (α := Nat) rfl rfl inferInstance inferInstance rfl rfl (by decide) (by omega) (by omega) rfl ?_; intro _ _ _ _ _)
    | refine wl_pop rfl (pc_lenRow rfl inferInstance inferInstance) ?_
    | refine wc_loadn rfl inferInstance (at_has (cs := [_]) (.inl rfl) rfl rfl) rfl ?_
    | refine wp_seqA ?_
    | refine wp_region_seq ?_
    | refine thru_seq_next ?_
    | refine wp_blockA ?_
    | refine wl_nil ?_
    | refine wl_pop rfl (po_move rfl) ?_
    | refine wl_pop rfl (po_assign rfl) ?_
    | refine wl_pop rfl (po_fieldAddr rfl inferInstance) ?_
    | refine wc_load1 rfl inferInstance (at_has (.inl rfl) rfl rfl) rfl ?_
    | (refine wc_boxA rfl inferInstance rfl ?_; intro _ _ _ _ _)
    | (refine wc_allocA (cs := [_]) inferInstance rfl inferInstance rfl ?_; intro _ _ _ _ _)
    | fail)
  rename_i i1 σ1 g1 n1 h1 i2 σ2 g2 n2 h2 u σ3 ou wu gu i4 σ4 g4 n4 h4
  rw [hl] at h4
  have hF : ∀ j, j < (fromL g a).length → (fromL g a).getD j 0 < g.length := fun j hj => by rw [getD_lt hj]; exact hfp.1.lt _ (List.getElem_mem _)
  have hnd := hfp.1.nodup
  have hcl := hfp.2.1
  rw [partL_eq]
  generalize hFF : fromL g a = F at *
  have hru : RW σ4 u F := inferInstance
  refine wc_loop [(2, _), (4, _), (5, _), (6, _)] (fun x : Nat × List Nat => [(7, I x.1)]) (fun x σ' => x.1 ≤ F.length ∧ x.2.length = g.length ∧ (∀ j, j < x.1 → x.2.getD (F.getD j 0) 0 = j) ∧ LeS σ3 σ' ∧ Has σ' i4 (Row x.2)) (fun x => F.length - x.1) (0, List.replicate g.length 0) ⟨Nat.zero_le _, by simp, fun j hj => by dsimp only at hj; omega, inferInstance, (inferInstance : Has σ4 i4 (Row (List.replicate g.length Enc.dflt)))⟩ (by repeat' (first | exact sub_nil | refine sub_cons rfl ?_ | refine sub_int rfl (by first | rfl | omega | (push_cast; omega) | simp) ?_ | refine sub_eq rfl (by assumption) ?_)) ?_
  rintro ⟨k, c⟩ σ5 ⟨hk, hcn, hcj, hle, hh⟩
  dsimp only at hk hcn hcj hh ⊢
  have := hle.grow
  have hFk := hF k
  repeat' (first
    | (refine wc_stNat rfl rfl inferInstance inferInstance (by omega) (.inr (may_new _)) ?_; intro _ _)
    | refine wl_pop rfl (pc_ldNat rfl inferInstance inferInstance (by omega) inferInstance) ?_
    | refine wl_pop rfl (pc_indexRow rfl rfl inferInstance inferInstance inferInstance (by omega)) ?_
    | refine wl_pop rfl (pc_lenRow rfl inferInstance inferInstance) ?_
    | refine wl_pop rfl (pc_build0 (cs := [_]) inferInstance inferInstance rfl) ?_
    | refine wp_seqA ?_
    | refine wp_region_seq ?_
    | refine thru_seq_next ?_
    | refine thru_seq ?_
    | refine thru_block_next ?_
    | refine exit_here ?_
    | refine wp_skipA ?_
    | refine wp_exitA ?_
    | refine wp_blockA ?_
    | refine wl_nil ?_
    | refine wl_pop rfl (po_move rfl) ?_
    | refine wl_pop rfl (po_assign rfl) ?_
    | refine wl_pop rfl (pc_add rfl rfl (by omega) (by omega)) ?_
    | refine wl_pop rfl (po_binOp rfl rfl rfl) ?_
    | refine wl_pop rfl (pc_indexAddr rfl rfl inferInstance inferInstance (by omega)) ?_
    | (refine wc_storeA rfl rfl inferInstance inferInstance rfl inferInstance (Nat.le_of_ble_eq_true rfl) (.inr (may_new _)) ?_; intro _ _)
    | (refine wc_allocA (cs := [_]) inferInstance rfl inferInstance rfl ?_; intro _ _ _ _ _)
    | refine wp_condP rfl (fun _ => ?_) (fun _ => ?_)
    | fail)
  · rename_i hkl σ6 u6
    have hk' : k < F.length := by omega
    refine ⟨(k + 1, c.set (F.getD k 0) k), by dsimp only; omega, ⟨by dsimp only; omega, by simp [hcn], fun j hj => ?_, inferInstance, instHasUpd (g := u6)⟩, (by repeat' (first | exact sub_nil | refine sub_cons rfl ?_ | refine sub_int rfl (by first | rfl | omega | (push_cast; omega) | simp) ?_ | refine sub_eq rfl (by assumption) ?_))⟩
    dsimp only at hj ⊢
    have hlt := hFk hk'
    by_cases e : j = k
    · subst e; rw [getD_set_eq (by omega)]
    · rw [getD_set_ne]
      · exact hcj j (by omega)
      · intro e2
        rw [getD_lt hk', getD_lt (show j < F.length by omega)] at e2
        rcases Nat.lt_or_ge j k with h | h
        · exact List.pairwise_iff_getElem.mp hnd j k (by omega) hk' h e2.symm
        · exact List.pairwise_iff_getElem.mp hnd k j hk' (by omega) (by omega) e2
  rename_i hkl i8 σ7 g7 n7 h7 σb u8
  obtain rfl : k = F.length := by omega
  have hci : ∀ x, x ∈ F → c.getD x 0 = F.idxOf x := by
    intro x hx
    obtain ⟨j, hj, rfl⟩ := List.getElem_of_mem hx
    have h := hcj j hj
    rw [getD_lt hj] at h
    rw [h]
    refine (idxOf_first hj (getD_lt hj) fun q hq e => ?_).symm
    rw [getD_lt (by omega)] at e
    exact List.pairwise_iff_getElem.mp hnd q j (by omega) hj hq e
  clear hcj hFk
  have hb8 : Has σb i8 ⟨.own, 1, [nilS], []⟩ := instHasUpd (g := u8)
  have hn8 : New σ5 i8 := n7
  have hle8 : LeS σ5 σb := inferInstance
  clear h7
  have hrc : RW σ5 (.sl i4 0 ss.length) c := rw_of_has hh (by omega) (by omega)
  refine wc_loop [(2, _), (4, _), (5, _), (6, _), (8, _)] (fun x : Nat × AV => [(9, I x.1)]) (fun x σ' => x.1 ≤ F.length ∧ LeS σ5 σ' ∧ σb.length ≤ σ'.length ∧ Has σ' i8 ⟨.own, 1, [x.2], []⟩ ∧ ∃ us, OW σb σ' x.2 us ∧ ORs σb σ' us ((F.map fun k => tidyL ((g.getD k []).map (partM F))).take x.1)) (fun x => F.length - x.1) (0, nilS) ⟨Nat.zero_le _, hle8, Nat.le_refl _, hb8, [], OW.nilS _ _, ORs.nil _ _⟩ (by repeat' (first | exact sub_nil | refine sub_cons rfl ?_ | refine sub_int rfl (by first | rfl | omega | (push_cast; omega) | simp) ?_ | refine sub_eq rfl (by assumption) ?_)) ?_
  rintro ⟨k, v⟩ σ9 ⟨hk9, hle9, hlen9, hi9, us, how, hor⟩
  dsimp only at hk9 hi9 how hor ⊢
  have := hle9.grow
  have hone := how.one
  have hul : us.length = k := by have := hor.len; simp at this; omega
  repeat' (first
    | (refine wc_row0 (α := Mv) inferInstance inferInstance rfl rfl (by decide) rfl ?_; intro _ _ _ _ _)
    | refine wl_pop rfl (pc_lenRow rfl inferInstance inferInstance) ?_
    | refine wc_loadn rfl inferInstance (at_has (cs := [_]) (.inl rfl) rfl rfl) rfl ?_
    | refine at_ret (res_cell rfl rfl inferInstance (at_has (cs := [_]) (.inl rfl) rfl rfl)) ?_
    | refine wp_seqA ?_
    | refine wp_region_seq ?_
    | refine thru_seq_next ?_
    | refine thru_seq ?_
    | refine exit_here ?_
    | refine wp_skipA ?_
    | refine wp_retA ?_
    | refine wp_exitA ?_
    | refine wp_blockA ?_
    | refine wl_nil ?_
    | refine wl_pop rfl (po_move rfl) ?_
    | refine wl_pop rfl (po_assign rfl) ?_
    | refine wl_pop rfl (po_binOp rfl rfl rfl) ?_
    | (refine wc_storeA rfl rfl inferInstance inferInstance rfl inferInstance (Nat.le_of_ble_eq_true rfl) (.inr (may_new _)) ?_; intro _ _)
    | refine wp_condP rfl (fun _ => ?_) (fun _ => ?_)
    | fail)
  rotate_left
  · obtain rfl : k = F.length := by omega
    rw [List.take_of_length_le (by simp)] at hor
    exact ret_g inferInstance inferInstance inferInstance inferInstance inferInstance rfl
  rename_i hkl i10 σ10 g10 n10 h10
  have hk' : k < F.length := by omega
  have hFk := hF k hk'
  have hrw : RW σ1 (ss.getD (F.getD k 0) nilS) (g.getD (F.getD k 0) []) := inferInstance
  have hrb := hlim (F.getD k 0)
  have hmv : ∀ m ∈ g.getD (F.getD k 0) [], (-4 ≤ m.1 ∧ m.1 ≤ 4) ∧ 0 ≤ m.2 ∧ m.2 < g.length ∧ m.2.toNat < g.length ∧ ((m.2.toNat : Nat) : Int) = m.2 := fun m hm => hok.to (s := F.getD k 0) hm
  have hmF : ∀ m ∈ g.getD (F.getD k 0) [], m.2.toNat ∈ F := fun m hm => hcl (F.getD k 0) (by rw [getD_lt hk']; exact List.getElem_mem _) m hm
  have hgetk : (F.map fun k => tidyL ((g.getD k []).map (partM F))).getD k [] = tidyL ((g.getD (F.getD k 0) []).map (partM F)) := by
    rw [getD_lt (by simpa using hk'), List.getElem_map, getD_lt hk']
  refine wc_loop [(2, _), (4, _), (5, _), (6, _), (8, _), (9, _)] (fun x : Nat × AV => [(10, x.2), (11, I x.1)]) (fun x σ' => x.1 ≤ (g.getD (F.getD k 0) []).length ∧ LeS σ9 σ' ∧ OW σ9 σ' x.2 (((g.getD (F.getD k 0) []).map (partM F)).take x.1)) (fun x => (g.getD (F.getD k 0) []).length - x.1) (0, .sl i10 0 0) ⟨Nat.zero_le _, inferInstance, by simpa using (ow_of_has h10 n10.le rfl (by decide) : OW σ9 σ10 (.sl i10 0 0) ([] : List Mv))⟩ (by repeat' (first | exact sub_nil | refine sub_cons rfl ?_ | refine sub_int rfl (by first | rfl | omega | (push_cast; omega) | simp) ?_ | refine sub_eq rfl (by assumption) ?_)) ?_
  rintro ⟨q, w⟩ σ11 ⟨hq, hle11, how11⟩
  dsimp only at hq how11 ⊢
  have := hle11.grow
  have honew := how11.one
  repeat' (first
    | refine wp_seqA ?_
    | fail)
  refine wc_drawn [] mixed_ rfl ?_
  all_goals refine da_takeC 0 rfl rfl (by kernel_rfl) (by first | exact po_move rfl | fail) ?_
  all_goals refine da_takeC 1 rfl rfl (by kernel_rfl) (by first | exact po_fieldAddr rfl inferInstance | fail) ?_
  all_goals refine da_takeC 2 rfl rfl (by kernel_rfl) (by first | exact pc_load1L rfl inferInstance (at_has (.inl rfl) rfl rfl) inferInstance | fail) ?_
  all_goals refine da_takeC 3 rfl rfl (by kernel_rfl) (by first | exact po_move rfl | fail) ?_
  all_goals refine da_takeC 4 rfl rfl (by kernel_rfl) (by first | exact po_move rfl | fail) ?_
  all_goals refine da_takeC 5 rfl rfl (by kernel_rfl) (by first | exact pc_indexRow rfl rfl inferInstance inferInstance inferInstance (by omega) | fail) ?_
  all_goals refine da_takeC 6 rfl rfl (by kernel_rfl) (by first | exact pc_ldNat rfl inferInstance inferInstance (by omega) inferInstance | fail) ?_
  all_goals refine da_takeC 7 rfl rfl (by kernel_rfl) (by first | exact pc_indexRow rfl rfl inferInstance inferInstance inferInstance (by omega) | fail) ?_
  all_goals refine da_takeC 8 rfl rfl (by kernel_rfl) (by first | exact pc_ldAV rfl inferInstance inferInstance (by omega) inferInstance | fail) ?_
  all_goals refine da_takeC 9 rfl rfl (by kernel_rfl) (by first | exact pc_lenRow rfl inferInstance inferInstance | fail) ?_
  all_goals refine da_takeC 10 rfl rfl (by kernel_rfl) (by first | exact po_binOp rfl rfl rfl | fail) ?_
  all_goals refine da_done (by kernel_rfl) ?_
  repeat' (first
    | refine wp_seqA ?_
    | refine thru_seq_next ?_
    | refine thru_seq ?_
    | refine exit_here ?_
    | refine wp_skipA ?_
    | refine wp_exitA ?_
    | refine wp_blockA ?_
    | refine wp_condP rfl (fun _ => ?_) (fun _ => ?_)
    | fail)
  · rename_i hql
    have hq' : q < (g.getD (F.getD k 0) []).length := by omega
    have hmem : (g.getD (F.getD k 0) []).getD q (0, 0) ∈ g.getD (F.getD k 0) [] := by rw [getD_lt hq']; exact List.getElem_mem _
    have hmb := hmv _ hmem
    have hmc := hci _ (hmF _ hmem)
    refine wc_drawn [12] mixed_ rfl ?_
    all_goals refine da_takeC 0 rfl rfl (by kernel_rfl) (by first | exact po_fieldAddr rfl inferInstance | fail) ?_
    all_goals refine da_takeC 1 rfl rfl (by kernel_rfl) (by first | exact pc_load1L rfl inferInstance (at_has (.inl rfl) rfl rfl) inferInstance | fail) ?_
    all_goals refine da_takeC 2 rfl rfl (by kernel_rfl) (by first | exact po_move rfl | fail) ?_
    all_goals refine da_takeC 3 rfl rfl (by kernel_rfl) (by first | exact po_move rfl | fail) ?_
    all_goals refine da_takeC 4 rfl rfl (by kernel_rfl) (by first | exact pc_indexRow rfl rfl inferInstance inferInstance inferInstance (by omega) | fail) ?_
    all_goals refine da_takeC 5 rfl rfl (by kernel_rfl) (by first | exact pc_ldNat rfl inferInstance inferInstance (by omega) inferInstance | fail) ?_
    all_goals refine da_takeC 6 rfl rfl (by kernel_rfl) (by first | exact pc_indexRow rfl rfl inferInstance inferInstance inferInstance (by omega) | fail) ?_
    all_goals refine da_takeC 7 rfl rfl (by kernel_rfl) (by first | exact pc_ldAV rfl inferInstance inferInstance (by omega) inferInstance | fail) ?_
    all_goals refine da_takeC 8 rfl rfl (by kernel_rfl) (by first | exact po_move rfl | fail) ?_
    all_goals refine da_takeC 9 rfl rfl (by kernel_rfl) (by first | exact pc_indexRow rfl rfl inferInstance inferInstance inferInstance (by omega) | fail) ?_
    all_goals refine da_takeC 10 rfl rfl (by kernel_rfl) (by first | exact pc_ldMv rfl inferInstance inferInstance (by omega) inferInstance | fail) ?_
    all_goals (first | (refine da_one 11 rfl (by kernel_rfl) (fun _ _ _ _ => ?_); (repeat' (first | (refine wc_allocA (cs := [_, _]) inferInstance rfl inferInstance rfl ?_; intro _ _ _ _ _) | fail)); all_goals (first | refine wl_nil ⟨rfl, (by first | exact LeS.len inferInstance | exact App.len (by assumption)), ?_⟩ | trace_state)))
    all_goals (refine da_last 12 rfl (by decide) (by kernel_rfl) ?_; (repeat' (first | (refine wc_storeA rfl rfl inferInstance inferInstance rfl inferInstance (Nat.le_of_ble_eq_true rfl) (.inr (may_new _)) ?_; intro _ _) | fail)); all_goals (first | refine wl_nil (dl_in ?_) | trace_state))
    all_goals refine dl_done (by kernel_rfl) ?_
    repeat' (first
      | refine thru_seq_next ?_
      | fail)
    rename_i N6 B6 w6 r6 i12 σ12 g12 n12 h12 σ13 u13
    refine wc_drawn [10, 11] mixed_ rfl ?_
    all_goals refine da_takeC 0 rfl rfl (by kernel_rfl) (by first | exact po_move rfl | fail) ?_
    all_goals refine da_takeC 1 rfl rfl (by kernel_rfl) (by first | exact po_fieldAddr rfl inferInstance | fail) ?_
    all_goals refine da_takeC 2 rfl rfl (by kernel_rfl) (by first | exact pc_load1L rfl inferInstance (at_has (.inl rfl) rfl rfl) inferInstance | fail) ?_
    all_goals refine da_takeC 3 rfl rfl (by kernel_rfl) (by first | exact po_move rfl | fail) ?_
    all_goals refine da_takeC 4 rfl rfl (by kernel_rfl) (by first | exact po_fieldAddr rfl inferInstance | fail) ?_
    all_goals refine da_takeC 5 rfl rfl (by kernel_rfl) (by first | exact pc_load1L rfl inferInstance (at_has (.inl rfl) rfl rfl) inferInstance | fail) ?_
    all_goals refine da_takeC 6 rfl rfl (by kernel_rfl) (by first | exact pc_indexRowZ rfl rfl inferInstance inferInstance inferInstance (by omega) (by omega) | fail) ?_
    all_goals refine da_takeC 7 rfl rfl (by kernel_rfl) (by first | exact pc_ldNat rfl inferInstance inferInstance (by omega) inferInstance | fail) ?_
    all_goals refine da_takeC 8 rfl rfl (by kernel_rfl) (by first | exact pc_buildMv rfl rfl inferInstance inferInstance rfl | fail) ?_
    all_goals (first | (refine da_one 9 rfl (by kernel_rfl) (fun _ _ _ _ => ?_); (repeat' (first | (refine wc_oneMv rfl inferInstance inferInstance rfl (by decide) rfl ?_; intro _ _ _ _ _) | fail)); all_goals (first | refine wl_nil ⟨rfl, (by first | exact LeS.len inferInstance | exact App.len (by assumption)), ?_⟩ | trace_state)))
    all_goals (refine da_last 10 rfl (by decide) (by kernel_rfl) ?_; (repeat' (first | (refine wc_append1 (α := Mv) (σ₀ := σ9) rfl rfl inferInstance inferInstance rfl (by decide) (by decide) inferInstance inferInstance (one_mv _ _) (by simp; omega) (may_ge σ9) (LeS.len inferInstance) rfl ?_; intro _ _ _ _ _ _) | fail)); all_goals (first | refine wl_nil (dl_in ?_) | trace_state))
    all_goals (refine dl_last 11 rfl (by decide) (by kernel_rfl) ?_; (repeat' (first | refine wl_pop rfl (po_assign rfl) ?_ | fail)); all_goals (first | refine wl_nil (dl_in ?_) | trace_state))
    all_goals refine dl_done (by kernel_rfl) ?_
    repeat' (first
      | refine wp_region_seq ?_
      | refine thru_seq_next ?_
      | refine thru_block_next ?_
      | refine wl_nil ?_
      | refine wl_pop rfl (po_move rfl) ?_
      | refine wl_pop rfl (po_assign rfl) ?_
      | refine wl_pop rfl (pc_add rfl rfl (by omega) (by omega)) ?_
      | fail)
    rename_i N7 B7 w7 r7 i14 σ14 g14 n14 h14 w' σ15 happ mk15 how15 one15
    refine ⟨(q + 1, w'), by dsimp only; omega, ⟨by dsimp only; omega, inferInstance, ?_⟩, (by repeat' (first | exact sub_nil | refine sub_cons rfl ?_ | refine sub_int rfl (by first | rfl | omega | (push_cast; omega) | simp) ?_ | refine sub_eq rfl (by assumption) ?_))⟩
    dsimp only
    rw [map_take_succ hq' (d := (0, 0))]
    rw [hmc] at how15
    exact how15
  · obtain rfl : q = (g.getD (F.getD k 0) []).length := by omega
    rw [List.take_of_length_le (by simp)] at how11
    refine wc_drawn [5, 6, 7] mixed_ rfl ?_
    all_goals refine da_takeC 0 rfl rfl (by kernel_rfl) (by first | exact po_fieldAddr rfl inferInstance | fail) ?_
    all_goals refine da_takeC 1 rfl rfl (by kernel_rfl) (by first | exact pc_load1L rfl inferInstance (at_has (.inl rfl) rfl rfl) inferInstance | fail) ?_
    all_goals refine da_takeC 2 rfl rfl (by kernel_rfl) (by first | exact po_move rfl | fail) ?_
    all_goals (first | (refine da_one 3 rfl (by kernel_rfl) (fun _ _ _ _ => ?_); (repeat' (first | (refine wc_callOW rfl inferInstance rfl (c_l3Sorted _ _ (by rw [List.length_map]; exact hrb)) rfl ?_; intro _ _ _ _ _) | fail)); all_goals (first | refine wl_nil ⟨rfl, (by first | exact LeS.len inferInstance | exact App.len (by assumption)), ?_⟩ | trace_state)))
    all_goals (first | (refine da_one 4 rfl (by kernel_rfl) (fun _ _ _ _ => ?_); (repeat' (first | (refine wc_oneAV rfl inferInstance inferInstance rfl (by decide) rfl ?_; intro _ _ _ _ _) | fail)); all_goals (first | refine wl_nil ⟨rfl, (by first | exact LeS.len inferInstance | exact App.len (by assumption)), ?_⟩ | trace_state)))
    all_goals (refine da_last 5 rfl (by decide) (by kernel_rfl) ?_; (repeat' (first | (refine wc_append1 (α := AV) (σ₀ := σb) rfl rfl inferInstance inferInstance rfl (by decide) (by decide) inferInstance inferInstance (one_av inferInstance) (by omega) (may_ge σb) (Nat.le_trans hlen9 (LeS.len inferInstance)) rfl ?_; intro _ _ _ _ _ _) | fail)); all_goals (first | refine wl_nil (dl_in ?_) | trace_state))
    all_goals (refine dl_last 6 rfl (by decide) (by kernel_rfl) ?_; (repeat' (first | refine wl_pop rfl (po_fieldAddr rfl inferInstance) ?_ | fail)); all_goals (first | refine wl_nil (dl_in ?_) | trace_state))
    all_goals (refine dl_last 7 rfl (by decide) (by kernel_rfl) ?_; (repeat' (first | (refine wc_store1 rfl rfl inferInstance inferInstance inferInstance (Nat.le_of_ble_eq_true rfl) (.inr (may_new _)) ?_; intro _ _) | fail)); all_goals (first | refine wl_nil (dl_in ?_) | trace_state))
    all_goals refine dl_done (by kernel_rfl) ?_
    repeat' (first
      | refine wp_region_seq ?_
      | refine thru_seq_next ?_
      | refine thru_block_next ?_
      | refine wl_nil ?_
      | refine wl_pop rfl (po_move rfl) ?_
      | refine wl_pop rfl (po_assign rfl) ?_
      | refine wl_pop rfl (pc_add rfl rfl (by omega) (by omega)) ?_
      | fail)
    rename_i N7 B7 w7 r7 r σ12 or12 wr12 gr12 N8 B8 w8 r8 iv σ13 g13 n13 h13 v' σ14 happ mk14 how14 ov' σ15 u15
    have hor11 : ORs σb σ11 us _ := (inferInstance : ORs σb σ11 us ((F.map fun k => tidyL ((g.getD k []).map (partM F))).take k))
    have hlen11 : σb.length ≤ σ11.length := Nat.le_trans hlen9 hle11.len
    have hpush := rows_push (by decide) hor11 (inferInstance : OW σb σ11 v us) hlen11 hb8 (inferInstance : OW σ11 σ13 r _) inferInstance happ u15
    have how15 : OW σb σ15 v' (us ++ [r]) := inferInstance
    have hlen15 : σb.length ≤ σ15.length := by
      have := happ.len
      have := (inferInstance : LeS σ11 σ13).len
      rw [u15.eq, List.length_set]; omega
    refine ⟨(k + 1, v'), by dsimp only; omega, ⟨by dsimp only; omega, inferInstance, hlen15, instHasUpd (g := u15), us ++ [r], how15, ?_⟩, (by repeat' (first | exact sub_nil | refine sub_cons rfl ?_ | refine sub_int rfl (by first | rfl | omega | (push_cast; omega) | simp) ?_ | refine sub_eq rfl (by assumption) ?_))⟩
    dsimp only
    rw [take_succ_getD (by simpa using hk') (d := []), hgetk]
    exact hpush
theorem c_sGraphPart (σ : Store) (s : AV) (z : Int) {ss : List AV} {g : Gr} [hs : RW σ s ss] [hg : RRs σ ss g] (hlim : ∀ k, (g.getD k []).length < 4294967296) :
    ACall Try.prog base F_spec_GraphPart [.agg [s], I z] σ (fun _ => False) (RetGO σ (optB (GOk g ∧ 0 ≤ z ∧ z < g.length) (partL g z.toNat))) := by
  have hb := hs.bound
  have := hs.one
  have hl := hg.len
  rcases Int.lt_or_le z 0 with hz | hz
  · refine acall2 fun_spec_GraphPart rfl tmps_spec_GraphPart rfl fun N B w₀ ρ₀ => ?_
    repeat' (first
      | (refine wc_callR rfl inferInstance rfl (c_sGraphOk _ _) rfl ?_; intro _ _)
      | (refine wc_callR rfl inferInstance rfl (cg_l6In _ _ _ _) rfl ?_; intro _ _)
      | exact absurd (by assumption : 0 ≤ z ∧ _) (by omega)
      | refine wl_pop rfl (pc_lenRow rfl inferInstance inferInstance) ?_
      | refine wc_loadn rfl inferInstance (at_has (cs := [_]) (.inl rfl) rfl rfl) rfl ?_
      | refine at_ret (res_cell2 rfl rfl inferInstance (at_has (cs := [_]) (.inl rfl) rfl rfl) rfl) ?_
      | refine wl_pop rfl (pc_build0 (cs := [_]) inferInstance inferInstance rfl) ?_
      | refine wc_guardNPr_false rfl rfl rfl rfl (fun _ => ?_) (fun _ => ?_)
      | refine wp_seqA ?_
      | refine wp_region_seq ?_
      | refine thru_seq_next ?_
      | refine thru_seq_ret ?_
      | refine wp_retA ?_
      | refine wl_nil ?_
      | refine wl_pop rfl (po_move rfl) ?_
      | refine wl_pop rfl (po_assign rfl) ?_
      | refine wl_pop rfl (pc_sub rfl rfl (by omega) (by omega)) ?_
      | refine wl_pop rfl (po_fieldAddr rfl inferInstance) ?_
      | refine wc_load1 rfl inferInstance (at_has (.inl rfl) rfl rfl) rfl ?_
      | refine wl_pop rfl (po_not rfl) ?_
      | (refine wc_storeA rfl rfl inferInstance inferInstance rfl inferInstance (Nat.le_of_ble_eq_true rfl) (.inr (may_new _)) ?_; intro _ _)
      | (refine wc_boxA rfl inferInstance rfl ?_; intro _ _ _ _ _)
      | (refine wc_allocA (cs := [_]) inferInstance rfl inferInstance rfl ?_; intro _ _ _ _ _)
      | refine wl_pop rfl (po_pick rfl rfl) ?_
      | refine wc_guardT_false rfl rfl rfl ?_
      | refine wc_guardF_false rfl rfl rfl rfl ?_
      | refine wp_condT rfl ?_
      | refine wp_condNP rfl (fun _ => ?_) (fun _ => ?_)
      | fail)
    all_goals first
      | exact ret_go_none (optB_no (fun h => by have := h.2.1; omega)) inferInstance
      | (exfalso; omega)
  obtain ⟨a, rfl⟩ := Int.eq_ofNat_of_zero_le hz
  refine acall2 fun_spec_GraphPart rfl tmps_spec_GraphPart rfl fun N B w₀ ρ₀ => ?_
  repeat' (first
    | (refine wc_callR rfl inferInstance rfl (c_sGraphOk _ _) rfl ?_; intro _ _)
    | (refine wc_callR rfl inferInstance rfl (cg_l6In _ _ _ _) rfl ?_; intro _ _)
    | (refine wc_callG rfl inferInstance rfl (c_l3Part _ _ a (by assumption) (by omega) hlim) rfl ?_; intro _ _ _ _ _ _ _)
    | refine wl_pop rfl (pc_lenRow rfl inferInstance inferInstance) ?_
    | refine wc_loadn rfl inferInstance (at_has (cs := [_]) (.inl rfl) rfl rfl) rfl ?_
    | refine at_ret (res_cell2 rfl rfl inferInstance (at_has (cs := [_]) (.inl rfl) rfl rfl) rfl) ?_
    | refine wl_pop rfl (pc_build0 (cs := [_]) inferInstance inferInstance rfl) ?_
    | refine wc_guardNPr_false rfl rfl rfl rfl (fun _ => ?_) (fun _ => ?_)
    | refine wp_seqA ?_
    | refine wp_region_seq ?_
    | refine thru_seq_next ?_
    | refine thru_seq_ret ?_
    | refine wp_skipA ?_
    | refine wp_retA ?_
    | refine wl_nil ?_
    | refine wl_pop rfl (po_move rfl) ?_
    | refine wl_pop rfl (po_assign rfl) ?_
    | refine wl_pop rfl (pc_sub rfl rfl (by omega) (by omega)) ?_
    | refine wl_pop rfl (po_fieldAddr rfl inferInstance) ?_
    | refine wc_load1 rfl inferInstance (at_has (.inl rfl) rfl rfl) rfl ?_
    | refine wl_pop rfl (po_not rfl) ?_
    | (refine wc_storeA rfl rfl inferInstance inferInstance rfl inferInstance (Nat.le_of_ble_eq_true rfl) (.inr (may_new _)) ?_; intro _ _)
    | (refine wc_boxA rfl inferInstance rfl ?_; intro _ _ _ _ _)
    | (refine wc_allocA (cs := [_]) inferInstance rfl inferInstance rfl ?_; intro _ _ _ _ _)
    | refine wl_pop rfl (po_pick rfl rfl) ?_
    | refine wc_guardT_false rfl rfl rfl ?_
    | refine wc_guardF_false rfl rfl rfl rfl ?_
    | refine wp_condT rfl ?_
    | refine wp_condNP rfl (fun _ => ?_) (fun _ => ?_)
    | fail)
  · exact ret_go_none (optB_no (fun h => by have := h.2.2; omega)) inferInstance
  · exact ret_go (optB_yes ⟨by assumption, by omega, by omega⟩) inferInstance inferInstance inferInstance inferInstance inferInstance
  · exact ret_go_none (optB_no (fun h => absurd h.1 (by assumption))) inferInstance
end
end Go.Proofs.Ytpkgcdpebomalaa.Asl
