/- Graphs put together: the reference. -/
import Derived.Test.YthbodgnoadlbcaaGreatDoorG6
namespace Go.Proofs.YthbodgnoadlbcaaGreatDoor.Asl
open Go.RowKit Go.Proofs.YthbodgnoadlbcaaGreatDoorW.PrintLast
set_option linter.unusedVariables false
attribute [local irreducible] WP WL andThen inBlock noGoto atEnd ACall DA DL PO Hold
set_option maxHeartbeats 4000000

section
variable {base : Nat}
theorem c_l4Both (σ : Store) (s s' : AV) {ss ss' : List AV} {a b : Gr} [hs : RW σ s ss] [hg : RRs σ ss a] [hs' : RW σ s' ss'] [hg' : RRs σ ss' b] (hoa : GOk a) (hob : GOk b) :
    ACall Tryz.prog base F_spec_l4Both [.agg [s], .agg [s']] σ (fun _ => False) (RetG σ (bothL a b)) := by
  have hb := hs.bound
  have := hs.one
  have hl := hg.len
  have hb' := hs'.bound
  have := hs'.one
  have hl' := hg'.len
  have hmb : ∀ k, ∀ m ∈ b.getD k [], -1000000000 ≤ m.2 ∧ m.2 ≤ 1000000000 := fun k m hm => by
    have := hob.to (s := k) (m := m) hm
    have := hob.most; omega
  have hpa := hoa.most
  have hpb := hob.most
  refine acall2 fun_spec_l4Both rfl tmps_spec_l4Both rfl fun N B w₀ ρ₀ => ?_
  repeat' (first
    | refine wl_pop rfl (pc_build0 (cs := [_]) inI inI rfl) ?_
    | refine wp_seqA ?_
    | refine wp_region_seq ?_
    | refine thru_seq_next ?_
    | refine wp_blockA ?_
    | refine wl_nil ?_
    | refine wl_pop rfl (po_assign rfl) ?_
    | (refine wc_storeA rfl rfl inI inI rfl inI (Nat.le_of_ble_eq_true rfl) (.inr (may_new _)) ?_; intro _ _)
    | (refine wc_boxA rfl inI rfl ?_; intro _ _ _ _ _)
    | (refine wc_allocA (cs := [_]) inI rfl inI rfl ?_; intro _ _ _ _ _)
    | fail)
  rename_i i1 σ1 g1 n1 h1 i2 σ2 g2 n2 h2 i4 σ4 g4 n4 h4 i6 σ6 g6 n6 h6 σb u6
  have hb6 : Has σb i6 ⟨.own, 1, [nilS], []⟩ := instHasUpd (g := u6)
  have hs4 : LeS σ σ4 := inI
  refine wc_loop [(2, _), (3, _), (4, _), (5, _)] (fun x : Nat × AV => [(6, I x.1)]) (fun x σ' => x.1 ≤ a.length ∧ LeS σ4 σ' ∧ σb.length ≤ σ'.length ∧ Has σ' i6 ⟨.own, 1, [x.2], []⟩ ∧ ∃ us, OW σb σ' x.2 us ∧ ORs σb σ' us (a.take x.1)) (fun x => a.length - x.1) (0, nilS) ⟨Nat.zero_le _, inI, Nat.le_refl _, hb6, [], OW.nilS _ _, ORs.nil _ _⟩ (by repeat' (first | exact sub_nil | refine sub_cons rfl ?_ | refine sub_int rfl (by first | rfl | omega | (push_cast; omega) | simp) ?_ | refine sub_eq rfl (by assumption) ?_)) ?_
  rintro ⟨k, u⟩ σ' ⟨hk, hle, hlen, hi6, us, how, hor⟩
  dsimp only at hk hi6 how hor ⊢
  have := hle.grow
  have hone := how.one
  have hul : us.length = k := by have := hor.len; simp at this; omega
  repeat' (first
    | refine wl_pop rfl (pc_lenRow rfl inI inI) ?_
    | refine wp_seqA ?_
    | refine wp_region_seq ?_
    | refine thru_seq_next ?_
    | refine thru_seq ?_
    | refine exit_here ?_
    | refine wp_skipA ?_
    | refine wp_exitA ?_
    | refine wp_blockA ?_
    | refine wl_nil ?_
    | refine wl_pop rfl (po_move rfl) ?_
    | refine wl_pop rfl (po_assign rfl) ?_
    | refine wl_pop rfl (po_binOp rfl rfl rfl) ?_
    | refine wl_pop rfl (po_fieldAddr rfl inI) ?_
    | refine wc_load1 rfl inI (at_has (.inl rfl) rfl rfl) rfl ?_
    | refine wp_condP rfl (fun _ => ?_) (fun _ => ?_)
    | fail)
  · have hk' : k < a.length := by omega
    have hbk := (inI : RW σ' (ss.getD k nilS) (a.getD k [])).bound
    refine wc_drawn [10, 11, 12] mixed_ rfl ?_
    all_goals refine da_takeC 0 rfl rfl (by kernel_rfl) (by first | exact po_fieldAddr rfl inI | fail) ?_
    all_goals refine da_takeC 1 rfl rfl (by kernel_rfl) (by first | exact pc_load1L rfl inI (at_has (.inl rfl) rfl rfl) inI | fail) ?_
    all_goals refine da_takeC 3 rfl rfl (by kernel_rfl) (by first | exact po_fieldAddr rfl inI | fail) ?_
    all_goals refine da_takeC 4 rfl rfl (by kernel_rfl) (by first | exact pc_load1L rfl inI (at_has (.inl rfl) rfl rfl) inI | fail) ?_
    all_goals refine da_takeC 5 rfl rfl (by kernel_rfl) (by first | exact po_move rfl | fail) ?_
    all_goals refine da_takeC 6 rfl rfl (by kernel_rfl) (by first | exact pc_indexRow rfl rfl inI inI inI (by omega) | fail) ?_
    all_goals refine da_takeC 7 rfl rfl (by kernel_rfl) (by first | exact pc_ldAV rfl inI inI (by omega) inI | fail) ?_
    all_goals (first | (refine da_one 2 rfl (by kernel_rfl) (fun _ _ _ _ => ?_); (repeat' (first | (refine wc_row0 (α := Mv) inI inI rfl rfl (by decide) rfl ?_; intro _ _ _ _ _) | fail)); all_goals (first | refine wl_nil ⟨rfl, (by first | exact LeS.len inI | exact App.len (by assumption)), ?_⟩ | trace_state)))
    all_goals (first | (refine da_one 8 rfl (by kernel_rfl) (fun _ _ _ _ => ?_); (repeat' (first | (refine wc_appendRow (α := Mv) (σ₀ := σ') rfl rfl inI inI rfl (by decide) (ow_of_has (l := []) inI (may_new σ') rfl (by decide)) inI (fun x _ => one_mv x.1 x.2) (by simp only [List.length_nil, Nat.zero_add]; omega) (by decide) (may_ge σ') (LeS.len inI) rfl (by intro h; cases h) ?_; intro s9 σ9 ha9 hw9 ho9; have := ha9.turned) | fail)); all_goals (first | refine wl_nil ⟨rfl, (by first | exact LeS.len inI | exact App.len (by assumption)), ?_⟩ | trace_state)))
    all_goals (first | (refine da_one 9 rfl (by kernel_rfl) (fun _ _ _ _ => ?_); (repeat' (first | (refine wc_oneAV rfl inI inI rfl (by decide) rfl ?_; intro _ _ _ _ _) | fail)); all_goals (first | refine wl_nil ⟨rfl, (by first | exact LeS.len inI | exact App.len (by assumption)), ?_⟩ | trace_state)))
    all_goals (refine da_last 10 rfl (by decide) (by kernel_rfl) ?_; (repeat' (first | (refine wc_append1 (α := AV) (σ₀ := σb) rfl rfl inI inI rfl (by decide) (by decide) inI inI (one_av inI) (by omega) (may_ge σb) (Nat.le_trans hlen (LeS.len inI)) rfl ?_; intro _ _ _ _ _ _) | fail)); all_goals (first | refine wl_nil (dl_in ?_) | trace_state))
    all_goals (refine dl_last 11 rfl (by decide) (by kernel_rfl) ?_; (repeat' (first | refine wl_pop rfl (po_fieldAddr rfl inI) ?_ | fail)); all_goals (first | refine wl_nil (dl_in ?_) | trace_state))
    all_goals (refine dl_last 12 rfl (by decide) (by kernel_rfl) ?_; (repeat' (first | (refine wc_store1 rfl rfl inI inI inI (Nat.le_of_ble_eq_true rfl) (.inr (may_new _)) ?_; intro _ _) | fail)); all_goals (first | refine wl_nil (dl_in ?_) | trace_state))
    all_goals refine dl_done (by kernel_rfl) ?_
    rename_i N7 B7 w7 r7 iv0 σ70 g70 n70 h70 N8 B8 w8 r8 N9 B9 w9 r9 iv σ7 g7 n7 h7 u' σ8 happ mk8 how8 ou' σe u9
    repeat' (first
      | refine wp_region_seq ?_
      | refine thru_seq_next ?_
      | refine thru_block_next ?_
      | refine wl_nil ?_
      | refine wl_pop rfl (po_move rfl) ?_
      | refine wl_pop rfl (po_assign rfl) ?_
      | refine wl_pop rfl (pc_add rfl rfl (by omega) (by omega)) ?_
      | fail)
    have hpush := rows_push (by decide) hor how hlen hb6 (inI : OW σ' σ7 s9 _) inI happ u9
    have how9 : OW σb σe u' (us ++ [s9]) := inI
    have hlen9 : σb.length ≤ σe.length := by
      have := happ.len
      have := (inI : LeS σ' σ7).len
      rw [u9.eq, List.length_set]; omega
    refine ⟨(k + 1, u'), by dsimp only; omega, ⟨by dsimp only; omega, inI, hlen9, instHasUpd (g := u9), us ++ [s9], how9, ?_⟩, (by repeat' (first | exact sub_nil | refine sub_cons rfl ?_ | refine sub_int rfl (by first | rfl | omega | (push_cast; omega) | simp) ?_ | refine sub_eq rfl (by assumption) ?_))⟩
    dsimp only
    rw [take_succ_getD hk' (d := [])]
    exact hpush
  obtain rfl : k = a.length := by omega
  rw [List.take_length] at hor
  repeat' (first
    | fail)
  refine wc_loop [(3, _), (4, _), (5, _), (7, _)] (fun x : Nat × AV => [(8, I x.1)]) (fun x σ' => x.1 ≤ b.length ∧ LeS σ4 σ' ∧ σb.length ≤ σ'.length ∧ Has σ' i6 ⟨.own, 1, [x.2], []⟩ ∧ ∃ us, OW σb σ' x.2 us ∧ ORs σb σ' us (a ++ (b.map (List.map (shiftM a.length))).take x.1)) (fun x => b.length - x.1) (0, u) ⟨Nat.zero_le _, inI, hlen, hi6, us, how, by simpa using hor⟩ (by repeat' (first | exact sub_nil | refine sub_cons rfl ?_ | refine sub_int rfl (by first | rfl | omega | (push_cast; omega) | simp) ?_ | refine sub_eq rfl (by assumption) ?_)) ?_
  clear hlen hi6 how hor hone hul hle
  rintro ⟨k, u⟩ σ' ⟨hk, hle, hlen, hi6, us, how, hor⟩
  dsimp only at hk hi6 how hor ⊢
  have := hle.grow
  have hone := how.one
  have hul : us.length = a.length + k := by have := hor.len; simp at this; omega
  repeat' (first
    | (refine wc_row0 (α := Mv) inI inI rfl rfl (by decide) rfl ?_; intro _ _ _ _ _)
    | refine wl_pop rfl (pc_lenRow rfl inI inI) ?_
    | refine wc_loadn rfl inI (at_has (cs := [_]) (.inl rfl) rfl rfl) rfl ?_
    | refine at_ret (res_cell rfl rfl inI (at_has (cs := [_]) (.inl rfl) rfl rfl)) ?_
    | refine wp_seqA ?_
    | refine wp_region_seq ?_
    | refine thru_seq_next ?_
    | refine thru_seq ?_
    | refine exit_here ?_
    | refine wp_skipA ?_
    | refine wp_retA ?_
    | refine wp_exitA ?_
    | refine wp_blockA ?_
    | refine wl_nil ?_
    | refine wl_pop rfl (po_move rfl) ?_
    | refine wl_pop rfl (po_assign rfl) ?_
    | refine wl_pop rfl (po_binOp rfl rfl rfl) ?_
    | refine wl_pop rfl (po_fieldAddr rfl inI) ?_
    | refine wc_load1 rfl inI (at_has (.inl rfl) rfl rfl) rfl ?_
    | (refine wc_storeA rfl rfl inI inI rfl inI (Nat.le_of_ble_eq_true rfl) (.inr (may_new _)) ?_; intro _ _)
    | refine wp_condP rfl (fun _ => ?_) (fun _ => ?_)
    | fail)
  · have hk' : k < b.length := by omega
    have hbk := (inI : RW σ' (ss'.getD k nilS) (b.getD k [])).bound
    rename_i i9 σ9 g9 n9 h9
    refine wc_loop [(3, _), (4, _), (5, _), (7, _), (8, _)] (fun x : Nat × AV => [(9, x.2), (10, I x.1)]) (fun x σ'' => x.1 ≤ (b.getD k []).length ∧ LeS σ' σ'' ∧ OW σ' σ'' x.2 (((b.getD k []).map (shiftM a.length)).take x.1)) (fun x => (b.getD k []).length - x.1) (0, .sl i9 0 0) ⟨Nat.zero_le _, inI, by simpa using (ow_of_has h9 n9.le rfl (by decide) : OW σ' σ9 (.sl i9 0 0) ([] : List Mv))⟩ (by repeat' (first | exact sub_nil | refine sub_cons rfl ?_ | refine sub_int rfl (by first | rfl | omega | (push_cast; omega) | simp) ?_ | refine sub_eq rfl (by assumption) ?_)) ?_
    rintro ⟨q, v⟩ σ'' ⟨hq, hle2, hov⟩
    dsimp only at hq hov ⊢
    have := hle2.grow
    have honev := hov.one
    have hmq := getD_all (hmb k) (d := (0, 0)) (by simp) q
    have hlk : ((a.length : Nat) : Int) = (ss.length : Int) := by omega
    repeat' (first
      | refine wl_pop rfl (pc_ldAV rfl inI inI (by omega) inI) ?_
      | refine wl_pop rfl (pc_indexRow rfl rfl inI inI inI (by omega)) ?_
      | refine wl_pop rfl (pc_lenRow rfl inI inI) ?_
      | refine wp_seqA ?_
      | refine wp_region_seq ?_
      | refine thru_seq_next ?_
      | refine thru_seq ?_
      | refine exit_here ?_
      | refine wp_skipA ?_
      | refine wp_exitA ?_
      | refine wp_blockA ?_
      | refine wl_nil ?_
      | refine wl_pop rfl (po_move rfl) ?_
      | refine wl_pop rfl (po_binOp rfl rfl rfl) ?_
      | refine wl_pop rfl (po_fieldAddr rfl inI) ?_
      | refine wc_load1 rfl inI (at_has (.inl rfl) rfl rfl) rfl ?_
      | refine wp_condP rfl (fun _ => ?_) (fun _ => ?_)
      | fail)
    · have hq' : q < (b.getD k []).length := by omega
      refine wc_drawn [23, 24] mixed_ rfl ?_
      all_goals refine da_takeC 0 rfl rfl (by kernel_rfl) (by first | exact po_move rfl | fail) ?_
      all_goals refine da_takeC 1 rfl rfl (by kernel_rfl) (by first | exact po_fieldAddr rfl inI | fail) ?_
      all_goals refine da_takeC 2 rfl rfl (by kernel_rfl) (by first | exact pc_load1L rfl inI (at_has (.inl rfl) rfl rfl) inI | fail) ?_
      all_goals refine da_takeC 3 rfl rfl (by kernel_rfl) (by first | exact po_move rfl | fail) ?_
      all_goals refine da_takeC 4 rfl rfl (by kernel_rfl) (by first | exact pc_indexRow rfl rfl inI inI inI (by omega) | fail) ?_
      all_goals refine da_takeC 5 rfl rfl (by kernel_rfl) (by first | exact pc_ldAV rfl inI inI (by omega) inI | fail) ?_
      all_goals refine da_takeC 6 rfl rfl (by kernel_rfl) (by first | exact po_move rfl | fail) ?_
      all_goals refine da_takeC 7 rfl rfl (by kernel_rfl) (by first | exact pc_indexRow rfl rfl inI inI inI (by omega) | fail) ?_
      all_goals refine da_takeC 8 rfl rfl (by kernel_rfl) (by first | exact po_fieldAddr rfl inI | fail) ?_
      all_goals refine da_takeC 9 rfl rfl (by kernel_rfl) (by first | exact pc_ldMv1 rfl inI inI (by omega) inI | fail) ?_
      all_goals refine da_takeC 10 rfl rfl (by kernel_rfl) (by first | exact po_fieldAddr rfl inI | fail) ?_
      all_goals refine da_takeC 11 rfl rfl (by kernel_rfl) (by first | exact pc_load1L rfl inI (at_has (.inl rfl) rfl rfl) inI | fail) ?_
      all_goals refine da_takeC 12 rfl rfl (by kernel_rfl) (by first | exact po_move rfl | fail) ?_
      all_goals refine da_takeC 13 rfl rfl (by kernel_rfl) (by first | exact pc_indexRow rfl rfl inI inI inI (by omega) | fail) ?_
      all_goals refine da_takeC 14 rfl rfl (by kernel_rfl) (by first | exact pc_ldAV rfl inI inI (by omega) inI | fail) ?_
      all_goals refine da_takeC 15 rfl rfl (by kernel_rfl) (by first | exact po_move rfl | fail) ?_
      all_goals refine da_takeC 16 rfl rfl (by kernel_rfl) (by first | exact pc_indexRow rfl rfl inI inI inI (by omega) | fail) ?_
      all_goals refine da_takeC 17 rfl rfl (by kernel_rfl) (by first | exact po_fieldAddr rfl inI | fail) ?_
      all_goals refine da_takeC 18 rfl rfl (by kernel_rfl) (by first | exact pc_ldMv2 rfl inI inI (by omega) inI | fail) ?_
      all_goals refine da_takeC 19 rfl rfl (by kernel_rfl) (by first | exact po_move rfl | fail) ?_
      all_goals refine da_takeC 20 rfl rfl (by kernel_rfl) (by first | exact pc_add rfl rfl (by omega) (by omega) | fail) ?_
      all_goals refine da_takeC 21 rfl rfl (by kernel_rfl) (by first | exact pc_buildMv rfl rfl inI inI rfl | fail) ?_
      all_goals (first | (refine da_one 22 rfl (by kernel_rfl) (fun _ _ _ _ => ?_); (repeat' (first | (refine wc_oneMv rfl inI inI rfl (by decide) rfl ?_; intro _ _ _ _ _) | fail)); all_goals (first | refine wl_nil ⟨rfl, (by first | exact LeS.len inI | exact App.len (by assumption)), ?_⟩ | trace_state)))
      all_goals (refine da_last 23 rfl (by decide) (by kernel_rfl) ?_; (repeat' (first | (refine wc_append1 (α := Mv) (σ₀ := σ') rfl rfl inI inI rfl (by decide) (by decide) inI inI (one_mv _ _) (by simp; omega) (may_ge σ') (LeS.len inI) rfl ?_; intro _ _ _ _ _ _) | fail)); all_goals (first | refine wl_nil (dl_in ?_) | trace_state))
      all_goals (refine dl_last 24 rfl (by decide) (by kernel_rfl) ?_; (repeat' (first | refine wl_pop rfl (po_assign rfl) ?_ | fail)); all_goals (first | refine wl_nil (dl_in ?_) | trace_state))
      all_goals refine dl_done (by kernel_rfl) ?_
      repeat' (first
        | refine wp_region_seq ?_
        | refine thru_seq_next ?_
        | refine thru_block_next ?_
        | refine wl_nil ?_
        | refine wl_pop rfl (po_move rfl) ?_
        | refine wl_pop rfl (po_assign rfl) ?_
        | refine wl_pop rfl (pc_add rfl rfl (by omega) (by omega)) ?_
        | fail)
      rename_i N7 B7 w7 r7 iv σ7 g7 n7 h7 v' σ8 happ mk8 how8 ov'
      refine ⟨(q + 1, v'), by dsimp only; omega, ⟨by dsimp only; omega, inI, ?_⟩, (by repeat' (first | exact sub_nil | refine sub_cons rfl ?_ | refine sub_int rfl (by first | rfl | omega | (push_cast; omega) | simp) ?_ | refine sub_eq rfl (by assumption) ?_))⟩
      dsimp only
      rw [map_take_succ hq' (d := (0, 0))]
      rw [← hlk] at how8
      exact how8
    · obtain rfl : q = (b.getD k []).length := by omega
      rw [List.take_of_length_le (by simp)] at hov
      repeat' (first
        | (refine wc_oneAV rfl inI inI rfl (by decide) rfl ?_; intro _ _ _ _ _)
        | (refine wc_append1 (α := AV) (σ₀ := σb) rfl rfl inI inI rfl (by decide) (by decide) inI inI (one_av inI) (by omega) (may_ge σb) (Nat.le_trans hlen (LeS.len inI)) rfl ?_; intro _ _ _ _ _ _)
        | refine wp_region_seq ?_
        | refine thru_seq_next ?_
        | refine thru_block_next ?_
        | refine wl_nil ?_
        | refine wl_pop rfl (po_move rfl) ?_
        | refine wl_pop rfl (po_assign rfl) ?_
        | refine wl_pop rfl (pc_add rfl rfl (by omega) (by omega)) ?_
        | refine wl_pop rfl (po_fieldAddr rfl inI) ?_
        | (refine wc_store1 rfl rfl inI inI inI (Nat.le_of_ble_eq_true rfl) (.inr (may_new _)) ?_; intro _ _)
        | fail)
      rename_i iv σ7 g7 n7 h7 u' σ8 happ mk8 how8 ou' σe u9
      have hpush := rows_push (by decide) hor how hlen hb6 (inI : OW σ' σ7 v _) inI happ u9
      have how9 : OW σb σe u' (us ++ [v]) := inI
      have hlen9 : σb.length ≤ σe.length := by
        have := happ.len
        have := (inI : LeS σ' σ7).len
        rw [u9.eq, List.length_set]; omega
      refine ⟨(k + 1, u'), by dsimp only; omega, ⟨by dsimp only; omega, inI, hlen9, instHasUpd (g := u9), us ++ [v], how9, ?_⟩, (by repeat' (first | exact sub_nil | refine sub_cons rfl ?_ | refine sub_int rfl (by first | rfl | omega | (push_cast; omega) | simp) ?_ | refine sub_eq rfl (by assumption) ?_))⟩
      dsimp only
      rw [map_take_succ hk' (d := []), ← List.append_assoc]
      exact hpush
  obtain rfl : k = b.length := by omega
  have hor : ORs σb σ' us (bothL a b) := by
    have := hor
    rw [List.take_of_length_le (by simp)] at this
    exact this
  exact ret_g inI inI inI inI inI rfl
theorem c_sGraphBoth (σ : Store) (s s' : AV) {ss ss' : List AV} {a b : Gr} [hs : RW σ s ss] [hg : RRs σ ss a] [hs' : RW σ s' ss'] [hg' : RRs σ ss' b] :
    ACall Tryz.prog base F_spec_GraphBoth [.agg [s], .agg [s']] σ (fun _ => False) (RetGO σ (optB (GOk a ∧ GOk b ∧ a.length + b.length ≤ 60) (bothL a b))) := by
  have hb := hs.bound
  have := hs.one
  have hl := hg.len
  have hb' := hs'.bound
  have := hs'.one
  have hl' := hg'.len
  refine acall2 fun_spec_GraphBoth rfl tmps_spec_GraphBoth rfl fun N B w₀ ρ₀ => ?_
  repeat' (first
    | (refine wc_callR rfl inI rfl (c_sGraphOk _ _) rfl ?_; intro _ _)
    | (refine wc_callG rfl inI rfl (c_l4Both _ _ _ (by assumption) (by assumption)) rfl ?_; intro _ _ _ _ _ _ _)
    | refine wl_pop rfl (pc_lenRow rfl inI inI) ?_
    | refine wc_loadn rfl inI (at_has (cs := [_]) (.inl rfl) rfl rfl) rfl ?_
    | refine at_ret (res_cell2 rfl rfl inI (at_has (cs := [_]) (.inl rfl) rfl rfl) rfl) ?_
    | refine wl_pop rfl (pc_build0 (cs := [_]) inI inI rfl) ?_
    | refine wc_guardNPr_false rfl rfl rfl rfl (fun _ => ?_) (fun _ => ?_)
    | refine wp_seqA ?_
    | refine wp_region_seq ?_
    | refine thru_seq_next ?_
    | refine thru_seq_ret ?_
    | refine wp_skipA ?_
    | refine wp_retA ?_
    | refine wl_nil ?_
    | refine wl_pop rfl (po_move rfl) ?_
    | refine wl_pop rfl (po_assign rfl) ?_
    | refine wl_pop rfl (pc_add rfl rfl (by omega) (by omega)) ?_
    | refine wl_pop rfl (po_binOp rfl rfl rfl) ?_
    | refine wl_pop rfl (po_fieldAddr rfl inI) ?_
    | refine wc_load1 rfl inI (at_has (.inl rfl) rfl rfl) rfl ?_
    | refine wl_pop rfl (po_not rfl) ?_
    | (refine wc_storeA rfl rfl inI inI rfl inI (Nat.le_of_ble_eq_true rfl) (.inr (may_new _)) ?_; intro _ _)
    | (refine wc_boxA rfl inI rfl ?_; intro _ _ _ _ _)
    | (refine wc_allocA (cs := [_]) inI rfl inI rfl ?_; intro _ _ _ _ _)
    | refine wl_pop rfl (po_pick rfl rfl) ?_
    | refine wc_guardT_false rfl rfl rfl ?_
    | refine wc_guardF_false rfl rfl rfl rfl ?_
    | refine wp_condT rfl ?_
    | refine wp_condP rfl (fun _ => ?_) (fun _ => ?_)
    | fail)
  all_goals first
    | exact ret_go (optB_yes ⟨by assumption, by assumption, by omega⟩) inI inI inI inI inI
    | exact ret_go_none (optB_no (by omega)) inI
    | exact ret_go_none (optB_no (fun h => by have h1 := h.1; have h2 := h.2.1; contradiction)) inI
end
end Go.Proofs.YthbodgnoadlbcaaGreatDoor.Asl
