/- Graphs put together. -/
import Derived.Test.YthbodgnoadlbcaaGreatDoorG4
import Derived.Test.YthbodgnoadlbcaaGreatDoorGG
namespace Go.Proofs.YthbodgnoadlbcaaGreatDoor.Asl
open Go.RowKit Go.Proofs.YthbodgnoadlbcaaGreatDoorW.PrintLast
set_option linter.unusedVariables false
attribute [local irreducible] WP WL andThen inBlock noGoto atEnd ACall DA DL PO Hold
set_option maxHeartbeats 4000000

def shiftM (n : Int) (m : Mv) : Mv := (m.1, m.2 + n)
theorem map_take_succ {α β : Type} {l : List α} {f : α → β} {k : Nat} {d : α} (h : k < l.length) : (l.map f).take (k + 1) = (l.map f).take k ++ [f (l.getD k d)] := by
  rw [List.take_succ_eq_append_getElem (by simpa using h), List.getElem_map, getD_lt h]
section
variable {base : Nat}
theorem c_shifted (σ : Store) (s : AV) (n : Int) {l : List Mv} [hs : RW σ s l] (hn : 0 ≤ n ∧ n ≤ 1000000000) (hm : ∀ m ∈ l, -1000000000 ≤ m.2 ∧ m.2 ≤ 1000000000) : ACall Tryz.prog base F_impl_shifted [s, I n] σ (fun _ => False) (RetOW σ (l.map (shiftM n))) := by
  have hb := hs.bound
  have := hs.one
  refine acall2 fun_impl_shifted rfl tmps_impl_shifted rfl fun N B w₀ ρ₀ => ?_
  repeat' (first
    | (refine wc_row0 (α := Mv) inI inI rfl rfl (by decide) rfl ?_; intro _ _ _ _ _)
    | refine wl_pop rfl (pc_lenRow rfl inI inI) ?_
    | refine wp_seqA ?_
    | refine wp_region_seq ?_
    | refine thru_seq_next ?_
    | refine wp_blockA ?_
    | refine wl_nil ?_
    | refine wl_pop rfl (po_move rfl) ?_
    | refine wl_pop rfl (po_assign rfl) ?_
    | fail)
  rename_i i σ1 g1 n1 h1
  have hw1 : OW σ σ1 (.sl i 0 0) ([] : List Mv) := ow_of_has h1 n1.le rfl (by decide)
  refine wc_loop [(1, _), (9, _), (10, _)] (fun x : Nat × AV => [(5, x.2), (11, I x.1)]) (fun x σ' => x.1 ≤ l.length ∧ LeS σ σ' ∧ OW σ σ' x.2 ((l.map (shiftM n)).take x.1)) (fun x => l.length - x.1) (0, .sl i 0 0) ⟨Nat.zero_le _, inI, by simpa using hw1⟩ (by repeat' (first | exact sub_nil | refine sub_cons rfl ?_ | refine sub_int rfl (by first | rfl | omega | (push_cast; omega) | simp) ?_ | refine sub_eq rfl (by assumption) ?_)) ?_
  rintro ⟨k, u⟩ σ' ⟨hk, hle, how⟩
  dsimp only at hk how ⊢
  have := hle.grow
  have hone := how.one
  have hmk := getD_all hm (d := (0, 0)) (by simp) k
  repeat' (first
    | refine wl_pop rfl (pc_ldMv rfl inI inI (by omega) inI) ?_
    | refine wl_pop rfl (pc_indexRow rfl rfl inI inI inI (by omega)) ?_
    | refine wl_pop rfl (pc_buildMv rfl rfl inI inI rfl) ?_
    | (refine wc_oneMv rfl inI inI rfl (by decide) rfl ?_; intro _ _ _ _ _)
    | refine wp_seqA ?_
    | refine wp_region_seq ?_
    | refine thru_seq_next ?_
    | refine thru_seq ?_
    | refine exit_here ?_
    | refine wp_skipA ?_
    | refine wp_retA ?_
    | refine wp_exitA ?_
    | refine wp_blockA ?_
    | refine wl_nil ?_
    | refine wl_pop rfl (po_move rfl) ?_
    | refine wl_pop rfl (po_assign rfl) ?_
    | refine wl_pop rfl (pc_add rfl rfl (by omega) (by omega)) ?_
    | refine wl_pop rfl (po_binOp rfl rfl rfl) ?_
    | refine wl_pop rfl (po_fieldAddr rfl inI) ?_
    | refine wc_load1 rfl inI (at_has (.inl rfl) rfl rfl) rfl ?_
    | (refine wc_storeA rfl rfl inI inI rfl inI (Nat.le_of_ble_eq_true rfl) (.inr (may_new _)) ?_; intro _ _)
    | (refine wc_allocA (cs := [_, _]) inI rfl inI rfl ?_; intro _ _ _ _ _)
    | refine wp_condP rfl (fun _ => ?_) (fun _ => ?_)
    | refine at_ret (res1 rfl rfl) ?_
    | fail)
  rotate_left
  · obtain rfl : k = l.length := by omega
    exact ret_ow how instLeRefl inI (List.take_of_length_le (by simp))
  have hk' : k < l.length := by omega
  repeat' (first
    | (refine wc_append1 (α := Mv) (σ₀ := σ) rfl rfl inI inI rfl (by decide) (by decide) inI inI (one_mv _ _) (by simp; omega) (may_ge σ) (LeS.len inI) rfl ?_; intro _ _ _ _ _ _)
    | refine wp_region_seq ?_
    | refine thru_seq_next ?_
    | refine thru_block_next ?_
    | refine wl_nil ?_
    | refine wl_pop rfl (po_move rfl) ?_
    | refine wl_pop rfl (po_assign rfl) ?_
    | refine wl_pop rfl (pc_add rfl rfl (by omega) (by omega)) ?_
    | fail)
  rename_i u' σ5 happ hmk' how' hone'
  refine ⟨(k + 1, u'), by dsimp only; omega, ⟨by dsimp only; omega, inI, ?_⟩, (by repeat' (first | exact sub_nil | refine sub_cons rfl ?_ | refine sub_int rfl (by first | rfl | omega | (push_cast; omega) | simp) ?_ | refine sub_eq rfl (by assumption) ?_))⟩
  dsimp only
  rw [map_take_succ hk' (d := (0, 0))]
  exact how'
theorem shift0 (g : Gr) : g.map (List.map (shiftM 0)) = g := by
  have : shiftM 0 = id := by funext m; simp [shiftM]
  rw [this]; simp
theorem c_GraphBoth (σ : Store) (s s' : AV) {ss ss' : List AV} {a b : Gr} [hs : RW σ s ss] [hg : RRs σ ss a] [hs' : RW σ s' ss'] [hg' : RRs σ ss' b] :
    ACall Tryz.prog base F_impl_GraphBoth [.agg [s], .agg [s']] σ (fun _ => False) (RetGO σ (optB (GOk a ∧ GOk b ∧ a.length + b.length ≤ 60) (bothL a b))) := by
  have hb := hs.bound
  have := hs.one
  have hl := hg.len
  have hb' := hs'.bound
  have := hs'.one
  have hl' := hg'.len
  refine acall2 fun_impl_GraphBoth rfl tmps_impl_GraphBoth rfl fun N B w₀ ρ₀ => ?_
  repeat' (first
    | (refine wc_callR rfl inI rfl (c_GraphOk _ _) rfl ?_; intro _ _)
    | refine wl_pop rfl (pc_lenRow rfl inI inI) ?_
    | refine wc_loadn rfl inI (at_has (cs := [_]) (.inl rfl) rfl rfl) rfl ?_
    | refine at_ret (res_cell2 rfl rfl inI (at_has (cs := [_]) (.inl rfl) rfl rfl) rfl) ?_
    | refine wl_pop rfl (pc_build0 (cs := [_]) inI inI rfl) ?_
    | refine wc_guardNPr_false rfl rfl rfl rfl (fun _ => ?_) (fun _ => ?_)
    | refine wp_seqA ?_
    | refine wp_region_seq ?_
    | refine thru_seq_next ?_
    | refine thru_seq_ret ?_
    | refine wp_skipA ?_
    | refine wp_retA ?_
    | refine wp_blockA ?_
    | refine wl_nil ?_
    | refine wl_pop rfl (po_move rfl) ?_
    | refine wl_pop rfl (po_assign rfl) ?_
    | refine wl_pop rfl (pc_add rfl rfl (by omega) (by omega)) ?_
    | refine wl_pop rfl (po_binOp rfl rfl rfl) ?_
    | refine wl_pop rfl (po_fieldAddr rfl inI) ?_
    | refine wc_load1 rfl inI (at_has (.inl rfl) rfl rfl) rfl ?_
    | refine wl_pop rfl (po_not rfl) ?_
    | (refine wc_storeA rfl rfl inI inI rfl inI (Nat.le_of_ble_eq_true rfl) (.inr (may_new _)) ?_; intro _ _)
    | (refine wc_boxA rfl inI rfl ?_; intro _ _ _ _ _)
    | (refine wc_allocA (cs := [_]) inI rfl inI rfl ?_; intro _ _ _ _ _)
    | refine wl_pop rfl (po_pick rfl rfl) ?_
    | refine wc_guardT_false rfl rfl rfl ?_
    | refine wc_guardF_false rfl rfl rfl rfl ?_
    | refine wp_condT rfl ?_
    | refine wp_condP rfl (fun _ => ?_) (fun _ => ?_)
    | fail)
  · exact ret_go_none (optB_no (by omega)) inI
  rotate_left
  · exact ret_go_none (optB_no (fun h => by rename_i hn _ _; exact hn h.2.1)) inI
  · exact ret_go_none (optB_no (fun h => by rename_i hn _ _; exact hn h.1)) inI
  rename_i i1 σ1 g1 n1 h1 i2 σ2 g2 n2 h2 i3 σ3 g3 n3 h3 σ4 g4 hoa σ5 g5 hob h60 i6 σ6 g6 n6 h6 σb u6
  have hb6 : Has σb i6 ⟨.own, 1, [nilS], []⟩ := instHasUpd (g := u6)
  have hab : ∀ m ∈ a, True := fun _ _ => trivial
  have hma : ∀ k, ∀ m ∈ a.getD k [], -1000000000 ≤ m.2 ∧ m.2 ≤ 1000000000 := fun k m hm => by
    have := hoa.to (s := k) (m := m) hm
    have := hoa.most; omega
  have hmb : ∀ k, ∀ m ∈ b.getD k [], -1000000000 ≤ m.2 ∧ m.2 ≤ 1000000000 := fun k m hm => by
    have := hob.to (s := k) (m := m) hm
    have := hob.most; omega
  have hpa := hoa.most
  have hpb := hob.most
  have hs5 : LeS σ σ5 := inI
  refine wc_loop [(2, _), (3, _), (4, _), (6, _), (32, _), (33, _)] (fun x : Nat × AV => [(34, I x.1)]) (fun x σ' => x.1 ≤ a.length ∧ LeS σ5 σ' ∧ σb.length ≤ σ'.length ∧ Has σ' i6 ⟨.own, 1, [x.2], []⟩ ∧ ∃ us, OW σb σ' x.2 us ∧ ORs σb σ' us ((a.map (List.map (shiftM 0))).take x.1)) (fun x => a.length - x.1) (0, nilS) ⟨Nat.zero_le _, inI, Nat.le_refl _, hb6, [], OW.nilS _ _, ORs.nil _ _⟩ (by repeat' (first | exact sub_nil | refine sub_cons rfl ?_ | refine sub_int rfl (by first | rfl | omega | (push_cast; omega) | simp) ?_ | refine sub_eq rfl (by assumption) ?_)) ?_
  rintro ⟨k, u⟩ σ' ⟨hk, hle, hlen, hi6, us, how, hor⟩
  dsimp only at hk hi6 how hor ⊢
  have := hle.grow
  have hone := how.one
  have hul : us.length = k := by have := hor.len; simp at this; omega
  repeat' (first
    | refine wl_pop rfl (pc_ldAV rfl inI inI (by omega) inI) ?_
    | refine wl_pop rfl (pc_indexRow rfl rfl inI inI inI (by omega)) ?_
    | refine wl_pop rfl (pc_lenRow rfl inI inI) ?_
    | refine wp_seqA ?_
    | refine wp_region_seq ?_
    | refine thru_seq_next ?_
    | refine thru_seq ?_
    | refine exit_here ?_
    | refine wp_skipA ?_
    | refine wp_exitA ?_
    | refine wp_blockA ?_
    | refine wl_nil ?_
    | refine wl_pop rfl (po_move rfl) ?_
    | refine wl_pop rfl (po_assign rfl) ?_
    | refine wl_pop rfl (po_binOp rfl rfl rfl) ?_
    | refine wl_pop rfl (po_fieldAddr rfl inI) ?_
    | refine wc_load1 rfl inI (at_has (.inl rfl) rfl rfl) rfl ?_
    | refine wp_condP rfl (fun _ => ?_) (fun _ => ?_)
    | fail)
  · have hk' : k < a.length := by omega
    refine wc_drawn [5, 6, 7] mixed_ rfl ?_
    all_goals refine da_takeC 0 rfl rfl (by kernel_rfl) (by first | exact po_fieldAddr rfl inI | fail) ?_
    all_goals refine da_takeC 1 rfl rfl (by kernel_rfl) (by first | exact pc_load1L rfl inI (at_has (.inl rfl) rfl rfl) inI | fail) ?_
    all_goals refine da_takeC 2 rfl rfl (by kernel_rfl) (by first | exact po_move rfl | fail) ?_
    all_goals (first | (refine da_one 3 rfl (by kernel_rfl) (fun _ _ _ _ => ?_); (repeat' (first | (refine wc_callOW rfl inI rfl (c_shifted _ _ _ (by omega) (hma _)) rfl ?_; intro _ _ _ _ _) | fail)); all_goals (first | refine wl_nil ⟨rfl, (by first | exact LeS.len inI | exact App.len (by assumption)), ?_⟩ | trace_state)))
    all_goals (first | (refine da_one 4 rfl (by kernel_rfl) (fun _ _ _ _ => ?_); (repeat' (first | (refine wc_oneAV rfl inI inI rfl (by decide) rfl ?_; intro _ _ _ _ _) | fail)); all_goals (first | refine wl_nil ⟨rfl, (by first | exact LeS.len inI | exact App.len (by assumption)), ?_⟩ | trace_state)))
    all_goals (refine da_last 5 rfl (by decide) (by kernel_rfl) ?_; (repeat' (first | (refine wc_append1 (α := AV) (σ₀ := σb) rfl rfl inI inI rfl (by decide) (by decide) inI inI (one_av inI) (by omega) (may_ge σb) (Nat.le_trans hlen (LeS.len inI)) rfl ?_; intro _ _ _ _ _ _) | fail)); all_goals (first | refine wl_nil (dl_in ?_) | trace_state))
    all_goals (refine dl_last 6 rfl (by decide) (by kernel_rfl) ?_; (repeat' (first | refine wl_pop rfl (po_fieldAddr rfl inI) ?_ | fail)); all_goals (first | refine wl_nil (dl_in ?_) | trace_state))
    all_goals (refine dl_last 7 rfl (by decide) (by kernel_rfl) ?_; (repeat' (first | (refine wc_store1 rfl rfl inI inI inI (Nat.le_of_ble_eq_true rfl) (.inr (may_new _)) ?_; intro _ _) | fail)); all_goals (first | refine wl_nil (dl_in ?_) | trace_state))
    all_goals refine dl_done (by kernel_rfl) ?_
    rename_i v σv ov hv gv N2 B2 w2 r2 iv σ7 g7 n7 h7 u' σ8 happ mk8 how8 ou' σ9 u9
    repeat' (first
      | refine wp_region_seq ?_
      | refine thru_seq_next ?_
      | refine thru_block_next ?_
      | refine wl_nil ?_
      | refine wl_pop rfl (po_move rfl) ?_
      | refine wl_pop rfl (pc_add rfl rfl (by omega) (by omega)) ?_
      | fail)
    have hpush := rows_push (by decide) hor how hlen hb6 (inI : OW σ' σ7 v _) inI happ u9
    have how9 : OW σb σ9 u' (us ++ [v]) := inI
    have hlen9 : σb.length ≤ σ9.length := by
      have := happ.len
      have := (inI : LeS σ' σ7).len
      rw [u9.eq, List.length_set]; omega
    refine ⟨(k + 1, u'), by dsimp only; omega, ⟨by dsimp only; omega, inI, hlen9, instHasUpd (g := u9), us ++ [v], how9, ?_⟩, (by repeat' (first | exact sub_nil | refine sub_cons rfl ?_ | refine sub_int rfl (by first | rfl | omega | (push_cast; omega) | simp) ?_ | refine sub_eq rfl (by assumption) ?_))⟩
    dsimp only
    rw [map_take_succ hk' (d := [])]
    exact hpush
  obtain rfl : k = a.length := by omega
  have hor : ORs σb σ' us a := by
    have := hor
    rw [List.take_of_length_le (by simp), shift0] at this
    exact this
  repeat' (first
    | fail)
  refine wc_loop [(2, _), (4, _), (6, _), (47, _), (48, _)] (fun x : Nat × AV => [(49, I x.1)]) (fun x σ' => x.1 ≤ b.length ∧ LeS σ5 σ' ∧ σb.length ≤ σ'.length ∧ Has σ' i6 ⟨.own, 1, [x.2], []⟩ ∧ ∃ us, OW σb σ' x.2 us ∧ ORs σb σ' us (a ++ (b.map (List.map (shiftM a.length))).take x.1)) (fun x => b.length - x.1) (0, u) ⟨Nat.zero_le _, inI, hlen, hi6, us, how, by simpa using hor⟩ (by repeat' (first | exact sub_nil | refine sub_cons rfl ?_ | refine sub_int rfl (by first | rfl | omega | (push_cast; omega) | simp) ?_ | refine sub_eq rfl (by assumption) ?_)) ?_
  clear hlen hi6 how hor hone hul hle
  rintro ⟨k, u⟩ σ' ⟨hk, hle, hlen, hi6, us, how, hor⟩
  dsimp only at hk hi6 how hor ⊢
  have := hle.grow
  have hone := how.one
  have hul : us.length = a.length + k := by have := hor.len; simp at this; omega
  repeat' (first
    | refine wl_pop rfl (pc_ldAV rfl inI inI (by omega) inI) ?_
    | refine wl_pop rfl (pc_indexRow rfl rfl inI inI inI (by omega)) ?_
    | refine wc_loadn rfl inI (at_has (cs := [_]) (.inl rfl) rfl rfl) rfl ?_
    | refine at_ret (res_cell2 rfl rfl inI (at_has (cs := [_]) (.inl rfl) rfl rfl) rfl) ?_
    | refine wp_seqA ?_
    | refine wp_region_seq ?_
    | refine thru_seq_next ?_
    | refine thru_seq ?_
    | refine exit_here ?_
    | refine wp_skipA ?_
    | refine wp_retA ?_
    | refine wp_exitA ?_
    | refine wp_blockA ?_
    | refine wl_nil ?_
    | refine wl_pop rfl (po_assign rfl) ?_
    | refine wl_pop rfl (po_binOp rfl rfl rfl) ?_
    | (refine wc_storeA rfl rfl inI inI rfl inI (Nat.le_of_ble_eq_true rfl) (.inr (may_new _)) ?_; intro _ _)
    | refine wp_condP rfl (fun _ => ?_) (fun _ => ?_)
    | fail)
  · have hk' : k < b.length := by omega
    refine wc_drawn [8, 9, 10] mixed_ rfl ?_
    all_goals refine da_takeC 0 rfl rfl (by kernel_rfl) (by first | exact po_fieldAddr rfl inI | fail) ?_
    all_goals refine da_takeC 1 rfl rfl (by kernel_rfl) (by first | exact pc_load1L rfl inI (at_has (.inl rfl) rfl rfl) inI | fail) ?_
    all_goals refine da_takeC 2 rfl rfl (by kernel_rfl) (by first | exact po_move rfl | fail) ?_
    all_goals refine da_takeC 3 rfl rfl (by kernel_rfl) (by first | exact po_fieldAddr rfl inI | fail) ?_
    all_goals refine da_takeC 4 rfl rfl (by kernel_rfl) (by first | exact pc_load1L rfl inI (at_has (.inl rfl) rfl rfl) inI | fail) ?_
    all_goals refine da_takeC 5 rfl rfl (by kernel_rfl) (by first | exact pc_lenRow rfl inI inI | fail) ?_
    all_goals (first | (refine da_one 6 rfl (by kernel_rfl) (fun _ _ _ _ => ?_); (repeat' (first | (refine wc_callOW rfl inI rfl (c_shifted _ _ _ (by omega) (hmb _)) rfl ?_; intro _ _ _ _ _) | fail)); all_goals (first | refine wl_nil ⟨rfl, (by first | exact LeS.len inI | exact App.len (by assumption)), ?_⟩ | trace_state)))
    all_goals (first | (refine da_one 7 rfl (by kernel_rfl) (fun _ _ _ _ => ?_); (repeat' (first | (refine wc_oneAV rfl inI inI rfl (by decide) rfl ?_; intro _ _ _ _ _) | fail)); all_goals (first | refine wl_nil ⟨rfl, (by first | exact LeS.len inI | exact App.len (by assumption)), ?_⟩ | trace_state)))
    all_goals (refine da_last 8 rfl (by decide) (by kernel_rfl) ?_; (repeat' (first | (refine wc_append1 (α := AV) (σ₀ := σb) rfl rfl inI inI rfl (by decide) (by decide) inI inI (one_av inI) (by omega) (may_ge σb) (Nat.le_trans hlen (LeS.len inI)) rfl ?_; intro _ _ _ _ _ _) | fail)); all_goals (first | refine wl_nil (dl_in ?_) | trace_state))
    all_goals (refine dl_last 9 rfl (by decide) (by kernel_rfl) ?_; (repeat' (first | refine wl_pop rfl (po_fieldAddr rfl inI) ?_ | fail)); all_goals (first | refine wl_nil (dl_in ?_) | trace_state))
    all_goals (refine dl_last 10 rfl (by decide) (by kernel_rfl) ?_; (repeat' (first | (refine wc_store1 rfl rfl inI inI inI (Nat.le_of_ble_eq_true rfl) (.inr (may_new _)) ?_; intro _ _) | fail)); all_goals (first | refine wl_nil (dl_in ?_) | trace_state))
    all_goals refine dl_done (by kernel_rfl) ?_
    rename_i v σv ov hv gv N2 B2 w2 r2 iv σ7 g7 n7 h7 u' σ8 happ mk8 how8 ou' σ9 u9
    repeat' (first
      | refine wp_region_seq ?_
      | refine thru_seq_next ?_
      | refine thru_block_next ?_
      | refine wl_nil ?_
      | refine wl_pop rfl (po_move rfl) ?_
      | refine wl_pop rfl (pc_add rfl rfl (by omega) (by omega)) ?_
      | fail)
    have hpush := rows_push (by decide) hor how hlen hb6 (inI : OW σ' σ7 v _) inI happ u9
    have how9 : OW σb σ9 u' (us ++ [v]) := inI
    have hlen9 : σb.length ≤ σ9.length := by
      have := happ.len
      have := (inI : LeS σ' σ7).len
      rw [u9.eq, List.length_set]; omega
    refine ⟨(k + 1, u'), by dsimp only; omega, ⟨by dsimp only; omega, inI, hlen9, instHasUpd (g := u9), us ++ [v], how9, ?_⟩, (by repeat' (first | exact sub_nil | refine sub_cons rfl ?_ | refine sub_int rfl (by first | rfl | omega | (push_cast; omega) | simp) ?_ | refine sub_eq rfl (by assumption) ?_))⟩
    dsimp only
    rw [map_take_succ hk' (d := []), ← List.append_assoc]
    rw [hl] at hpush
    exact hpush
  obtain rfl : k = b.length := by omega
  have hor : ORs σb σ' us (bothL a b) := by
    have := hor
    rw [List.take_of_length_le (by simp)] at this
    exact this
  repeat' (first
    | fail)
  exact ret_go (optB_yes ⟨hoa, hob, by omega⟩) inI inI inI inI inI
end
end Go.Proofs.YthbodgnoadlbcaaGreatDoor.Asl
