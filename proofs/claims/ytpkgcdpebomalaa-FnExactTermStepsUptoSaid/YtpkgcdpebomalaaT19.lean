/- Names exchanged in a term: the table, as the judge says it. -/
import Derived.Test.YtpkgcdpebomalaaT18
namespace Go.Proofs.Ytpkgcdpebomalaa.Asl
open Go.RowKit
set_option linter.unusedVariables false
attribute [local irreducible] WP WL andThen inBlock noGoto atEnd ACall DA DL PO Hold actB inB nodeOk
set_option maxHeartbeats 4000000

def tblSw (a b : Nat) : List Nat := ((List.range 4).set a b).set b a
theorem tblSw_len (a b : Nat) : (tblSw a b).length = 4 := by simp [tblSw]
theorem tblSw_get : ∀ a, a < 4 → ∀ b, b < 4 → ∀ k, k < 4 → (((tblSw a b).getD k 0 : Nat) : Int) = swN (k : Int) (a : Int) (b : Int) := by decide
theorem tblSw_any (a : Nat) (ha : a < 4) (b : Nat) (hb : b < 4) (k : Nat) : (tblSw a b).getD k 0 ≤ 3 := by
  by_cases h : k < 4
  · revert a b k; decide
  · rw [List.getD_eq_getElem?_getD, List.getElem?_eq_none (by rw [tblSw_len]; omega)]; decide
theorem tblSw_z {a b : Nat} {z : Int} (ha : a < 4) (hb : b < 4) (h0 : 0 ≤ z) (h1 : z ≤ 3) : (((tblSw a b).getD z.toNat 0 : Nat) : Int) = swN z a b := by
  have := tblSw_get a ha b hb z.toNat (by omega)
  rwa [Int.toNat_of_nonneg h0] at this
theorem tblSw_le : ∀ a, a < 4 → ∀ b, b < 4 → ∀ k, k < 4 → (tblSw a b).getD k 0 ≤ 3 := by decide
theorem has_i3 {σ : Store} {i : Nat} {a c : AV} {m n : Int} (h : Has σ i ⟨.own, 1, [a, I m, c], []⟩) (e : m = n) : Has σ i ⟨.own, 1, [a, I n, c], []⟩ := e ▸ h
section
variable {base : Nat}
theorem c_l2Swapped (a b : Nat) (ha : a < 4) (hb : b < 4) (σ : Store) : ACall Try.prog base F_spec_l2Swapped [I a, I b] σ (fun _ => False) (RetOW σ (tblSw a b)) := by
  refine acall2 fun_spec_l2Swapped rfl tmps_spec_l2Swapped rfl fun N B w₀ ρ₀ => ?_
  repeat' (first
    | (refine wc_row0 (α := Nat) inferInstance inferInstance rfl rfl (by decide) rfl ?_; intro _ _ _ _ _)
    | refine wp_seqA ?_
    | refine wp_region_seq ?_
    | refine thru_seq_next ?_
    | refine wp_blockA ?_
    | refine wl_nil ?_
    | refine wl_pop rfl (po_assign rfl) ?_
    | fail)
  rename_i i1 σ1 g1 n1 h1
  refine wc_loop [(0, _), (1, _)] (fun x : Nat × AV => [(5, x.2), (6, I x.1)]) (fun x σ' => x.1 ≤ 4 ∧ LeS σ σ' ∧ OW σ σ' x.2 (List.range x.1)) (fun x => 4 - x.1) (0, .sl i1 0 0) ⟨Nat.zero_le _, inferInstance, ow_of_has h1 n1.le rfl (by decide)⟩ (by repeat' (first | exact sub_nil | refine sub_cons rfl ?_ | refine sub_int rfl (by first | rfl | omega | (push_cast; omega) | simp) ?_ | refine sub_eq rfl (by assumption) ?_)) ?_
  rintro ⟨k, v⟩ σ5 ⟨hk, hle, how⟩
  dsimp only at hk hle how ⊢
  have := hle.grow
  have := how.one
  repeat' (first
    | (refine wc_oneNat rfl inferInstance inferInstance rfl (by decide) rfl ?_; intro _ _ _ _ _)
    | (refine wc_append1 (α := Nat) (σ₀ := σ) rfl rfl inferInstance inferInstance rfl (by decide) (by decide) (inferInstance) inferInstance (one_nat _) (by simp; omega) (may_ge σ) (LeS.len inferInstance) rfl ?_; intro _ _ _ _ _ _)
    | refine wp_seqA ?_
    | refine wp_region_seq ?_
    | refine thru_seq_next ?_
    | refine thru_seq ?_
    | refine thru_block_next ?_
    | refine exit_here ?_
    | refine wp_skipA ?_
    | refine wp_exitA ?_
    | refine wp_blockA ?_
    | refine wl_nil ?_
    | refine wl_pop rfl (po_move rfl) ?_
    | refine wl_pop rfl (po_assign rfl) ?_
    | refine wl_pop rfl (pc_add rfl rfl (by omega) (by omega)) ?_
    | refine wl_pop rfl (po_binOp rfl rfl rfl) ?_
    | refine wp_condP rfl (fun _ => ?_) (fun _ => ?_)
    | fail)
  · rename_i hkl i7 σ7 g7 n7 h7 w' σ8 happ hmk' how' hone'
    refine ⟨(k + 1, w'), by dsimp only; omega, ⟨by dsimp only; omega, inferInstance, ?_⟩, (by repeat' (first | exact sub_nil | refine sub_cons rfl ?_ | refine sub_int rfl (by first | rfl | omega | (push_cast; omega) | simp) ?_ | refine sub_eq rfl (by assumption) ?_))⟩
    dsimp only
    rw [List.range_succ]
    exact how'
  · obtain rfl : k = 4 := by omega
    have hl4 : (List.range 4).length = 4 := by decide
    rcases how.rep with ⟨e, _⟩ | ⟨i, rfl, hi, hh⟩
    · rw [e] at hl4; cases hl4
    rw [hl4]
    have hm := may_ge (σs := σ) σ (T := fun _ => False) i hi
    repeat' (first
      | (refine wc_stNat rfl rfl inferInstance inferInstance (by simp; omega) hm ?_; intro _ _)
      | refine wp_seqA ?_
      | refine wp_region_seq ?_
      | refine thru_seq_next ?_
      | refine wp_retA ?_
      | refine wl_nil ?_
      | refine wl_pop rfl (po_move rfl) ?_
      | refine wl_pop rfl (po_assign rfl) ?_
      | refine wl_pop rfl (pc_indexAddr rfl rfl inferInstance inferInstance (by omega)) ?_
      | refine at_ret (res1 rfl rfl) ?_
      | fail)
    rename_i σ8 u8 σ9 u9
    have : New σ i := ⟨hi⟩
    exact ret_ow (σ₁ := σ) (ow_of_has (l := tblSw a b) (inferInstance : Has σ9 i (Row (((List.range 4).set a b).set b a))) hi (tblSw_len a b) (by decide)) instLeRefl inferInstance rfl
theorem c_l2Map_of {op n : Int} {a b : Nat} {ps : List Tm} (hs0 : (Tm.node op n ps).shape = true) (ha : a < 4) (hb : b < 4) (h : ∀ p ∈ ps, p.shape = true → ∀ (σ : Store) (s u : AV) [RTs σ s p.ps] [RW σ u (tblSw a b)], ACall Try.prog base F_spec_l2Map [.agg [I p.op, I p.n, s], u] σ (fun _ => False) (RetTmD σ (p.sw a b)))
    (σ : Store) (s u : AV) [hs : RTs σ s ps] [hu : RW σ u (tblSw a b)] : ACall Try.prog base F_spec_l2Map [.agg [I op, I n, s], u] σ (fun _ => False) (RetTmD σ ((Tm.node op n ps).sw a b)) := by
  have hbd := hs.bound
  have := hs.one
  have := hu.one
  have htl := tblSw_len a b
  have hget := tblSw_get a ha b hb
  have hle := tblSw_le a ha b hb
  obtain ⟨hno, hps⟩ := Tm.shape_node hs0
  rw [nodeOk_iff] at hno
  refine acall2 fun_spec_l2Map rfl tmps_spec_l2Map rfl fun N B w₀ ρ₀ => ?_
  repeat' (first
    | refine wc_hold 0 ?_
    | refine wl_pop rfl (po_build (cs := [I op, I n, nilS]) inferInstance inferInstance rfl (by intro x hx; simp only [List.mem_cons, List.not_mem_nil, or_false] at hx; rcases hx with rfl | rfl <;> exact ⟨_, _, rfl, rfl, by decide⟩) rfl) ?_
    | refine wp_seqA ?_
    | refine wp_region_seq ?_
    | refine thru_seq_next ?_
    | refine wl_nil ?_
    | refine wl_pop rfl (po_fieldAddr rfl inferInstance) ?_
    | refine wc_load1 rfl inferInstance (at_has (.inl rfl) rfl rfl) rfl ?_
    | (refine wc_storeA rfl rfl inferInstance inferInstance rfl inferInstance (Nat.le_of_ble_eq_true rfl) (.inr (may_new _)) ?_; intro _ _)
    | (refine wc_boxA rfl inferInstance rfl ?_; intro _ _ _ _ _)
    | (refine wc_allocA (cs := [_, _, _]) inferInstance rfl inferInstance rfl ?_; intro _ _ _ _ _)
    | fail)
  rename_i i1 σ₁ g1 n1 h1 i2 σ₂ g2 n2 h2 i3 σ₃ g3 n3 h3 σ₄ u4
  have h4 : Has σ₄ i3 ⟨.own, 1, [I op, I n, nilS], []⟩ := by
    have : Has σ₄ i3 ⟨.own, 1, splice [I 0, I 0, nilS] 0 [I op, I n, nilS], []⟩ := inferInstance
    exact this
  have q1 := tblSw_any a ha b hb (n - 1).toNat
  have q2 := tblSw_any a ha b hb (-n - 1).toNat
  have z0 := tblSw_z ha hb (z := n)
  have z1 := tblSw_z ha hb (z := n - 1)
  have z2 := tblSw_z ha hb (z := -n - 1)
  refine wc_cut (ι := Unit) [(1, u), (2, .pt i1 0), (4, .pt i2 0), (5, .pt i3 0)] (fun _ => []) (fun _ σ' => LeS σ₂ σ' ∧ σ₃.length ≤ σ'.length ∧ Has σ' i3 ⟨.own, 1, [I op, I (if op = 1 then swA n a b else if op = 4 then swN n a b else n), nilS], []⟩) ?_ ?_
  · repeat' (first
      | refine wl_pop rfl (pc_neg rfl (by omega) (by omega)) ?_
      | refine wl_pop rfl (pc_ldNat rfl inferInstance inferInstance (by omega) inferInstance) ?_
      | refine wl_pop rfl (pc_indexRowZ rfl rfl inferInstance inferInstance inferInstance (by omega) (by omega)) ?_
      | refine wp_seqA ?_
      | refine wp_region_seq ?_
      | refine thru_seq_next ?_
      | refine thru_block_next ?_
      | refine wp_skipA ?_
      | refine wp_blockA ?_
      | refine wl_nil ?_
      | refine wl_pop rfl (po_move rfl) ?_
      | refine wl_pop rfl (po_assign rfl) ?_
      | refine wl_pop rfl (pc_add rfl rfl (by omega) (by omega)) ?_
      | refine wl_pop rfl (pc_sub rfl rfl (by omega) (by omega)) ?_
      | refine wl_pop rfl (po_binOp rfl rfl rfl) ?_
      | refine wl_pop rfl (po_fieldAddr rfl inferInstance) ?_
      | refine wc_load1 rfl inferInstance (at_has (.inl rfl) rfl rfl) rfl ?_
      | (refine wc_store1 rfl rfl inferInstance inferInstance inferInstance (Nat.le_of_ble_eq_true rfl) (.inr (may_new _)) ?_; intro _ _)
      | refine wl_pop rfl (po_pick rfl rfl) ?_
      | refine wc_guardT_true rfl rfl rfl ?_
      | refine wc_guardF_true rfl rfl rfl rfl ?_
      | refine wc_guardP_true rfl rfl rfl rfl (fun _ => ?_) (fun _ => ?_)
      | refine wp_condF rfl ?_
      | refine wp_condP rfl (fun _ => ?_) (fun _ => ?_)
      | fail)
    all_goals refine ⟨(), ⟨inferInstance, (by have h4l := Upd.len u4; first | omega | (rename_i u6; have h6l := Upd.len u6; omega)), ?_⟩, sub_cons rfl (sub_cons rfl (sub_cons rfl (sub_cons rfl sub_nil)))⟩
    all_goals first
      | (rename_i u6; have hh : Has _ i3 _ := instHasUpd (g := u6); refine has_i3 hh ?_)
      | refine has_i3 h4 ?_
    all_goals (unfold swA; (repeat' split) <;> omega)
  generalize hn' : (if op = 1 then swA n a b else if op = 4 then swN n a b else n) = n'
  rintro _ σ5 ⟨hg5, hg5', h5⟩
  have := hg5.grow
  repeat' (first
    | refine wp_seqA ?_
    | refine wp_region_seq ?_
    | refine thru_seq_next ?_
    | refine wp_blockA ?_
    | refine wl_nil ?_
    | refine wl_pop rfl (po_assign rfl) ?_
    | fail)
  have hlt3 := h3.lt
  refine wc_loop [(1, _), (2, _), (4, _), (5, _)] (fun x : Nat × AV => [(6, I x.1)]) (fun x σ' => x.1 ≤ ps.length ∧ LeS σ₂ σ' ∧ σ₃.length ≤ σ'.length ∧ Has σ' i3 ⟨.own, 1, [I op, I n', x.2], []⟩ ∧ One x.2 ∧ (x.1 = 0 → x.2 = nilS) ∧
      RepD σ' (fun y => σ₃.length ≤ y) x.2 ((ps.map (Tm.sw a b)).take x.1)) (fun x => ps.length - x.1) (0, nilS) ⟨Nat.zero_le _, inferInstance, hg5', h5, inferInstance, fun _ => rfl, .nil⟩ (by repeat' (first | exact sub_nil | refine sub_cons rfl ?_ | refine sub_int rfl (by first | rfl | omega | (push_cast; omega) | simp) ?_ | refine sub_eq rfl (by assumption) ?_)) ?_
  rintro ⟨k, v⟩ σ' ⟨hk, hg, hlen, h3', ho', hv0, hv⟩
  dsimp only at hk h3' ho' hv0 hv ⊢
  have := hg.grow
  repeat' (first
    | refine wp_seqA ?_
    | refine wp_region_seq ?_
    | refine thru_seq_next ?_
    | refine thru_seq ?_
    | refine exit_here ?_
    | refine wp_skipA ?_
    | refine wp_retA ?_
    | refine wp_exitA ?_
    | refine wp_blockA ?_
    | refine wl_nil ?_
    | refine wl_pop rfl (po_move rfl) ?_
    | refine wl_pop rfl (po_binOp rfl rfl rfl) ?_
    | refine wl_pop rfl (po_fieldAddr rfl inferInstance) ?_
    | refine wc_load1 rfl inferInstance (at_has (.inl rfl) rfl rfl) rfl ?_
    | refine wc_loadn rfl inferInstance (at_has (cs := [_, _, _]) (.inl rfl) rfl rfl) rfl ?_
    | (refine wc_storeA rfl rfl inferInstance inferInstance rfl inferInstance (Nat.le_of_ble_eq_true rfl) (.inr (may_new _)) ?_; intro _ _)
    | refine wp_condP rfl (fun _ => ?_) (fun _ => ?_)
    | refine wl_pop rfl (pc_lenT rfl inferInstance inferInstance) ?_
    | refine at_ret (res_cell rfl rfl inferInstance (at_has (cs := [_, _, _]) (.inl rfl) rfl rfl)) ?_
    | fail)
  rotate_left
  · rename_i hk1 σ6 u6
    obtain rfl : k = ps.length := by omega
    rw [List.take_of_length_le (by simp)] at hv
    have hsw : (Tm.node op n ps).sw a b = .node op n' (ps.map (Tm.sw a b)) := by simp only [Tm.sw, Tm.sws_eq, hn']
    rw [hsw]
    refine ret_tmD (σ₁ := σ₂) ⟨hv.mono (fun x o hx ho => ?_) (fun x hx => Nat.le_trans g3.len hx)⟩ inferInstance inferInstance
    have := h2.lt
    have := g3.len
    rw [u6.eq, List.getElem?_set_ne (by omega)]; exact ho
  have hk' : k < ps.length := by omega
  obtain ⟨id, off, s', rfl, hat, hrs⟩ := (inferInstance : RTs σ' s ps).part hk'
  have := hrs.one
  repeat' (first
    | fail)
  have htl : ((ps.map (Tm.sw a b)).take k).length = k := by rw [List.length_take, List.length_map]; omega
  have hv0' : (ps.map (Tm.sw a b)).take k = [] → v = nilS := fun e => hv0 (by rw [e] at htl; exact htl.symm)
  refine wc_drawn [10, 11, 12] mixed_ rfl ?_
  all_goals refine da_takeC 0 rfl rfl (by kernel_rfl) (by first | exact po_fieldAddr rfl inferInstance | fail) ?_
  all_goals refine da_takeC 1 rfl rfl (by kernel_rfl) (by first | exact pc_load1L rfl inferInstance (at_has (.inl rfl) rfl rfl) inferInstance | fail) ?_
  all_goals refine da_takeC 2 rfl rfl (by kernel_rfl) (by first | exact po_fieldAddr rfl inferInstance | fail) ?_
  all_goals refine da_takeC 3 rfl rfl (by kernel_rfl) (by first | exact pc_load1L rfl inferInstance (at_has (.inl rfl) rfl rfl) inferInstance | fail) ?_
  all_goals refine da_takeC 4 rfl rfl (by kernel_rfl) (by first | exact po_move rfl | fail) ?_
  all_goals refine da_takeC 5 rfl rfl (by kernel_rfl) (by first | exact pc_indexAddr rfl rfl inferInstance inferInstance (by omega) | fail) ?_
  all_goals refine da_takeC 6 rfl rfl (by kernel_rfl) (by first | exact pc_loadnL rfl inferInstance inferInstance inferInstance | fail) ?_
  all_goals refine da_takeC 7 rfl rfl (by kernel_rfl) (by first | exact po_move rfl | fail) ?_
  all_goals (first | (refine da_one 8 rfl (by kernel_rfl) (fun _ _ _ _ => ?_); (repeat' (first | (refine wc_callTD rfl inferInstance rfl (h _ (List.getElem_mem hk') (hps _ (List.getElem_mem hk')) _ _ _) rfl ?_; intro _ _ _ _ _) | fail)); all_goals (first | refine wl_nil ⟨rfl, (by first | exact LeS.len inferInstance | exact App.len (by assumption)), ?_⟩ | trace_state)))
  all_goals (first | (refine da_one 9 rfl (by kernel_rfl) (fun _ _ _ _ => ?_); (repeat' (first | (refine wc_oneTm rfl inferInstance inferInstance rfl (by decide) rfl ?_; intro _ _ _ _ _) | fail)); all_goals (first | refine wl_nil ⟨rfl, (by first | exact LeS.len inferInstance | exact App.len (by assumption)), ?_⟩ | trace_state)))
  all_goals (refine da_last 10 rfl (by decide) (by kernel_rfl) ?_; (repeat' (first | (refine wc_appendTm (σ₀ := σ₃) σ'.length rfl rfl inferInstance inferInstance rfl (by decide) (by decide) (hv.at inferInstance) hv0' (rtsD_ge inferInstance (LeS.len inferInstance)) hlen (Nat.le_trans hlen (LeS.len inferInstance)) inferInstance inferInstance (by omega) (may_ge σ₃) rfl ?_; intro _ _ _ _ _ _) | fail)); all_goals (first | refine wl_nil (dl_in ?_) | trace_state))
  all_goals (refine dl_last 11 rfl (by decide) (by kernel_rfl) ?_; (repeat' (first | refine wl_pop rfl (po_fieldAddr rfl inferInstance) ?_ | fail)); all_goals (first | refine wl_nil (dl_in ?_) | trace_state))
  all_goals (refine dl_last 12 rfl (by decide) (by kernel_rfl) ?_; (repeat' (first | (refine wc_store1 rfl rfl inferInstance inferInstance inferInstance (Nat.le_of_ble_eq_true rfl) (.inr (may_new _)) ?_; intro _ _) | fail)); all_goals (first | refine wl_nil (dl_in ?_) | trace_state))
  all_goals refine dl_done (by kernel_rfl) ?_
  repeat' (first
    | refine wp_region_seq ?_
    | refine thru_seq_next ?_
    | refine thru_block_next ?_
    | refine wl_nil ?_
    | refine wl_pop rfl (po_move rfl) ?_
    | refine wl_pop rfl (po_assign rfl) ?_
    | refine wl_pop rfl (pc_add rfl rfl (by omega) (by omega)) ?_
    | fail)
  rename_i s5 σ11 o5 r5 g11 _ _ _ _ i12 σ12 g12 n12 h12 s6 σ13 ap13 mk13 r6 o6 σ14 u14
  refine ⟨⟨k + 1, s6⟩, by dsimp only; omega, ⟨by dsimp only; omega, inferInstance, ?_, ?_, inferInstance, fun e => (by cases e), ?_⟩, ?_⟩
  · have := g11.len
    have := g12.len
    have := ap13.len
    have := Upd.len u14
    omega
  · have hh : Has σ14 i3 _ := instHasUpd (g := u14)
    exact hh
  · have e : (ps.map (Tm.sw a b)).take (k + 1) = (ps.map (Tm.sw a b)).take k ++ [Tm.sw a b ps[k]] := by
      rw [List.take_add_one, List.getElem?_map, List.getElem?_eq_getElem hk']; rfl
    dsimp only
    rw [e]
    exact r6.mono (fun x o hx ho => by rw [u14.eq, List.getElem?_set_ne (by omega)]; exact ho) (fun _ h => h)
  · exact (by repeat' (first | exact sub_nil | refine sub_cons rfl ?_ | refine sub_int rfl (by first | rfl | omega | (push_cast; omega) | simp) ?_ | refine sub_eq rfl (by assumption) ?_))
end
theorem c_l2Map {base : Nat} {a b : Nat} (ha : a < 4) (hb : b < 4) (t : Tm) (hsh : t.shape = true) : ∀ (σ : Store) (s u : AV) [RTs σ s t.ps] [RW σ u (tblSw a b)], ACall Try.prog base F_spec_l2Map [.agg [I t.op, I t.n, s], u] σ (fun _ => False) (RetTmD σ (t.sw a b)) := by
  revert hsh
  induction t using Tm.ind with
  | _ op n ps ih => exact fun hsh σ s u _ _ => c_l2Map_of hsh ha hb (fun p hp hs σ s u _ _ => ih p hp hs σ s u) σ s u
end Go.Proofs.Ytpkgcdpebomalaa.Asl
