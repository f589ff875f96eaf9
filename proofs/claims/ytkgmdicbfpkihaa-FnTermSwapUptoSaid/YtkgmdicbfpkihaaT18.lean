/- Names exchanged in a term: the program. -/
import Derived.Test.YtkgmdicbfpkihaaTA
namespace Go.Proofs.Ytkgmdicbfpkihaa.Asl
open Go.RowKit
set_option linter.unusedVariables false
attribute [local irreducible] WP WL andThen inBlock noGoto atEnd ACall DA DL PO Hold actB inB nodeOk
set_option maxHeartbeats 4000000

mutual
def Tm.sw (a b : Int) : Tm → Tm | .node op n ps => .node op (if op = 1 then swA n a b else if op = 4 then swN n a b else n) (Tm.sws a b ps)
def Tm.sws (a b : Int) : List Tm → List Tm | [] => [] | p :: ps => p.sw a b :: Tm.sws a b ps
end
theorem Tm.sws_eq (a b : Int) (ps : List Tm) : Tm.sws a b ps = ps.map (Tm.sw a b) := by
  induction ps with
  | nil => rfl
  | cons p ps ih => simp [Tm.sws, ih]

section
variable {base : Nat}
theorem c_swapTerm_of {op n a b : Int} {ps : List Tm} (hs0 : (Tm.node op n ps).shape = true) (ha : 0 ≤ a ∧ a ≤ 3) (hb : 0 ≤ b ∧ b ≤ 3) (h : ∀ p ∈ ps, p.shape = true → ∀ (σ : Store) (s : AV) [RTs σ s p.ps], ACall Try.prog base F_impl_swapTerm [.agg [I p.op, I p.n, s], I a, I b] σ (fun _ => False) (RetTmD σ (p.sw a b)))
    (σ : Store) (s : AV) [hs : RTs σ s ps] : ACall Try.prog base F_impl_swapTerm [.agg [I op, I n, s], I a, I b] σ (fun _ => False) (RetTmD σ ((Tm.node op n ps).sw a b)) := by
  have hbd := hs.bound
  have := hs.one
  obtain ⟨hno, hps⟩ := Tm.shape_node hs0
  rw [nodeOk_iff] at hno
  refine acall3 fun_impl_swapTerm rfl tmps_impl_swapTerm rfl fun N B w₀ ρ₀ => ?_
  repeat' (first
    | refine wc_hold 0 ?_
    | refine wl_pop rfl (po_build (cs := [I op, I n, nilS]) inferInstance inferInstance rfl (by intro x hx; simp only [List.mem_cons, List.not_mem_nil, or_false] at hx; rcases hx with rfl | rfl <;> exact ⟨_, _, rfl, rfl, by decide⟩) rfl) ?_
    | refine wp_seqA ?_
    | refine wp_region_seq ?_
    | refine thru_seq_next ?_
    | refine wl_nil ?_
    | refine wl_pop rfl (po_fieldAddr rfl inferInstance) ?_
    | refine wc_load1 rfl inferInstance (at_has (.inl rfl) rfl rfl) rfl ?_
    | (refine wc_storeA rfl rfl inferInstance inferInstance rfl inferInstance (Nat.le_of_ble_eq_true rfl) (.inr (may_new _)) ?_; intro _ _)
    | (refine wc_boxA rfl inferInstance rfl ?_; intro _ _ _ _ _)
    | (refine wc_allocA (cs := [_, _, _]) inferInstance rfl inferInstance rfl ?_; intro _ _ _ _ _)
    | fail)
  rename_i i1 σ₁ g1 n1 h1 i2 σ₂ g2 n2 h2 i3 σ₃ g3 n3 h3 σ₄ u4
  have h4 : Has σ₄ i3 ⟨.own, 1, [I op, I n, nilS], []⟩ := by
    have : Has σ₄ i3 ⟨.own, 1, splice [I 0, I 0, nilS] 0 [I op, I n, nilS], []⟩ := inferInstance
    exact this
  refine wc_cut (ι := Unit) [(1, I a), (2, I b), (3, .pt i1 0), (6, .pt i2 0), (7, .pt i3 0)] (fun _ => []) (fun _ σ' => LeS σ₂ σ' ∧ σ₃.length ≤ σ'.length ∧ Has σ' i3 ⟨.own, 1, [I op, I (if op = 1 then swA n a b else if op = 4 then swN n a b else n), nilS], []⟩) ?_ ?_
  · repeat' (first
      | (refine wc_callR rfl inferInstance rfl (c_swapAct _ _ _ (by omega) ha hb _) rfl ?_; intro _ _)
      | (refine wc_callR rfl inferInstance rfl (c_swapName _ _ _ _) rfl ?_; intro _ _)
      | refine wp_seqA ?_
      | refine wp_region_seq ?_
      | refine thru_seq_next ?_
      | refine thru_block_next ?_
      | refine wp_skipA ?_
      | refine wp_blockA ?_
      | refine wl_nil ?_
      | refine wl_pop rfl (po_move rfl) ?_
      | refine wl_pop rfl (po_assign rfl) ?_
      | refine wl_pop rfl (po_binOp rfl rfl rfl) ?_
      | refine wl_pop rfl (po_fieldAddr rfl inferInstance) ?_
      | refine wc_load1 rfl inferInstance (at_has (.inl rfl) rfl rfl) rfl ?_
      | (refine wc_store1 rfl rfl inferInstance inferInstance inferInstance (Nat.le_of_ble_eq_true rfl) (.inr (may_new _)) ?_; intro _ _)
      | refine wp_condP rfl (fun _ => ?_) (fun _ => ?_)
      | fail)
    · rename_i ho σ5 g5 σ6 u6
      refine ⟨(), ⟨inferInstance, (by have h4l := Upd.len u4; first | omega | (have h5l := g5.len; have h6l := Upd.len u6; omega)), ?_⟩, sub_cons rfl (sub_cons rfl (sub_cons rfl (sub_cons rfl (sub_cons rfl sub_nil))))⟩
      have hh : Has σ6 i3 _ := instHasUpd (g := u6)
      rw [if_pos ho]; exact hh
    · rename_i hno1 ho σ5 g5 σ6 u6
      refine ⟨(), ⟨inferInstance, (by have h4l := Upd.len u4; first | omega | (have h5l := g5.len; have h6l := Upd.len u6; omega)), ?_⟩, sub_cons rfl (sub_cons rfl (sub_cons rfl (sub_cons rfl (sub_cons rfl sub_nil))))⟩
      have hh : Has σ6 i3 _ := instHasUpd (g := u6)
      rw [if_neg hno1, if_pos ho]; exact hh
    · rename_i hno1 hno4
      refine ⟨(), ⟨inferInstance, (by have h4l := Upd.len u4; first | omega | (have h5l := g5.len; have h6l := Upd.len u6; omega)), ?_⟩, sub_cons rfl (sub_cons rfl (sub_cons rfl (sub_cons rfl (sub_cons rfl sub_nil))))⟩
      rw [if_neg hno1, if_neg hno4]; exact h4
  generalize hn' : (if op = 1 then swA n a b else if op = 4 then swN n a b else n) = n'
  rintro _ σ5 ⟨hg5, hg5', h5⟩
  have := hg5.grow
  repeat' (first
    | refine wp_seqA ?_
    | refine wp_region_seq ?_
    | refine thru_seq_next ?_
    | refine wp_blockA ?_
    | refine wl_nil ?_
    | refine wl_pop rfl (po_move rfl) ?_
    | refine wl_pop rfl (po_fieldAddr rfl inferInstance) ?_
    | refine wc_load1 rfl inferInstance (at_has (.inl rfl) rfl rfl) rfl ?_
    | refine wl_pop rfl (pc_lenT rfl inferInstance inferInstance) ?_
    | fail)
  have hlt3 := h3.lt
  refine wc_loop [(1, _), (2, _), (6, _), (7, _), (34, _), (35, _)] (fun x : Nat × AV => [(36, I x.1)]) (fun x σ' => x.1 ≤ ps.length ∧ LeS σ₂ σ' ∧ σ₃.length ≤ σ'.length ∧ Has σ' i3 ⟨.own, 1, [I op, I n', x.2], []⟩ ∧ One x.2 ∧ (x.1 = 0 → x.2 = nilS) ∧
      RepD σ' (fun y => σ₃.length ≤ y) x.2 ((ps.map (Tm.sw a b)).take x.1)) (fun x => ps.length - x.1) (0, nilS) ⟨Nat.zero_le _, inferInstance, hg5', h5, inferInstance, fun _ => rfl, .nil⟩ (by repeat' (first | exact sub_nil | refine sub_cons rfl ?_ | refine sub_int rfl (by first | rfl | omega | (push_cast; omega) | simp) ?_ | refine sub_eq rfl (by assumption) ?_)) ?_
  rintro ⟨k, v⟩ σ' ⟨hk, hg, hlen, h3', ho', hv0, hv⟩
  dsimp only at hk h3' ho' hv0 hv ⊢
  have := hg.grow
  repeat' (first
    | refine wp_seqA ?_
    | refine wp_region_seq ?_
    | refine thru_seq_next ?_
    | refine thru_seq ?_
    | refine exit_here ?_
    | refine wp_skipA ?_
    | refine wp_retA ?_
    | refine wp_exitA ?_
    | refine wp_blockA ?_
    | refine wl_nil ?_
    | refine wl_pop rfl (po_binOp rfl rfl rfl) ?_
    | refine wc_loadn rfl inferInstance (at_has (cs := [_, _, _]) (.inl rfl) rfl rfl) rfl ?_
    | (refine wc_storeA rfl rfl inferInstance inferInstance rfl inferInstance (Nat.le_of_ble_eq_true rfl) (.inr (may_new _)) ?_; intro _ _)
    | refine wp_condP rfl (fun _ => ?_) (fun _ => ?_)
    | refine at_ret (res_cell rfl rfl inferInstance (at_has (cs := [_, _, _]) (.inl rfl) rfl rfl)) ?_
    | fail)
  rotate_left
  · rename_i hk1 σ6 u6
    obtain rfl : k = ps.length := by omega
    rw [List.take_of_length_le (by simp)] at hv
    have hsw : (Tm.node op n ps).sw a b = .node op n' (ps.map (Tm.sw a b)) := by simp only [Tm.sw, Tm.sws_eq, hn']
    rw [hsw]
    refine ret_tmD (σ₁ := σ₂) ⟨hv.mono (fun x o hx ho => ?_) (fun x hx => Nat.le_trans g3.len hx)⟩ inferInstance inferInstance
    have := h2.lt
    have := g3.len
    rw [u6.eq, List.getElem?_set_ne (by omega)]; exact ho
  have hk' : k < ps.length := by omega
  obtain ⟨id, off, s', rfl, hat, hrs⟩ := (inferInstance : RTs σ' s ps).part hk'
  have := hrs.one
  repeat' (first
    | refine thru_seq_next ?_
    | refine wl_nil ?_
    | refine wl_pop rfl (pc_indexAddr rfl rfl inferInstance inferInstance (by omega)) ?_
    | refine wc_loadn rfl inferInstance inferInstance rfl ?_
    | (refine wc_storeA rfl rfl inferInstance inferInstance rfl inferInstance (Nat.le_of_ble_eq_true rfl) (.inr (may_new _)) ?_; intro _ _)
    | (refine wc_allocA (cs := [_, _, _]) inferInstance rfl inferInstance rfl ?_; intro _ _ _ _ _)
    | fail)
  rename_i i9 σ9 g9 n9 h9 σ10 u10
  have htl : ((ps.map (Tm.sw a b)).take k).length = k := by rw [List.length_take, List.length_map]; omega
  have hv0' : (ps.map (Tm.sw a b)).take k = [] → v = nilS := fun e => hv0 (by rw [e] at htl; exact htl.symm)
  refine wc_drawn [7, 8, 9] mixed_ rfl ?_
  all_goals refine da_takeC 0 rfl rfl (by kernel_rfl) (by first | exact po_fieldAddr rfl inferInstance | fail) ?_
  all_goals refine da_takeC 1 rfl rfl (by kernel_rfl) (by first | exact pc_load1L rfl inferInstance (at_has (.inl rfl) rfl rfl) inferInstance | fail) ?_
  all_goals refine da_takeC 2 rfl rfl (by kernel_rfl) (by first | exact pc_loadnL rfl inferInstance (at_has (cs := [_, _, _]) (.inl rfl) rfl rfl) inferInstance | fail) ?_
  all_goals refine da_takeC 3 rfl rfl (by kernel_rfl) (by first | exact po_move rfl | fail) ?_
  all_goals refine da_takeC 4 rfl rfl (by kernel_rfl) (by first | exact po_move rfl | fail) ?_
  all_goals (first | (refine da_one 5 rfl (by kernel_rfl) (fun _ _ _ _ => ?_); (repeat' (first | (refine wc_callTD rfl inferInstance rfl (h _ (List.getElem_mem hk') (hps _ (List.getElem_mem hk')) _ _) rfl ?_; intro _ _ _ _ _) | fail)); all_goals (first | refine wl_nil ⟨rfl, (by first | exact LeS.len inferInstance | exact App.len (by assumption)), ?_⟩ | trace_state)))
  all_goals (first | (refine da_one 6 rfl (by kernel_rfl) (fun _ _ _ _ => ?_); (repeat' (first | (refine wc_oneTm rfl inferInstance inferInstance rfl (by decide) rfl ?_; intro _ _ _ _ _) | fail)); all_goals (first | refine wl_nil ⟨rfl, (by first | exact LeS.len inferInstance | exact App.len (by assumption)), ?_⟩ | trace_state)))
  all_goals (refine da_last 7 rfl (by decide) (by kernel_rfl) ?_; (repeat' (first | (refine wc_appendTm (σ₀ := σ₃) σ'.length rfl rfl inferInstance inferInstance rfl (by decide) (by decide) (hv.at inferInstance) hv0' (rtsD_ge inferInstance (LeS.len inferInstance)) hlen (Nat.le_trans hlen (LeS.len inferInstance)) inferInstance inferInstance (by omega) (may_ge σ₃) rfl ?_; intro _ _ _ _ _ _) | fail)); all_goals (first | refine wl_nil (dl_in ?_) | trace_state))
  all_goals (refine dl_last 8 rfl (by decide) (by kernel_rfl) ?_; (repeat' (first | refine wl_pop rfl (po_fieldAddr rfl inferInstance) ?_ | fail)); all_goals (first | refine wl_nil (dl_in ?_) | trace_state))
  all_goals (refine dl_last 9 rfl (by decide) (by kernel_rfl) ?_; (repeat' (first | (refine wc_store1 rfl rfl inferInstance inferInstance inferInstance (Nat.le_of_ble_eq_true rfl) (.inr (may_new _)) ?_; intro _ _) | fail)); all_goals (first | refine wl_nil (dl_in ?_) | trace_state))
  all_goals refine dl_done (by kernel_rfl) ?_
  repeat' (first
    | refine wp_region_seq ?_
    | refine thru_seq_next ?_
    | refine thru_block_next ?_
    | refine wl_nil ?_
    | refine wl_pop rfl (po_move rfl) ?_
    | refine wl_pop rfl (pc_add rfl rfl (by omega) (by omega)) ?_
    | fail)
  rename_i s5 σ11 o5 r5 g11 _ _ _ _ i12 σ12 g12 n12 h12 s6 σ13 ap13 mk13 r6 o6 σ14 u14
  refine ⟨⟨k + 1, s6⟩, by dsimp only; omega, ⟨by dsimp only; omega, inferInstance, ?_, ?_, inferInstance, fun e => (by cases e), ?_⟩, ?_⟩
  · have := g9.len
    have := Upd.len u10
    have := g11.len
    have := g12.len
    have := ap13.len
    have := Upd.len u14
    omega
  · have hh : Has σ14 i3 _ := instHasUpd (g := u14)
    exact hh
  · have e : (ps.map (Tm.sw a b)).take (k + 1) = (ps.map (Tm.sw a b)).take k ++ [Tm.sw a b ps[k]] := by
      rw [List.take_add_one, List.getElem?_map, List.getElem?_eq_getElem hk']; rfl
    dsimp only
    rw [e]
    exact r6.mono (fun x o hx ho => by rw [u14.eq, List.getElem?_set_ne (by omega)]; exact ho) (fun _ h => h)
  · exact (by repeat' (first | exact sub_nil | refine sub_cons rfl ?_ | refine sub_int rfl (by first | rfl | omega | (push_cast; omega) | simp) ?_ | refine sub_eq rfl (by assumption) ?_))
end
theorem c_swapTerm {base : Nat} {a b : Int} (ha : 0 ≤ a ∧ a ≤ 3) (hb : 0 ≤ b ∧ b ≤ 3) (t : Tm) (hsh : t.shape = true) : ∀ (σ : Store) (s : AV) [RTs σ s t.ps], ACall Try.prog base F_impl_swapTerm [.agg [I t.op, I t.n, s], I a, I b] σ (fun _ => False) (RetTmD σ (t.sw a b)) := by
  revert hsh
  induction t using Tm.ind with
  | _ op n ps ih => exact fun hsh σ s _ => c_swapTerm_of hsh ha hb (fun p hp hs σ s _ => ih p hp hs σ s) σ s
end Go.Proofs.Ytkgmdicbfpkihaa.Asl
