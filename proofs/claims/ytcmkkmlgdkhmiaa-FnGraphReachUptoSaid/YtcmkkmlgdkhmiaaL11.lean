/- The drawn law FnGraphReach. -/
import Derived.Test.YtcmkkmlgdkhmiaaM1
import Derived.Test.YtcmkkmlgdkhmiaaK6
import Derived.Test.YtcmkkmlgdkhmiaaG20
import Derived.Test.YtcmkkmlgdkhmiaaPP
namespace Go.Proofs.Ytcmkkmlgdkhmiaa.Asl
open Go.RowKit Go.Proofs.YtcmkkmlgdkhmiaaW.PrintLast
set_option linter.unusedVariables false
set_option linter.unusedSimpArgs false
attribute [local irreducible] WP WL andThen inBlock noGoto atEnd ACall DA DL PO Hold
set_option maxHeartbeats 4000000
set_option synthInstance.maxHeartbeats 400000
set_option synthInstance.maxSize 10000
/-- The states reached, or none. -/
noncomputable def reachO (g : Gr) : List Nat := (optB (GOk g) (reachL g)).getD []
theorem reachO_cases (g : Gr) : (GOk g ∧ reachO g = reachL g) ∨ reachO g = [] := by
  unfold reachO optB
  split
  · rename_i h; exact .inl ⟨prB_of h, rfl⟩
  · exact .inr rfl
theorem reachO_rises (g : Gr) : Rises (reachO g) := by
  rcases reachO_cases g with ⟨_, h⟩ | h
  · rw [h]
    intro i hi
    have := List.pairwise_iff_getElem.mp (reach_pairwise g) i (i + 1) (by omega) hi (by omega)
    simpa [List.getD_eq_getElem?_getD, hi, show i < (reachL g).length by omega] using this
  · rw [h]; intro i hi; simp at hi
theorem reachO_zero (g : Gr) : (reachO g).getD 0 0 = 0 := by
  rcases reachO_cases g with ⟨hg, h⟩ | h
  · rw [h, List.getD_eq_getElem?_getD, reach_zero hg]; rfl
  · rw [h]; rfl
theorem reachO_mem {g : Gr} {k : Nat} (hk : k < (reachO g).length) : GOk g ∧ (reachO g).getD k 0 < g.length ∧ ∀ m ∈ rowOf g ((reachO g).getD k 0), ∃ x ∈ reachO g, (x : Int) = m.2 := by
  rcases reachO_cases g with ⟨hg, h⟩ | h
  · rw [h] at hk ⊢
    have hm : (reachL g).getD k 0 ∈ reachL g := getD_mem hk
    refine ⟨hg, ?_, fun m hm2 => ⟨m.2.toNat, reach_closed hg hm hm2, (hg.to hm2).2.2.2.2⟩⟩
    have := hm
    simp only [reachL, List.mem_filter, List.mem_range] at this
    exact this.1
  · rw [h] at hk; simp at hk
section
variable {base : Nat}
theorem c_FnGraphReach (b : AV) (gb : List UInt8) (σ : Store) [hs : RW σ b gb] : ACall Try.prog base F_laws_FnGraphReach [b] σ (fun _ => False) (Ret σ (Bo true)) := by
  have := hs.one
  refine acall1 fun_laws_FnGraphReach rfl tmps_laws_FnGraphReach rfl fun N B w₀ ρ₀ => ?_
  repeat' (first
    | refine wl_pop rfl (pc_lenRow rfl hs inferInstance) ?_
    | (refine wc_callG1 rfl inferInstance rfl (c_DrawGraphReach b gb _ (by omega)) rfl ?_; intro _ _ _ _ _ _ _ _)
    | refine wc_holdR 4 ?_
    | refine wp_seqA ?_
    | refine wp_region_seq ?_
    | refine thru_seq_next ?_
    | refine thru_seq_ret ?_
    | refine wp_skipA ?_
    | refine wp_retA ?_
    | refine wl_nil ?_
    | refine wl_pop rfl (po_move rfl) ?_
    | refine wl_pop rfl (po_assign rfl) ?_
    | refine wl_pop rfl (po_binOp rfl rfl rfl) ?_
    | (refine wc_storeA rfl rfl inferInstance inferInstance rfl inferInstance (Nat.le_of_ble_eq_true rfl) (.inr (may_new _)) ?_; intro _ _)
    | (refine wc_allocA (cs := [_]) inferInstance rfl inferInstance rfl ?_; intro _ _ _ _ _)
    | refine wp_condP rfl (fun _ => ?_) (fun _ => ?_)
    | refine at_ret (res1 rfl rfl) ?_
    | exact ret_ inferInstance rfl
    | fail)
  rename_i hlen u us g σ1 ou ng hgb g1 i2 σ2 g2 n2 h2 σ3 u3
  refine hold_go ?_
  have l3 : LeS σ σ3 := inferInstance
  have h3 : Has σ3 i2 ⟨.own, 1, [u], []⟩ := instHasUpd (g := u3)
  have ng3 : NG σ σ3 u us g := ng.keep fun x o hx ho => by
    have := Has.lt ⟨ho⟩
    have := n2.le
    rw [u3.eq, List.getElem?_set_ne (by omega)]; exact g2.keep x o ho
  have rw3 : RW σ3 u us := inferInstance
  have rr3 : RRs σ3 us g := ng3.rrs
  have hgl := rr3.len
  generalize hL : reachO g = L
  have hL' : (optB (GOk g) (reachL g)).getD [] = L := hL
  clear ng ng3 u3 n2
  repeat' (first
    | (refine wc_callOW rfl inferInstance rfl (hL' ▸ c_GraphReach _ _) rfl ?_; intro _ _ _ _ _)
    | (refine wc_callOW rfl inferInstance rfl (hL' ▸ c_sGraphReach _ _) rfl ?_; intro _ _ _ _ _)
    | (refine wc_callR rfl inferInstance rfl (c_mnIntsR (l := L) _ _ _) rfl ?_; intro _ _)
    | (refine wc_callR rfl inferInstance rfl (c_mnRisesR (l := L) _ _ (hL ▸ reachO_rises g)) rfl ?_; intro _ _)
    | refine wc_holdR 10 ?_
    | refine wl_pop rfl (pc_ldNat rfl inferInstance inferInstance (by omega) inferInstance) ?_
    | refine wl_pop rfl (pc_indexRowZ rfl rfl inferInstance inferInstance inferInstance (by omega) (by omega)) ?_
    | refine wl_pop rfl (pc_lenRow rfl inferInstance inferInstance) ?_
    | refine wc_loadn rfl inferInstance (at_has (cs := [_]) (.inl rfl) rfl rfl) rfl ?_
    | refine wp_seqA ?_
    | refine wp_region_seq ?_
    | refine thru_seq_next ?_
    | refine thru_seq_ret ?_
    | refine wp_skipA ?_
    | refine wp_retA ?_
    | refine wl_nil ?_
    | refine wl_pop rfl (po_move rfl) ?_
    | refine wl_pop rfl (po_assign rfl) ?_
    | refine wl_pop rfl (po_binOp rfl rfl rfl) ?_
    | refine wl_pop rfl (po_not rfl) ?_
    | refine wl_pop rfl (po_pick rfl rfl) ?_
    | refine wc_guardT_true rfl rfl rfl ?_
    | refine wc_guardF_true rfl rfl rfl rfl ?_
    | refine wc_guardT_false rfl rfl rfl ?_
    | refine wc_guardP_true rfl rfl rfl rfl (fun _ => ?_) (fun _ => ?_)
    | refine wp_condF rfl ?_
    | refine wp_condNP rfl (fun _ => ?_) (fun _ => ?_)
    | refine at_ret (res1 rfl rfl) ?_
    | fail)
  · rename_i h0
    exact absurd (by have := reachO_zero g; rw [hL] at this; exact congrArg Int.ofNat this) h0
  rename_i v σ4 ov ow4 g4 v' σ5 ov' ow5 g5 σ6 g6 σ7 g7 hz1 hz2
  rotate_left
  rename_i v σ4 ov ow4 g4 v' σ5 ov' ow5 g5 σ6 g6 σ7 g7 hz1
  all_goals
    have hLb := ow4.bound
    refine hold_go ?_
    repeat' (first
      | refine wp_region_seq ?_
      | refine thru_seq_next ?_
      | refine wp_blockA ?_
      | refine wl_nil ?_
      | refine wl_pop rfl (po_assign rfl) ?_
      | fail)
    refine wc_loop [(3, _), (4, _)] (fun k : Nat => [(6, I k)]) (fun k σ' => k ≤ L.length ∧ LeS σ7 σ') (fun k => L.length - k) 0 ⟨Nat.zero_le _, inferInstance⟩ (by repeat' (first | exact sub_nil | refine sub_cons rfl ?_ | refine sub_int rfl (by first | rfl | omega | (push_cast; omega) | simp) ?_ | refine sub_eq rfl (by assumption) ?_)) ?_
    rintro k σ' ⟨hk, hgr⟩
    have := hgr.grow
    repeat' (first
      | refine wl_pop rfl (pc_lenRow rfl inferInstance inferInstance) ?_
      | refine wp_seqA ?_
      | refine wp_region_seq ?_
      | refine thru_seq_next ?_
      | refine thru_seq ?_
      | refine exit_here ?_
      | refine wp_skipA ?_
      | refine wp_retA ?_
      | refine wp_exitA ?_
      | refine wp_blockA ?_
      | refine wl_nil ?_
      | refine wl_pop rfl (po_move rfl) ?_
      | refine wl_pop rfl (po_assign rfl) ?_
      | refine wl_pop rfl (po_binOp rfl rfl rfl) ?_
      | refine wp_condP rfl (fun _ => ?_) (fun _ => ?_)
      | refine at_ret (res1 rfl rfl) ?_
      | exact ret_ inferInstance rfl
      | fail)
    have hk' : k < L.length := by omega
    obtain ⟨hok, hkl, hmem⟩ := reachO_mem (g := g) (k := k) (by rw [hL]; exact hk')
    rw [hL] at hkl hmem
    have hku : L.getD k 0 < us.length := by omega
    have hrb := (rr3.row (L.getD k 0)).bound
    refine wc_loop [(3, _), (4, _), (6, _)] (fun j : Nat => [(7, I j)]) (fun j σ'' => j ≤ (g.getD (L.getD k 0) []).length ∧ LeS σ' σ'') (fun j => (g.getD (L.getD k 0) []).length - j) 0 ⟨Nat.zero_le _, inferInstance⟩ (by repeat' (first | exact sub_nil | refine sub_cons rfl ?_ | refine sub_int rfl (by first | rfl | omega | (push_cast; omega) | simp) ?_ | refine sub_eq rfl (by assumption) ?_)) ?_
    rintro j σ'' ⟨hj, hgr2⟩
    have := hgr2.grow
    repeat' (first
      | refine wp_seqA ?_
      | fail)
    refine wc_drawn [] mixed_ rfl ?_
    all_goals refine da_takeC 0 rfl rfl (by kernel_rfl) (by first | exact po_move rfl | fail) ?_
    all_goals refine da_takeC 1 rfl rfl (by kernel_rfl) (by first | exact po_fieldAddr rfl inferInstance | fail) ?_
    all_goals refine da_takeC 2 rfl rfl (by kernel_rfl) (by first | exact pc_load1L rfl inferInstance (at_has (.inl rfl) rfl rfl) inferInstance | fail) ?_
    all_goals refine da_takeC 3 rfl rfl (by kernel_rfl) (by first | exact po_move rfl | fail) ?_
    all_goals refine da_takeC 4 rfl rfl (by kernel_rfl) (by first | exact po_move rfl | fail) ?_
    all_goals refine da_takeC 5 rfl rfl (by kernel_rfl) (by first | exact pc_indexRow rfl rfl inferInstance inferInstance inferInstance (by omega) | fail) ?_
    all_goals refine da_takeC 6 rfl rfl (by kernel_rfl) (by first | exact pc_ldNat rfl inferInstance inferInstance (by omega) inferInstance | fail) ?_
    all_goals refine da_takeC 7 rfl rfl (by kernel_rfl) (by first | exact pc_indexRow rfl rfl inferInstance inferInstance inferInstance (by omega) | fail) ?_
    all_goals refine da_takeC 8 rfl rfl (by kernel_rfl) (by first | exact pc_ldAV rfl inferInstance inferInstance (by omega) inferInstance | fail) ?_
    all_goals refine da_takeC 9 rfl rfl (by kernel_rfl) (by first | exact pc_lenRow rfl inferInstance inferInstance | fail) ?_
    all_goals refine da_takeC 10 rfl rfl (by kernel_rfl) (by first | exact po_binOp rfl rfl rfl | fail) ?_
    all_goals refine da_done (by kernel_rfl) ?_
    repeat' (first
      | refine wp_seqA ?_
      | refine wp_region_seq ?_
      | refine thru_seq_next ?_
      | refine thru_seq ?_
      | refine thru_block_next ?_
      | refine exit_here ?_
      | refine wp_skipA ?_
      | refine wp_exitA ?_
      | refine wp_blockA ?_
      | refine wl_nil ?_
      | refine wl_pop rfl (po_move rfl) ?_
      | refine wl_pop rfl (po_assign rfl) ?_
      | refine wl_pop rfl (pc_add rfl rfl (by omega) (by omega)) ?_
      | refine wp_condP rfl (fun _ => ?_) (fun _ => ?_)
      | fail)
    · have hj' : j < (g.getD (L.getD k 0) []).length := by omega
      have hm := hmem _ (getD_mem hj' : (g.getD (L.getD k 0) []).getD j (0, 0) ∈ _)
      refine wc_drawn [] mixed_ rfl ?_
      all_goals refine da_takeC 0 rfl rfl (by kernel_rfl) (by first | exact po_move rfl | fail) ?_
      all_goals refine da_takeC 1 rfl rfl (by kernel_rfl) (by first | exact po_fieldAddr rfl inferInstance | fail) ?_
      all_goals refine da_takeC 2 rfl rfl (by kernel_rfl) (by first | exact pc_load1L rfl inferInstance (at_has (.inl rfl) rfl rfl) inferInstance | fail) ?_
      all_goals refine da_takeC 3 rfl rfl (by kernel_rfl) (by first | exact po_move rfl | fail) ?_
      all_goals refine da_takeC 4 rfl rfl (by kernel_rfl) (by first | exact po_move rfl | fail) ?_
      all_goals refine da_takeC 5 rfl rfl (by kernel_rfl) (by first | exact pc_indexRow rfl rfl inferInstance inferInstance inferInstance (by omega) | fail) ?_
      all_goals refine da_takeC 6 rfl rfl (by kernel_rfl) (by first | exact pc_ldNat rfl inferInstance inferInstance (by omega) inferInstance | fail) ?_
      all_goals refine da_takeC 7 rfl rfl (by kernel_rfl) (by first | exact pc_indexRow rfl rfl inferInstance inferInstance inferInstance (by omega) | fail) ?_
      all_goals refine da_takeC 8 rfl rfl (by kernel_rfl) (by first | exact pc_ldAV rfl inferInstance inferInstance (by omega) inferInstance | fail) ?_
      all_goals refine da_takeC 9 rfl rfl (by kernel_rfl) (by first | exact po_move rfl | fail) ?_
      all_goals refine da_takeC 10 rfl rfl (by kernel_rfl) (by first | exact pc_indexRow rfl rfl inferInstance inferInstance inferInstance (by omega) | fail) ?_
      all_goals refine da_takeC 11 rfl rfl (by kernel_rfl) (by first | exact po_fieldAddr rfl inferInstance | fail) ?_
      all_goals refine da_takeC 12 rfl rfl (by kernel_rfl) (by first | exact pc_ldMv2 rfl inferInstance inferInstance (by omega) inferInstance | fail) ?_
      all_goals (first | (refine da_one 13 rfl (by kernel_rfl) (fun _ _ _ _ => ?_); (repeat' (first | (refine wc_callR rfl inferInstance rfl (prB_true hm ▸ c_mnHas (l := L) _ _ _) rfl ?_; intro _ _) | fail)); all_goals (first | refine wl_nil ⟨rfl, (by first | exact LeS.len inferInstance | exact App.len (by assumption)), ?_⟩ | trace_state)))
      all_goals refine da_takeC 14 rfl rfl (by kernel_rfl) (by first | exact po_not rfl | fail) ?_
      all_goals refine da_done (by kernel_rfl) ?_
      repeat' (first
        | refine wp_region_seq ?_
        | refine thru_seq_next ?_
        | refine thru_block_next ?_
        | refine wp_skipA ?_
        | refine wl_nil ?_
        | refine wl_pop rfl (po_move rfl) ?_
        | refine wl_pop rfl (po_assign rfl) ?_
        | refine wl_pop rfl (pc_add rfl rfl (by omega) (by omega)) ?_
        | refine wp_condF rfl ?_
        | fail)
      all_goals first | exact absurd rfl (by assumption) | exact ⟨j + 1, by omega, ⟨hj', inferInstance⟩, (by repeat' (first | exact sub_nil | refine sub_cons rfl ?_ | refine sub_int rfl (by first | rfl | omega | (push_cast; omega) | simp) ?_ | refine sub_eq rfl (by assumption) ?_))⟩
    · exact ⟨k + 1, by omega, ⟨hk', inferInstance⟩, (by repeat' (first | exact sub_nil | refine sub_cons rfl ?_ | refine sub_int rfl (by first | rfl | omega | (push_cast; omega) | simp) ?_ | refine sub_eq rfl (by assumption) ?_))⟩
end
end Go.Proofs.Ytcmkkmlgdkhmiaa.Asl
