/- The states to which one comes, in order. -/
import Derived.Test.YtcmkkmlgdkhmiaaG8
namespace Go.Proofs.Ytcmkkmlgdkhmiaa.Asl
open Go.RowKit Go.Proofs.YtcmkkmlgdkhmiaaW.PrintLast
set_option linter.unusedVariables false
set_option linter.unusedSimpArgs false
attribute [local irreducible] WP WL andThen inBlock noGoto atEnd ACall DA DL PO Hold
set_option maxHeartbeats 4000000

theorem optB_getD_yes {α : Type} {p : Prop} {l : List α} (h : p) : (optB p l).getD [] = l := by rw [optB_yes h]; rfl
theorem optB_getD_no {α : Type} {p : Prop} {l : List α} (h : ¬ p) : (optB p l).getD [] = [] := by rw [optB_no h]; rfl
/-- The states below s to which one comes. -/
def belowL (g : Gr) (s : Nat) : List Nat := (List.range s).filter fun x => decide (x ∈ fromL g 0)
theorem belowL_all (g : Gr) : belowL g g.length = reachL g := rfl
theorem belowL_succ (g : Gr) (s : Nat) : belowL g (s + 1) = belowL g s ++ if s ∈ fromL g 0 then [s] else [] := by
  simp only [belowL, List.range_succ, List.filter_append]
  congr 1
  by_cases h : s ∈ fromL g 0 <;> simp [h]
theorem belowL_len (g : Gr) (s : Nat) : (belowL g s).length ≤ s := by
  have := List.length_filter_le (fun x => decide (x ∈ fromL g 0)) (List.range s)
  simpa [belowL] using this
theorem OW.lt {α : Type} [Enc α] {σ₀ σ : Store} {u : AV} {l : List α} (h : OW σ₀ σ u l) {j n : Nat} (e : u = .sl j 0 n) : j < σ.length := by
  rcases h.rep with ⟨_, h1⟩ | ⟨id, h1, h2, h3⟩
  · rw [e] at h1; cases h1
  · rw [e] at h1; cases h1; exact h3.lt
/-- A row that grows beside one that stays. -/
structure Two (σ σu : Store) {α β : Type} [Enc α] [Enc β] (v : AV) (out : List α) (u : AV) (F : List β) (σ' : Store) : Prop where
  le : LeS σ σ'
  ow : OW σ σ' v out
  two : OW σu σ' u F
  ne : ∀ j n m, v = .sl j 0 n → u ≠ .sl j 0 m
theorem Two.app {σ σu σ1 σ2 σ' : Store} {α β : Type} [Enc α] [Enc β] {v v' : AV} {out out' : List α} {u : AV} {F : List β} (h : Two σ σu v out u F σ') (g : LeS σ' σ1) (ha : App σ σ1 v v' σ2) (hl : LeS σ σ2) (hw : OW σ σ2 v' out') : Two σ σu v' out' u F σ2 := by
  have := g.grow
  have h2 : OW σu σ1 u F := by have := h.two; infer_instance
  refine ⟨hl, hw, ha.ow h2 h.ne, fun j n m e hu => ?_⟩
  rcases ha.fresh with k | ⟨q, n', k, hq⟩
  · exact h.ne j n m (k ▸ e) hu
  · rw [e] at k; cases k
    have := h.two.lt hu
    have := g.len
    omega
section
variable {base : Nat}
theorem c_sGraphReach (σ : Store) (s : AV) {ss : List AV} {g : Gr} [hs : RW σ s ss] [hg : RRs σ ss g] : ACall Try.prog base F_spec_GraphReach [.agg [s]] σ (fun _ => False) (RetOW σ ((optB (GOk g) (reachL g)).getD [])) := by
  have hb := hs.bound
  have := hs.one
  have hl := hg.len
  refine acall1 fun_spec_GraphReach rfl tmps_spec_GraphReach rfl fun N B w₀ ρ₀ => ?_
  repeat' (first
    | (refine wc_row0 (α := Nat) inferInstance inferInstance rfl rfl (by decide) rfl ?_; intro _ _ _ _ _)
    | (refine wc_callR rfl inferInstance rfl (c_sGraphOk _ _) rfl ?_; intro _ _)
    | (refine wc_callOW rfl inferInstance rfl (c_l3From _ _ 0 (by assumption) (GOk.pos (by assumption))) rfl ?_; intro _ _ _ _ _)
    | refine wc_loadn rfl inferInstance (at_has (cs := [_]) (.inl rfl) rfl rfl) rfl ?_
    | refine wp_condNPr rfl (fun _ => ?_) (fun _ => ?_)
    | refine wp_seqA ?_
    | refine wp_region_seq ?_
    | refine thru_seq_next ?_
    | refine thru_seq_ret ?_
    | refine wp_skipA ?_
    | refine wp_retA ?_
    | refine wp_blockA ?_
    | refine wl_nil ?_
    | refine wl_pop rfl (po_move rfl) ?_
    | refine wl_pop rfl (po_assign rfl) ?_
    | refine wl_pop rfl (po_not rfl) ?_
    | (refine wc_boxA rfl inferInstance rfl ?_; intro _ _ _ _ _)
    | refine at_ret (res1 rfl rfl) ?_
    | fail)
  · rename_i hno
    rw [optB_getD_no hno]
    refine ret_ow (σ₁ := σ) (ow_of_has (l := []) (inferInstance : Has _ _ (Row ([] : List Nat))) (may_new σ) rfl (by decide)) instLeRefl inferInstance rfl
  rename_i i1 σ1 g1 n1 h1 i2 σ2 g2 n2 h2 σ3 g3 hok u σ4 ou wu gu
  have hnd := (from_props hok hok.pos).1.nodup
  have hfl := (from_props hok hok.pos).1.len
  have h60 := hok.most
  have hw2 : OW σ1 σ2 (.sl i2 0 0) ([] : List Nat) := ow_of_has h2 n2.le rfl (by decide)
  rw [optB_getD_yes hok]
  generalize hF : fromL g 0 = F at *
  have h20 : i2 < σ3.length := Nat.lt_of_lt_of_le h2.lt (LeS.len inferInstance)
  have hi : Two σ1 σ3 (.sl i2 0 0) (belowL g 0) u F σ4 := ⟨inferInstance, (inferInstance : OW σ1 σ4 (.sl i2 0 0) ([] : List Nat)), wu, fun j n m e hu => by
    cases e
    rcases wu.rep with ⟨_, k⟩ | ⟨id, k, hk, _⟩
    · rw [hu] at k; cases k
    · rw [hu] at k; cases k; omega⟩
  refine wc_loop [(1, _), (4, _)] (fun x : Nat × AV => [(3, x.2), (5, I x.1)]) (fun x σ' => x.1 ≤ g.length ∧ Two σ1 σ3 x.2 (belowL g x.1) u F σ') (fun x => g.length - x.1) (0, .sl i2 0 0) ⟨Nat.zero_le _, hi⟩ (by repeat' (first | exact sub_nil | refine sub_cons rfl ?_ | refine sub_int rfl (by first | rfl | omega | (push_cast; omega) | simp) ?_ | refine sub_eq rfl (by assumption) ?_)) ?_
  rintro ⟨k, v⟩ σ5 ⟨hk, hT⟩
  dsimp only at hk hT ⊢
  have := hT.le.grow
  have := hT.ow
  have := hT.two
  have := hT.ow.one
  have hbl := belowL_len g k
  repeat' (first
    | refine wl_pop rfl (pc_lenRow rfl inferInstance inferInstance) ?_
    | refine wp_seqA ?_
    | refine wp_region_seq ?_
    | refine thru_seq_next ?_
    | refine thru_seq ?_
    | refine exit_here ?_
    | refine wp_skipA ?_
    | refine wp_retA ?_
    | refine wp_exitA ?_
    | refine wp_blockA ?_
    | refine wl_nil ?_
    | refine wl_pop rfl (po_move rfl) ?_
    | refine wl_pop rfl (po_assign rfl) ?_
    | refine wl_pop rfl (po_binOp rfl rfl rfl) ?_
    | refine wl_pop rfl (po_fieldAddr rfl inferInstance) ?_
    | refine wc_load1 rfl inferInstance (at_has (.inl rfl) rfl rfl) rfl ?_
    | refine wp_condP rfl (fun _ => ?_) (fun _ => ?_)
    | refine at_ret (res1 rfl rfl) ?_
    | fail)
  rotate_left
  · obtain rfl : k = g.length := by omega
    exact ret_ow hT.ow (inferInstance : LeS σ σ1) inferInstance (belowL_all g)
  refine wc_loop [(1, _), (4, _), (5, _)] (fun y : Nat × AV => [(3, y.2), (6, I y.1)]) (fun y σ' => y.1 ≤ F.length ∧ Two σ1 σ3 y.2 (belowL g k ++ if k ∈ F.take y.1 then [k] else []) u F σ') (fun y => F.length - y.1) (0, v) ⟨Nat.zero_le _, by simpa using hT⟩ (by repeat' (first | exact sub_nil | refine sub_cons rfl ?_ | refine sub_int rfl (by first | rfl | omega | (push_cast; omega) | simp) ?_ | refine sub_eq rfl (by assumption) ?_)) ?_
  rintro ⟨j, w⟩ σ6 ⟨hj, hU⟩
  dsimp only at hj hU ⊢
  have := hU.le.grow
  have hwo := hU.ow
  have := hU.two
  have := hU.ow.one
  have hbl2 : (belowL g k ++ if k ∈ F.take j then [k] else []).length ≤ k + 1 := by
    rw [List.length_append]; split <;> simp <;> omega
  repeat' (first
    | (refine wc_oneNat rfl inferInstance inferInstance rfl (by decide) rfl ?_; intro _ _ _ _ _)
    | (refine wc_append1 (α := Nat) (σ₀ := σ1) rfl rfl inferInstance inferInstance rfl (by decide) (by decide) (inferInstance) inferInstance (one_nat _) (by omega) (may_ge σ1) (LeS.len inferInstance) rfl ?_; intro _ _ _ _ _ _)
    | refine wl_pop rfl (pc_ldNat rfl inferInstance inferInstance (by omega) inferInstance) ?_
    | refine wl_pop rfl (pc_indexRow rfl rfl inferInstance inferInstance inferInstance (by omega)) ?_
    | refine wl_pop rfl (pc_lenRow rfl inferInstance inferInstance) ?_
    | refine wp_seqA ?_
    | refine wp_region_seq ?_
    | refine thru_seq_next ?_
    | refine thru_seq ?_
    | refine thru_block_next ?_
    | refine exit_here ?_
    | refine wp_skipA ?_
    | refine wp_exitA ?_
    | refine wp_blockA ?_
    | refine wl_nil ?_
    | refine wl_pop rfl (po_move rfl) ?_
    | refine wl_pop rfl (po_assign rfl) ?_
    | refine wl_pop rfl (pc_add rfl rfl (by omega) (by omega)) ?_
    | refine wl_pop rfl (po_binOp rfl rfl rfl) ?_
    | refine wp_condP rfl (fun _ => ?_) (fun _ => ?_)
    | fail)
  · rename_i hjl he i7 σ7 g7 n7 h7 w' σ8 happ hmk' how' hone'
    have hjl' : j < F.length := by omega
    have he' : F.getD j 0 = k := by omega
    have hnk : k ∉ F.take j := fun h => by
      obtain ⟨q, hq, e⟩ := List.getElem_of_mem h
      rw [List.getElem_take] at e
      rw [getD_lt hjl'] at he'
      have hq' : q < j := by have := hq; rw [List.length_take] at this; omega
      exact List.pairwise_iff_getElem.mp hnd q j (by omega) hjl' hq' (e.trans he'.symm)
    refine ⟨(j + 1, w'), by dsimp only; omega, ⟨by dsimp only; omega, ?_⟩, (by repeat' (first | exact sub_nil | refine sub_cons rfl ?_ | refine sub_int rfl (by first | rfl | omega | (push_cast; omega) | simp) ?_ | refine sub_eq rfl (by assumption) ?_))⟩
    dsimp only
    rw [take_succ_getD hjl' (d := 0), he', if_pos (by simp)]
    rw [if_neg hnk, List.append_nil] at how'
    exact hU.app (inferInstance : LeS σ6 σ7) happ inferInstance how'
  · rename_i hjl he
    have hjl' : j < F.length := by omega
    have he' : ¬ k = F.getD j 0 := by omega
    refine ⟨(j + 1, w), by dsimp only; omega, ⟨by dsimp only; omega, ?_⟩, (by repeat' (first | exact sub_nil | refine sub_cons rfl ?_ | refine sub_int rfl (by first | rfl | omega | (push_cast; omega) | simp) ?_ | refine sub_eq rfl (by assumption) ?_))⟩
    dsimp only
    rw [take_succ_getD hjl' (d := 0)]
    simp only [List.mem_append, List.mem_singleton, he', or_false]
    exact hU
  · obtain rfl : j = F.length := by omega
    rw [List.take_length] at hU
    refine ⟨(k + 1, w), by dsimp only; omega, ⟨by dsimp only; omega, ?_⟩, (by repeat' (first | exact sub_nil | refine sub_cons rfl ?_ | refine sub_int rfl (by first | rfl | omega | (push_cast; omega) | simp) ?_ | refine sub_eq rfl (by assumption) ?_))⟩
    dsimp only
    rw [belowL_succ, hF]
    exact hU
end
end Go.Proofs.Ytcmkkmlgdkhmiaa.Asl
