/- Does a table tell a likeness? The specification's answer. -/
import Derived.Test.YtpkgcdpebomalaaG14
namespace Go.Proofs.Ytpkgcdpebomalaa.Asl
open Go.RowKit Go.Proofs.YtpkgcdpebomalaaW.PrintLast
set_option linter.unusedVariables false
set_option linter.unusedSimpArgs false
attribute [local irreducible] WP WL andThen inBlock noGoto atEnd ACall DA DL PO Hold
set_option maxHeartbeats 4000000
set_option synthInstance.maxHeartbeats 400000
set_option synthInstance.maxSize 10000
/-- A pair of states that the table calls alike is as it should be. -/
def PairOk (g : Gr) (rel : List (List Bool)) (s t : Nat) : Prop := (rel.getD s []).getD t false = true → folL g rel false s t = true ∧ folL g rel true t s = true
section
variable {base : Nat}
theorem c_sAlikeRelation (σ : Store) (u t : AV) {ss ts : List AV} {g : Gr} {rel : List (List Bool)} [hs : RW σ u ss] [hg : RRs σ ss g] [ht : RW σ t ts] [hr : RRs σ ts rel] :
    ACall Try.prog base F_spec_AlikeRelation [.agg [u], t] σ (fun _ => False) (Ret σ (Bo (prB (RelOk g rel)))) := by
  have hb := hs.bound
  have := hs.one
  have hl := hg.len
  have hb2 := ht.bound
  have htl := hr.len
  refine acall2 fun_spec_AlikeRelation rfl tmps_spec_AlikeRelation rfl fun N B w₀ ρ₀ => ?_
  repeat' (first
    | (refine wc_callR rfl inferInstance rfl (c_sGraphOk _ _) rfl ?_; intro _ _)
    | refine wl_pop rfl (pc_lenRow rfl inferInstance inferInstance) ?_
    | refine wc_loadn rfl inferInstance (at_has (cs := [_]) (.inl rfl) rfl rfl) rfl ?_
    | refine wc_guardNPr_false rfl rfl rfl rfl (fun _ => ?_) (fun _ => ?_)
    | refine wp_seqA ?_
    | refine wp_region_seq ?_
    | refine thru_seq_next ?_
    | refine thru_seq_ret ?_
    | refine wp_skipA ?_
    | refine wp_retA ?_
    | refine wp_blockA ?_
    | refine wl_nil ?_
    | refine wl_pop rfl (po_move rfl) ?_
    | refine wl_pop rfl (po_assign rfl) ?_
    | refine wl_pop rfl (po_binOp rfl rfl rfl) ?_
    | refine wl_pop rfl (po_fieldAddr rfl inferInstance) ?_
    | refine wc_load1 rfl inferInstance (at_has (.inl rfl) rfl rfl) rfl ?_
    | refine wl_pop rfl (po_not rfl) ?_
    | (refine wc_boxA rfl inferInstance rfl ?_; intro _ _ _ _ _)
    | refine wl_pop rfl (po_pick rfl rfl) ?_
    | refine wc_guardT_false rfl rfl rfl ?_
    | refine wc_guardF_false rfl rfl rfl rfl ?_
    | refine wp_condT rfl ?_
    | refine wp_condNP rfl (fun _ => ?_) (fun _ => ?_)
    | refine at_ret (res1 rfl rfl) ?_
    | fail)
  all_goals try exact ret_ inferInstance (congrArg Bo (prB_false fun h => by have h1 := h.ok; have h2 := h.len; first | contradiction | omega).symm)
  rename_i i1 σ1 g1 n1 h1 σ2 g2 hok hlen
  have hlen' : rel.length = g.length := by omega
  have h60 := hok.most
  refine wc_loop [(1, _), (2, _)] (fun k : Nat => [(5, I k)]) (fun k σ' => k ≤ rel.length ∧ LeS σ1 σ' ∧ ∀ j, j < k → (rel.getD j []).length = g.length) (fun k => rel.length - k) 0 ⟨Nat.zero_le _, inferInstance, fun j hj => by omega⟩ (by repeat' (first | exact sub_nil | refine sub_cons rfl ?_ | refine sub_int rfl (by first | rfl | omega | (push_cast; omega) | simp) ?_ | refine sub_eq rfl (by assumption) ?_)) ?_
  rintro k σ3 ⟨hk, hle3, hrows⟩
  have := hle3.grow
  repeat' (first
    | refine wl_pop rfl (pc_ldAV rfl inferInstance inferInstance (by omega) inferInstance) ?_
    | refine wl_pop rfl (pc_indexRow rfl rfl inferInstance inferInstance inferInstance (by omega)) ?_
    | refine wl_pop rfl (pc_lenRow rfl inferInstance inferInstance) ?_
    | refine wp_seqA ?_
    | refine wp_region_seq ?_
    | refine thru_seq_next ?_
    | refine thru_seq_ret ?_
    | refine thru_seq ?_
    | refine thru_block_ret ?_
    | refine thru_block_next ?_
    | refine exit_here ?_
    | refine wp_skipA ?_
    | refine wp_retA ?_
    | refine wp_exitA ?_
    | refine wp_blockA ?_
    | refine wl_nil ?_
    | refine wl_pop rfl (po_move rfl) ?_
    | refine wl_pop rfl (po_assign rfl) ?_
    | refine wl_pop rfl (pc_add rfl rfl (by omega) (by omega)) ?_
    | refine wl_pop rfl (po_binOp rfl rfl rfl) ?_
    | refine wp_condP rfl (fun _ => ?_) (fun _ => ?_)
    | refine wp_condNP rfl (fun _ => ?_) (fun _ => ?_)
    | refine at_ret (res1 rfl rfl) ?_
    | fail)
  · rename_i hkl hne
    refine ret_ inferInstance (congrArg Bo (prB_false fun h => ?_).symm)
    have := h.rows (rel.getD k []) (by rw [getD_lt (by omega)]; exact List.getElem_mem _)
    omega
  · rename_i hkl he
    refine ⟨k + 1, by omega, ⟨by omega, inferInstance, fun j hj => ?_⟩, (by repeat' (first | exact sub_nil | refine sub_cons rfl ?_ | refine sub_int rfl (by first | rfl | omega | (push_cast; omega) | simp) ?_ | refine sub_eq rfl (by assumption) ?_))⟩
    rcases Nat.lt_or_ge j k with h | h
    · exact hrows j h
    · obtain rfl : j = k := by omega
      omega
  rename_i hkl
  obtain rfl : k = rel.length := by omega
  have htab : TabOk g rel := ⟨hok, hlen', fun r hr => by
    obtain ⟨j, hj, e⟩ := List.getElem_of_mem hr
    rw [← e, ← getD_lt (d := []) hj]; exact hrows j hj⟩
  refine wc_loop [(1, _), (2, _)] (fun k : Nat => [(6, I k)]) (fun k σ' => k ≤ rel.length ∧ LeS σ1 σ' ∧ ∀ s, s < k → ∀ t, t < g.length → PairOk g rel s t) (fun k => rel.length - k) 0 ⟨Nat.zero_le _, inferInstance, fun j hj => by omega⟩ (by repeat' (first | exact sub_nil | refine sub_cons rfl ?_ | refine sub_int rfl (by first | rfl | omega | (push_cast; omega) | simp) ?_ | refine sub_eq rfl (by assumption) ?_)) ?_
  rintro k σ4 ⟨hk4, hle4, hp4⟩
  have := hle4.grow
  repeat' (first
    | refine wl_pop rfl (pc_lenRow rfl inferInstance inferInstance) ?_
    | refine wp_seqA ?_
    | refine wp_region_seq ?_
    | refine thru_seq_next ?_
    | refine thru_seq ?_
    | refine exit_here ?_
    | refine wp_skipA ?_
    | refine wp_retA ?_
    | refine wp_exitA ?_
    | refine wp_blockA ?_
    | refine wl_nil ?_
    | refine wl_pop rfl (po_move rfl) ?_
    | refine wl_pop rfl (po_assign rfl) ?_
    | refine wl_pop rfl (po_binOp rfl rfl rfl) ?_
    | refine wp_condP rfl (fun _ => ?_) (fun _ => ?_)
    | refine at_ret (res1 rfl rfl) ?_
    | fail)
  rotate_left
  · obtain rfl : k = rel.length := by omega
    exact ret_ inferInstance (congrArg Bo (prB_true (relOk_iff.mpr ⟨htab, fun s t h1 h2 => hp4 s (by omega) t h2⟩)).symm)
  have hk' : k < rel.length := by omega
  have hrow := htab.row (k := k) (by omega)
  refine wc_loop [(1, _), (2, _), (6, _)] (fun j : Nat => [(7, I j)]) (fun j σ' => j ≤ rel.length ∧ LeS σ1 σ' ∧ ∀ t, t < j → PairOk g rel k t) (fun j => rel.length - j) 0 ⟨Nat.zero_le _, inferInstance, fun j hj => by omega⟩ (by repeat' (first | exact sub_nil | refine sub_cons rfl ?_ | refine sub_int rfl (by first | rfl | omega | (push_cast; omega) | simp) ?_ | refine sub_eq rfl (by assumption) ?_)) ?_
  rintro j σ5 ⟨hj5, hle5, hp5⟩
  have := hle5.grow
  repeat' (first
    | (refine wc_callR rfl inferInstance rfl (c_l4Follows _ _ _ _ _ _ htab (by omega) (by omega)) rfl ?_; intro _ _)
    | refine wl_pop rfl (pc_ldBool rfl inferInstance inferInstance (by omega) inferInstance) ?_
    | refine wl_pop rfl (pc_ldAV rfl inferInstance inferInstance (by omega) inferInstance) ?_
    | refine wl_pop rfl (pc_indexRow rfl rfl inferInstance inferInstance inferInstance (by omega)) ?_
    | refine wl_pop rfl (pc_lenRow rfl inferInstance inferInstance) ?_
    | refine wc_loadn rfl inferInstance (at_has (cs := [_]) (.inl rfl) rfl rfl) rfl ?_
    | refine wp_seqA ?_
    | refine wp_region_seq ?_
    | refine thru_seq_next ?_
    | refine thru_seq_ret ?_
    | refine thru_seq ?_
    | refine thru_block_ret ?_
    | refine thru_block_next ?_
    | refine exit_here ?_
    | refine wp_skipA ?_
    | refine wp_retA ?_
    | refine wp_exitA ?_
    | refine wp_blockA ?_
    | refine wl_nil ?_
    | refine wl_pop rfl (po_move rfl) ?_
    | refine wl_pop rfl (po_assign rfl) ?_
    | refine wl_pop rfl (pc_add rfl rfl (by omega) (by omega)) ?_
    | refine wl_pop rfl (po_binOp rfl rfl rfl) ?_
    | refine wl_pop rfl (po_not rfl) ?_
    | refine wl_pop rfl (po_pick rfl rfl) ?_
    | refine wc_guardU rfl rfl rfl rfl ?_
    | refine wc_guardT_true rfl rfl rfl ?_
    | refine wc_guardF_true rfl rfl rfl rfl ?_
    | refine wc_guardT_false rfl rfl rfl ?_
    | refine wc_guardF_false rfl rfl rfl rfl ?_
    | refine wc_guard rfl rfl rfl rfl (fun _ => ?_) (fun _ => ?_)
    | refine wp_condT rfl ?_
    | refine wp_condF rfl ?_
    | refine wp_condP rfl (fun _ => ?_) (fun _ => ?_)
    | refine wp_condA rfl (fun _ => ?_) (fun _ => ?_)
    | refine at_ret (res1 rfl rfl) ?_
    | fail)
  · rename_i hjl e1 _ _ e2 _ _ e3
    exact ret_ inferInstance (congrArg Bo (prB_false fun h => by
      have := ((relOk_iff.mp h).2 k j (by omega) (by omega) e1).2
      rw [this] at e3; cases e3).symm)
  · rename_i hjl e1 _ _ e2 _ _ e3
    refine ⟨j + 1, by omega, ⟨by omega, inferInstance, fun t' ht' => ?_⟩, (by repeat' (first | exact sub_nil | refine sub_cons rfl ?_ | refine sub_int rfl (by first | rfl | omega | (push_cast; omega) | simp) ?_ | refine sub_eq rfl (by assumption) ?_))⟩
    rcases Nat.lt_or_ge t' j with h | h
    · exact hp5 t' h
    · obtain rfl : t' = j := by omega
      exact fun _ => ⟨by simpa using e2, by simpa using e3⟩
  · rename_i hjl e1 _ _ e2
    exact ret_ inferInstance (congrArg Bo (prB_false fun h => by
      have := ((relOk_iff.mp h).2 k j (by omega) (by omega) e1).1
      rw [this] at e2; cases e2).symm)
  · rename_i hjl e1
    refine ⟨j + 1, by omega, ⟨by omega, inferInstance, fun t' ht' => ?_⟩, (by repeat' (first | exact sub_nil | refine sub_cons rfl ?_ | refine sub_int rfl (by first | rfl | omega | (push_cast; omega) | simp) ?_ | refine sub_eq rfl (by assumption) ?_))⟩
    rcases Nat.lt_or_ge t' j with h | h
    · exact hp5 t' h
    · obtain rfl : t' = j := by omega
      intro e; rw [e1] at e; cases e
  · obtain rfl : j = rel.length := by omega
    refine ⟨k + 1, by omega, ⟨by omega, inferInstance, fun s' hs' t' ht' => ?_⟩, (by repeat' (first | exact sub_nil | refine sub_cons rfl ?_ | refine sub_int rfl (by first | rfl | omega | (push_cast; omega) | simp) ?_ | refine sub_eq rfl (by assumption) ?_))⟩
    rcases Nat.lt_or_ge s' k with h | h
    · exact hp4 s' h t' ht'
    · obtain rfl : s' = k := by omega
      exact hp5 t' (by omega)
end
end Go.Proofs.Ytpkgcdpebomalaa.Asl
