/- Does a table tell a likeness? The implementation's answer. -/
import Derived.Test.YtpkgcdpebomalaaG15
import Derived.Test.YtpkgcdpebomalaaG16
namespace Go.Proofs.Ytpkgcdpebomalaa.Asl
open Go.RowKit Go.Proofs.YtpkgcdpebomalaaW.PrintLast
set_option linter.unusedVariables false
set_option linter.unusedSimpArgs false
attribute [local irreducible] WP WL andThen inBlock noGoto atEnd ACall DA DL PO Hold
set_option maxHeartbeats 4000000
set_option synthInstance.maxHeartbeats 400000
set_option synthInstance.maxSize 10000
section
variable {base : Nat}
theorem c_AlikeRelation (σ : Store) (u t : AV) {ss ts : List AV} {g : Gr} {rel : List (List Bool)} [hs : RW σ u ss] [hg : RRs σ ss g] [ht : RW σ t ts] [hr : RRs σ ts rel] :
    ACall Try.prog base F_impl_AlikeRelation [.agg [u], t] σ (fun _ => False) (Ret σ (Bo (prB (RelOk g rel)))) := by
  have hb := hs.bound
  have := hs.one
  have := ht.one
  have hl := hg.len
  have hb2 := ht.bound
  have htl := hr.len
  refine acall2 fun_impl_AlikeRelation rfl tmps_impl_AlikeRelation rfl fun N B w₀ ρ₀ => ?_
  repeat' (first
    | (refine wc_callR rfl inferInstance rfl (c_tableOk _ _ _) rfl ?_; intro _ _)
    | refine wl_pop rfl (pc_lenRow rfl inferInstance inferInstance) ?_
    | refine wc_loadn rfl inferInstance (at_has (cs := [_]) (.inl rfl) rfl rfl) rfl ?_
    | refine wp_condNPr rfl (fun _ => ?_) (fun _ => ?_)
    | refine wp_seqA ?_
    | refine wp_region_seq ?_
    | refine thru_seq_next ?_
    | refine thru_seq_ret ?_
    | refine wp_skipA ?_
    | refine wp_retA ?_
    | refine wp_blockA ?_
    | refine wl_nil ?_
    | refine wl_pop rfl (po_move rfl) ?_
    | refine wl_pop rfl (po_assign rfl) ?_
    | refine wc_load1 rfl inferInstance (at_has (.inl rfl) rfl rfl) rfl ?_
    | refine wl_pop rfl (po_not rfl) ?_
    | (refine wc_boxA rfl inferInstance rfl ?_; intro _ _ _ _ _)
    | (refine wc_box1 rfl inferInstance rfl ?_; intro _ _ _ _ _)
    | refine at_ret (res1 rfl rfl) ?_
    | fail)
  · rename_i hno
    exact ret_ inferInstance (congrArg Bo (prB_false fun h => hno (relOk_iff.mp h).1).symm)
  rename_i i1 σ1 g1 n1 h1 i2 σ2 g2 n2 h2 σ3 g3 htab
  have hok := htab.ok
  have hlen' := htab.len
  have h60 := hok.most
  refine wc_loop [(2, _), (3, _), (17, _), (18, _)] (fun k : Nat => [(19, I k)]) (fun k σ' => k ≤ rel.length ∧ LeS σ2 σ' ∧ ∀ s, s < k → ∀ t, t < g.length → PairOk g rel s t) (fun k => rel.length - k) 0 ⟨Nat.zero_le _, inferInstance, fun j hj => by omega⟩ (by repeat' (first | exact sub_nil | refine sub_cons rfl ?_ | refine sub_int rfl (by first | rfl | omega | (push_cast; omega) | simp) ?_ | refine sub_eq rfl (by assumption) ?_)) ?_
  rintro k σ4 ⟨hk4, hle4, hp4⟩
  have := hle4.grow
  repeat' (first
    | refine wl_pop rfl (pc_ldAV rfl inferInstance inferInstance (by omega) inferInstance) ?_
    | refine wl_pop rfl (pc_indexRow rfl rfl inferInstance inferInstance inferInstance (by omega)) ?_
    | refine wl_pop rfl (pc_lenRow rfl inferInstance inferInstance) ?_
    | refine wp_seqA ?_
    | refine wp_region_seq ?_
    | refine thru_seq_next ?_
    | refine thru_seq ?_
    | refine exit_here ?_
    | refine wp_skipA ?_
    | refine wp_retA ?_
    | refine wp_exitA ?_
    | refine wp_blockA ?_
    | refine wl_nil ?_
    | refine wl_pop rfl (po_move rfl) ?_
    | refine wl_pop rfl (po_assign rfl) ?_
    | refine wl_pop rfl (po_binOp rfl rfl rfl) ?_
    | refine wp_condP rfl (fun _ => ?_) (fun _ => ?_)
    | refine at_ret (res1 rfl rfl) ?_
    | fail)
  rotate_left
  · obtain rfl : k = rel.length := by omega
    exact ret_ inferInstance (congrArg Bo (prB_true (relOk_iff.mpr ⟨htab, fun s t h1 h2 => hp4 s (by omega) t h2⟩)).symm)
  have hk' : k < rel.length := by omega
  have hrow := htab.row (k := k) (by omega)
  have hrw : RW σ (ss.getD k nilS) (g.getD k []) := inferInstance
  have hmk : ∀ m ∈ g.getD k [], (-4 ≤ m.1 ∧ m.1 ≤ 4) ∧ 0 ≤ m.2 ∧ m.2 < g.length ∧ m.2.toNat < g.length ∧ ((m.2.toNat : Nat) : Int) = m.2 := fun m hm => hok.to (s := k) hm
  refine wc_loop [(2, _), (3, _), (5, _), (17, _), (18, _), (19, _), (24, _), (25, _)] (fun j : Nat => [(26, I j)]) (fun j σ' => j ≤ (rel.getD k []).length ∧ LeS σ2 σ' ∧ ∀ t, t < j → PairOk g rel k t) (fun j => (rel.getD k []).length - j) 0 ⟨Nat.zero_le _, inferInstance, fun j hj => by omega⟩ (by repeat' (first | exact sub_nil | refine sub_cons rfl ?_ | refine sub_int rfl (by first | rfl | omega | (push_cast; omega) | simp) ?_ | refine sub_eq rfl (by assumption) ?_)) ?_
  rintro j σ5 ⟨hj5, hle5, hp5⟩
  have := hle5.grow
  repeat' (first
    | refine wl_pop rfl (pc_ldBool rfl inferInstance inferInstance (by omega) inferInstance) ?_
    | refine wl_pop rfl (pc_ldAV rfl inferInstance inferInstance (by omega) inferInstance) ?_
    | refine wl_pop rfl (pc_indexRow rfl rfl inferInstance inferInstance inferInstance (by omega)) ?_
    | refine wl_pop rfl (pc_lenRow rfl inferInstance inferInstance) ?_
    | refine wp_seqA ?_
    | refine wp_region_seq ?_
    | refine thru_seq_next ?_
    | refine thru_seq ?_
    | refine thru_block_next ?_
    | refine exit_here ?_
    | refine wp_skipA ?_
    | refine wp_exitA ?_
    | refine wp_blockA ?_
    | refine wl_nil ?_
    | refine wl_pop rfl (po_move rfl) ?_
    | refine wl_pop rfl (po_assign rfl) ?_
    | refine wl_pop rfl (pc_add rfl rfl (by omega) (by omega)) ?_
    | refine wl_pop rfl (po_binOp rfl rfl rfl) ?_
    | refine wl_pop rfl (po_fieldAddr rfl inferInstance) ?_
    | refine wc_load1 rfl inferInstance (at_has (.inl rfl) rfl rfl) rfl ?_
    | refine wl_pop rfl (po_not rfl) ?_
    | refine wp_condP rfl (fun _ => ?_) (fun _ => ?_)
    | refine wp_condA rfl (fun _ => ?_) (fun _ => ?_)
    | fail)
  · rename_i hjl e1
    refine ⟨j + 1, by omega, ⟨by omega, inferInstance, fun t' ht' => ?_⟩, (by repeat' (first | exact sub_nil | refine sub_cons rfl ?_ | refine sub_int rfl (by first | rfl | omega | (push_cast; omega) | simp) ?_ | refine sub_eq rfl (by assumption) ?_))⟩
    rcases Nat.lt_or_ge t' j with h | h
    · exact hp5 t' h
    · obtain rfl : t' = j := by omega
      intro e; rw [e] at e1; cases e1
  rotate_left
  · obtain rfl : j = (rel.getD k []).length := by omega
    refine ⟨k + 1, by omega, ⟨by omega, inferInstance, fun s' hs' t' ht' => ?_⟩, (by repeat' (first | exact sub_nil | refine sub_cons rfl ?_ | refine sub_int rfl (by first | rfl | omega | (push_cast; omega) | simp) ?_ | refine sub_eq rfl (by assumption) ?_))⟩
    rcases Nat.lt_or_ge s' k with h | h
    · exact hp4 s' h t' ht'
    · obtain rfl : s' = k := by omega
      exact hp5 t' (by omega)
  rename_i hjl e1
  have hrel : (rel.getD k []).getD j false = true := by simpa using e1
  have hj' : j < g.length := by omega
  have hrw2 : RW σ (ss.getD j nilS) (g.getD j []) := inferInstance
  have hmj : ∀ m ∈ g.getD j [], (-4 ≤ m.1 ∧ m.1 ≤ 4) ∧ 0 ≤ m.2 ∧ m.2 < g.length ∧ m.2.toNat < g.length ∧ ((m.2.toNat : Nat) : Int) = m.2 := fun m hm => hok.to (s := j) hm
  have hrb := hrw.bound
  have hrb2 := hrw2.bound
  refine wc_loop [(2, _), (3, _), (5, _), (7, _), (17, _), (18, _), (19, _), (24, _), (25, _), (26, _), (37, _), (38, _)] (fun p : Nat => [(39, I p)]) (fun p σ' => p ≤ (g.getD k []).length ∧ LeS σ2 σ' ∧ (((g.getD k []).take p).all fun m => (rowOf g j).any (folB rel false m)) = true) (fun p => (g.getD k []).length - p) 0 ⟨Nat.zero_le _, inferInstance, rfl⟩ (by repeat' (first | exact sub_nil | refine sub_cons rfl ?_ | refine sub_int rfl (by first | rfl | omega | (push_cast; omega) | simp) ?_ | refine sub_eq rfl (by assumption) ?_)) ?_
  rintro p σ6 ⟨hp, hle6, hall⟩
  have := hle6.grow
  repeat' (first
    | refine wl_pop rfl (pc_ldAV rfl inferInstance inferInstance (by omega) inferInstance) ?_
    | refine wl_pop rfl (pc_ldMv rfl inferInstance inferInstance (by omega) inferInstance) ?_
    | refine wl_pop rfl (pc_indexRow rfl rfl inferInstance inferInstance inferInstance (by omega)) ?_
    | refine wl_pop rfl (pc_lenRow rfl inferInstance inferInstance) ?_
    | refine wp_seqA ?_
    | refine wp_region_seq ?_
    | refine thru_seq_next ?_
    | refine thru_seq ?_
    | refine exit_here ?_
    | refine wp_skipA ?_
    | refine wp_exitA ?_
    | refine wp_blockA ?_
    | refine wl_nil ?_
    | refine wl_pop rfl (po_move rfl) ?_
    | refine wl_pop rfl (po_binOp rfl rfl rfl) ?_
    | refine wl_pop rfl (po_fieldAddr rfl inferInstance) ?_
    | refine wc_load1 rfl inferInstance (at_has (.inl rfl) rfl rfl) rfl ?_
    | (refine wc_storeA rfl rfl inferInstance inferInstance rfl inferInstance (Nat.le_of_ble_eq_true rfl) (.inr (may_new _)) ?_; intro _ _)
    | refine wl_pop rfl (po_makeFunc rfl rfl) ?_
    | (refine wc_allocA (cs := [_, _]) inferInstance rfl inferInstance rfl ?_; intro _ _ _ _ _)
    | refine wp_condP rfl (fun _ => ?_) (fun _ => ?_)
    | fail)
  · rename_i hpl i7 σ7 g7 n7 h7 σ8 u8
    have hpl' : p < (g.getD k []).length := by omega
    have h78 : Has σ8 i7 ⟨.own, 1, [I ((g.getD k []).getD p (0, 0)).1, I ((g.getD k []).getD p (0, 0)).2], []⟩ := instHasUpd (g := u8)
    have hmem : (g.getD k []).getD p (0, 0) ∈ g.getD k [] := by rw [getD_lt hpl']; exact List.getElem_mem _
    have hle8 : LeS σ2 σ8 := inferInstance
    have := hle8.grow
    have hsucc : ((g.getD k []).take (p + 1)).all (fun m => (rowOf g j).any (folB rel false m)) = (rowOf g j).any (folB rel false ((g.getD k []).getD p (0, 0))) := by
      rw [take_succ_getD hpl' (d := (0, 0)), List.all_append, hall]; simp only [List.all_cons, List.all_nil, Bool.and_true, Bool.true_and]
    generalize hm : (g.getD k []).getD p (0, 0) = m at *
    have hmb := hmk m hmem
    repeat' (first
      | (refine wc_callR rfl inferInstance rfl (c_ContainsFuncG (fun σ' => Has σ' i7 ⟨.own, 1, [I m.1, I m.2], []⟩ ∧ Has σ' i2 ⟨.own, 1, [t], []⟩ ∧ RW σ' t ts ∧ RRs σ' ts rel) (fun _ _ _ h => ⟨have := h.1; inferInstance, have := h.2.1; inferInstance, have := h.2.2.1; inferInstance, have := h.2.2.2; inferInstance⟩) (folB rel false m) (fun q hq σ' h => c_AlikeRelation_1 σ' q m i7 i2 h.1 h.2.1 h.2.2.1 h.2.2.2 htab (by omega) (by have := hmj q hq; omega)) _ _ ⟨h78, inferInstance, inferInstance, inferInstance⟩) rfl ?_; intro _ _)
      | refine wp_seqA ?_
      | refine wp_region_seq ?_
      | refine thru_seq_next ?_
      | refine thru_seq_ret ?_
      | refine thru_block_ret ?_
      | refine thru_block_next ?_
      | refine wp_skipA ?_
      | refine wp_retA ?_
      | refine wl_nil ?_
      | refine wl_pop rfl (po_move rfl) ?_
      | refine wl_pop rfl (po_assign rfl) ?_
      | refine wl_pop rfl (pc_add rfl rfl (by omega) (by omega)) ?_
      | refine wl_pop rfl (po_not rfl) ?_
      | refine wp_condA rfl (fun _ => ?_) (fun _ => ?_)
      | refine at_ret (res1 rfl rfl) ?_
      | fail)
    · rename_i hno
      refine ret_ inferInstance (congrArg Bo (prB_false fun h => ?_).symm)
      have hf := ((relOk_iff.mp h).2 k j (by omega) (by omega) hrel).1
      unfold folL at hf
      rw [List.all_eq_true] at hf
      have h1 := hf m hmem
      rw [show rowOf g j = g.getD j [] from rfl] at h1
      rw [h1] at hno; cases hno
    · rename_i hyes
      refine ⟨p + 1, by omega, ⟨by omega, inferInstance, ?_⟩, (by repeat' (first | exact sub_nil | refine sub_cons rfl ?_ | refine sub_int rfl (by first | rfl | omega | (push_cast; omega) | simp) ?_ | refine sub_eq rfl (by assumption) ?_))⟩
      rw [hsucc]; rw [show rowOf g j = g.getD j [] from rfl]; simpa using hyes
  rename_i hpl
  obtain rfl : p = (g.getD k []).length := by omega
  rw [List.take_length] at hall
  have hfw : folL g rel false k j = true := hall
  clear hall
  refine wc_loop [(2, _), (3, _), (5, _), (17, _), (18, _), (19, _), (24, _), (25, _), (26, _), (56, _), (57, _)] (fun p : Nat => [(58, I p)]) (fun p σ' => p ≤ (g.getD j []).length ∧ LeS σ2 σ' ∧ (((g.getD j []).take p).all fun m => (rowOf g k).any (folB rel true m)) = true) (fun p => (g.getD j []).length - p) 0 ⟨Nat.zero_le _, inferInstance, rfl⟩ (by repeat' (first | exact sub_nil | refine sub_cons rfl ?_ | refine sub_int rfl (by first | rfl | omega | (push_cast; omega) | simp) ?_ | refine sub_eq rfl (by assumption) ?_)) ?_
  rintro p σ6 ⟨hp, hle6, hall⟩
  have := hle6.grow
  repeat' (first
    | refine wl_pop rfl (pc_ldAV rfl inferInstance inferInstance (by omega) inferInstance) ?_
    | refine wl_pop rfl (pc_ldMv rfl inferInstance inferInstance (by omega) inferInstance) ?_
    | refine wl_pop rfl (pc_indexRow rfl rfl inferInstance inferInstance inferInstance (by omega)) ?_
    | refine wp_seqA ?_
    | refine wp_region_seq ?_
    | refine thru_seq_next ?_
    | refine thru_seq ?_
    | refine thru_block_next ?_
    | refine exit_here ?_
    | refine wp_skipA ?_
    | refine wp_exitA ?_
    | refine wp_blockA ?_
    | refine wl_nil ?_
    | refine wl_pop rfl (po_move rfl) ?_
    | refine wl_pop rfl (pc_add rfl rfl (by omega) (by omega)) ?_
    | refine wl_pop rfl (po_binOp rfl rfl rfl) ?_
    | refine wl_pop rfl (po_fieldAddr rfl inferInstance) ?_
    | refine wc_load1 rfl inferInstance (at_has (.inl rfl) rfl rfl) rfl ?_
    | (refine wc_storeA rfl rfl inferInstance inferInstance rfl inferInstance (Nat.le_of_ble_eq_true rfl) (.inr (may_new _)) ?_; intro _ _)
    | refine wl_pop rfl (po_makeFunc rfl rfl) ?_
    | (refine wc_allocA (cs := [_, _]) inferInstance rfl inferInstance rfl ?_; intro _ _ _ _ _)
    | refine wp_condP rfl (fun _ => ?_) (fun _ => ?_)
    | fail)
  · rename_i hpl i7 σ7 g7 n7 h7 σ8 u8
    have hpl' : p < (g.getD j []).length := by omega
    have h78 : Has σ8 i7 ⟨.own, 1, [I ((g.getD j []).getD p (0, 0)).1, I ((g.getD j []).getD p (0, 0)).2], []⟩ := instHasUpd (g := u8)
    have hmem : (g.getD j []).getD p (0, 0) ∈ g.getD j [] := by rw [getD_lt hpl']; exact List.getElem_mem _
    have hle8 : LeS σ2 σ8 := inferInstance
    have := hle8.grow
    have hsucc : ((g.getD j []).take (p + 1)).all (fun m => (rowOf g k).any (folB rel true m)) = (rowOf g k).any (folB rel true ((g.getD j []).getD p (0, 0))) := by
      rw [take_succ_getD hpl' (d := (0, 0)), List.all_append, hall]; simp only [List.all_cons, List.all_nil, Bool.and_true, Bool.true_and]
    generalize hm : (g.getD j []).getD p (0, 0) = m at *
    have hmb := hmj m hmem
    repeat' (first
      | (refine wc_callR rfl inferInstance rfl (c_ContainsFuncG (fun σ' => Has σ' i7 ⟨.own, 1, [I m.1, I m.2], []⟩ ∧ Has σ' i2 ⟨.own, 1, [t], []⟩ ∧ RW σ' t ts ∧ RRs σ' ts rel) (fun _ _ _ h => ⟨have := h.1; inferInstance, have := h.2.1; inferInstance, have := h.2.2.1; inferInstance, have := h.2.2.2; inferInstance⟩) (folB rel true m) (fun q hq σ' h => c_AlikeRelation_2 σ' q m i7 i2 h.1 h.2.1 h.2.2.1 h.2.2.2 htab (by omega) (by have := hmk q hq; omega)) _ _ ⟨h78, inferInstance, inferInstance, inferInstance⟩) rfl ?_; intro _ _)
      | refine wp_seqA ?_
      | refine wp_region_seq ?_
      | refine thru_seq_next ?_
      | refine thru_seq_ret ?_
      | refine thru_block_ret ?_
      | refine thru_block_next ?_
      | refine wp_skipA ?_
      | refine wp_retA ?_
      | refine wl_nil ?_
      | refine wl_pop rfl (po_move rfl) ?_
      | refine wl_pop rfl (po_assign rfl) ?_
      | refine wl_pop rfl (pc_add rfl rfl (by omega) (by omega)) ?_
      | refine wl_pop rfl (po_not rfl) ?_
      | refine wp_condA rfl (fun _ => ?_) (fun _ => ?_)
      | refine at_ret (res1 rfl rfl) ?_
      | fail)
    · rename_i hno
      refine ret_ inferInstance (congrArg Bo (prB_false fun h => ?_).symm)
      have hf := ((relOk_iff.mp h).2 k j (by omega) (by omega) hrel).2
      unfold folL at hf
      rw [List.all_eq_true] at hf
      have h1 := hf m hmem
      rw [show rowOf g k = g.getD k [] from rfl] at h1
      rw [h1] at hno; cases hno
    · rename_i hyes
      refine ⟨p + 1, by omega, ⟨by omega, inferInstance, ?_⟩, (by repeat' (first | exact sub_nil | refine sub_cons rfl ?_ | refine sub_int rfl (by first | rfl | omega | (push_cast; omega) | simp) ?_ | refine sub_eq rfl (by assumption) ?_))⟩
      rw [hsucc]; rw [show rowOf g k = g.getD k [] from rfl]; simpa using hyes
  rename_i hpl
  obtain rfl : p = (g.getD j []).length := by omega
  rw [List.take_length] at hall
  have hbw : folL g rel true j k = true := hall
  refine ⟨j + 1, by omega, ⟨by omega, inferInstance, fun t' ht' => ?_⟩, (by repeat' (first | exact sub_nil | refine sub_cons rfl ?_ | refine sub_int rfl (by first | rfl | omega | (push_cast; omega) | simp) ?_ | refine sub_eq rfl (by assumption) ?_))⟩
  rcases Nat.lt_or_ge t' j with h | h
  · exact hp5 t' h
  · obtain rfl : t' = j := by omega
    exact fun _ => ⟨hfw, hbw⟩
end
end Go.Proofs.Ytpkgcdpebomalaa.Asl
