/- Graphs counted, copied, compared. -/
import Derived.Test.YtemhpkfijoodkaaGX
namespace Go.Proofs.Ytemhpkfijoodkaa.Asl
open Go.RowKit Go.Proofs.YtemhpkfijoodkaaW.PrintLast
set_option linter.unusedVariables false
set_option linter.unusedSimpArgs false
attribute [local irreducible] WP WL andThen inBlock noGoto atEnd ACall DA DL PO Hold
set_option maxHeartbeats 4000000

section
variable {base : Nat}
theorem c_szMoveS (σ : Store) (s : AV) (left : Int) {l : List Mv} [hs : RW σ s l] : ACall Try.prog base F_laws_szMoveS [s, I left] σ (fun _ => False) (RetInt σ) := by
  have hb := hs.bound
  refine acall2 fun_laws_szMoveS rfl tmps_laws_szMoveS rfl fun N B w₀ ρ₀ => ?_
  repeat' (first
    | refine wl_pop rfl (pc_lenRow rfl inferInstance inferInstance) ?_
    | refine wp_seqA ?_
    | refine wp_region_seq ?_
    | refine thru_seq_next ?_
    | refine thru_seq_ret ?_
    | refine wp_skipA ?_
    | refine wp_retA ?_
    | refine wl_nil ?_
    | refine wl_pop rfl (po_move rfl) ?_
    | refine wl_pop rfl (po_assign rfl) ?_
    | refine wl_pop rfl (po_binOp rfl rfl rfl) ?_
    | refine wp_condP rfl (fun _ => ?_) (fun _ => ?_)
    | refine at_ret (res1 rfl rfl) ?_
    | exact ret_int inferInstance
    | fail)
theorem c_szMoveSS (σ : Store) (s : AV) (left : Int) {ss : List AV} {g : Gr} [hs : RW σ s ss] [hg : RRs σ ss g] : ACall Try.prog base F_laws_szMoveSS [s, I left] σ (fun _ => False) (RetInt σ) := by
  have hb := hs.bound
  refine acall2 fun_laws_szMoveSS rfl tmps_laws_szMoveSS rfl fun N B w₀ ρ₀ => ?_
  repeat' (first
    | refine wl_pop rfl (pc_lenRow rfl inferInstance inferInstance) ?_
    | refine wp_seqA ?_
    | refine wp_region_seq ?_
    | refine thru_seq_next ?_
    | refine thru_seq_ret ?_
    | refine wp_skipA ?_
    | refine wp_retA ?_
    | refine wp_blockA ?_
    | refine wl_nil ?_
    | refine wl_pop rfl (po_move rfl) ?_
    | refine wl_pop rfl (po_assign rfl) ?_
    | refine wl_pop rfl (po_binOp rfl rfl rfl) ?_
    | refine wp_condP rfl (fun _ => ?_) (fun _ => ?_)
    | refine at_ret (res1 rfl rfl) ?_
    | exact ret_int inferInstance
    | fail)
  refine wc_loop [(0, _)] (fun x : Nat × Int => [(1, I x.2), (5, I x.1)]) (fun x σ' => x.1 ≤ ss.length ∧ LeS σ σ') (fun x => ss.length - x.1) (0, _) ⟨Nat.zero_le _, inferInstance⟩ (by repeat' (first | exact sub_nil | refine sub_cons rfl ?_ | refine sub_int rfl (by first | rfl | omega | (push_cast; omega) | simp) ?_ | refine sub_eq rfl (by assumption) ?_)) ?_
  rintro ⟨k, left⟩ σ' ⟨hk, hg⟩
  dsimp only at hk ⊢
  have := hg.grow
  repeat' (first
    | (refine wc_callI rfl inferInstance rfl (c_szMoveS _ _ _) rfl ?_; intro _ _ _)
    | refine wl_pop rfl (pc_ldAV rfl inferInstance inferInstance (by omega) inferInstance) ?_
    | refine wl_pop rfl (pc_indexRow rfl rfl inferInstance inferInstance inferInstance (by omega)) ?_
    | refine wl_pop rfl (pc_lenRow rfl inferInstance inferInstance) ?_
    | refine wp_seqA ?_
    | refine wp_region_seq ?_
    | refine thru_seq_next ?_
    | refine thru_seq_ret ?_
    | refine thru_seq ?_
    | refine thru_block_ret ?_
    | refine thru_block_next ?_
    | refine exit_here ?_
    | refine wp_skipA ?_
    | refine wp_retA ?_
    | refine wp_exitA ?_
    | refine wp_blockA ?_
    | refine wl_nil ?_
    | refine wl_pop rfl (po_move rfl) ?_
    | refine wl_pop rfl (po_assign rfl) ?_
    | refine wl_pop rfl (pc_add rfl rfl (by omega) (by omega)) ?_
    | refine wl_pop rfl (po_binOp rfl rfl rfl) ?_
    | refine wp_condP rfl (fun _ => ?_) (fun _ => ?_)
    | refine at_ret (res1 rfl rfl) ?_
    | exact ret_int inferInstance
    | fail)
  exact ⟨(k + 1, _), by dsimp only; omega, ⟨by dsimp only; omega, inferInstance⟩, (by repeat' (first | exact sub_nil | refine sub_cons rfl ?_ | refine sub_int rfl (by first | rfl | omega | (push_cast; omega) | simp) ?_ | refine sub_eq rfl (by assumption) ?_))⟩
theorem c_szGraph (σ : Store) (s : AV) (left : Int) {ss : List AV} {g : Gr} [hs : RW σ s ss] [hg : RRs σ ss g] : ACall Try.prog base F_laws_szGraph [.agg [s], I left] σ (fun _ => False) (RetInt σ) := by
  have := hs.one
  refine acall2 fun_laws_szGraph rfl tmps_laws_szGraph rfl fun N B w₀ ρ₀ => ?_
  repeat' (first
    | (refine wc_callI rfl inferInstance rfl (c_szMoveSS _ _ _) rfl ?_; intro _ _ _)
    | refine wp_seqA ?_
    | refine wp_region_seq ?_
    | refine thru_seq_next ?_
    | refine thru_seq_ret ?_
    | refine wp_skipA ?_
    | refine wp_retA ?_
    | refine wl_nil ?_
    | refine wl_pop rfl (po_move rfl) ?_
    | refine wl_pop rfl (po_assign rfl) ?_
    | refine wl_pop rfl (po_binOp rfl rfl rfl) ?_
    | refine wl_pop rfl (po_fieldAddr rfl inferInstance) ?_
    | refine wc_load1 rfl inferInstance (at_has (.inl rfl) rfl rfl) rfl ?_
    | (refine wc_boxA rfl inferInstance rfl ?_; intro _ _ _ _ _)
    | refine wp_condP rfl (fun _ => ?_) (fun _ => ?_)
    | refine at_ret (res1 rfl rfl) ?_
    | exact ret_int inferInstance
    | fail)
theorem c_toMove (σ : Store) (a b : Int) : ACall Try.prog base F_laws_toMove [.agg [I a, I b]] σ (fun _ => False) (Ret σ (.agg [I a, I b])) := by
  refine acall1 fun_laws_toMove rfl tmps_laws_toMove rfl fun N B w₀ ρ₀ => ?_
  repeat' (first
    | refine wp_seqA ?_
    | refine wp_region_seq ?_
    | refine thru_seq_next ?_
    | refine wp_retA ?_
    | refine wl_nil ?_
    | refine wl_pop rfl (po_fieldAddr rfl inferInstance) ?_
    | refine wc_load1 rfl inferInstance (at_has (.inl rfl) rfl rfl) rfl ?_
    | refine wc_loadn rfl inferInstance (at_has (cs := [_, _]) (.inl rfl) rfl rfl) rfl ?_
    | (refine wc_storeA rfl rfl inferInstance inferInstance rfl inferInstance (Nat.le_of_ble_eq_true rfl) (.inr (may_new _)) ?_; intro _ _)
    | (refine wc_store1 rfl rfl inferInstance inferInstance inferInstance (Nat.le_of_ble_eq_true rfl) (.inr (may_new _)) ?_; intro _ _)
    | (refine wc_boxA rfl inferInstance rfl ?_; intro _ _ _ _ _)
    | (refine wc_allocA (cs := [_, _]) inferInstance rfl inferInstance rfl ?_; intro _ _ _ _ _)
    | refine at_ret (res_cell rfl rfl inferInstance (at_has (cs := [_, _]) (.inl rfl) rfl rfl)) ?_
    | exact ret_ inferInstance rfl
    | fail)
theorem c_toMoveS (σ : Store) (s : AV) {l : List Mv} [hs : RW σ s l] : ACall Try.prog base F_laws_toMoveS [s] σ (fun _ => False) (RetOW σ l) := by
  have hb := hs.bound
  have := hs.one
  refine acall1 fun_laws_toMoveS rfl tmps_laws_toMoveS rfl fun N B w₀ ρ₀ => ?_
  repeat' (first
    | (refine wc_makeRow (α := Mv) rfl rfl inferInstance inferInstance rfl rfl (by decide) (by omega) (by omega) rfl ?_; intro _ _ _ _ _)
    | refine wl_pop rfl (pc_lenRow rfl inferInstance inferInstance) ?_
    | refine wp_seqA ?_
    | refine wp_region_seq ?_
    | refine thru_seq_next ?_
    | refine wp_blockA ?_
    | refine wl_nil ?_
    | refine wl_pop rfl (po_move rfl) ?_
    | refine wl_pop rfl (po_assign rfl) ?_
    | fail)
  rename_i i σ₁ g1 n1 h1
  refine wc_loop [(0, _), (3, _)] (fun k : Nat => [(4, I k)]) (fun k σ' => k ≤ l.length ∧ LeS σ σ' ∧ Has σ' i (Row (l.take k ++ List.replicate (l.length - k) ((0, 0) : Mv)))) (fun k => l.length - k) 0 ⟨Nat.zero_le _, inferInstance, h1⟩ (by repeat' (first | exact sub_nil | refine sub_cons rfl ?_ | refine sub_int rfl (by first | rfl | omega | (push_cast; omega) | simp) ?_ | refine sub_eq rfl (by assumption) ?_)) ?_
  rintro k σ' ⟨hk, hg, hi⟩
  have := hg.grow
  repeat' (first
    | (refine wc_callR rfl inferInstance rfl (c_toMove _ _ _) rfl ?_; intro _ _)
    | (refine wc_stMv rfl rfl inferInstance inferInstance (by simp; omega) (.inr (may_new _)) ?_; intro _ _)
    | refine wl_pop rfl (pc_ldMv rfl inferInstance inferInstance (by omega) inferInstance) ?_
    | refine wl_pop rfl (pc_indexRow rfl rfl inferInstance inferInstance inferInstance (by omega)) ?_
    | refine wl_pop rfl (pc_lenRow rfl inferInstance inferInstance) ?_
    | refine wp_seqA ?_
    | refine wp_region_seq ?_
    | refine thru_seq_next ?_
    | refine thru_seq ?_
    | refine thru_block_next ?_
    | refine exit_here ?_
    | refine wp_skipA ?_
    | refine wp_retA ?_
    | refine wp_exitA ?_
    | refine wp_blockA ?_
    | refine wl_nil ?_
    | refine wl_pop rfl (po_move rfl) ?_
    | refine wl_pop rfl (po_assign rfl) ?_
    | refine wl_pop rfl (pc_add rfl rfl (by omega) (by omega)) ?_
    | refine wl_pop rfl (po_binOp rfl rfl rfl) ?_
    | refine wl_pop rfl (pc_indexAddr rfl rfl inferInstance inferInstance (by omega)) ?_
    | refine wp_condP rfl (fun _ => ?_) (fun _ => ?_)
    | refine at_ret (res1 rfl rfl) ?_
    | fail)
  · rename_i hk' σ3 g3 σ4 u4
    have hk' : k < l.length := by omega
    have hh : Has σ4 i _ := instHasUpd (g := u4)
    rw [fill_set hk'] at hh
    exact ⟨k + 1, by omega, ⟨hk', inferInstance, hh⟩, (by repeat' (first | exact sub_nil | refine sub_cons rfl ?_ | refine sub_int rfl (by first | rfl | omega | (push_cast; omega) | simp) ?_ | refine sub_eq rfl (by assumption) ?_))⟩
  · obtain rfl : k = l.length := by omega
    simp only [List.take_length, Nat.sub_self, List.replicate_zero, List.append_nil] at hi
    exact ret_ow (ow_of_has hi (may_new σ) rfl hb) instLeRefl inferInstance rfl
theorem c_toMoveSS (σ : Store) (s : AV) {ss : List AV} {g : Gr} [hs : RW σ s ss] [hg : RRs σ ss g] : ACall Try.prog base F_laws_toMoveSS [s] σ (fun _ => False) (RetORs σ g) := by
  have hb := hs.bound
  have := hs.one
  have hl := hg.len
  refine acall1 fun_laws_toMoveSS rfl tmps_laws_toMoveSS rfl fun N B w₀ ρ₀ => ?_
  repeat' (first
    | (refine wc_makeRow (α := AV) rfl rfl inferInstance inferInstance rfl rfl (by decide) (by omega) (by omega) rfl ?_; intro _ _ _ _ _)
    | refine wl_pop rfl (pc_lenRow rfl inferInstance inferInstance) ?_
    | refine wp_seqA ?_
    | refine wp_region_seq ?_
    | refine thru_seq_next ?_
    | refine wp_blockA ?_
    | refine wl_nil ?_
    | refine wl_pop rfl (po_move rfl) ?_
    | refine wl_pop rfl (po_assign rfl) ?_
    | fail)
  rename_i i σ₁ g1 n1 h1
  have e1 := h1.lt
  have e2 := n1.le
  refine wc_loop [(0, _), (3, _)] (fun k : Nat => [(4, I k)]) (fun k σ' => k ≤ ss.length ∧ LeS σ σ' ∧ σ₁.length ≤ σ'.length ∧ ∃ us, us.length = k ∧ Has σ' i (Row (us ++ List.replicate (ss.length - k) nilS)) ∧ ORs σ₁ σ' us (g.take k)) (fun k => ss.length - k) 0 ⟨Nat.zero_le _, inferInstance, Nat.le_refl _, [], rfl, h1, ORs.nil _ _⟩ (by repeat' (first | exact sub_nil | refine sub_cons rfl ?_ | refine sub_int rfl (by first | rfl | omega | (push_cast; omega) | simp) ?_ | refine sub_eq rfl (by assumption) ?_)) ?_
  rintro k σ' ⟨hk, hle, hlen, us, hus, hi, hor⟩
  have := hle.grow
  repeat' (first
    | (refine wc_call rfl inferInstance rfl (c_toMoveS _ _) rfl ?_; rintro u σ3 ⟨ou, g3⟩; have := ou.one)
    | (refine wc_stAV rfl rfl inferInstance inferInstance (by simp; omega) (.inr (may_new _)) ?_; intro _ _)
    | refine wl_pop rfl (pc_ldAV rfl inferInstance inferInstance (by omega) inferInstance) ?_
    | refine wl_pop rfl (pc_indexRow rfl rfl inferInstance inferInstance inferInstance (by omega)) ?_
    | refine wl_pop rfl (pc_lenRow rfl inferInstance inferInstance) ?_
    | refine wp_seqA ?_
    | refine wp_region_seq ?_
    | refine thru_seq_next ?_
    | refine thru_seq ?_
    | refine thru_block_next ?_
    | refine exit_here ?_
    | refine wp_skipA ?_
    | refine wp_retA ?_
    | refine wp_exitA ?_
    | refine wp_blockA ?_
    | refine wl_nil ?_
    | refine wl_pop rfl (po_move rfl) ?_
    | refine wl_pop rfl (po_assign rfl) ?_
    | refine wl_pop rfl (pc_add rfl rfl (by omega) (by omega)) ?_
    | refine wl_pop rfl (po_binOp rfl rfl rfl) ?_
    | refine wl_pop rfl (pc_indexAddr rfl rfl inferInstance inferInstance (by omega)) ?_
    | refine wp_condP rfl (fun _ => ?_) (fun _ => ?_)
    | refine at_ret (res1 rfl rfl) ?_
    | fail)
  · rename_i hk' σ4 u4
    have hk' : k < ss.length := by omega
    have hh : Has σ4 i _ := instHasUpd (g := u4)
    have e3 : (us ++ List.replicate (ss.length - k) nilS).set k u = (us ++ [u]) ++ List.replicate (ss.length - (k + 1)) nilS := by
      obtain ⟨m, hm⟩ : ∃ m, ss.length - k = m + 1 := ⟨ss.length - k - 1, by omega⟩
      rw [List.set_append_right _ _ (by omega), hus, Nat.sub_self, hm, show ss.length - (k + 1) = m by omega, List.replicate_succ, List.set_cons_zero]
      simp
    rw [e3] at hh
    have e4 : g.take (k + 1) = g.take k ++ [g.getD k []] := by
      rw [List.take_succ_eq_append_getElem (by omega)]
      simp [List.getD_eq_getElem?_getD, show k < g.length by omega]
    refine ⟨k + 1, by omega, ⟨hk', inferInstance, ?_, us ++ [u], by simp [hus], hh, ?_⟩, (by repeat' (first | exact sub_nil | refine sub_cons rfl ?_ | refine sub_int rfl (by first | rfl | omega | (push_cast; omega) | simp) ?_ | refine sub_eq rfl (by assumption) ?_))⟩
    · have := u4.lt; have := g3.len; have h5 : σ4.length = σ3.length := by rw [u4.eq]; simp
      omega
    · rw [e4]
      have e6 : Has σ₁ i _ := h1
      have hor4 : ORs σ₁ σ4 us (g.take k) := inferInstance
      exact hor.snoc hor4 hlen inferInstance
  · obtain rfl : k = ss.length := by omega
    rw [Nat.sub_self, List.replicate_zero, List.append_nil] at hi
    refine ⟨us, ow_of_has hi (may_new σ) (by omega) hb, ?_, inferInstance⟩
    rw [List.take_of_length_le (by omega)] at hor
    exact hor.down (by omega)
theorem c_toGraph (σ : Store) (s : AV) {ss : List AV} {g : Gr} [hs : RW σ s ss] [hg : RRs σ ss g] : ACall Try.prog base F_laws_toGraph [.agg [s]] σ (fun _ => False) (RetG σ g) := by
  have := hs.one
  refine acall1 fun_laws_toGraph rfl tmps_laws_toGraph rfl fun N B w₀ ρ₀ => ?_
  repeat' (first
    | (refine wc_call rfl inferInstance rfl (c_toMoveSS _ _) rfl ?_; rintro u σ3 ⟨us, o1, o2, g3⟩; have := o1.one)
    | refine wc_loadn rfl inferInstance (at_has (cs := [_]) (.inl rfl) rfl rfl) rfl ?_
    | refine at_ret (res_cell rfl rfl inferInstance (at_has (cs := [_]) (.inl rfl) rfl rfl)) ?_
    | refine wp_seqA ?_
    | refine wp_region_seq ?_
    | refine thru_seq_next ?_
    | refine wp_retA ?_
    | refine wl_nil ?_
    | refine wl_pop rfl (po_fieldAddr rfl inferInstance) ?_
    | refine wc_load1 rfl inferInstance (at_has (.inl rfl) rfl rfl) rfl ?_
    | (refine wc_storeA rfl rfl inferInstance inferInstance rfl inferInstance (Nat.le_of_ble_eq_true rfl) (.inr (may_new _)) ?_; intro _ _)
    | (refine wc_store1 rfl rfl inferInstance inferInstance inferInstance (Nat.le_of_ble_eq_true rfl) (.inr (may_new _)) ?_; intro _ _)
    | (refine wc_boxA rfl inferInstance rfl ?_; intro _ _ _ _ _)
    | (refine wc_allocA (cs := [_]) inferInstance rfl inferInstance rfl ?_; intro _ _ _ _ _)
    | fail)
  exact ret_g inferInstance inferInstance inferInstance inferInstance inferInstance rfl

theorem c_eqMove (σ : Store) (a b a' b' : Int) : ACall Try.prog base F_laws_eqMove [.agg [I a, I b], .agg [I a', I b']] σ (fun _ => False) (Ret σ (Bo (eqB ((a, b) : Mv) (a', b')))) := by
  refine acall2 fun_laws_eqMove rfl tmps_laws_eqMove rfl fun N B w₀ ρ₀ => ?_
  repeat' (first
    | refine wp_seqA ?_
    | refine wp_region_seq ?_
    | refine thru_seq_next ?_
    | refine thru_seq_ret ?_
    | refine wp_skipA ?_
    | refine wp_retA ?_
    | refine wl_nil ?_
    | refine wl_pop rfl (po_assign rfl) ?_
    | refine wl_pop rfl (po_binOp rfl rfl rfl) ?_
    | refine wl_pop rfl (po_fieldAddr rfl inferInstance) ?_
    | refine wc_load1 rfl inferInstance (at_has (.inl rfl) rfl rfl) rfl ?_
    | (refine wc_boxA rfl inferInstance rfl ?_; intro _ _ _ _ _)
    | refine wp_condNP rfl (fun _ => ?_) (fun _ => ?_)
    | refine at_ret (res1 rfl rfl) ?_
    | fail)
  all_goals refine ret_ inferInstance (congrArg Bo ?_)
  all_goals simp_all [eqB]
theorem c_eqMoveS (σ : Store) (s s' : AV) {l l' : List Mv} [hs : RW σ s l] [hs' : RW σ s' l'] : ACall Try.prog base F_laws_eqMoveS [s, s'] σ (fun _ => False) (Ret σ (Bo (eqB l l'))) := by
  have hb := hs.bound
  have hb' := hs'.bound
  refine acall2 fun_laws_eqMoveS rfl tmps_laws_eqMoveS rfl fun N B w₀ ρ₀ => ?_
  repeat' (first
    | refine wl_pop rfl (pc_lenRow rfl inferInstance inferInstance) ?_
    | refine wp_seqA ?_
    | refine wp_region_seq ?_
    | refine thru_seq_next ?_
    | refine thru_seq_ret ?_
    | refine wp_skipA ?_
    | refine wp_retA ?_
    | refine wp_blockA ?_
    | refine wl_nil ?_
    | refine wl_pop rfl (po_move rfl) ?_
    | refine wl_pop rfl (po_assign rfl) ?_
    | refine wl_pop rfl (po_binOp rfl rfl rfl) ?_
    | refine wp_condNP rfl (fun _ => ?_) (fun _ => ?_)
    | refine at_ret (res1 rfl rfl) ?_
    | fail)
  · refine ret_ inferInstance (congrArg Bo (eqB_ne ?_).symm)
    rintro rfl; simp_all
  rename_i hl
  have hl' : l.length = l'.length := by omega
  refine wc_loop [(0, _), (1, _)] (fun k : Nat => [(5, I k)]) (fun k σ' => k ≤ l.length ∧ l.take k = l'.take k ∧ LeS σ σ') (fun k => l.length - k) 0 ⟨Nat.zero_le _, rfl, inferInstance⟩ (by repeat' (first | exact sub_nil | refine sub_cons rfl ?_ | refine sub_int rfl (by first | rfl | omega | (push_cast; omega) | simp) ?_ | refine sub_eq rfl (by assumption) ?_)) ?_
  rintro k σ' ⟨hk, htk, hg⟩
  have := hg.grow
  repeat' (first
    | refine wl_pop rfl (pc_lenRow rfl inferInstance inferInstance) ?_
    | refine wp_seqA ?_
    | refine wp_region_seq ?_
    | refine thru_seq_next ?_
    | refine thru_seq ?_
    | refine exit_here ?_
    | refine wp_skipA ?_
    | refine wp_retA ?_
    | refine wp_exitA ?_
    | refine wp_blockA ?_
    | refine wl_nil ?_
    | refine wl_pop rfl (po_move rfl) ?_
    | refine wl_pop rfl (po_assign rfl) ?_
    | refine wl_pop rfl (po_binOp rfl rfl rfl) ?_
    | refine wp_condP rfl (fun _ => ?_) (fun _ => ?_)
    | refine at_ret (res1 rfl rfl) ?_
    | fail)
  rotate_left
  · refine ret_ inferInstance (congrArg Bo ?_)
    have : k = l.length := by omega
    subst this
    rw [List.take_length, List.take_of_length_le (by omega)] at htk
    rw [htk, eqB_self]
  have hk' : k < l.length := by omega
  have hk2 : k < l'.length := by omega
  refine wc_drawn [] mixed_ rfl ?_
  all_goals refine da_takeC 0 rfl rfl (by kernel_rfl) (by first | exact po_move rfl | fail) ?_
  all_goals refine da_takeC 1 rfl rfl (by kernel_rfl) (by first | exact po_move rfl | fail) ?_
  all_goals refine da_takeC 2 rfl rfl (by kernel_rfl) (by first | exact pc_indexRow rfl rfl inferInstance inferInstance inferInstance (by omega) | fail) ?_
  all_goals refine da_takeC 3 rfl rfl (by kernel_rfl) (by first | exact pc_ldMv rfl inferInstance inferInstance (by omega) inferInstance | fail) ?_
  all_goals refine da_takeC 4 rfl rfl (by kernel_rfl) (by first | exact po_move rfl | fail) ?_
  all_goals refine da_takeC 5 rfl rfl (by kernel_rfl) (by first | exact po_move rfl | fail) ?_
  all_goals refine da_takeC 6 rfl rfl (by kernel_rfl) (by first | exact pc_indexRow rfl rfl inferInstance inferInstance inferInstance (by omega) | fail) ?_
  all_goals refine da_takeC 7 rfl rfl (by kernel_rfl) (by first | exact pc_ldMv rfl inferInstance inferInstance (by omega) inferInstance | fail) ?_
  all_goals (first | (refine da_one 8 rfl (by kernel_rfl) (fun _ _ _ _ => ?_); (repeat' (first | (refine wc_callR rfl inferInstance rfl (c_eqMove _ _ _ _ _) rfl ?_; intro _ _) | fail)); all_goals (first | refine wl_nil ⟨rfl, (by first | exact LeS.len inferInstance | exact App.len (by assumption)), ?_⟩ | trace_state)))
  all_goals refine da_takeC 9 rfl rfl (by kernel_rfl) (by first | exact po_not rfl | fail) ?_
  all_goals refine da_done (by kernel_rfl) ?_
  repeat' (first
    | refine wp_condNPr rfl (fun _ => ?_) (fun _ => ?_)
    | refine wp_seqA ?_
    | refine wp_region_seq ?_
    | refine thru_seq_next ?_
    | refine thru_seq_ret ?_
    | refine thru_block_ret ?_
    | refine thru_block_next ?_
    | refine wp_skipA ?_
    | refine wp_retA ?_
    | refine wl_nil ?_
    | refine wl_pop rfl (po_move rfl) ?_
    | refine wl_pop rfl (po_assign rfl) ?_
    | refine wl_pop rfl (pc_add rfl rfl (by omega) (by omega)) ?_
    | refine at_ret (res1 rfl rfl) ?_
    | fail)
  · rename_i he
    refine ret_ inferInstance (congrArg Bo (eqB_ne ?_).symm)
    rintro rfl
    simp_all [eqB]
  · rename_i he
    have he' : l.getD k (0, 0) = l'.getD k (0, 0) := by simp only [Bool.not_eq_false', eqB_iff, Bool.not_eq_true', eqB_false, Prod.mk.injEq] at he; exact Prod.ext he.1 he.2
    exact ⟨k + 1, by omega, ⟨hk', take_eq_succ htk hk' hk2 he', inferInstance⟩, (by repeat' (first | exact sub_nil | refine sub_cons rfl ?_ | refine sub_int rfl (by first | rfl | omega | (push_cast; omega) | simp) ?_ | refine sub_eq rfl (by assumption) ?_))⟩
theorem c_eqMoveSS (σ : Store) (s s' : AV) {ss ss' : List AV} {g g' : Gr} [hs : RW σ s ss] [hs' : RW σ s' ss'] [hg : RRs σ ss g] [hg' : RRs σ ss' g'] : ACall Try.prog base F_laws_eqMoveSS [s, s'] σ (fun _ => False) (Ret σ (Bo (eqB g g'))) := by
  have hb := hs.bound
  have hb' := hs'.bound
  have h1 := hg.len
  have h2 := hg'.len
  refine acall2 fun_laws_eqMoveSS rfl tmps_laws_eqMoveSS rfl fun N B w₀ ρ₀ => ?_
  repeat' (first
    | refine wl_pop rfl (pc_lenRow rfl inferInstance inferInstance) ?_
    | refine wp_seqA ?_
    | refine wp_region_seq ?_
    | refine thru_seq_next ?_
    | refine thru_seq_ret ?_
    | refine wp_skipA ?_
    | refine wp_retA ?_
    | refine wp_blockA ?_
    | refine wl_nil ?_
    | refine wl_pop rfl (po_move rfl) ?_
    | refine wl_pop rfl (po_assign rfl) ?_
    | refine wl_pop rfl (po_binOp rfl rfl rfl) ?_
    | refine wp_condNP rfl (fun _ => ?_) (fun _ => ?_)
    | refine at_ret (res1 rfl rfl) ?_
    | fail)
  · refine ret_ inferInstance (congrArg Bo (eqB_ne ?_).symm)
    rintro rfl; simp_all
  rename_i hl
  have hl' : g.length = g'.length := by omega
  refine wc_loop [(0, _), (1, _)] (fun k : Nat => [(5, I k)]) (fun k σ' => k ≤ g.length ∧ g.take k = g'.take k ∧ LeS σ σ') (fun k => g.length - k) 0 ⟨Nat.zero_le _, rfl, inferInstance⟩ (by repeat' (first | exact sub_nil | refine sub_cons rfl ?_ | refine sub_int rfl (by first | rfl | omega | (push_cast; omega) | simp) ?_ | refine sub_eq rfl (by assumption) ?_)) ?_
  rintro k σ' ⟨hk, htk, hgr⟩
  have := hgr.grow
  repeat' (first
    | refine wl_pop rfl (pc_lenRow rfl inferInstance inferInstance) ?_
    | refine wp_seqA ?_
    | refine wp_region_seq ?_
    | refine thru_seq_next ?_
    | refine thru_seq ?_
    | refine exit_here ?_
    | refine wp_skipA ?_
    | refine wp_retA ?_
    | refine wp_exitA ?_
    | refine wp_blockA ?_
    | refine wl_nil ?_
    | refine wl_pop rfl (po_move rfl) ?_
    | refine wl_pop rfl (po_assign rfl) ?_
    | refine wl_pop rfl (po_binOp rfl rfl rfl) ?_
    | refine wp_condP rfl (fun _ => ?_) (fun _ => ?_)
    | refine at_ret (res1 rfl rfl) ?_
    | fail)
  rotate_left
  · refine ret_ inferInstance (congrArg Bo ?_)
    have : k = g.length := by omega
    subst this
    rw [List.take_length, List.take_of_length_le (by omega)] at htk
    rw [htk, eqB_self]
  have hk' : k < g.length := by omega
  have hk2 : k < g'.length := by omega
  refine wc_drawn [] mixed_ rfl ?_
  all_goals refine da_takeC 0 rfl rfl (by kernel_rfl) (by first | exact po_move rfl | fail) ?_
  all_goals refine da_takeC 1 rfl rfl (by kernel_rfl) (by first | exact po_move rfl | fail) ?_
  all_goals refine da_takeC 2 rfl rfl (by kernel_rfl) (by first | exact pc_indexRow rfl rfl inferInstance inferInstance inferInstance (by omega) | fail) ?_
  all_goals refine da_takeC 3 rfl rfl (by kernel_rfl) (by first | exact pc_ldAV rfl inferInstance inferInstance (by omega) inferInstance | fail) ?_
  all_goals refine da_takeC 4 rfl rfl (by kernel_rfl) (by first | exact po_move rfl | fail) ?_
  all_goals refine da_takeC 5 rfl rfl (by kernel_rfl) (by first | exact po_move rfl | fail) ?_
  all_goals refine da_takeC 6 rfl rfl (by kernel_rfl) (by first | exact pc_indexRow rfl rfl inferInstance inferInstance inferInstance (by omega) | fail) ?_
  all_goals refine da_takeC 7 rfl rfl (by kernel_rfl) (by first | exact pc_ldAV rfl inferInstance inferInstance (by omega) inferInstance | fail) ?_
  all_goals (first | (refine da_one 8 rfl (by kernel_rfl) (fun _ _ _ _ => ?_); (repeat' (first | (refine wc_callR rfl inferInstance rfl (c_eqMoveS _ _ _) rfl ?_; intro _ _) | fail)); all_goals (first | refine wl_nil ⟨rfl, (by first | exact LeS.len inferInstance | exact App.len (by assumption)), ?_⟩ | trace_state)))
  all_goals refine da_takeC 9 rfl rfl (by kernel_rfl) (by first | exact po_not rfl | fail) ?_
  all_goals refine da_done (by kernel_rfl) ?_
  repeat' (first
    | refine wp_condNPr rfl (fun _ => ?_) (fun _ => ?_)
    | refine wp_seqA ?_
    | refine wp_region_seq ?_
    | refine thru_seq_next ?_
    | refine thru_seq_ret ?_
    | refine thru_block_ret ?_
    | refine thru_block_next ?_
    | refine wp_skipA ?_
    | refine wp_retA ?_
    | refine wl_nil ?_
    | refine wl_pop rfl (po_move rfl) ?_
    | refine wl_pop rfl (po_assign rfl) ?_
    | refine wl_pop rfl (pc_add rfl rfl (by omega) (by omega)) ?_
    | refine at_ret (res1 rfl rfl) ?_
    | fail)
  · rename_i he
    refine ret_ inferInstance (congrArg Bo (eqB_ne ?_).symm)
    rintro rfl
    simp_all [eqB]
  · rename_i he
    have he' : g.getD k [] = g'.getD k [] := by simpa [eqB] using he
    exact ⟨k + 1, by omega, ⟨hk', take_eq_succ htk hk' hk2 he', inferInstance⟩, (by repeat' (first | exact sub_nil | refine sub_cons rfl ?_ | refine sub_int rfl (by first | rfl | omega | (push_cast; omega) | simp) ?_ | refine sub_eq rfl (by assumption) ?_))⟩
theorem c_eqGraph (σ : Store) (s s' : AV) {ss ss' : List AV} {g g' : Gr} [hs : RW σ s ss] [hs' : RW σ s' ss'] [hg : RRs σ ss g] [hg' : RRs σ ss' g'] : ACall Try.prog base F_laws_eqGraph [.agg [s], .agg [s']] σ (fun _ => False) (Ret σ (Bo (eqB g g'))) := by
  have := hs.one
  have := hs'.one
  refine acall2 fun_laws_eqGraph rfl tmps_laws_eqGraph rfl fun N B w₀ ρ₀ => ?_
  repeat' (first
    | (refine wc_callR rfl inferInstance rfl (c_eqMoveSS _ _ _) rfl ?_; intro _ _)
    | refine wp_condNPr rfl (fun _ => ?_) (fun _ => ?_)
    | refine wp_seqA ?_
    | refine wp_region_seq ?_
    | refine thru_seq_next ?_
    | refine thru_seq_ret ?_
    | refine wp_skipA ?_
    | refine wp_retA ?_
    | refine wl_nil ?_
    | refine wl_pop rfl (po_assign rfl) ?_
    | refine wl_pop rfl (po_fieldAddr rfl inferInstance) ?_
    | refine wc_load1 rfl inferInstance (at_has (.inl rfl) rfl rfl) rfl ?_
    | refine wl_pop rfl (po_not rfl) ?_
    | (refine wc_boxA rfl inferInstance rfl ?_; intro _ _ _ _ _)
    | refine at_ret (res1 rfl rfl) ?_
    | fail)
  all_goals refine ret_ inferInstance (congrArg Bo ?_)
  all_goals first | exact (eqB_ne (by assumption)).symm | (subst_vars; exact (eqB_self _).symm) | simp_all [eqB_self] | simp_all [eqB]
end
end Go.Proofs.Ytemhpkfijoodkaa.Asl
