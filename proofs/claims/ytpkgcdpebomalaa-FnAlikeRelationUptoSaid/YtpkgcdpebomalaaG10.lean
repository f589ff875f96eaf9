/- Does a row hold a move of a kind? -/
import Derived.Test.YtpkgcdpebomalaaG4
import Derived.Test.YtpkgcdpebomalaaGG
namespace Go.Proofs.Ytpkgcdpebomalaa.Asl
open Go.RowKit Go.Proofs.YtpkgcdpebomalaaW.PrintLast
set_option linter.unusedVariables false
set_option linter.unusedSimpArgs false
attribute [local irreducible] WP WL andThen inBlock noGoto atEnd ACall DA DL PO Hold
set_option maxHeartbeats 4000000
section
variable {base : Nat}
theorem c_IndexFuncG {ps : List Mv} {f : FuncId} {caps : List AV} (J : Store → Prop) (hJ : ∀ σ σ', Grow σ σ' → J σ → J σ') (p : Mv → Bool) [Callable Try.prog f]
    (h : ∀ m ∈ ps, ∀ (σ : Store), J σ → ACall Try.prog base f ([.agg [I m.1, I m.2]] ++ caps) σ (fun _ => False) (Ret σ (Bo (p m))))
    (σ : Store) (s : AV) [hs : RW σ s ps] (j0 : J σ) : ACall Try.prog base F_slices_IndexFunc_impl_Move_impl_Move [s, .fn f caps] σ (fun _ => False) (fun r σ' => (∃ z, r = I z ∧ decide (z ≥ 0) = ps.any p) ∧ Grow σ σ') := by
  have hb := hs.bound
  refine acall2 fun_slices_IndexFunc_impl_Move_impl_Move rfl tmps_slices_IndexFunc_impl_Move_impl_Move rfl fun N B w₀ ρ₀ => ?_
  repeat' (first
    | refine wl_pop rfl (pc_lenRow rfl inferInstance inferInstance) ?_
    | refine wp_seqA ?_
    | refine wp_region_seq ?_
    | refine thru_seq_next ?_
    | refine wp_blockA ?_
    | refine wl_nil ?_
    | refine wl_pop rfl (po_move rfl) ?_
    | refine wl_pop rfl (po_assign rfl) ?_
    | fail)
  refine wc_loop [(0, _), (1, _), (7, _)] (fun k : Nat => [(8, I k)]) (fun k σ' => k ≤ ps.length ∧ (ps.take k).any p = false ∧ Grow σ σ') (fun k => ps.length - k) 0 ⟨Nat.zero_le _, rfl, LeS.grow inferInstance⟩ (by repeat' (first | exact sub_nil | refine sub_cons rfl ?_ | refine sub_int rfl (by first | rfl | omega | (push_cast; omega) | simp) ?_ | refine sub_eq rfl (by assumption) ?_)) ?_
  rintro k σ' ⟨hk, hf, hg⟩
  repeat' (first
    | refine wl_pop rfl (pc_ldMv rfl inferInstance inferInstance (by omega) inferInstance) ?_
    | refine wl_pop rfl (pc_indexRow rfl rfl inferInstance inferInstance inferInstance (by omega)) ?_
    | refine wp_seqA ?_
    | refine wp_region_seq ?_
    | refine thru_seq_next ?_
    | refine thru_seq ?_
    | refine exit_here ?_
    | refine wp_skipA ?_
    | refine wp_retA ?_
    | refine wp_exitA ?_
    | refine wp_blockA ?_
    | refine wl_nil ?_
    | refine wl_pop rfl (po_move rfl) ?_
    | refine wl_pop rfl (po_assign rfl) ?_
    | refine wl_pop rfl (po_binOp rfl rfl rfl) ?_
    | refine wp_condP rfl (fun _ => ?_) (fun _ => ?_)
    | refine at_ret (res1 rfl rfl) ?_
    | fail)
  rotate_left
  · obtain rfl : k = ps.length := by omega
    rw [List.take_length] at hf
    exact ⟨⟨_, rfl, by rw [hf]; rfl⟩, hg⟩
  have hk' : k < ps.length := by omega
  have hmem : ps.getD k (0, 0) ∈ ps := by rw [getD_lt hk']; exact List.getElem_mem _
  repeat' (first
    | (refine wc_callR rfl inferInstance rfl (h _ hmem _ (hJ _ _ inferInstance j0)) rfl ?_; intro _ _)
    | refine wp_seqA ?_
    | refine wp_region_seq ?_
    | refine thru_seq_next ?_
    | refine thru_seq_ret ?_
    | refine thru_block_ret ?_
    | refine thru_block_next ?_
    | refine wp_skipA ?_
    | refine wp_retA ?_
    | refine wl_nil ?_
    | refine wl_pop rfl (po_move rfl) ?_
    | refine wl_pop rfl (po_assign rfl) ?_
    | refine wl_pop rfl (pc_add rfl rfl (by omega) (by omega)) ?_
    | refine wp_condA rfl (fun _ => ?_) (fun _ => ?_)
    | refine at_ret (res1 rfl rfl) ?_
    | fail)
  · rename_i h1
    refine ⟨⟨_, rfl, ?_⟩, LeS.grow inferInstance⟩
    rw [List.any_eq_true.mpr ⟨_, hmem, h1⟩]; simp
  · rename_i h1
    refine ⟨k + 1, by omega, ⟨hk', ?_, LeS.grow inferInstance⟩, (by repeat' (first | exact sub_nil | refine sub_cons rfl ?_ | refine sub_int rfl (by first | rfl | omega | (push_cast; omega) | simp) ?_ | refine sub_eq rfl (by assumption) ?_))⟩
    rw [take_succ_getD hk' (d := (0, 0)), List.any_append, hf]; simp only [List.any_cons, List.any_nil, h1, Bool.or_self]
theorem c_ContainsFuncG {ps : List Mv} {f : FuncId} {caps : List AV} (J : Store → Prop) (hJ : ∀ σ σ', Grow σ σ' → J σ → J σ') (p : Mv → Bool) [Callable Try.prog f]
    (h : ∀ m ∈ ps, ∀ (σ : Store), J σ → ACall Try.prog base f ([.agg [I m.1, I m.2]] ++ caps) σ (fun _ => False) (Ret σ (Bo (p m))))
    (σ : Store) (s : AV) [hs : RW σ s ps] (j0 : J σ) : ACall Try.prog base F_slices_ContainsFunc_impl_Move_impl_Move [s, .fn f caps] σ (fun _ => False) (Ret σ (Bo (ps.any p))) := by
  refine acall2 fun_slices_ContainsFunc_impl_Move_impl_Move rfl tmps_slices_ContainsFunc_impl_Move_impl_Move rfl fun N B w₀ ρ₀ => ?_
  repeat' (first
    | (refine wc_call rfl inferInstance rfl (c_IndexFuncG J hJ p h _ _ j0) rfl ?_; rintro _ σ' ⟨⟨z, rfl, hz⟩, hg⟩)
    | refine wp_seqA ?_
    | refine wp_region_seq ?_
    | refine thru_seq_next ?_
    | refine wp_retA ?_
    | refine wl_nil ?_
    | refine wl_pop rfl (po_move rfl) ?_
    | refine wl_pop rfl (po_assign rfl) ?_
    | refine wl_pop rfl (po_binOp rfl rfl rfl) ?_
    | refine at_ret (res1 rfl rfl) ?_
    | fail)
  exact ret_ inferInstance (congrArg Bo hz)
end
end Go.Proofs.Ytpkgcdpebomalaa.Asl
