/- Counting terms. -/
import Derived.Test.YtcmkkmlgdkhmiaaF
import Derived.Test.YtcmkkmlgdkhmiaaT0
namespace Go.Proofs.Ytcmkkmlgdkhmiaa.Asl
open Go.RowKit
set_option linter.unusedVariables false
attribute [local irreducible] WP WL andThen inBlock noGoto atEnd ACall DA PO
set_option maxHeartbeats 4000000

theorem c_szTerm_of {base : Nat} {op n : Int} {ps : List Tm} (h : ∀ (σ : Store) (s : AV) (left : Int) [RTs σ s ps], ACall Try.prog base F_laws_szTermS [s, I left] σ (fun _ => False) (RetInt σ))
    (σ : Store) (s : AV) (left : Int) [hs : RTs σ s ps] : ACall Try.prog base F_laws_szTerm [.agg [I op, I n, s], I left] σ (fun _ => False) (RetInt σ) := by
  have := hs.one
  refine acall2 fun_laws_szTerm rfl tmps_laws_szTerm rfl fun N B w₀ ρ₀ => ?_
  repeat' (first
    | (refine wc_callI rfl inferInstance rfl (h _ _ _) rfl ?_; intro _ _ _)
    | refine wp_seqA ?_
    | refine wp_region_seq ?_
    | refine thru_seq_next ?_
    | refine thru_seq_ret ?_
    | refine wp_skipA ?_
    | refine wp_retA ?_
    | refine wl_nil ?_
    | refine wl_pop rfl (po_move rfl) ?_
    | refine wl_pop rfl (po_assign rfl) ?_
    | refine wl_pop rfl (po_binOp rfl rfl rfl) ?_
    | refine wl_pop rfl (po_fieldAddr rfl inferInstance) ?_
    | refine wc_load1 rfl inferInstance (at_has (.inl rfl) rfl rfl) rfl ?_
    | (refine wc_boxA rfl inferInstance rfl ?_; intro _ _ _ _ _)
    | refine wp_condP rfl (fun _ => ?_) (fun _ => ?_)
    | refine at_ret (res1 rfl rfl) ?_
    | exact ret_int inferInstance
    | fail)

theorem c_szTermS_of {base : Nat} {ps : List Tm} (h : ∀ p ∈ ps, ∀ (σ : Store) (s : AV) (left : Int) [RTs σ s p.ps], ACall Try.prog base F_laws_szTerm [.agg [I p.op, I p.n, s], I left] σ (fun _ => False) (RetInt σ))
    (σ : Store) (s : AV) (left : Int) [hs : RTs σ s ps] : ACall Try.prog base F_laws_szTermS [s, I left] σ (fun _ => False) (RetInt σ) := by
  refine acall2 fun_laws_szTermS rfl tmps_laws_szTermS rfl fun N B w₀ ρ₀ => ?_
  have hb := hs.bound
  repeat' (first
    | refine wp_seqA ?_
    | refine wp_region_seq ?_
    | refine thru_seq_next ?_
    | refine thru_seq_ret ?_
    | refine wp_skipA ?_
    | refine wp_retA ?_
    | refine wp_blockA ?_
    | refine wl_nil ?_
    | refine wl_pop rfl (po_move rfl) ?_
    | refine wl_pop rfl (po_assign rfl) ?_
    | refine wl_pop rfl (po_binOp rfl rfl rfl) ?_
    | refine wp_condP rfl (fun _ => ?_) (fun _ => ?_)
    | refine wl_pop rfl (pc_lenT rfl inferInstance inferInstance) ?_
    | refine at_ret (res1 rfl rfl) ?_
    | exact ret_int inferInstance
    | fail)
  refine wc_loop [(0, s)] (fun x : Nat × Int => [(1, I x.2), (5, I x.1)]) (fun x σ' => x.1 ≤ ps.length ∧ Grow σ σ') (fun x => ps.length - x.1) (0, _) ⟨Nat.zero_le _, LeS.grow inferInstance⟩ (sub_cons rfl (sub_int rfl (by simp) (sub_cons rfl sub_nil))) ?_
  rintro ⟨k, left⟩ σ' ⟨hk, hg⟩
  simp only at hk
  repeat' (first
    | refine wp_seqA ?_
    | refine wp_region_seq ?_
    | refine thru_seq_next ?_
    | refine thru_seq ?_
    | refine exit_here ?_
    | refine wp_skipA ?_
    | refine wp_retA ?_
    | refine wp_exitA ?_
    | refine wp_blockA ?_
    | refine wl_nil ?_
    | refine wl_pop rfl (po_move rfl) ?_
    | refine wl_pop rfl (po_assign rfl) ?_
    | refine wl_pop rfl (po_binOp rfl rfl rfl) ?_
    | refine wp_condP rfl (fun _ => ?_) (fun _ => ?_)
    | refine wl_pop rfl (pc_lenT rfl inferInstance inferInstance) ?_
    | refine at_ret (res1 rfl rfl) ?_
    | exact ret_int inferInstance
    | fail)
  have hk' : k < ps.length := by omega
  obtain ⟨id, off, s', rfl, hat, hrs⟩ := (inferInstance : RTs σ' s ps).part hk'
  repeat' (first
    | (refine wc_callI rfl inferInstance rfl (h _ (List.getElem_mem hk') _ _ _) rfl ?_; intro _ _ _)
    | refine wp_seqA ?_
    | refine wp_region_seq ?_
    | refine thru_seq_next ?_
    | refine thru_seq_ret ?_
    | refine thru_block_ret ?_
    | refine thru_block_next ?_
    | refine wp_skipA ?_
    | refine wp_retA ?_
    | refine wl_nil ?_
    | refine wl_pop rfl (po_move rfl) ?_
    | refine wl_pop rfl (po_assign rfl) ?_
    | refine wl_pop rfl (pc_add rfl rfl (by omega) (by omega)) ?_
    | refine wl_pop rfl (po_binOp rfl rfl rfl) ?_
    | refine wl_pop rfl (pc_indexAddr rfl rfl inferInstance inferInstance (by omega)) ?_
    | refine wc_loadn rfl inferInstance inferInstance rfl ?_
    | refine wp_condP rfl (fun _ => ?_) (fun _ => ?_)
    | refine at_ret (res1 rfl rfl) ?_
    | exact ret_int inferInstance
    | fail)
  exact ⟨(k + 1, _), by simp only; omega, ⟨hk', LeS.grow inferInstance⟩, sub_cons rfl (sub_int rfl (by simp) (sub_cons rfl sub_nil))⟩
theorem c_szTerm {base : Nat} (t : Tm) : ∀ (σ : Store) (s : AV) (left : Int) [RTs σ s t.ps], ACall Try.prog base F_laws_szTerm [.agg [I t.op, I t.n, s], I left] σ (fun _ => False) (RetInt σ) :=
  Tm.ind (P := fun t => ∀ (σ : Store) (s : AV) (left : Int) [RTs σ s t.ps], ACall Try.prog base F_laws_szTerm [.agg [I t.op, I t.n, s], I left] σ (fun _ => False) (RetInt σ))
    (fun op n ps ih => c_szTerm_of (c_szTermS_of ih)) t
end Go.Proofs.Ytcmkkmlgdkhmiaa.Asl
