/- Names exchanged: numbers. -/
import Derived.Test.YtkgmdicbfpkihaaT15
namespace Go.Proofs.Ytkgmdicbfpkihaa.Asl
open Go.RowKit
set_option linter.unusedVariables false
attribute [local irreducible] WP WL andThen inBlock noGoto atEnd ACall DA DL PO Hold actB inB nodeOk
set_option maxHeartbeats 4000000

def swN (k a b : Int) : Int := if k = a then b else if k = b then a else k
def swA (x a b : Int) : Int := if 0 < x then swN (x - 1) a b + 1 else if x < 0 then -(swN (-x - 1) a b) - 1 else x
section
variable {base : Nat}
theorem c_swapName (k a b : Int) (σ : Store) : ACall Try.prog base F_impl_swapName [I k, I a, I b] σ (fun _ => False) (Ret σ (I (swN k a b))) := by
  refine acall3 fun_impl_swapName rfl tmps_impl_swapName rfl fun N B w₀ ρ₀ => ?_
  repeat' (first
    | refine wp_seqA ?_
    | refine wp_region_seq ?_
    | refine thru_seq_next ?_
    | refine thru_seq_ret ?_
    | refine thru_block_ret ?_
    | refine thru_block_next ?_
    | refine wp_skipA ?_
    | refine wp_retA ?_
    | refine wp_blockA ?_
    | refine wl_nil ?_
    | refine wl_pop rfl (po_move rfl) ?_
    | refine wl_pop rfl (po_assign rfl) ?_
    | refine wl_pop rfl (po_binOp rfl rfl rfl) ?_
    | refine wp_condP rfl (fun _ => ?_) (fun _ => ?_)
    | refine at_ret (res1 rfl rfl) ?_
    | fail)
  all_goals (refine ret_ inferInstance (congrArg I ?_); unfold swN; split <;> (try split) <;> omega)
theorem c_swapAct (x a b : Int) (hx : -4 ≤ x ∧ x ≤ 4) (ha : 0 ≤ a ∧ a ≤ 3) (hb : 0 ≤ b ∧ b ≤ 3) (σ : Store) : ACall Try.prog base F_impl_swapAct [I x, I a, I b] σ (fun _ => False) (Ret σ (I (swA x a b))) := by
  have hr : ∀ k : Int, 0 ≤ k → k ≤ 3 → 0 ≤ swN k a b ∧ swN k a b ≤ 3 := by
    intro k h0 h1
    unfold swN
    split
    · omega
    · split <;> omega
  have h1 : 0 < x → 0 ≤ swN (x - 1) a b ∧ swN (x - 1) a b ≤ 3 := fun h => hr _ (by omega) (by omega)
  have h2 : x < 0 → 0 ≤ swN (-x - 1) a b ∧ swN (-x - 1) a b ≤ 3 := fun h => hr _ (by omega) (by omega)
  refine acall3 fun_impl_swapAct rfl tmps_impl_swapAct rfl fun N B w₀ ρ₀ => ?_
  repeat' (first
    | (refine wc_callR rfl inferInstance rfl (c_swapName _ _ _ _) rfl ?_; intro _ _)
    | refine wl_pop rfl (pc_neg rfl (by omega) (by omega)) ?_
    | refine wp_seqA ?_
    | refine wp_region_seq ?_
    | refine thru_seq_next ?_
    | refine thru_seq_ret ?_
    | refine thru_block_ret ?_
    | refine thru_block_next ?_
    | refine wp_skipA ?_
    | refine wp_retA ?_
    | refine wp_blockA ?_
    | refine wl_nil ?_
    | refine wl_pop rfl (po_move rfl) ?_
    | refine wl_pop rfl (po_assign rfl) ?_
    | refine wl_pop rfl (pc_add rfl rfl (by omega) (by omega)) ?_
    | refine wl_pop rfl (pc_sub rfl rfl (by omega) (by omega)) ?_
    | refine wl_pop rfl (po_binOp rfl rfl rfl) ?_
    | refine wp_condP rfl (fun _ => ?_) (fun _ => ?_)
    | refine at_ret (res1 rfl rfl) ?_
    | fail)
  all_goals (refine ret_ inferInstance (congrArg I ?_); unfold swA; split <;> (try split) <;> omega)
end
end Go.Proofs.Ytkgmdicbfpkihaa.Asl
